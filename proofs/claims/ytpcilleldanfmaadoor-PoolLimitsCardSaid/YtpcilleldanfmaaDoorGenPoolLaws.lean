/- The conditions for calls of functions of the program, in plain form: written by a program (vcgen) off the elaborated code; each is the reckoner's own, by the kernel. -/
import Derived.Test.YtpcilleldanfmaaDoorRows
import Derived.Test.YtpcilleldanfmaaDoorVc
set_option linter.unusedVariables false
set_option maxRecDepth 100000
namespace Go.Proofs.YtpcilleldanfmaaDoor
open Go.Vc
theorem vc_muezzinlaw14_first  (h0 : Heap) (Post : Value → Heap → Prop) (H :
Runs Tryd.prog 9 #[(.int .u32 (1 : Int)), (.int .i64 (5 : Int)), (.int .i64 (100 : Int)), (.int .i64 (2 : Int)), (.int .i64 (100 : Int))] h0 fun r1 h1 =>
∃ p1 : Option Addr,
∃ v1 : Value,
r1 = (.tuple #[(.pointer p1), v1]) ∧
∃ J1 : Bool → Heap → Prop, (
bcase (isNilAddr p1) (
J1 true h1) (
∃ t1 : Bool, ifeqH Tryd.prog h1 true (v1) (.nilIface) = some t1 ∧
J1 (!t1) h1)) ∧ ∀ _ : Env,
∀ (x1 : Bool) (h2 : Heap), J1 x1 h2 →
bcase x1 (
Post (.bool false) h2) (
Runs Tryd.prog 12 #[(.pointer p1), (.int .i64 (1 : Int)), (.int .i64 (0 : Int))] h2 fun r2 h3 =>
∃ t2 : Bool,
r2 = (.bool t2) ∧
bcase t2 (
Post (.bool false) h3) (
Runs Tryd.prog 10 #[(.pointer p1), (.int .i64 (1 : Int)), (.agg #[(.int .i64 (3 : Int)), (.int .u32 (0 : Int)), (.int .i64 (0 : Int)), (.int .i64 (0 : Int)), (.slice none 0 0)])] h3 fun r3 h4 =>
∃ (s1 : Option Addr) (s1l s1c : Nat),
∃ v2 : Value,
r3 = (.tuple #[(.slice s1 s1l s1c), v2]) ∧
∃ J2 : Bool → Heap → Prop, (
∃ t3 : Bool, ifeqH Tryd.prog h4 true (v2) (.nilIface) = some t3 ∧
bcase t3 (
J2 (decide (((s1l : Nat) : Int) = (0 : Int))) h4) (
J2 false h4)) ∧ ∀ _ : Env,
∀ (x2 : Bool) (h5 : Heap), J2 x2 h5 →
∃ J3 : Bool → Heap → Prop, (
bcase x2 (
Runs Tryd.prog 13 #[(.pointer p1)] h5 fun r4 h6 =>
∃ n1 : Int,
r4 = (.int .i64 n1) ∧
J3 (decide (n1 = (1 : Int))) h6) (
J3 false h5)) ∧ ∀ _ : Env,
∀ (x3 : Bool) (h7 : Heap), J3 x3 h7 →
bcase x3 (
Runs Tryd.prog 12 #[(.pointer p1), (.int .i64 (1 : Int)), (.int .i64 (0 : Int))] h7 fun r5 h8 =>
∃ t4 : Bool,
r5 = (.bool t4) ∧
Post (.bool t4) h8) (
Post (.bool false) h7)))) :
    Runs Tryd.prog 7 #[] h0 Post :=
  runs_of (args := []) (fun n => ⟨true, false⟩) (fun _ => []) (fun _ => none) (fun n => match n with | 2 => [(6, [(14, .bool)])] | 5 => [(7, [(31, .bool)]), (5, [(36, .bool)])] | _ => []) Tryd.func7 rfl (by rw [Tryd.ntmps7]; simp) (Eq.mp (by kernel_rfl) H)

theorem vc_muezzinlaw14_PoolFattest (n : Int) (aid : Int) (tid : Int) (h0 : Heap) (Post : Value → Heap → Prop) (H :
Runs Tryd.prog 7 #[] h0 fun r1 h1 =>
∃ t1 : Bool,
r1 = (.bool t1) ∧
bcase (!t1) (
Post (.bool false) h1) (
Runs Tryd.prog 8 #[(.int .i64 n), (.int .i64 (12 : Int))] h1 fun r2 h2 =>
∃ n1 : Int,
r2 = (.int .i64 n1) ∧
fits .i64 (n1 + (4 : Int)) ∧
Runs Tryd.prog 8 #[(.int .i64 aid), (.int .i64 (15 : Int))] h2 fun r3 h3 =>
∃ n2 : Int,
r3 = (.int .i64 n2) ∧
fits .i64 (n2 + (2 : Int)) ∧
Runs Tryd.prog 8 #[(.int .i64 tid), (.int .i64 (8 : Int))] h3 fun r4 h4 =>
∃ n3 : Int,
r4 = (.int .i64 n3) ∧
Runs Tryd.prog 9 #[(.int .u32 (3 : Int)), (.int .i64 (50 : Int)), (.int .i64 (1000 : Int)), (.int .i64 (n1 + (4 : Int))), (.int .i64 (1048576 : Int))] h4 fun r5 h5 =>
∃ p1 : Option Addr,
∃ v1 : Value,
r5 = (.tuple #[(.pointer p1), v1]) ∧
bcase (isNilAddr p1) (
Post (.bool false) h5) (
∃ t2 : Bool, ifeqH Tryd.prog h5 true (v1) (.nilIface) = some t2 ∧
bcase (!t2) (
Post (.bool false) h5) (
(0 ≤ (10 : Int) ∧ (10 : Int) ≤ (10 : Int) ∧ ((1 : Nat) : Int) * (10 : Int) ≤ 281474976710656 ∧ (10 : Int) ≤ 9223372036854775807) ∧ ∀ (b1 : Nat) (h6 : Heap), b1 = h5.size → h6 = h5.push (.cells (joinL (List.replicate 10 [(.int .u8 (0 : Int))])).toArray 5) →
Runs Tryd.prog 10 #[(.pointer p1), (.int .i64 (1 : Int)), (.agg #[(.int .i64 (1 : Int)), (.int .u32 (0 : Int)), (.int .i64 (0 : Int)), (.int .i64 (0 : Int)), (.slice (some ⟨b1, 0, none⟩) 10 10)])] h6 fun r6 h7 =>
∃ (s1 : Option Addr) (s1l s1c : Nat),
∃ v2 : Value,
r6 = (.tuple #[(.slice s1 s1l s1c), v2]) ∧
(0 ≤ (20 : Int) ∧ (20 : Int) ≤ (20 : Int) ∧ ((1 : Nat) : Int) * (20 : Int) ≤ 281474976710656 ∧ (20 : Int) ≤ 9223372036854775807) ∧ ∀ (b2 : Nat) (h8 : Heap), b2 = h7.size → h8 = h7.push (.cells (joinL (List.replicate 20 [(.int .u8 (0 : Int))])).toArray 5) →
Runs Tryd.prog 10 #[(.pointer p1), (.int .i64 (n2 + (2 : Int))), (.agg #[(.int .i64 (2 : Int)), (.int .u32 (8 : Int)), (.int .i64 n3), (.int .i64 (0 : Int)), (.slice (some ⟨b2, 0, none⟩) 20 20)])] h8 fun r7 h9 =>
∃ (s2 : Option Addr) (s2l s2c : Nat),
∃ v3 : Value,
r7 = (.tuple #[(.slice s2 s2l s2c), v3]) ∧
∃ (I1 : Int → Heap → Prop) (m1 : Int → Heap → Nat), I1 (3 : Int) h9 ∧ ∀ _ : Env,
∀ (i_1 : Int) (h10 : Heap), I1 i_1 h10 →
fits .i64 ((n1 + (4 : Int)) + (8 : Int)) ∧
bcase (decide (i_1 < ((n1 + (4 : Int)) + (8 : Int)))) (
(0 ≤ (400 : Int) ∧ (400 : Int) ≤ (400 : Int) ∧ ((1 : Nat) : Int) * (400 : Int) ≤ 281474976710656 ∧ (400 : Int) ≤ 9223372036854775807) ∧ ∀ (b3 : Nat) (h11 : Heap), b3 = h10.size → h11 = h10.push (.cells (joinL (List.replicate 400 [(.int .u8 (0 : Int))])).toArray 5) →
Runs Tryd.prog 10 #[(.pointer p1), (.int .i64 (n2 + (2 : Int))), (.agg #[(.int .i64 i_1), (.int .u32 (9 : Int)), (.int .i64 n3), (.int .i64 (0 : Int)), (.slice (some ⟨b3, 0, none⟩) 400 400)])] h11 fun r8 h12 =>
∃ (s3 : Option Addr) (s3l s3c : Nat),
∃ v4 : Value,
r8 = (.tuple #[(.slice s3 s3l s3c), v4]) ∧
∃ t3 : Bool, ifeqH Tryd.prog h12 true (v4) (.nilIface) = some t3 ∧
bcase (!t3) (
bcase t1 (
∃ t4 : Bool, ifeqH Tryd.prog h12 true (v4) (.nilIface) = some t4 ∧
Post (.bool t4) h12) (
Post (.bool false) h12)) (
Runs Tryd.prog 11 #[(.int .u32 (8 : Int)), (.int .u32 (3 : Int))] h12 fun r9 h13 =>
∃ n4 : Int,
r9 = (.int .i64 n4) ∧
Runs Tryd.prog 11 #[(.int .u32 (9 : Int)), (.int .u32 (3 : Int))] h13 fun r10 h14 =>
∃ n5 : Int,
r10 = (.int .i64 n5) ∧
bcase (decide (n4 = n5)) (
bcase t1 (
∃ t5 : Bool, ifeqH Tryd.prog h14 true (v4) (.nilIface) = some t5 ∧
Post (.bool t5) h14) (
Post (.bool false) h14)) (
∃ J1 : Bool → Heap → Prop, (
bcase (decide (i_1 ≤ (n1 + (4 : Int)))) (
J1 (!decide (((s3l : Nat) : Int) = (0 : Int))) h14) (
J1 false h14)) ∧ ∀ _ : Env,
∀ (x2 : Bool) (h15 : Heap), J1 x2 h15 →
bcase x2 (
Post (.bool false) h15) (
bcase (decide ((n1 + (4 : Int)) < i_1)) (
bcase (!decide (((s3l : Nat) : Int) = (1 : Int))) (
Post (.bool false) h15) (
(0 ≤ (0 : Int) ∧ (0 : Int) < ((s3l : Nat) : Int)) ∧
onAddr s3 fun b4 o1 =>
∃ n6 : Int, cell h15 b4 o1 = some (.int .i64 n6) ∧
fits .i64 (i_1 - (n1 + (4 : Int))) ∧
fits .i64 ((i_1 - (n1 + (4 : Int))) + (2 : Int)) ∧
bcase (!decide (n6 = ((i_1 - (n1 + (4 : Int))) + (2 : Int)))) (
Post (.bool false) h15) (
fits .i64 (i_1 + (1 : Int)) ∧
I1 (i_1 + (1 : Int)) h15 ∧ m1 (i_1 + (1 : Int)) h15 < m1 i_1 h10))) (
fits .i64 (i_1 + (1 : Int)) ∧
I1 (i_1 + (1 : Int)) h15 ∧ m1 (i_1 + (1 : Int)) h15 < m1 i_1 h10))))) (
∃ J2 : Bool → Heap → Prop, (
bcase t1 (
Runs Tryd.prog 12 #[(.pointer p1), (.int .i64 (1 : Int)), (.int .i64 (0 : Int))] h10 fun r11 h16 =>
∃ t6 : Bool,
r11 = (.bool t6) ∧
J2 t6 h16) (
J2 false h10)) ∧ ∀ _ : Env,
∀ (x3 : Bool) (h17 : Heap), J2 x3 h17 →
∃ J3 : Bool → Heap → Prop, (
bcase x3 (
Runs Tryd.prog 12 #[(.pointer p1), (.int .i64 (n2 + (2 : Int))), (.int .i64 n3)] h17 fun r12 h18 =>
∃ t7 : Bool,
r12 = (.bool t7) ∧
J3 t7 h18) (
J3 false h17)) ∧ ∀ _ : Env,
∀ (x4 : Bool) (h19 : Heap), J3 x4 h19 →
bcase x4 (
Runs Tryd.prog 13 #[(.pointer p1)] h19 fun r13 h20 =>
∃ n7 : Int,
r13 = (.int .i64 n7) ∧
Post (.bool (decide (n7 = (n1 + (4 : Int))))) h20) (
Post (.bool false) h19)))))) :
    Runs Tryd.prog 3 #[(.int .i64 n), (.int .i64 aid), (.int .i64 tid)] h0 Post :=
  runs_of (args := [(.int .i64 n), (.int .i64 aid), (.int .i64 tid)]) (fun n => ⟨true, false⟩) (fun n => match n with | 0 => [(10, .int .i64)] | _ => []) (fun _ => none) (fun n => match n with | 18 => [(8, [(80, .bool)])] | 20 => [(5, [(106, .bool)]), (6, [(112, .bool)])] | _ => []) Tryd.func3 rfl (by rw [Tryd.ntmps3]; simp) (Eq.mp (by kernel_rfl) H)

theorem vc_muezzinlaw14_PoolLimits (packets : Int) (bytes : Int) (l : Option Addr) (lL lC : Nat) (h0 : Heap) (Post : Value → Heap → Prop) (H :
Runs Tryd.prog 7 #[] h0 fun r1 h1 =>
∃ t1 : Bool,
r1 = (.bool t1) ∧
bcase (!t1) (
Post (.bool false) h1) (
Runs Tryd.prog 8 #[(.int .i64 packets), (.int .i64 (20 : Int))] h1 fun r2 h2 =>
∃ n1 : Int,
r2 = (.int .i64 n1) ∧
fits .i64 (n1 + (1 : Int)) ∧
Runs Tryd.prog 8 #[(.int .i64 bytes), (.int .i64 (2000 : Int))] h2 fun r3 h3 =>
∃ n2 : Int,
r3 = (.int .i64 n2) ∧
fits .i64 (n2 + (1 : Int)) ∧
bcase (decide ((60 : Int) < ((lL : Nat) : Int))) (
Post (.bool t1) h3) (
Runs Tryd.prog 9 #[(.int .u32 (7 : Int)), (.int .i64 (50 : Int)), (.int .i64 (1000 : Int)), (.int .i64 (n1 + (1 : Int))), (.int .i64 (n2 + (1 : Int)))] h3 fun r4 h4 =>
∃ p1 : Option Addr,
∃ v1 : Value,
r4 = (.tuple #[(.pointer p1), v1]) ∧
bcase (isNilAddr p1) (
Post (.bool false) h4) (
∃ t2 : Bool, ifeqH Tryd.prog h4 true (v1) (.nilIface) = some t2 ∧
bcase (!t2) (
Post (.bool false) h4) (
fits .i64 (((lL : Nat) : Int) + (1 : Int)) ∧
(0 ≤ (((lL : Nat) : Int) + (1 : Int)) ∧ (((lL : Nat) : Int) + (1 : Int)) ≤ (((lL : Nat) : Int) + (1 : Int)) ∧ ((1 : Nat) : Int) * (((lL : Nat) : Int) + (1 : Int)) ≤ 281474976710656 ∧ (((lL : Nat) : Int) + (1 : Int)) ≤ 9223372036854775807) ∧ ∀ (b1 : Nat) (h5 : Heap), b1 = h4.size → h5 = h4.push (.cells (joinL (List.replicate ((((lL : Nat) : Int) + (1 : Int))).toNat [(.bool false)])).toArray 4) →
∃ (I1 : Int → Int → Int → Heap → Prop) (m1 : Int → Int → Int → Heap → Nat), I1 (0 : Int) (0 : Int) (0 : Int) h5 ∧ ∀ _ : Env,
∀ (n_1 : Int) (out_1 : Int) (i_1 : Int) (h6 : Heap), I1 n_1 out_1 i_1 h6 →
bcase (decide (i_1 < ((lL : Nat) : Int))) (
(0 ≤ i_1 ∧ i_1 < ((lL : Nat) : Int)) ∧
onAddr l fun b2 o1 =>
∃ (s1 : Option Addr) (s1l s1c : Nat), cell h6 b2 (((o1 + ((i_1).toNat * 9)) + 4) + 4) = some (.slice s1 s1l s1c) ∧
bcase (decide ((300 : Int) < ((s1l : Nat) : Int))) (
Post (.bool t1) h6) (
∃ J1 : Option Addr → Heap → Prop, (
fits .i64 (i_1 + (1 : Int)) ∧
(0 ≤ i_1 ∧ i_1 < ((lL : Nat) : Int)) ∧
onAddr l fun b3 o2 =>
∃ n3 : Int, cell h6 b3 (((o2 + ((i_1).toNat * 9)) + 4) + 1) = some (.int .u32 n3) ∧
(0 ≤ i_1 ∧ i_1 < ((lL : Nat) : Int)) ∧
onAddr l fun b4 o3 =>
∃ n4 : Int, cell h6 b4 ((o3 + ((i_1).toNat * 9)) + 2) = some (.int .i64 n4) ∧
(0 ≤ i_1 ∧ i_1 < ((lL : Nat) : Int)) ∧
onAddr l fun b5 o4 =>
∃ (s2 : Option Addr) (s2l s2c : Nat), cell h6 b5 (((o4 + ((i_1).toNat * 9)) + 4) + 4) = some (.slice s2 s2l s2c) ∧
(
Runs Tryd.prog 8 #[(.int .i64 n4), (.int .i64 (8 : Int))] h6 fun r5 h7 =>
∃ n5 : Int,
r5 = (.int .i64 n5) ∧
cell h7 b5 (((o4 + ((i_1).toNat * 9)) + 4) + 4) = some (.slice s2 s2l s2c) ∧
cell h7 b3 (((o2 + ((i_1).toNat * 9)) + 4) + 1) = some (.int .u32 n3) ∧
∀ (b6 : Nat) (h8 : Heap), b6 = h7.size → h8 = h7.push (.cells ([(.int .i64 (0 : Int)), (.int .u32 (0 : Int)), (.int .i64 (0 : Int)), (.int .i64 (0 : Int)), (.slice none 0 0)] : List Value).toArray 35) →
((([(.int .i64 (i_1 + (1 : Int))), (.int .u32 n3), (.int .i64 n5), (.int .i64 (0 : Int)), (.slice s2 s2l s2c)] : List Value)).length = 5 ∧ wrs h8 b6 0 5 ∧ ∀ u ∈ (([(.int .i64 (i_1 + (1 : Int))), (.int .u32 n3), (.int .i64 n5), (.int .i64 (0 : Int)), (.slice s2 s2l s2c)] : List Value) : List Value), u.oneCell' = true) ∧ ∀ h9 : Heap, h9 = setr h8 b6 0 ([(.int .i64 (i_1 + (1 : Int))), (.int .u32 n3), (.int .i64 n5), (.int .i64 (0 : Int)), (.slice s2 s2l s2c)] : List Value) →
J1 (some ⟨b6, 0, none⟩) h9) ∧
(
∀ (b7 : Nat) (h10 : Heap), b7 = h6.size → h10 = h6.push (.cells ([(.int .i64 (0 : Int)), (.int .u32 (0 : Int)), (.int .i64 (0 : Int)), (.int .i64 (0 : Int)), (.slice none 0 0)] : List Value).toArray 35) →
Runs Tryd.prog 8 #[(.int .i64 n4), (.int .i64 (8 : Int))] h10 fun r6 h11 =>
∃ n6 : Int,
r6 = (.int .i64 n6) ∧
cell h11 b5 (((o4 + ((i_1).toNat * 9)) + 4) + 4) = some (.slice s2 s2l s2c) ∧
cell h11 b3 (((o2 + ((i_1).toNat * 9)) + 4) + 1) = some (.int .u32 n3) ∧
((([(.int .i64 (i_1 + (1 : Int))), (.int .u32 n3), (.int .i64 n6), (.int .i64 (0 : Int)), (.slice s2 s2l s2c)] : List Value)).length = 5 ∧ wrs h11 b7 0 5 ∧ ∀ u ∈ (([(.int .i64 (i_1 + (1 : Int))), (.int .u32 n3), (.int .i64 n6), (.int .i64 (0 : Int)), (.slice s2 s2l s2c)] : List Value) : List Value), u.oneCell' = true) ∧ ∀ h12 : Heap, h12 = setr h11 b7 0 ([(.int .i64 (i_1 + (1 : Int))), (.int .u32 n3), (.int .i64 n6), (.int .i64 (0 : Int)), (.slice s2 s2l s2c)] : List Value) →
J1 (some ⟨b7, 0, none⟩) h12)) ∧ ∀ _ : Env,
∀ (x_1 : Option Addr) (h13 : Heap), J1 x_1 h13 →
(0 ≤ i_1 ∧ i_1 < ((lL : Nat) : Int)) ∧
onAddr l fun b8 o5 =>
∃ n7 : Int, cell h13 b8 ((o5 + ((i_1).toNat * 9)) + 1) = some (.int .i64 n7) ∧
onAddr x_1 fun b9 o6 =>
∃ cs1 : List Value, row h13 b9 o6 5 = some cs1 ∧
Runs Tryd.prog 8 #[(.int .i64 n7), (.int .i64 (16 : Int))] h13 fun r7 h14 =>
∃ n8 : Int,
r7 = (.int .i64 n8) ∧
row h14 b9 o6 5 = some (cs1) ∧
fits .i64 (n8 + (1 : Int)) ∧
Runs Tryd.prog 10 #[(.pointer p1), (.int .i64 (n8 + (1 : Int))), (.agg (cs1).toArray)] h14 fun r8 h15 =>
∃ (s3 : Option Addr) (s3l s3c : Nat),
∃ v2 : Value,
r8 = (.tuple #[(.slice s3 s3l s3c), v2]) ∧
∃ t3 : Bool, ifeqH Tryd.prog h15 true (v2) (.nilIface) = some t3 ∧
bcase (!t3) (
Post (.bool false) h15) (
fits .i64 (n_1 + (1 : Int)) ∧
∃ (I2 : Int → Int → Heap → Prop) (m2 : Int → Int → Heap → Nat), I2 out_1 (0 : Int) h15 ∧ ∀ _ : Env,
∀ (out_2 : Int) (k_1 : Int) (h16 : Heap), I2 out_2 k_1 h16 →
bcase (decide (k_1 < ((s3l : Nat) : Int))) (
∃ J2 : Bool → Heap → Prop, (
(0 ≤ k_1 ∧ k_1 < ((s3l : Nat) : Int)) ∧
onAddr s3 fun b10 o7 =>
∃ n9 : Int, cell h16 b10 (o7 + ((k_1).toNat * 5)) = some (.int .i64 n9) ∧
bcase (decide (n9 < (1 : Int))) (
J2 true h16) (
(0 ≤ k_1 ∧ k_1 < ((s3l : Nat) : Int)) ∧
onAddr s3 fun b11 o8 =>
∃ n10 : Int, cell h16 b11 (o8 + ((k_1).toNat * 5)) = some (.int .i64 n10) ∧
fits .i64 (i_1 + (1 : Int)) ∧
J2 (decide ((i_1 + (1 : Int)) < n10)) h16)) ∧ ∀ _ : Env,
∀ (x7 : Bool) (h17 : Heap), J2 x7 h17 →
bcase x7 (
Post (.bool false) h17) (
(0 ≤ k_1 ∧ k_1 < ((s3l : Nat) : Int)) ∧
onAddr s3 fun b12 o9 =>
∃ n11 : Int, cell h17 b12 (o9 + ((k_1).toNat * 5)) = some (.int .i64 n11) ∧
(0 ≤ n11 ∧ n11 < ((((((lL : Nat) : Int) + (1 : Int))).toNat : Nat) : Int)) ∧
∃ t4 : Bool, cell h17 b1 (0 + (n11).toNat) = some (.bool t4) ∧
bcase t4 (
Post (.bool false) h17) (
(0 ≤ k_1 ∧ k_1 < ((s3l : Nat) : Int)) ∧
onAddr s3 fun b13 o10 =>
∃ n12 : Int, cell h17 b13 (o10 + ((k_1).toNat * 5)) = some (.int .i64 n12) ∧
(0 ≤ n12 ∧ n12 < ((((((lL : Nat) : Int) + (1 : Int))).toNat : Nat) : Int)) ∧
wr h17 b1 (0 + (n12).toNat) ∧ ∀ h18 : Heap, h18 = setc h17 b1 (0 + (n12).toNat) (.bool true) →
fits .i64 (out_2 + (1 : Int)) ∧
fits .i64 (k_1 + (1 : Int)) ∧
I2 (out_2 + (1 : Int)) (k_1 + (1 : Int)) h18 ∧ m2 (out_2 + (1 : Int)) (k_1 + (1 : Int)) h18 < m2 out_2 k_1 h16))) (
∃ J3 : Bool → Heap → Prop, (
Runs Tryd.prog 13 #[(.pointer p1)] h16 fun r9 h19 =>
∃ n13 : Int,
r9 = (.int .i64 n13) ∧
bcase (decide ((n1 + (1 : Int)) < n13)) (
J3 true h19) (
Runs Tryd.prog 14 #[(.pointer p1)] h19 fun r10 h20 =>
∃ n14 : Int,
r10 = (.int .i64 n14) ∧
J3 (decide ((n2 + (1 : Int)) < n14)) h20)) ∧ ∀ _ : Env,
∀ (x8 : Bool) (h21 : Heap), J3 x8 h21 →
bcase x8 (
Post (.bool false) h21) (
Runs Tryd.prog 13 #[(.pointer p1)] h21 fun r11 h22 =>
∃ n15 : Int,
r11 = (.int .i64 n15) ∧
fits .i64 ((n_1 + (1 : Int)) - out_2) ∧
bcase (!decide (n15 = ((n_1 + (1 : Int)) - out_2))) (
Post (.bool false) h22) (
fits .i64 (i_1 + (1 : Int)) ∧
I1 (n_1 + (1 : Int)) out_2 (i_1 + (1 : Int)) h22 ∧ m1 (n_1 + (1 : Int)) out_2 (i_1 + (1 : Int)) h22 < m1 n_1 out_1 i_1 h6)))))) (
∃ (I3 : Int → Int → Heap → Prop) (m3 : Int → Int → Heap → Nat), I3 out_1 (1 : Int) h6 ∧ ∀ _ : Env,
∀ (out_3 : Int) (a_1 : Int) (h23 : Heap), I3 out_3 a_1 h23 →
bcase (decide (a_1 ≤ (16 : Int))) (
Runs Tryd.prog 15 #[(.pointer p1), (.int .i64 a_1)] h23 fun r12 h24 =>
∃ (s4 : Option Addr) (s4l s4c : Nat),
r12 = (.slice s4 s4l s4c) ∧
∃ (I4 : Int → Int → Heap → Prop) (m4 : Int → Int → Heap → Nat), I4 out_3 (0 : Int) h24 ∧ ∀ _ : Env,
∀ (out_4 : Int) (k_2 : Int) (h25 : Heap), I4 out_4 k_2 h25 →
bcase (decide (k_2 < ((s4l : Nat) : Int))) (
∃ J4 : Bool → Heap → Prop, (
(0 ≤ k_2 ∧ k_2 < ((s4l : Nat) : Int)) ∧
onAddr s4 fun b14 o11 =>
∃ n16 : Int, cell h25 b14 (o11 + ((k_2).toNat * 5)) = some (.int .i64 n16) ∧
bcase (decide (n16 < (1 : Int))) (
J4 true h25) (
(0 ≤ k_2 ∧ k_2 < ((s4l : Nat) : Int)) ∧
onAddr s4 fun b15 o12 =>
∃ n17 : Int, cell h25 b15 (o12 + ((k_2).toNat * 5)) = some (.int .i64 n17) ∧
J4 (decide (((lL : Nat) : Int) < n17)) h25)) ∧ ∀ _ : Env,
∀ (x13 : Bool) (h26 : Heap), J4 x13 h26 →
bcase x13 (
Post (.bool false) h26) (
(0 ≤ k_2 ∧ k_2 < ((s4l : Nat) : Int)) ∧
onAddr s4 fun b16 o13 =>
∃ n18 : Int, cell h26 b16 (o13 + ((k_2).toNat * 5)) = some (.int .i64 n18) ∧
(0 ≤ n18 ∧ n18 < ((((((lL : Nat) : Int) + (1 : Int))).toNat : Nat) : Int)) ∧
∃ t5 : Bool, cell h26 b1 (0 + (n18).toNat) = some (.bool t5) ∧
bcase t5 (
Post (.bool false) h26) (
(0 ≤ k_2 ∧ k_2 < ((s4l : Nat) : Int)) ∧
onAddr s4 fun b17 o14 =>
∃ n19 : Int, cell h26 b17 (o14 + ((k_2).toNat * 5)) = some (.int .i64 n19) ∧
(0 ≤ n19 ∧ n19 < ((((((lL : Nat) : Int) + (1 : Int))).toNat : Nat) : Int)) ∧
wr h26 b1 (0 + (n19).toNat) ∧ ∀ h27 : Heap, h27 = setc h26 b1 (0 + (n19).toNat) (.bool true) →
fits .i64 (out_4 + (1 : Int)) ∧
fits .i64 (k_2 + (1 : Int)) ∧
I4 (out_4 + (1 : Int)) (k_2 + (1 : Int)) h27 ∧ m4 (out_4 + (1 : Int)) (k_2 + (1 : Int)) h27 < m4 out_4 k_2 h25))) (
fits .i64 (a_1 + (1 : Int)) ∧
I3 out_4 (a_1 + (1 : Int)) h25 ∧ m3 out_4 (a_1 + (1 : Int)) h25 < m3 out_3 a_1 h23)) (
∃ J5 : Bool → Heap → Prop, (
bcase t1 (
J5 (decide (out_3 = n_1)) h23) (
J5 false h23)) ∧ ∀ _ : Env,
∀ (x14 : Bool) (h28 : Heap), J5 x14 h28 →
∃ J6 : Bool → Heap → Prop, (
bcase x14 (
Runs Tryd.prog 13 #[(.pointer p1)] h28 fun r13 h29 =>
∃ n20 : Int,
r13 = (.int .i64 n20) ∧
J6 (decide (n20 = (0 : Int))) h29) (
J6 false h28)) ∧ ∀ _ : Env,
∀ (x15 : Bool) (h30 : Heap), J6 x15 h30 →
bcase x15 (
Runs Tryd.prog 14 #[(.pointer p1)] h30 fun r14 h31 =>
∃ n21 : Int,
r14 = (.int .i64 n21) ∧
Post (.bool (decide (n21 = (0 : Int)))) h31) (
Post (.bool false) h30)))))))) :
    Runs Tryd.prog 4 #[(.int .i64 packets), (.int .i64 bytes), (.slice l lL lC)] h0 Post :=
  runs_of (args := [(.int .i64 packets), (.int .i64 bytes), (.slice l lL lC)]) (fun n => ⟨true, false⟩) (fun n => match n with | 0 => [(10, .int .i64), (12, .int .i64), (13, .int .i64)] | 2 => [(12, .int .i64), (17, .int .i64)] | 4 => [(12, .int .i64), (18, .int .i64)] | 6 => [(12, .int .i64), (20, .int .i64)] | _ => []) (fun n => match n with | 20 => some [(14, .ptr)] | _ => none) (fun n => match n with | 27 => [(16, [(124, .bool)])] | 31 => [(10, [(153, .bool)])] | 40 => [(16, [(190, .bool)])] | 44 => [(6, [(215, .bool)]), (5, [(220, .bool)])] | _ => []) Tryd.func4 rfl (by rw [Tryd.ntmps4]; simp) (Eq.mp (by kernel_rfl) H)
end Go.Proofs.YtpcilleldanfmaaDoor
