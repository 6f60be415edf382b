/- The conditions for calls of functions of the program, in plain form: written by a program (vcgen) off the elaborated code; each is the reckoner's own, by the kernel. -/
import Derived.Test.YteojoiglffkbmaaRows
import Derived.Test.YteojoiglffkbmaaVc
set_option linter.unusedVariables false
set_option maxRecDepth 100000
namespace Go.Proofs.Yteojoiglffkbmaa
open Go.Vc
theorem vc_muezzinlaw13_first  (h0 : Heap) (Post : Value → Heap → Prop) (H :
Runs Try.prog 11 #[(.int .u32 (1 : Int)), (.int .i64 (5 : Int)), (.int .i64 (100 : Int))] h0 fun r1 h1 =>
∃ p1 : Option Addr,
r1 = (.pointer p1) ∧
bcase (isNilAddr p1) (
Post (.bool false) h1) (
Runs Try.prog 16 #[(.pointer p1), (.int .i64 (0 : Int))] h1 fun r2 h2 =>
∃ cs1 : List Value,
∃ (s1 : Option Addr) (s1l s1c : Nat),
∃ t1 : Bool,
r2 = (.tuple #[(.agg (cs1).toArray), (.slice s1 s1l s1c), (.bool t1)]) ∧
∀ (b1 : Nat) (h3 : Heap), b1 = h2.size → h3 = h2.push (.cells ([(.int .i64 (0 : Int)), (.int .u32 (0 : Int)), (.int .i64 (0 : Int)), (.int .i64 (0 : Int)), (.slice none 0 0)] : List Value).toArray 35) →
(((cs1)).length = 5 ∧ wrs h3 b1 0 5 ∧ ∀ u ∈ ((cs1) : List Value), u.oneCell' = true) ∧ ∀ h4 : Heap, h4 = setr h3 b1 0 (cs1) →
bcase (!t1) (
bcase (decide (((s1l : Nat) : Int) = (0 : Int))) (
Runs Try.prog 15 #[(.pointer p1), (.agg #[(.int .i64 (4 : Int)), (.int .u32 (0 : Int)), (.int .i64 (0 : Int)), (.int .i64 (0 : Int)), (.slice none 0 0)])] h4 fun r3 h5 =>
∃ n1 : Int,
r3 = (.int .i64 n1) ∧
Runs Try.prog 12 #[(.int .u32 (0 : Int)), (.int .u32 (1 : Int))] h5 fun r4 h6 =>
∃ n2 : Int,
r4 = (.int .i64 n2) ∧
bcase (decide (n1 = n2)) (
Runs Try.prog 19 #[(.pointer p1)] h6 fun r5 h7 =>
∃ n3 : Int,
r5 = (.int .i64 n3) ∧
Post (.bool (decide (n3 = (1 : Int)))) h7) (
Post (.bool false) h6)) (
Post (.bool false) h4)) (
Post (.bool false) h4))) :
    Runs Try.prog 9 #[] h0 Post :=
  runs_of (args := []) (fun n => ⟨true, false⟩) (fun _ => []) (fun _ => none) (fun _ => []) Try.func9 rfl (by rw [Try.ntmps9]; simp) (Eq.mp (by kernel_rfl) H)

theorem vc_muezzinlaw13_FqFresh (n : Int) (takes : Int) (h0 : Heap) (Post : Value → Heap → Prop) (H :
Runs Try.prog 9 #[] h0 fun r1 h1 =>
∃ t1 : Bool,
r1 = (.bool t1) ∧
bcase (!t1) (
Post (.bool false) h1) (
Runs Try.prog 10 #[(.int .i64 n), (.int .i64 (30 : Int))] h1 fun r2 h2 =>
∃ n1 : Int,
r2 = (.int .i64 n1) ∧
fits .i64 (n1 + (4 : Int)) ∧
Runs Try.prog 10 #[(.int .i64 takes), (.int .i64 (n1 + (4 : Int)))] h2 fun r3 h3 =>
∃ n2 : Int,
r3 = (.int .i64 n2) ∧
Runs Try.prog 11 #[(.int .u32 (0 : Int)), (.int .i64 (1073741824 : Int)), (.int .i64 (1073741824 : Int))] h3 fun r4 h4 =>
∃ p1 : Option Addr,
r4 = (.pointer p1) ∧
bcase (isNilAddr p1) (
Post (.bool false) h4) (
∃ J1 : Int → Heap → Prop, (
∃ (I1 : Int → Int → Heap → Prop) (m1 : Int → Int → Heap → Nat), I1 (0 : Int) (1 : Int) h4 ∧ ∀ _ : Env,
∀ (thin_1 : Int) (f_1 : Int) (h5 : Heap), I1 thin_1 f_1 h5 →
bcase (decide (f_1 < (100 : Int))) (
bcase (decide (thin_1 = (0 : Int))) (
Runs Try.prog 12 #[(.int .u32 f_1), (.int .u32 (0 : Int))] h5 fun r5 h6 =>
∃ n3 : Int,
r5 = (.int .i64 n3) ∧
Runs Try.prog 12 #[(.int .u32 (0 : Int)), (.int .u32 (0 : Int))] h6 fun r6 h7 =>
∃ n4 : Int,
r6 = (.int .i64 n4) ∧
bcase (!decide (n3 = n4)) (
fits .u32 (f_1 + (1 : Int)) ∧
I1 f_1 (f_1 + (1 : Int)) h7 ∧ m1 f_1 (f_1 + (1 : Int)) h7 < m1 thin_1 f_1 h5) (
fits .u32 (f_1 + (1 : Int)) ∧
I1 thin_1 (f_1 + (1 : Int)) h7 ∧ m1 thin_1 (f_1 + (1 : Int)) h7 < m1 thin_1 f_1 h5)) (
J1 thin_1 h5)) (
J1 thin_1 h5)) ∧ ∀ _ : Env,
∀ (thin_2 : Int) (h8 : Heap), J1 thin_2 h8 →
∃ (I2 : Int → Heap → Prop) (m2 : Int → Heap → Nat), I2 (0 : Int) h8 ∧ ∀ _ : Env,
∀ (i_1 : Int) (h9 : Heap), I2 i_1 h9 →
bcase (decide (i_1 < (n1 + (4 : Int)))) (
fits .i64 (i_1 + (1 : Int)) ∧
(0 ≤ (700 : Int) ∧ (700 : Int) ≤ (700 : Int) ∧ ((1 : Nat) : Int) * (700 : Int) ≤ 281474976710656 ∧ (700 : Int) ≤ 9223372036854775807) ∧ ∀ (b1 : Nat) (h10 : Heap), b1 = h9.size → h10 = h9.push (.cells (joinL (List.replicate 700 [(.int .u8 (0 : Int))])).toArray 5) →
Runs Try.prog 15 #[(.pointer p1), (.agg #[(.int .i64 (i_1 + (1 : Int))), (.int .u32 (0 : Int)), (.int .i64 (0 : Int)), (.int .i64 (0 : Int)), (.slice (some ⟨b1, 0, none⟩) 700 700)])] h10 fun r7 h11 =>
∃ n5 : Int,
r7 = (.int .i64 n5) ∧
fits .i64 (i_1 + (1 : Int)) ∧
I2 (i_1 + (1 : Int)) h11 ∧ m2 (i_1 + (1 : Int)) h11 < m2 i_1 h9) (
∃ (I3 : Int → Heap → Prop) (m3 : Int → Heap → Nat), I3 (0 : Int) h9 ∧ ∀ _ : Env,
∀ (i_2 : Int) (h12 : Heap), I3 i_2 h12 →
bcase (decide (i_2 < n2)) (
Runs Try.prog 16 #[(.pointer p1), (.int .i64 (0 : Int))] h12 fun r8 h13 =>
∃ cs1 : List Value,
∃ (s1 : Option Addr) (s1l s1c : Nat),
∃ t2 : Bool,
r8 = (.tuple #[(.agg (cs1).toArray), (.slice s1 s1l s1c), (.bool t2)]) ∧
∀ (b2 : Nat) (h14 : Heap), b2 = h13.size → h14 = h13.push (.cells ([(.int .i64 (0 : Int)), (.int .u32 (0 : Int)), (.int .i64 (0 : Int)), (.int .i64 (0 : Int)), (.slice none 0 0)] : List Value).toArray 35) →
(((cs1)).length = 5 ∧ wrs h14 b2 0 5 ∧ ∀ u ∈ ((cs1) : List Value), u.oneCell' = true) ∧ ∀ h15 : Heap, h15 = setr h14 b2 0 (cs1) →
bcase (!t2) (
Post (.bool false) h15) (
∃ n6 : Int, cell h15 b2 0 = some (.int .i64 n6) ∧
fits .i64 (i_2 + (1 : Int)) ∧
bcase (!decide (n6 = (i_2 + (1 : Int)))) (
Post (.bool false) h15) (
fits .i64 (i_2 + (1 : Int)) ∧
I3 (i_2 + (1 : Int)) h15 ∧ m3 (i_2 + (1 : Int)) h15 < m3 i_2 h12))) (
(0 ≤ (50 : Int) ∧ (50 : Int) ≤ (50 : Int) ∧ ((1 : Nat) : Int) * (50 : Int) ≤ 281474976710656 ∧ (50 : Int) ≤ 9223372036854775807) ∧ ∀ (b3 : Nat) (h16 : Heap), b3 = h12.size → h16 = h12.push (.cells (joinL (List.replicate 50 [(.int .u8 (0 : Int))])).toArray 5) →
Runs Try.prog 15 #[(.pointer p1), (.agg #[(.int .i64 (1000 : Int)), (.int .u32 thin_2), (.int .i64 (0 : Int)), (.int .i64 (0 : Int)), (.slice (some ⟨b3, 0, none⟩) 50 50)])] h16 fun r9 h17 =>
∃ n7 : Int,
r9 = (.int .i64 n7) ∧
Runs Try.prog 16 #[(.pointer p1), (.int .i64 (0 : Int))] h17 fun r10 h18 =>
∃ cs2 : List Value,
∃ (s2 : Option Addr) (s2l s2c : Nat),
∃ t3 : Bool,
r10 = (.tuple #[(.agg (cs2).toArray), (.slice s2 s2l s2c), (.bool t3)]) ∧
∀ (b4 : Nat) (h19 : Heap), b4 = h18.size → h19 = h18.push (.cells ([(.int .i64 (0 : Int)), (.int .u32 (0 : Int)), (.int .i64 (0 : Int)), (.int .i64 (0 : Int)), (.slice none 0 0)] : List Value).toArray 35) →
(((cs2)).length = 5 ∧ wrs h19 b4 0 5 ∧ ∀ u ∈ ((cs2) : List Value), u.oneCell' = true) ∧ ∀ h20 : Heap, h20 = setr h19 b4 0 (cs2) →
Runs Try.prog 16 #[(.pointer p1), (.int .i64 (0 : Int))] h20 fun r11 h21 =>
∃ cs3 : List Value,
∃ (s3 : Option Addr) (s3l s3c : Nat),
∃ t4 : Bool,
r11 = (.tuple #[(.agg (cs3).toArray), (.slice s3 s3l s3c), (.bool t4)]) ∧
∀ (b5 : Nat) (h22 : Heap), b5 = h21.size → h22 = h21.push (.cells ([(.int .i64 (0 : Int)), (.int .u32 (0 : Int)), (.int .i64 (0 : Int)), (.int .i64 (0 : Int)), (.slice none 0 0)] : List Value).toArray 35) →
(((cs3)).length = 5 ∧ wrs h22 b5 0 5 ∧ ∀ u ∈ ((cs3) : List Value), u.oneCell' = true) ∧ ∀ h23 : Heap, h23 = setr h22 b5 0 (cs3) →
∃ n8 : Int, cell h23 b4 0 = some (.int .i64 n8) ∧
bcase (decide (n8 = (1000 : Int))) (
∃ J2 : Bool → Heap → Prop, (
bcase t1 (
J2 t3 h23) (
J2 false h23)) ∧ ∀ _ : Env,
∀ (x6 : Bool) (h24 : Heap), J2 x6 h24 →
bcase x6 (
Post (.bool true) h24) (
Post (.bool false) h24)) (
bcase (decide (n2 = (0 : Int))) (
bcase t4 (
∃ n9 : Int, cell h23 b5 0 = some (.int .i64 n9) ∧
∃ J3 : Bool → Heap → Prop, (
bcase t1 (
J3 t3 h23) (
J3 false h23)) ∧ ∀ _ : Env,
∀ (x7 : Bool) (h25 : Heap), J3 x7 h25 →
bcase x7 (
Post (.bool (decide (n9 = (1000 : Int)))) h25) (
Post (.bool false) h25)) (
∃ J4 : Bool → Heap → Prop, (
bcase t1 (
J4 t3 h23) (
J4 false h23)) ∧ ∀ _ : Env,
∀ (x8 : Bool) (h26 : Heap), J4 x8 h26 →
bcase x8 (
Post (.bool false) h26) (
Post (.bool false) h26))) (
∃ J5 : Bool → Heap → Prop, (
bcase t1 (
J5 t3 h23) (
J5 false h23)) ∧ ∀ _ : Env,
∀ (x9 : Bool) (h27 : Heap), J5 x9 h27 →
bcase x9 (
Post (.bool false) h27) (
Post (.bool false) h27)))))))) :
    Runs Try.prog 4 #[(.int .i64 n), (.int .i64 takes)] h0 Post :=
  runs_of (args := [(.int .i64 n), (.int .i64 takes)]) (fun n => ⟨true, false⟩) (fun n => match n with | 0 => [(7, .int .u32), (8, .int .u32)] | 2 => [(9, .int .i64)] | 4 => [(10, .int .i64)] | _ => []) (fun n => match n with | 15 => some [(7, .int .u32)] | _ => none) (fun n => match n with | 29 => [(4, [(112, .bool)])] | _ => []) Try.func4 rfl (by rw [Try.ntmps4]; simp) (Eq.mp (by kernel_rfl) H)

theorem vc_muezzinlaw13_FqOrder (seed : Int) (target : Int) (l : Option Addr) (lL lC : Nat) (gaps : Option Addr) (gapsL gapsC : Nat) (h0 : Heap) (Post : Value → Heap → Prop) (H :
Runs Try.prog 9 #[] h0 fun r1 h1 =>
∃ t1 : Bool,
r1 = (.bool t1) ∧
bcase (!t1) (
Post (.bool false) h1) (
∃ J1 : Bool → Heap → Prop, (
bcase (decide ((60 : Int) < ((lL : Nat) : Int))) (
J1 true h1) (
J1 (decide ((100 : Int) < ((gapsL : Nat) : Int))) h1)) ∧ ∀ _ : Env,
∀ (x1 : Bool) (h2 : Heap), J1 x1 h2 →
∃ J2 : Bool → Heap → Prop, (
bcase x1 (
J2 true h2) (
J2 (decide (target < (0 : Int))) h2)) ∧ ∀ _ : Env,
∀ (x2 : Bool) (h3 : Heap), J2 x2 h3 →
bcase x2 (
Post (.bool t1) h3) (
bcase (decide ((1073741824 : Int) < target)) (
Post (.bool t1) h3) (
Runs Try.prog 11 #[(.int .u32 seed), (.int .i64 target), (.int .i64 (1000 : Int))] h3 fun r2 h4 =>
∃ p1 : Option Addr,
r2 = (.pointer p1) ∧
bcase (isNilAddr p1) (
Post (.bool false) h4) (
∀ (b1 : Nat) (h5 : Heap), b1 = h4.size → h5 = h4.push (.cells ([(.int .i64 (0 : Int)), (.int .i64 (0 : Int)), (.int .i64 (0 : Int)), (.int .i64 (0 : Int)), (.int .i64 (0 : Int)), (.int .i64 (0 : Int)), (.int .i64 (0 : Int)), (.int .i64 (0 : Int)), (.int .i64 (0 : Int)), (.int .i64 (0 : Int)), (.int .i64 (0 : Int)), (.int .i64 (0 : Int)), (.int .i64 (0 : Int)), (.int .i64 (0 : Int)), (.int .i64 (0 : Int)), (.int .i64 (0 : Int))] : List Value).toArray 41) →
fits .i64 (((lL : Nat) : Int) + (1 : Int)) ∧
(0 ≤ (((lL : Nat) : Int) + (1 : Int)) ∧ (((lL : Nat) : Int) + (1 : Int)) ≤ (((lL : Nat) : Int) + (1 : Int)) ∧ ((1 : Nat) : Int) * (((lL : Nat) : Int) + (1 : Int)) ≤ 281474976710656 ∧ (((lL : Nat) : Int) + (1 : Int)) ≤ 9223372036854775807) ∧ ∀ (b2 : Nat) (h6 : Heap), b2 = h5.size → h6 = h5.push (.cells (joinL (List.replicate ((((lL : Nat) : Int) + (1 : Int))).toNat [(.bool false)])).toArray 4) →
∃ (I1 : Int → Heap → Prop) (m1 : Int → Heap → Nat), I1 (0 : Int) h6 ∧ ∀ _ : Env,
∀ (i_1 : Int) (h7 : Heap), I1 i_1 h7 →
bcase (decide (i_1 < ((lL : Nat) : Int))) (
(0 ≤ i_1 ∧ i_1 < ((lL : Nat) : Int)) ∧
onAddr l fun b3 o1 =>
∃ (s1 : Option Addr) (s1l s1c : Nat), cell h7 b3 ((o1 + ((i_1).toNat * 5)) + 4) = some (.slice s1 s1l s1c) ∧
bcase (decide ((200 : Int) < ((s1l : Nat) : Int))) (
Post (.bool t1) h7) (
fits .i64 (i_1 + (1 : Int)) ∧
(0 ≤ i_1 ∧ i_1 < ((lL : Nat) : Int)) ∧
onAddr l fun b4 o2 =>
∃ n1 : Int, cell h7 b4 ((o2 + ((i_1).toNat * 5)) + 1) = some (.int .u32 n1) ∧
(0 ≤ i_1 ∧ i_1 < ((lL : Nat) : Int)) ∧
onAddr l fun b5 o3 =>
∃ (s2 : Option Addr) (s2l s2c : Nat), cell h7 b5 ((o3 + ((i_1).toNat * 5)) + 4) = some (.slice s2 s2l s2c) ∧
Runs Try.prog 15 #[(.pointer p1), (.agg #[(.int .i64 (i_1 + (1 : Int))), (.int .u32 n1), (.int .i64 (0 : Int)), (.int .i64 (0 : Int)), (.slice s2 s2l s2c)])] h7 fun r3 h8 =>
∃ n2 : Int,
r3 = (.int .i64 n2) ∧
cell h8 b5 ((o3 + ((i_1).toNat * 5)) + 4) = some (.slice s2 s2l s2c) ∧
cell h8 b4 ((o2 + ((i_1).toNat * 5)) + 1) = some (.int .u32 n1) ∧
bcase (decide (n2 < (0 : Int))) (
Post (.bool false) h8) (
bcase (decide ((15 : Int) < n2)) (
Post (.bool false) h8) (
fits .i64 (i_1 + (1 : Int)) ∧
I1 (i_1 + (1 : Int)) h8 ∧ m1 (i_1 + (1 : Int)) h8 < m1 i_1 h7)))) (
∃ J3 : Int → Heap → Prop, (
∃ (I2 : Int → Int → Int → Heap → Prop) (m2 : Int → Int → Int → Heap → Nat), I2 (0 : Int) (0 : Int) (0 : Int) h7 ∧ ∀ _ : Env,
∀ (now_1 : Int) (out_1 : Int) (i_2 : Int) (h9 : Heap), I2 now_1 out_1 i_2 h9 →
fits .i64 (((gapsL : Nat) : Int) + ((lL : Nat) : Int)) ∧
fits .i64 ((((gapsL : Nat) : Int) + ((lL : Nat) : Int)) + (1 : Int)) ∧
bcase (decide (i_2 < ((((gapsL : Nat) : Int) + ((lL : Nat) : Int)) + (1 : Int)))) (
∃ J4 : Int → Heap → Prop, (
bcase (decide (i_2 < ((gapsL : Nat) : Int))) (
(0 ≤ i_2 ∧ i_2 < ((gapsL : Nat) : Int)) ∧
onAddr gaps fun b6 o4 =>
∃ n3 : Int, cell h9 b6 (o4 + (i_2).toNat) = some (.int .i64 n3) ∧
Runs Try.prog 10 #[(.int .i64 n3), (.int .i64 (65536 : Int))] h9 fun r4 h10 =>
∃ n4 : Int,
r4 = (.int .i64 n4) ∧
fits .i64 (now_1 + n4) ∧
J4 (now_1 + n4) h10) (
J4 now_1 h9)) ∧ ∀ _ : Env,
∀ (now_2 : Int) (h11 : Heap), J4 now_2 h11 →
Runs Try.prog 16 #[(.pointer p1), (.int .i64 now_2)] h11 fun r5 h12 =>
∃ cs1 : List Value,
∃ (s3 : Option Addr) (s3l s3c : Nat),
∃ t2 : Bool,
r5 = (.tuple #[(.agg (cs1).toArray), (.slice s3 s3l s3c), (.bool t2)]) ∧
∀ (b7 : Nat) (h13 : Heap), b7 = h12.size → h13 = h12.push (.cells ([(.int .i64 (0 : Int)), (.int .u32 (0 : Int)), (.int .i64 (0 : Int)), (.int .i64 (0 : Int)), (.slice none 0 0)] : List Value).toArray 35) →
(((cs1)).length = 5 ∧ wrs h13 b7 0 5 ∧ ∀ u ∈ ((cs1) : List Value), u.oneCell' = true) ∧ ∀ h14 : Heap, h14 = setr h13 b7 0 (cs1) →
∃ J5 : Option Addr → Nat → Nat → Heap → Prop, (
bcase t2 (
∃ cs2 : List Value, row h14 b7 0 5 = some cs2 ∧
(
Runs Try.prog 17 #[(.slice s3 s3l s3c)] h14 fun r6 h15 =>
∃ (s4 : Option Addr) (s4l s4c : Nat),
r6 = (.slice s4 s4l s4c) ∧
row h15 b7 0 5 = some (cs2) ∧
(cs2).length = 5 ∧
∀ (b8 : Nat) (h16 : Heap), b8 = h15.size → h16 = h15.push (.cells (((cs2) ++ [])).toArray 35) →
∃ news1 : List Value, (row h16 b8 0 5 = some news1 ∧ ∀ u ∈ news1, u.oneCell' = true) ∧
appK h16 s4 s4l s4c 1 5 35 56 news1 fun (a1 : Option Addr) (cap1 : Nat) (h17 : Heap) =>
J5 a1 (s4l + 1) cap1 h17) ∧
(
(cs2).length = 5 ∧
∀ (b9 : Nat) (h18 : Heap), b9 = h14.size → h18 = h14.push (.cells (((cs2) ++ [])).toArray 35) →
Runs Try.prog 17 #[(.slice s3 s3l s3c)] h18 fun r7 h19 =>
∃ (s5 : Option Addr) (s5l s5c : Nat),
r7 = (.slice s5 s5l s5c) ∧
∃ news2 : List Value, (row h19 b9 0 5 = some news2 ∧ ∀ u ∈ news2, u.oneCell' = true) ∧
appK h19 s5 s5l s5c 1 5 35 56 news2 fun (a2 : Option Addr) (cap2 : Nat) (h20 : Heap) =>
J5 a2 (s5l + 1) cap2 h20)) (
J5 s3 s3l s3c h14)) ∧ ∀ _ : Env,
∀ (all_1 : Option Addr) (all_1l all_1c : Nat) (h21 : Heap), J5 all_1 all_1l all_1c h21 →
∃ (I3 : Int → Int → Heap → Prop) (m3 : Int → Int → Heap → Nat), I3 out_1 (0 : Int) h21 ∧ ∀ _ : Env,
∀ (out_2 : Int) (k_1 : Int) (h22 : Heap), I3 out_2 k_1 h22 →
bcase (decide (k_1 < ((all_1l : Nat) : Int))) (
(0 ≤ k_1 ∧ k_1 < ((all_1l : Nat) : Int)) ∧
onAddr all_1 fun b10 o5 =>
∃ n5 : Int, cell h22 b10 (o5 + ((k_1).toNat * 5)) = some (.int .i64 n5) ∧
∃ J6 : Bool → Heap → Prop, (
bcase (decide (n5 < (1 : Int))) (
J6 true h22) (
J6 (decide (((lL : Nat) : Int) < n5)) h22)) ∧ ∀ _ : Env,
∀ (x11 : Bool) (h23 : Heap), J6 x11 h23 →
bcase x11 (
Post (.bool false) h23) (
(0 ≤ n5 ∧ n5 < ((((((lL : Nat) : Int) + (1 : Int))).toNat : Nat) : Int)) ∧
∃ t3 : Bool, cell h23 b2 (0 + (n5).toNat) = some (.bool t3) ∧
bcase t3 (
Post (.bool false) h23) (
(0 ≤ k_1 ∧ k_1 < ((all_1l : Nat) : Int)) ∧
onAddr all_1 fun b11 o6 =>
∃ n6 : Int, cell h23 b11 ((o6 + ((k_1).toNat * 5)) + 1) = some (.int .u32 n6) ∧
Runs Try.prog 12 #[(.int .u32 n6), (.int .u32 seed)] h23 fun r8 h24 =>
∃ n7 : Int,
r8 = (.int .i64 n7) ∧
(0 ≤ k_1 ∧ k_1 < ((all_1l : Nat) : Int)) ∧
onAddr all_1 fun b12 o7 =>
∃ n8 : Int, cell h24 b12 ((o7 + ((k_1).toNat * 5)) + 1) = some (.int .u32 n8) ∧
fits .i64 (n5 - (1 : Int)) ∧
(0 ≤ (n5 - (1 : Int)) ∧ (n5 - (1 : Int)) < ((lL : Nat) : Int)) ∧
onAddr l fun b13 o8 =>
∃ n9 : Int, cell h24 b13 ((o8 + (((n5 - (1 : Int))).toNat * 5)) + 1) = some (.int .u32 n9) ∧
bcase (!decide (n8 = n9)) (
Post (.bool false) h24) (
(0 ≤ k_1 ∧ k_1 < ((all_1l : Nat) : Int)) ∧
onAddr all_1 fun b14 o9 =>
∃ (s6 : Option Addr) (s6l s6c : Nat), cell h24 b14 ((o9 + ((k_1).toNat * 5)) + 4) = some (.slice s6 s6l s6c) ∧
fits .i64 (n5 - (1 : Int)) ∧
(0 ≤ (n5 - (1 : Int)) ∧ (n5 - (1 : Int)) < ((lL : Nat) : Int)) ∧
onAddr l fun b15 o10 =>
∃ (s7 : Option Addr) (s7l s7c : Nat), cell h24 b15 ((o10 + (((n5 - (1 : Int))).toNat * 5)) + 4) = some (.slice s7 s7l s7c) ∧
Runs Try.prog 18 #[(.slice s6 s6l s6c), (.slice s7 s7l s7c)] h24 fun r9 h25 =>
∃ t4 : Bool,
r9 = (.bool t4) ∧
cell h25 b13 ((o8 + (((n5 - (1 : Int))).toNat * 5)) + 1) = some (.int .u32 n9) ∧
cell h25 b12 ((o7 + ((k_1).toNat * 5)) + 1) = some (.int .u32 n8) ∧
bcase (!t4) (
Post (.bool false) h25) (
(0 ≤ n7 ∧ n7 < ((16 : Nat) : Int)) ∧
∃ n10 : Int, cell h25 b1 (0 + (n7).toNat) = some (.int .i64 n10) ∧
bcase (decide (n5 ≤ n10)) (
Post (.bool false) h25) (
(0 ≤ n7 ∧ n7 < ((16 : Nat) : Int)) ∧
wr h25 b1 (0 + (n7).toNat) ∧ ∀ h26 : Heap, h26 = setc h25 b1 (0 + (n7).toNat) (.int .i64 n5) →
(0 ≤ n5 ∧ n5 < ((((((lL : Nat) : Int) + (1 : Int))).toNat : Nat) : Int)) ∧
wr h26 b2 (0 + (n5).toNat) ∧ ∀ h27 : Heap, h27 = setc h26 b2 (0 + (n5).toNat) (.bool true) →
fits .i64 (out_2 + (1 : Int)) ∧
fits .i64 (k_1 + (1 : Int)) ∧
I3 (out_2 + (1 : Int)) (k_1 + (1 : Int)) h27 ∧ m3 (out_2 + (1 : Int)) (k_1 + (1 : Int)) h27 < m3 out_2 k_1 h22)))))) (
bcase (!t2) (
J3 out_2 h22) (
fits .i64 (i_2 + (1 : Int)) ∧
I2 now_2 out_2 (i_2 + (1 : Int)) h22 ∧ m2 now_2 out_2 (i_2 + (1 : Int)) h22 < m2 now_1 out_1 i_2 h9))) (
J3 out_1 h9)) ∧ ∀ _ : Env,
∀ (out_3 : Int) (h28 : Heap), J3 out_3 h28 →
∃ J7 : Bool → Heap → Prop, (
bcase t1 (
J7 (decide (out_3 = ((lL : Nat) : Int))) h28) (
J7 false h28)) ∧ ∀ _ : Env,
∀ (x13 : Bool) (h29 : Heap), J7 x13 h29 →
∃ J8 : Bool → Heap → Prop, (
bcase x13 (
Runs Try.prog 19 #[(.pointer p1)] h29 fun r10 h30 =>
∃ n11 : Int,
r10 = (.int .i64 n11) ∧
J8 (decide (n11 = (0 : Int))) h30) (
J8 false h29)) ∧ ∀ _ : Env,
∀ (x14 : Bool) (h31 : Heap), J8 x14 h31 →
bcase x14 (
Runs Try.prog 20 #[(.pointer p1)] h31 fun r11 h32 =>
∃ n12 : Int,
r11 = (.int .i64 n12) ∧
Post (.bool (decide (n12 = (0 : Int)))) h32) (
Post (.bool false) h31))))))) :
    Runs Try.prog 5 #[(.int .u32 seed), (.int .i64 target), (.slice l lL lC), (.slice gaps gapsL gapsC)] h0 Post :=
  runs_of (args := [(.int .u32 seed), (.int .i64 target), (.slice l lL lC), (.slice gaps gapsL gapsC)]) (fun n => ⟨true, false⟩) (fun n => match n with | 0 => [(13, .int .i64)] | 2 => [(15, .int .i64), (16, .int .i64), (17, .int .i64)] | 4 => [(16, .int .i64), (22, .int .i64)] | _ => []) (fun n => match n with | 26 => some [(15, .int .i64)] | 30 => some [(21, .slice)] | 43 => some [(16, .int .i64)] | _ => none) (fun n => match n with | 4 => [(8, [(35, .bool)]), (4, [(39, .bool)])] | 34 => [(8, [(142, .bool)])] | 43 => [(7, [(206, .bool)]), (5, [(211, .bool)])] | _ => []) Try.func5 rfl (by rw [Try.ntmps5]; simp) (Eq.mp (by kernel_rfl) H)

theorem vc_muezzinlaw13_FqOwn (l : Option Addr) (lL lC : Nat) (n : Int) (h0 : Heap) (Post : Value → Heap → Prop) (H :
Runs Try.prog 9 #[] h0 fun r1 h1 =>
∃ t1 : Bool,
r1 = (.bool t1) ∧
bcase (!t1) (
Post (.bool false) h1) (
bcase (decide ((20 : Int) < ((lL : Nat) : Int))) (
Post (.bool t1) h1) (
Runs Try.prog 11 #[(.int .u32 (9 : Int)), (.int .i64 (1073741824 : Int)), (.int .i64 (1073741824 : Int))] h1 fun r2 h2 =>
∃ p1 : Option Addr,
r2 = (.pointer p1) ∧
bcase (isNilAddr p1) (
Post (.bool false) h2) (
∃ (I1 : Int → Heap → Prop) (m1 : Int → Heap → Nat), I1 (0 : Int) h2 ∧ ∀ _ : Env,
∀ (i_1 : Int) (h3 : Heap), I1 i_1 h3 →
bcase (decide (i_1 < ((lL : Nat) : Int))) (
(0 ≤ i_1 ∧ i_1 < ((lL : Nat) : Int)) ∧
onAddr l fun b1 o1 =>
∃ (s1 : Option Addr) (s1l s1c : Nat), cell h3 b1 ((o1 + ((i_1).toNat * 5)) + 4) = some (.slice s1 s1l s1c) ∧
bcase (decide ((100 : Int) < ((s1l : Nat) : Int))) (
Post (.bool t1) h3) (
(0 ≤ i_1 ∧ i_1 < ((lL : Nat) : Int)) ∧
onAddr l fun b2 o2 =>
∃ (s2 : Option Addr) (s2l s2c : Nat), cell h3 b2 ((o2 + ((i_1).toNat * 5)) + 4) = some (.slice s2 s2l s2c) ∧
Runs Try.prog 21 #[(.slice s2 s2l s2c)] h3 fun r3 h4 =>
∃ (s3 : Option Addr) (s3l s3c : Nat),
r3 = (.slice s3 s3l s3c) ∧
(0 ≤ i_1 ∧ i_1 < ((lL : Nat) : Int)) ∧
onAddr l fun b3 o3 =>
∃ n1 : Int, cell h4 b3 ((o3 + ((i_1).toNat * 5)) + 1) = some (.int .u32 n1) ∧
Runs Try.prog 15 #[(.pointer p1), (.agg #[(.int .i64 i_1), (.int .u32 n1), (.int .i64 (0 : Int)), (.int .i64 (0 : Int)), (.slice s3 s3l s3c)])] h4 fun r4 h5 =>
∃ n2 : Int,
r4 = (.int .i64 n2) ∧
∃ (I2 : Int → Heap → Prop) (m2 : Int → Heap → Nat), I2 (0 : Int) h5 ∧ ∀ _ : Env,
∀ (k_1 : Int) (h6 : Heap), I2 k_1 h6 →
bcase (decide (k_1 < ((s3l : Nat) : Int))) (
(0 ≤ k_1 ∧ k_1 < ((s3l : Nat) : Int)) ∧
onAddr s3 fun b4 o4 =>
∃ n3 : Int, cell h6 b4 (o4 + (k_1).toNat) = some (.int .u8 n3) ∧
(0 ≤ k_1 ∧ k_1 < ((s3l : Nat) : Int)) ∧
onAddr s3 fun b5 o5 =>
wr h6 b5 (o5 + (k_1).toNat) ∧ ∀ h7 : Heap, h7 = setc h6 b5 (o5 + (k_1).toNat) (.int .u8 (IntKind.u8.wrap (n3 + (1 : Int)))) →
fits .i64 (k_1 + (1 : Int)) ∧
I2 (k_1 + (1 : Int)) h7 ∧ m2 (k_1 + (1 : Int)) h7 < m2 k_1 h6) (
fits .i64 (i_1 + (1 : Int)) ∧
I1 (i_1 + (1 : Int)) h6 ∧ m1 (i_1 + (1 : Int)) h6 < m1 i_1 h3))) (
Runs Try.prog 22 #[(.pointer p1)] h3 fun r5 h8 =>
∃ (s4 : Option Addr) (s4l s4c : Nat),
r5 = (.slice s4 s4l s4c) ∧
∃ (I3 : Int → Heap → Prop) (m3 : Int → Heap → Nat), I3 (0 : Int) h8 ∧ ∀ _ : Env,
∀ (i_2 : Int) (h9 : Heap), I3 i_2 h9 →
bcase (decide (i_2 < ((s4l : Nat) : Int))) (
(0 ≤ i_2 ∧ i_2 < ((s4l : Nat) : Int)) ∧
onAddr s4 fun b6 o6 =>
∃ n4 : Int, cell h9 b6 (o6 + ((i_2).toNat * 5)) = some (.int .i64 n4) ∧
bcase (decide (n4 < (0 : Int))) (
Post (.bool false) h9) (
(0 ≤ i_2 ∧ i_2 < ((s4l : Nat) : Int)) ∧
onAddr s4 fun b7 o7 =>
∃ n5 : Int, cell h9 b7 (o7 + ((i_2).toNat * 5)) = some (.int .i64 n5) ∧
bcase (decide (((lL : Nat) : Int) ≤ n5)) (
Post (.bool false) h9) (
(0 ≤ i_2 ∧ i_2 < ((s4l : Nat) : Int)) ∧
onAddr s4 fun b8 o8 =>
∃ (s5 : Option Addr) (s5l s5c : Nat), cell h9 b8 ((o8 + ((i_2).toNat * 5)) + 4) = some (.slice s5 s5l s5c) ∧
(0 ≤ i_2 ∧ i_2 < ((s4l : Nat) : Int)) ∧
onAddr s4 fun b9 o9 =>
∃ n6 : Int, cell h9 b9 (o9 + ((i_2).toNat * 5)) = some (.int .i64 n6) ∧
(0 ≤ n6 ∧ n6 < ((lL : Nat) : Int)) ∧
onAddr l fun b10 o10 =>
∃ (s6 : Option Addr) (s6l s6c : Nat), cell h9 b10 ((o10 + ((n6).toNat * 5)) + 4) = some (.slice s6 s6l s6c) ∧
Runs Try.prog 18 #[(.slice s5 s5l s5c), (.slice s6 s6l s6c)] h9 fun r6 h10 =>
∃ t2 : Bool,
r6 = (.bool t2) ∧
cell h10 b9 (o9 + ((i_2).toNat * 5)) = some (.int .i64 n6) ∧
cell h10 b7 (o7 + ((i_2).toNat * 5)) = some (.int .i64 n5) ∧
cell h10 b6 (o6 + ((i_2).toNat * 5)) = some (.int .i64 n4) ∧
bcase (!t2) (
Post (.bool false) h10) (
∃ (I4 : Int → Heap → Prop) (m4 : Int → Heap → Nat), I4 (0 : Int) h10 ∧ ∀ _ : Env,
∀ (k_2 : Int) (h11 : Heap), I4 k_2 h11 →
(0 ≤ i_2 ∧ i_2 < ((s4l : Nat) : Int)) ∧
onAddr s4 fun b11 o11 =>
∃ (s7 : Option Addr) (s7l s7c : Nat), cell h11 b11 ((o11 + ((i_2).toNat * 5)) + 4) = some (.slice s7 s7l s7c) ∧
bcase (decide (k_2 < ((s7l : Nat) : Int))) (
(0 ≤ i_2 ∧ i_2 < ((s4l : Nat) : Int)) ∧
onAddr s4 fun b12 o12 =>
∃ (s8 : Option Addr) (s8l s8c : Nat), cell h11 b12 ((o12 + ((i_2).toNat * 5)) + 4) = some (.slice s8 s8l s8c) ∧
(0 ≤ k_2 ∧ k_2 < ((s8l : Nat) : Int)) ∧
onAddr s8 fun b13 o13 =>
∃ n7 : Int, cell h11 b13 (o13 + (k_2).toNat) = some (.int .u8 n7) ∧
(0 ≤ k_2 ∧ k_2 < ((s8l : Nat) : Int)) ∧
onAddr s8 fun b14 o14 =>
wr h11 b14 (o14 + (k_2).toNat) ∧ ∀ h12 : Heap, h12 = setc h11 b14 (o14 + (k_2).toNat) (.int .u8 (IntKind.u8.wrap (n7 + (1 : Int)))) →
fits .i64 (k_2 + (1 : Int)) ∧
I4 (k_2 + (1 : Int)) h12 ∧ m4 (k_2 + (1 : Int)) h12 < m4 k_2 h11) (
fits .i64 (i_2 + (1 : Int)) ∧
I3 (i_2 + (1 : Int)) h11 ∧ m3 (i_2 + (1 : Int)) h11 < m3 i_2 h9))))) (
Runs Try.prog 23 #[(.pointer p1)] h9 fun r7 h13 =>
∃ p2 : Option Addr,
r7 = (.pointer p2) ∧
fits .i64 (((lL : Nat) : Int) + (1 : Int)) ∧
Runs Try.prog 10 #[(.int .i64 n), (.int .i64 (((lL : Nat) : Int) + (1 : Int)))] h13 fun r8 h14 =>
∃ n8 : Int,
r8 = (.int .i64 n8) ∧
∃ (I5 : Int → Heap → Prop) (m5 : Int → Heap → Nat), I5 (0 : Int) h14 ∧ ∀ _ : Env,
∀ (i_3 : Int) (h15 : Heap), I5 i_3 h15 →
bcase (decide (i_3 < n8)) (
Runs Try.prog 16 #[(.pointer p1), (.int .i64 (0 : Int))] h15 fun r9 h16 =>
∃ cs1 : List Value,
∃ (s9 : Option Addr) (s9l s9c : Nat),
∃ t3 : Bool,
r9 = (.tuple #[(.agg (cs1).toArray), (.slice s9 s9l s9c), (.bool t3)]) ∧
∀ (b15 : Nat) (h17 : Heap), b15 = h16.size → h17 = h16.push (.cells ([(.int .i64 (0 : Int)), (.int .u32 (0 : Int)), (.int .i64 (0 : Int)), (.int .i64 (0 : Int)), (.slice none 0 0)] : List Value).toArray 35) →
(((cs1)).length = 5 ∧ wrs h17 b15 0 5 ∧ ∀ u ∈ ((cs1) : List Value), u.oneCell' = true) ∧ ∀ h18 : Heap, h18 = setr h17 b15 0 (cs1) →
Runs Try.prog 16 #[(.pointer p2), (.int .i64 (0 : Int))] h18 fun r10 h19 =>
∃ cs2 : List Value,
∃ (s10 : Option Addr) (s10l s10c : Nat),
∃ t4 : Bool,
r10 = (.tuple #[(.agg (cs2).toArray), (.slice s10 s10l s10c), (.bool t4)]) ∧
∀ (b16 : Nat) (h20 : Heap), b16 = h19.size → h20 = h19.push (.cells ([(.int .i64 (0 : Int)), (.int .u32 (0 : Int)), (.int .i64 (0 : Int)), (.int .i64 (0 : Int)), (.slice none 0 0)] : List Value).toArray 35) →
(((cs2)).length = 5 ∧ wrs h20 b16 0 5 ∧ ∀ u ∈ ((cs2) : List Value), u.oneCell' = true) ∧ ∀ h21 : Heap, h21 = setr h20 b16 0 (cs2) →
bcase (!t3) (
Post (.bool false) h21) (
bcase (!t4) (
Post (.bool false) h21) (
∃ cs3 : List Value, row h21 b15 0 5 = some cs3 ∧
∃ cs4 : List Value, row h21 b16 0 5 = some cs4 ∧
Runs Try.prog 24 #[(.agg (cs3).toArray), (.agg (cs4).toArray)] h21 fun r11 h22 =>
∃ t5 : Bool,
r11 = (.bool t5) ∧
bcase (!t5) (
Post (.bool false) h22) (
∃ (s11 : Option Addr) (s11l s11c : Nat), cell h22 b15 4 = some (.slice s11 s11l s11c) ∧
∃ n9 : Int, cell h22 b15 0 = some (.int .i64 n9) ∧
(0 ≤ n9 ∧ n9 < ((lL : Nat) : Int)) ∧
onAddr l fun b17 o15 =>
∃ (s12 : Option Addr) (s12l s12c : Nat), cell h22 b17 ((o15 + ((n9).toNat * 5)) + 4) = some (.slice s12 s12l s12c) ∧
Runs Try.prog 18 #[(.slice s11 s11l s11c), (.slice s12 s12l s12c)] h22 fun r12 h23 =>
∃ t6 : Bool,
r12 = (.bool t6) ∧
cell h23 b15 0 = some (.int .i64 n9) ∧
bcase (!t6) (
Post (.bool false) h23) (
fits .i64 (i_3 + (1 : Int)) ∧
I5 (i_3 + (1 : Int)) h23 ∧ m5 (i_3 + (1 : Int)) h23 < m5 i_3 h15))))) (
∃ J1 : Bool → Heap → Prop, (
bcase t1 (
Runs Try.prog 19 #[(.pointer p1)] h15 fun r13 h24 =>
∃ n10 : Int,
r13 = (.int .i64 n10) ∧
fits .i64 (((lL : Nat) : Int) - n8) ∧
J1 (decide (n10 = (((lL : Nat) : Int) - n8))) h24) (
J1 false h15)) ∧ ∀ _ : Env,
∀ (x6 : Bool) (h25 : Heap), J1 x6 h25 →
bcase x6 (
Runs Try.prog 19 #[(.pointer p2)] h25 fun r14 h26 =>
∃ n11 : Int,
r14 = (.int .i64 n11) ∧
fits .i64 (((lL : Nat) : Int) - n8) ∧
Post (.bool (decide (n11 = (((lL : Nat) : Int) - n8)))) h26) (
Post (.bool false) h25)))))))) :
    Runs Try.prog 6 #[(.slice l lL lC), (.int .i64 n)] h0 Post :=
  runs_of (args := [(.slice l lL lC), (.int .i64 n)]) (fun n => ⟨!memB n [19, 29], false⟩) (fun n => match n with | 0 => [(7, .int .i64)] | 2 => [(9, .int .i64)] | 4 => [(11, .int .i64)] | 6 => [(12, .int .i64)] | 8 => [(14, .int .i64)] | _ => []) (fun _ => none) (fun n => match n with | 39 => [(10, [(192, .bool)])] | _ => []) Try.func6 rfl (by rw [Try.ntmps6]; simp) (Eq.mp (by kernel_rfl) H)

theorem vc_muezzinlaw13_FqFair (n : Int) (sizes : Option Addr) (sizesL sizesC : Nat) (turns : Int) (h0 : Heap) (Post : Value → Heap → Prop) (H :
∀ (b1 : Nat) (h1 : Heap), b1 = h0.size → h1 = h0.push (.cells ([(.slice sizes sizesL sizesC)] : List Value).toArray 22) →
Runs Try.prog 9 #[] h1 fun r1 h2 =>
∃ t1 : Bool,
r1 = (.bool t1) ∧
bcase (!t1) (
Post (.bool false) h2) (
Runs Try.prog 10 #[(.int .i64 n), (.int .i64 (5 : Int))] h2 fun r2 h3 =>
∃ n1 : Int,
r2 = (.int .i64 n1) ∧
fits .i64 (n1 + (2 : Int)) ∧
Runs Try.prog 10 #[(.int .i64 turns), (.int .i64 (100 : Int))] h3 fun r3 h4 =>
∃ n2 : Int,
r3 = (.int .i64 n2) ∧
Runs Try.prog 11 #[(.int .u32 (0 : Int)), (.int .i64 (1073741824 : Int)), (.int .i64 (1073741824 : Int))] h4 fun r4 h5 =>
∃ p1 : Option Addr,
r4 = (.pointer p1) ∧
bcase (isNilAddr p1) (
Post (.bool false) h5) (
∃ J1 : Option Addr → Nat → Nat → Heap → Prop, (
∃ (I1 : Option Addr → Nat → Nat → Option Addr → Nat → Nat → Int → Heap → Prop) (m1 : Option Addr → Nat → Nat → Option Addr → Nat → Nat → Int → Heap → Nat), I1 none 0 0 none 0 0 (0 : Int) h5 ∧ ∀ _ : Env,
∀ (flows_1 : Option Addr) (flows_1l flows_1c : Nat) (buckets_1 : Option Addr) (buckets_1l buckets_1c : Nat) (f_1 : Int) (h6 : Heap), I1 flows_1 flows_1l flows_1c buckets_1 buckets_1l buckets_1c f_1 h6 →
bcase (decide (((flows_1l : Nat) : Int) < (n1 + (2 : Int)))) (
bcase (decide (f_1 < (1000 : Int))) (
∃ J2 : Option Addr → Nat → Nat → Option Addr → Nat → Nat → Heap → Prop, (
Runs Try.prog 12 #[(.int .u32 f_1), (.int .u32 (0 : Int))] h6 fun r5 h7 =>
∃ n3 : Int,
r5 = (.int .i64 n3) ∧
Runs Try.prog 13 #[(.slice buckets_1 buckets_1l buckets_1c), (.int .i64 n3)] h7 fun r6 h8 =>
∃ t2 : Bool,
r6 = (.bool t2) ∧
bcase (!t2) (
∀ (b2 : Nat) (h9 : Heap), b2 = h8.size → h9 = h8.push (.cells ([(.int .u32 f_1)] : List Value).toArray 27) →
∃ news1 : List Value, (row h9 b2 0 1 = some news1 ∧ ∀ u ∈ news1, u.oneCell' = true) ∧
appK h9 flows_1 flows_1l flows_1c 1 1 27 4 news1 fun (a1 : Option Addr) (cap1 : Nat) (h10 : Heap) =>
∀ (b3 : Nat) (h11 : Heap), b3 = h10.size → h11 = h10.push (.cells ([(.int .i64 n3)] : List Value).toArray 3) →
∃ news2 : List Value, (row h11 b3 0 1 = some news2 ∧ ∀ u ∈ news2, u.oneCell' = true) ∧
appK h11 buckets_1 buckets_1l buckets_1c 1 1 3 8 news2 fun (a2 : Option Addr) (cap2 : Nat) (h12 : Heap) =>
J2 a1 (flows_1l + 1) cap1 a2 (buckets_1l + 1) cap2 h12) (
J2 flows_1 flows_1l flows_1c buckets_1 buckets_1l buckets_1c h8)) ∧ ∀ _ : Env,
∀ (flows_2 : Option Addr) (flows_2l flows_2c : Nat) (buckets_2 : Option Addr) (buckets_2l buckets_2c : Nat) (h13 : Heap), J2 flows_2 flows_2l flows_2c buckets_2 buckets_2l buckets_2c h13 →
fits .u32 (f_1 + (1 : Int)) ∧
I1 flows_2 flows_2l flows_2c buckets_2 buckets_2l buckets_2c (f_1 + (1 : Int)) h13 ∧ m1 flows_2 flows_2l flows_2c buckets_2 buckets_2l buckets_2c (f_1 + (1 : Int)) h13 < m1 flows_1 flows_1l flows_1c buckets_1 buckets_1l buckets_1c f_1 h6) (
J1 flows_1 flows_1l flows_1c h6)) (
J1 flows_1 flows_1l flows_1c h6)) ∧ ∀ _ : Env,
∀ (flows_3 : Option Addr) (flows_3l flows_3c : Nat) (h14 : Heap), J1 flows_3 flows_3l flows_3c h14 →
∃ (I2 : Int → Heap → Prop) (m2 : Int → Heap → Nat), I2 (0 : Int) h14 ∧ ∀ _ : Env,
∀ (i_1 : Int) (h15 : Heap), I2 i_1 h15 →
bcase (decide (i_1 < (n1 + (2 : Int)))) (
∃ (I3 : Int → Heap → Prop) (m3 : Int → Heap → Nat), I3 (0 : Int) h15 ∧ ∀ _ : Env,
∀ (k_1 : Int) (h16 : Heap), I3 k_1 h16 →
bcase (decide (k_1 < (110 : Int))) (
(0 ≤ i_1 ∧ i_1 < ((flows_3l : Nat) : Int)) ∧
onAddr flows_3 fun b4 o1 =>
∃ n4 : Int, cell h16 b4 (o1 + (i_1).toNat) = some (.int .u32 n4) ∧
Runs Try.prog 14 #[(.int .i64 i_1), (.pointer (some ⟨b1, 0, none⟩))] h16 fun r7 h17 =>
∃ n5 : Int,
r7 = (.int .i64 n5) ∧
cell h17 b4 (o1 + (i_1).toNat) = some (.int .u32 n4) ∧
(0 ≤ n5 ∧ n5 ≤ n5 ∧ ((1 : Nat) : Int) * n5 ≤ 281474976710656 ∧ n5 ≤ 9223372036854775807) ∧ ∀ (b5 : Nat) (h18 : Heap), b5 = h17.size → h18 = h17.push (.cells (joinL (List.replicate (n5).toNat [(.int .u8 (0 : Int))])).toArray 5) →
Runs Try.prog 15 #[(.pointer p1), (.agg #[(.int .i64 (0 : Int)), (.int .u32 n4), (.int .i64 (0 : Int)), (.int .i64 (0 : Int)), (.slice (some ⟨b5, 0, none⟩) (n5).toNat (n5).toNat)])] h18 fun r8 h19 =>
∃ n6 : Int,
r8 = (.int .i64 n6) ∧
cell h19 b4 (o1 + (i_1).toNat) = some (.int .u32 n4) ∧
fits .i64 (k_1 + (1 : Int)) ∧
I3 (k_1 + (1 : Int)) h19 ∧ m3 (k_1 + (1 : Int)) h19 < m3 k_1 h16) (
fits .i64 (i_1 + (1 : Int)) ∧
I2 (i_1 + (1 : Int)) h16 ∧ m2 (i_1 + (1 : Int)) h16 < m2 i_1 h15)) (
(0 ≤ (n1 + (2 : Int)) ∧ (n1 + (2 : Int)) ≤ (n1 + (2 : Int)) ∧ ((8 : Nat) : Int) * (n1 + (2 : Int)) ≤ 281474976710656 ∧ (n1 + (2 : Int)) ≤ 9223372036854775807) ∧ ∀ (b6 : Nat) (h20 : Heap), b6 = h15.size → h20 = h15.push (.cells (joinL (List.replicate ((n1 + (2 : Int))).toNat [(.int .i64 (0 : Int))])).toArray 3) →
∃ (I4 : Int → Heap → Prop) (m4 : Int → Heap → Nat), I4 (0 : Int) h20 ∧ ∀ _ : Env,
∀ (t_1 : Int) (h21 : Heap), I4 t_1 h21 →
bcase (decide (t_1 < n2)) (
Runs Try.prog 16 #[(.pointer p1), (.int .i64 (0 : Int))] h21 fun r9 h22 =>
∃ cs1 : List Value,
∃ (s1 : Option Addr) (s1l s1c : Nat),
∃ t3 : Bool,
r9 = (.tuple #[(.agg (cs1).toArray), (.slice s1 s1l s1c), (.bool t3)]) ∧
∀ (b7 : Nat) (h23 : Heap), b7 = h22.size → h23 = h22.push (.cells ([(.int .i64 (0 : Int)), (.int .u32 (0 : Int)), (.int .i64 (0 : Int)), (.int .i64 (0 : Int)), (.slice none 0 0)] : List Value).toArray 35) →
(((cs1)).length = 5 ∧ wrs h23 b7 0 5 ∧ ∀ u ∈ ((cs1) : List Value), u.oneCell' = true) ∧ ∀ h24 : Heap, h24 = setr h23 b7 0 (cs1) →
bcase (!t3) (
Post (.bool false) h24) (
∃ (I5 : Int → Heap → Prop) (m5 : Int → Heap → Nat), I5 (0 : Int) h24 ∧ ∀ _ : Env,
∀ (i_2 : Int) (h25 : Heap), I5 i_2 h25 →
bcase (decide (i_2 < (n1 + (2 : Int)))) (
∃ n7 : Int, cell h25 b7 1 = some (.int .u32 n7) ∧
(0 ≤ i_2 ∧ i_2 < ((flows_3l : Nat) : Int)) ∧
onAddr flows_3 fun b8 o2 =>
∃ n8 : Int, cell h25 b8 (o2 + (i_2).toNat) = some (.int .u32 n8) ∧
bcase (decide (n7 = n8)) (
(0 ≤ i_2 ∧ i_2 < ((((n1 + (2 : Int))).toNat : Nat) : Int)) ∧
∃ n9 : Int, cell h25 b6 (0 + (i_2).toNat) = some (.int .i64 n9) ∧
∃ (s2 : Option Addr) (s2l s2c : Nat), cell h25 b7 4 = some (.slice s2 s2l s2c) ∧
fits .i64 (n9 + ((s2l : Nat) : Int)) ∧
(0 ≤ i_2 ∧ i_2 < ((((n1 + (2 : Int))).toNat : Nat) : Int)) ∧
wr h25 b6 (0 + (i_2).toNat) ∧ ∀ h26 : Heap, h26 = setc h25 b6 (0 + (i_2).toNat) (.int .i64 (n9 + ((s2l : Nat) : Int))) →
fits .i64 (i_2 + (1 : Int)) ∧
I5 (i_2 + (1 : Int)) h26 ∧ m5 (i_2 + (1 : Int)) h26 < m5 i_2 h25) (
fits .i64 (i_2 + (1 : Int)) ∧
I5 (i_2 + (1 : Int)) h25 ∧ m5 (i_2 + (1 : Int)) h25 < m5 i_2 h25)) (
fits .i64 (t_1 + (1 : Int)) ∧
I4 (t_1 + (1 : Int)) h25 ∧ m4 (t_1 + (1 : Int)) h25 < m4 t_1 h21))) (
∃ (I6 : Int → Heap → Prop) (m6 : Int → Heap → Nat), I6 (0 : Int) h21 ∧ ∀ _ : Env,
∀ (i_3 : Int) (h27 : Heap), I6 i_3 h27 →
bcase (decide (i_3 < (n1 + (2 : Int)))) (
∃ (I7 : Int → Heap → Prop) (m7 : Int → Heap → Nat), I7 (0 : Int) h27 ∧ ∀ _ : Env,
∀ (k_2 : Int) (h28 : Heap), I7 k_2 h28 →
bcase (decide (k_2 < (n1 + (2 : Int)))) (
(0 ≤ i_3 ∧ i_3 < ((((n1 + (2 : Int))).toNat : Nat) : Int)) ∧
∃ n10 : Int, cell h28 b6 (0 + (i_3).toNat) = some (.int .i64 n10) ∧
(0 ≤ k_2 ∧ k_2 < ((((n1 + (2 : Int))).toNat : Nat) : Int)) ∧
∃ n11 : Int, cell h28 b6 (0 + (k_2).toNat) = some (.int .i64 n11) ∧
fits .i64 (n10 - n11) ∧
Runs Try.prog 14 #[(.int .i64 i_3), (.pointer (some ⟨b1, 0, none⟩))] h28 fun r10 h29 =>
∃ n12 : Int,
r10 = (.int .i64 n12) ∧
cell h29 b6 (0 + (k_2).toNat) = some (.int .i64 n11) ∧
cell h29 b6 (0 + (i_3).toNat) = some (.int .i64 n10) ∧
fits .i64 ((600 : Int) + n12) ∧
Runs Try.prog 14 #[(.int .i64 k_2), (.pointer (some ⟨b1, 0, none⟩))] h29 fun r11 h30 =>
∃ n13 : Int,
r11 = (.int .i64 n13) ∧
cell h30 b6 (0 + (k_2).toNat) = some (.int .i64 n11) ∧
cell h30 b6 (0 + (i_3).toNat) = some (.int .i64 n10) ∧
fits .i64 (((600 : Int) + n12) + n13) ∧
bcase (decide ((((600 : Int) + n12) + n13) < (n10 - n11))) (
Post (.bool false) h30) (
fits .i64 (k_2 + (1 : Int)) ∧
I7 (k_2 + (1 : Int)) h30 ∧ m7 (k_2 + (1 : Int)) h30 < m7 k_2 h28)) (
fits .i64 (i_3 + (1 : Int)) ∧
I6 (i_3 + (1 : Int)) h28 ∧ m6 (i_3 + (1 : Int)) h28 < m6 i_3 h27)) (
Post (.bool t1) h27)))))) :
    Runs Try.prog 3 #[(.int .i64 n), (.slice sizes sizesL sizesC), (.int .i64 turns)] h0 Post :=
  runs_of (args := [(.int .i64 n), (.slice sizes sizesL sizesC), (.int .i64 turns)]) (fun n => ⟨true, false⟩) (fun n => match n with | 0 => [(9, .slice), (10, .slice), (11, .int .u32)] | 2 => [(14, .int .i64)] | 4 => [(15, .int .i64)] | 6 => [(17, .int .i64)] | 8 => [(21, .int .i64)] | 10 => [(22, .int .i64)] | 12 => [(23, .int .i64)] | _ => []) (fun n => match n with | 13 => some [(9, .slice), (10, .slice)] | 18 => some [(9, .slice)] | _ => none) (fun _ => []) Try.func3 rfl (by rw [Try.ntmps3]; simp) (Eq.mp (by kernel_rfl) H)

theorem vc_muezzinlaw13_FqFair_1 (i : Int) (c0 : Option Addr) (h0 : Heap) (Post : Value → Heap → Prop) (H :
onAddr c0 fun b1 o1 =>
∃ (s1 : Option Addr) (s1l s1c : Nat), cell h0 b1 o1 = some (.slice s1 s1l s1c) ∧
bcase (decide (i < ((s1l : Nat) : Int))) (
onAddr c0 fun b2 o2 =>
∃ (s2 : Option Addr) (s2l s2c : Nat), cell h0 b2 o2 = some (.slice s2 s2l s2c) ∧
(0 ≤ i ∧ i < ((s2l : Nat) : Int)) ∧
onAddr s2 fun b3 o3 =>
∃ n1 : Int, cell h0 b3 (o3 + (i).toNat) = some (.int .i64 n1) ∧
Runs Try.prog 10 #[(.int .i64 n1), (.int .i64 (800 : Int))] h0 fun r1 h1 =>
∃ n2 : Int,
r1 = (.int .i64 n2) ∧
fits .i64 (n2 + (1 : Int)) ∧
Post (.int .i64 (n2 + (1 : Int))) h1) (
Post (.int .i64 (100 : Int)) h0)) :
    Runs Try.prog 14 #[(.int .i64 i), (.pointer c0)] h0 Post :=
  runs_of (args := [(.int .i64 i), (.pointer c0)]) (fun n => ⟨true, false⟩) (fun _ => []) (fun _ => none) (fun _ => []) Try.func14 rfl (by rw [Try.ntmps14]; simp) (Eq.mp (by kernel_rfl) H)

theorem vc_muezzinlaw13_light (l : Option Addr) (lL lC : Nat) (most : Int) (h0 : Heap) (Post : Value → Heap → Prop) (H :
bcase (decide (most < ((lL : Nat) : Int))) (
Post (.bool false) h0) (
∃ (I1 : Int → Heap → Prop) (m1 : Int → Heap → Nat), I1 (0 : Int) h0 ∧ ∀ _ : Env,
∀ (i_1 : Int) (h1 : Heap), I1 i_1 h1 →
bcase (decide (i_1 < ((lL : Nat) : Int))) (
(0 ≤ i_1 ∧ i_1 < ((lL : Nat) : Int)) ∧
onAddr l fun b1 o1 =>
∃ (s1 : Option Addr) (s1l s1c : Nat), cell h1 b1 (((o1 + ((i_1).toNat * 7)) + 2) + 4) = some (.slice s1 s1l s1c) ∧
bcase (decide ((200 : Int) < ((s1l : Nat) : Int))) (
Post (.bool false) h1) (
(0 ≤ i_1 ∧ i_1 < ((lL : Nat) : Int)) ∧
onAddr l fun b2 o2 =>
∃ n1 : Int, cell h1 b2 (((o2 + ((i_1).toNat * 7)) + 2) + 3) = some (.int .i64 n1) ∧
bcase (decide (n1 < (0 : Int))) (
Post (.bool false) h1) (
(0 ≤ i_1 ∧ i_1 < ((lL : Nat) : Int)) ∧
onAddr l fun b3 o3 =>
∃ n2 : Int, cell h1 b3 (((o3 + ((i_1).toNat * 7)) + 2) + 3) = some (.int .i64 n2) ∧
bcase (decide ((1099511627776 : Int) < n2)) (
Post (.bool false) h1) (
fits .i64 (i_1 + (1 : Int)) ∧
I1 (i_1 + (1 : Int)) h1 ∧ m1 (i_1 + (1 : Int)) h1 < m1 i_1 h1)))) (
Post (.bool true) h1))) :
    Runs Try.prog 25 #[(.slice l lL lC), (.int .i64 most)] h0 Post :=
  runs_of (args := [(.slice l lL lC), (.int .i64 most)]) (fun n => ⟨true, false⟩) (fun n => match n with | 0 => [(5, .int .i64)] | _ => []) (fun _ => none) (fun _ => []) Try.func25 rfl (by rw [Try.ntmps25]; simp) (Eq.mp (by kernel_rfl) H)

theorem vc_muezzinlaw13_FqPlays (seed : Int) (target : Int) (interval : Int) (l : Option Addr) (lL lC : Nat) (h0 : Heap) (Post : Value → Heap → Prop) (H :
Runs Try.prog 9 #[] h0 fun r1 h1 =>
∃ t1 : Bool,
r1 = (.bool t1) ∧
bcase (!t1) (
Post (.bool false) h1) (
∃ J1 : Bool → Heap → Prop, (
Runs Try.prog 25 #[(.slice l lL lC), (.int .i64 (80 : Int))] h1 fun r2 h2 =>
∃ t2 : Bool,
r2 = (.bool t2) ∧
bcase (!t2) (
J1 true h2) (
J1 (decide (target < (0 : Int))) h2)) ∧ ∀ _ : Env,
∀ (x1 : Bool) (h3 : Heap), J1 x1 h3 →
∃ J2 : Bool → Heap → Prop, (
bcase x1 (
J2 true h3) (
J2 (decide ((1073741824 : Int) < target)) h3)) ∧ ∀ _ : Env,
∀ (x2 : Bool) (h4 : Heap), J2 x2 h4 →
∃ J3 : Bool → Heap → Prop, (
bcase x2 (
J3 true h4) (
J3 (decide (interval < (0 : Int))) h4)) ∧ ∀ _ : Env,
∀ (x3 : Bool) (h5 : Heap), J3 x3 h5 →
bcase x3 (
Post (.bool t1) h5) (
bcase (decide ((1073741824 : Int) < interval)) (
Post (.bool t1) h5) (
Runs Try.prog 11 #[(.int .u32 seed), (.int .i64 target), (.int .i64 interval)] h5 fun r3 h6 =>
∃ p1 : Option Addr,
r3 = (.pointer p1) ∧
Runs Try.prog 26 #[(.int .u32 seed), (.int .i64 target), (.int .i64 interval)] h6 fun r4 h7 =>
∃ p2 : Option Addr,
r4 = (.pointer p2) ∧
bcase (isNilAddr p1) (
Post (.bool false) h7) (
∃ (I1 : Int → Int → Heap → Prop) (m1 : Int → Int → Heap → Nat), I1 (0 : Int) (0 : Int) h7 ∧ ∀ _ : Env,
∀ (now_1 : Int) (i_1 : Int) (h8 : Heap), I1 now_1 i_1 h8 →
bcase (decide (i_1 < ((lL : Nat) : Int))) (
(0 ≤ i_1 ∧ i_1 < ((lL : Nat) : Int)) ∧
onAddr l fun b1 o1 =>
∃ cs1 : List Value, row h8 b1 (o1 + ((i_1).toNat * 7)) 7 = some cs1 ∧
∀ (b2 : Nat) (h9 : Heap), b2 = h8.size → h9 = h8.push (.cells ([(.int .i64 (0 : Int)), (.int .i64 (0 : Int)), (.int .i64 (0 : Int)), (.int .u32 (0 : Int)), (.int .i64 (0 : Int)), (.int .i64 (0 : Int)), (.slice none 0 0)] : List Value).toArray 57) →
(((cs1)).length = 7 ∧ wrs h9 b2 0 7 ∧ ∀ u ∈ ((cs1) : List Value), u.oneCell' = true) ∧ ∀ h10 : Heap, h10 = setr h9 b2 0 (cs1) →
Runs Try.prog 23 #[(.pointer p1)] h10 fun r5 h11 =>
∃ p3 : Option Addr,
r5 = (.pointer p3) ∧
Runs Try.prog 19 #[(.pointer p3)] h11 fun r6 h12 =>
∃ n1 : Int,
r6 = (.int .i64 n1) ∧
∃ J4 : Int → Heap → Prop, (
∃ n2 : Int, cell h12 b2 0 = some (.int .i64 n2) ∧
bcase (decide (n2 = (1 : Int))) (
wr h12 b2 5 ∧ ∀ h13 : Heap, h13 = setc h12 b2 5 (.int .i64 now_1) →
∃ cs2 : List Value, row h13 b2 2 5 = some cs2 ∧
∃ cs3 : List Value, row h13 b2 2 5 = some cs3 ∧
Runs Try.prog 15 #[(.pointer p1), (.agg (cs2).toArray)] h13 fun r7 h14 =>
∃ n3 : Int,
r7 = (.int .i64 n3) ∧
row h14 b2 2 5 = some (cs3) ∧
Runs Try.prog 27 #[(.pointer p2), (.agg (cs3).toArray)] h14 fun r8 h15 =>
∃ n4 : Int,
r8 = (.int .i64 n4) ∧
bcase (!decide (n3 = n4)) (
Post (.bool false) h15) (
J4 now_1 h15)) (
bcase (decide (n2 = (2 : Int))) (
∃ n5 : Int, cell h12 b2 1 = some (.int .i64 n5) ∧
Runs Try.prog 10 #[(.int .i64 n5), (.int .i64 (1048576 : Int))] h12 fun r9 h16 =>
∃ n6 : Int,
r9 = (.int .i64 n6) ∧
fits .i64 (now_1 + n6) ∧
Runs Try.prog 16 #[(.pointer p1), (.int .i64 (now_1 + n6))] h16 fun r10 h17 =>
∃ cs4 : List Value,
∃ (s1 : Option Addr) (s1l s1c : Nat),
∃ t3 : Bool,
r10 = (.tuple #[(.agg (cs4).toArray), (.slice s1 s1l s1c), (.bool t3)]) ∧
∀ (b3 : Nat) (h18 : Heap), b3 = h17.size → h18 = h17.push (.cells ([(.int .i64 (0 : Int)), (.int .u32 (0 : Int)), (.int .i64 (0 : Int)), (.int .i64 (0 : Int)), (.slice none 0 0)] : List Value).toArray 35) →
(((cs4)).length = 5 ∧ wrs h18 b3 0 5 ∧ ∀ u ∈ ((cs4) : List Value), u.oneCell' = true) ∧ ∀ h19 : Heap, h19 = setr h18 b3 0 (cs4) →
Runs Try.prog 28 #[(.pointer p2), (.int .i64 (now_1 + n6))] h19 fun r11 h20 =>
∃ cs5 : List Value,
∃ (s2 : Option Addr) (s2l s2c : Nat),
∃ t4 : Bool,
r11 = (.tuple #[(.agg (cs5).toArray), (.slice s2 s2l s2c), (.bool t4)]) ∧
∀ (b4 : Nat) (h21 : Heap), b4 = h20.size → h21 = h20.push (.cells ([(.int .i64 (0 : Int)), (.int .u32 (0 : Int)), (.int .i64 (0 : Int)), (.int .i64 (0 : Int)), (.slice none 0 0)] : List Value).toArray 35) →
(((cs5)).length = 5 ∧ wrs h21 b4 0 5 ∧ ∀ u ∈ ((cs5) : List Value), u.oneCell' = true) ∧ ∀ h22 : Heap, h22 = setr h21 b4 0 (cs5) →
∃ J5 : Bool → Heap → Prop, (
bcase (!(t3 == t4)) (
J5 true h22) (
∃ cs6 : List Value, row h22 b3 0 5 = some cs6 ∧
∃ cs7 : List Value, row h22 b4 0 5 = some cs7 ∧
Runs Try.prog 24 #[(.agg (cs6).toArray), (.agg (cs7).toArray)] h22 fun r12 h23 =>
∃ t5 : Bool,
r12 = (.bool t5) ∧
J5 (!t5) h23)) ∧ ∀ _ : Env,
∀ (x6 : Bool) (h24 : Heap), J5 x6 h24 →
bcase x6 (
Post (.bool false) h24) (
Runs Try.prog 29 #[(.slice s1 s1l s1c), (.slice s2 s2l s2c)] h24 fun r13 h25 =>
∃ t6 : Bool,
r13 = (.bool t6) ∧
bcase (!t6) (
Post (.bool false) h25) (
J4 (now_1 + n6) h25))) (
∃ n7 : Int, cell h12 b2 1 = some (.int .i64 n7) ∧
Runs Try.prog 30 #[(.pointer p1), (.int .i64 n7)] h12 fun r14 h26 =>
∃ cs8 : List Value,
∃ t7 : Bool,
r14 = (.tuple #[(.agg (cs8).toArray), (.bool t7)]) ∧
∀ (b5 : Nat) (h27 : Heap), b5 = h26.size → h27 = h26.push (.cells ([(.int .i64 (0 : Int)), (.int .u32 (0 : Int)), (.int .i64 (0 : Int)), (.int .i64 (0 : Int)), (.slice none 0 0)] : List Value).toArray 35) →
(((cs8)).length = 5 ∧ wrs h27 b5 0 5 ∧ ∀ u ∈ ((cs8) : List Value), u.oneCell' = true) ∧ ∀ h28 : Heap, h28 = setr h27 b5 0 (cs8) →
∃ n8 : Int, cell h28 b2 1 = some (.int .i64 n8) ∧
Runs Try.prog 31 #[(.pointer p2), (.int .i64 n8)] h28 fun r15 h29 =>
∃ cs9 : List Value,
∃ t8 : Bool,
r15 = (.tuple #[(.agg (cs9).toArray), (.bool t8)]) ∧
∀ (b6 : Nat) (h30 : Heap), b6 = h29.size → h30 = h29.push (.cells ([(.int .i64 (0 : Int)), (.int .u32 (0 : Int)), (.int .i64 (0 : Int)), (.int .i64 (0 : Int)), (.slice none 0 0)] : List Value).toArray 35) →
(((cs9)).length = 5 ∧ wrs h30 b6 0 5 ∧ ∀ u ∈ ((cs9) : List Value), u.oneCell' = true) ∧ ∀ h31 : Heap, h31 = setr h30 b6 0 (cs9) →
bcase (!(t7 == t8)) (
Post (.bool false) h31) (
∃ cs10 : List Value, row h31 b5 0 5 = some cs10 ∧
∃ cs11 : List Value, row h31 b6 0 5 = some cs11 ∧
Runs Try.prog 24 #[(.agg (cs10).toArray), (.agg (cs11).toArray)] h31 fun r16 h32 =>
∃ t9 : Bool,
r16 = (.bool t9) ∧
bcase (!t9) (
Post (.bool false) h32) (
J4 now_1 h32))))) ∧ ∀ _ : Env,
∀ (now_2 : Int) (h33 : Heap), J4 now_2 h33 →
Runs Try.prog 32 #[(.pointer p1)] h33 fun r17 h34 =>
∃ n9 : Int,
∃ n10 : Int,
r17 = (.tuple #[(.int .i64 n9), (.int .i64 n10)]) ∧
Runs Try.prog 33 #[(.pointer p2)] h34 fun r18 h35 =>
∃ n11 : Int,
∃ n12 : Int,
r18 = (.tuple #[(.int .i64 n11), (.int .i64 n12)]) ∧
∃ n13 : Int, cell h35 b2 1 = some (.int .i64 n13) ∧
Runs Try.prog 34 #[(.pointer p1), (.int .i64 n13)] h35 fun r19 h36 =>
∃ cs12 : List Value,
∃ t10 : Bool,
r19 = (.tuple #[(.agg (cs12).toArray), (.bool t10)]) ∧
∀ (b7 : Nat) (h37 : Heap), b7 = h36.size → h37 = h36.push (.cells ([(.int .i64 (0 : Int)), (.int .u32 (0 : Int)), (.int .i64 (0 : Int)), (.int .i64 (0 : Int)), (.slice none 0 0)] : List Value).toArray 35) →
(((cs12)).length = 5 ∧ wrs h37 b7 0 5 ∧ ∀ u ∈ ((cs12) : List Value), u.oneCell' = true) ∧ ∀ h38 : Heap, h38 = setr h37 b7 0 (cs12) →
∃ n14 : Int, cell h38 b2 1 = some (.int .i64 n14) ∧
Runs Try.prog 35 #[(.pointer p2), (.int .i64 n14)] h38 fun r20 h39 =>
∃ cs13 : List Value,
∃ t11 : Bool,
r20 = (.tuple #[(.agg (cs13).toArray), (.bool t11)]) ∧
∀ (b8 : Nat) (h40 : Heap), b8 = h39.size → h40 = h39.push (.cells ([(.int .i64 (0 : Int)), (.int .u32 (0 : Int)), (.int .i64 (0 : Int)), (.int .i64 (0 : Int)), (.slice none 0 0)] : List Value).toArray 35) →
(((cs13)).length = 5 ∧ wrs h40 b8 0 5 ∧ ∀ u ∈ ((cs13) : List Value), u.oneCell' = true) ∧ ∀ h41 : Heap, h41 = setr h40 b8 0 (cs13) →
∃ J6 : Bool → Heap → Prop, (
bcase (!decide (n9 = n11)) (
J6 true h41) (
J6 (!decide (n10 = n12)) h41)) ∧ ∀ _ : Env,
∀ (x8 : Bool) (h42 : Heap), J6 x8 h42 →
∃ J7 : Bool → Heap → Prop, (
bcase x8 (
J7 true h42) (
J7 (!(t10 == t11)) h42)) ∧ ∀ _ : Env,
∀ (x9 : Bool) (h43 : Heap), J7 x9 h43 →
∃ J8 : Bool → Heap → Prop, (
bcase x9 (
J8 true h43) (
∃ cs14 : List Value, row h43 b7 0 5 = some cs14 ∧
∃ cs15 : List Value, row h43 b8 0 5 = some cs15 ∧
Runs Try.prog 24 #[(.agg (cs14).toArray), (.agg (cs15).toArray)] h43 fun r21 h44 =>
∃ t12 : Bool,
r21 = (.bool t12) ∧
J8 (!t12) h44)) ∧ ∀ _ : Env,
∀ (x10 : Bool) (h45 : Heap), J8 x10 h45 →
∃ J9 : Bool → Heap → Prop, (
bcase x10 (
J9 true h45) (
Runs Try.prog 19 #[(.pointer p1)] h45 fun r22 h46 =>
∃ n15 : Int,
r22 = (.int .i64 n15) ∧
Runs Try.prog 36 #[(.pointer p2)] h46 fun r23 h47 =>
∃ n16 : Int,
r23 = (.int .i64 n16) ∧
J9 (!decide (n15 = n16)) h47)) ∧ ∀ _ : Env,
∀ (x11 : Bool) (h48 : Heap), J9 x11 h48 →
∃ J10 : Bool → Heap → Prop, (
bcase x11 (
J10 true h48) (
Runs Try.prog 20 #[(.pointer p1)] h48 fun r24 h49 =>
∃ n17 : Int,
r24 = (.int .i64 n17) ∧
Runs Try.prog 37 #[(.pointer p2)] h49 fun r25 h50 =>
∃ n18 : Int,
r25 = (.int .i64 n18) ∧
J10 (!decide (n17 = n18)) h50)) ∧ ∀ _ : Env,
∀ (x12 : Bool) (h51 : Heap), J10 x12 h51 →
∃ J11 : Bool → Heap → Prop, (
bcase x12 (
J11 true h51) (
Runs Try.prog 22 #[(.pointer p1)] h51 fun r26 h52 =>
∃ (s3 : Option Addr) (s3l s3c : Nat),
r26 = (.slice s3 s3l s3c) ∧
Runs Try.prog 38 #[(.pointer p2)] h52 fun r27 h53 =>
∃ (s4 : Option Addr) (s4l s4c : Nat),
r27 = (.slice s4 s4l s4c) ∧
Runs Try.prog 29 #[(.slice s3 s3l s3c), (.slice s4 s4l s4c)] h53 fun r28 h54 =>
∃ t13 : Bool,
r28 = (.bool t13) ∧
J11 (!t13) h54)) ∧ ∀ _ : Env,
∀ (x13 : Bool) (h55 : Heap), J11 x13 h55 →
bcase x13 (
Post (.bool false) h55) (
Runs Try.prog 19 #[(.pointer p3)] h55 fun r29 h56 =>
∃ n19 : Int,
r29 = (.int .i64 n19) ∧
bcase (!decide (n19 = n1)) (
Post (.bool false) h56) (
fits .i64 (i_1 + (1 : Int)) ∧
I1 now_2 (i_1 + (1 : Int)) h56 ∧ m1 now_2 (i_1 + (1 : Int)) h56 < m1 now_1 i_1 h8))) (
Post (.bool t1) h8)))))) :
    Runs Try.prog 7 #[(.int .u32 seed), (.int .i64 target), (.int .i64 interval), (.slice l lL lC)] h0 Post :=
  runs_of (args := [(.int .u32 seed), (.int .i64 target), (.int .i64 interval), (.slice l lL lC)]) (fun n => ⟨true, false⟩) (fun n => match n with | 0 => [(12, .int .i64), (13, .int .i64)] | _ => []) (fun n => match n with | 32 => some [(12, .int .i64)] | _ => none) (fun n => match n with | 4 => [(7, [(44, .bool)]), (4, [(48, .bool)]), (4, [(52, .bool)])] | 30 => [(9, [(150, .bool)])] | 36 => [(8, [(188, .bool)]), (5, [(193, .bool)]), (6, [(199, .bool)]), (7, [(206, .bool)]), (7, [(213, .bool)]), (8, [(221, .bool)])] | _ => []) Try.func7 rfl (by rw [Try.ntmps7]; simp) (Eq.mp (by kernel_rfl) H)
end Go.Proofs.Yteojoiglffkbmaa
