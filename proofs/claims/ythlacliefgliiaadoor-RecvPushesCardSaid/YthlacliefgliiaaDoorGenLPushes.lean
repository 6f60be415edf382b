/- The conditions for calls of functions of the program, in plain form: written by a program (vcgen) off the elaborated code; each is the reckoner's own, by the kernel. -/
import Derived.Test.YthlacliefgliiaaDoorRows
import Derived.Test.YthlacliefgliiaaDoorVc
set_option linter.unusedVariables false
set_option maxRecDepth 100000
namespace Go.Proofs.YthlacliefgliiaaDoor
open Go.Vc
theorem vc_muezzinlaw24_RecvPushes (start : Int) (size : Int) (far : Int) (bits_ : Int) (h0 : Heap) (Post : Value → Heap → Prop) (H :
Runs Tryd.prog 9 #[] h0 fun r1 h1 =>
∃ t1 : Bool,
r1 = (.bool t1) ∧
bcase (!t1) (
Post (.bool false) h1) (
Runs Tryd.prog 13 #[(.int .i64 start), (.int .i64 (4096 : Int))] h1 fun r2 h2 =>
∃ n1 : Int,
r2 = (.int .i64 n1) ∧
Runs Tryd.prog 13 #[(.int .i64 size), (.int .i64 (20 : Int))] h2 fun r3 h3 =>
∃ n2 : Int,
r3 = (.int .i64 n2) ∧
fits .i64 (n2 + (4 : Int)) ∧
Runs Tryd.prog 13 #[(.int .i64 far), (.int .i64 (900 : Int))] h3 fun r4 h4 =>
∃ n3 : Int,
r4 = (.int .i64 n3) ∧
fits .i64 ((n2 + (4 : Int)) + n3) ∧
Runs Tryd.prog 11 #[] h4 fun r5 h5 =>
∃ cs1 : List Value,
r5 = (.agg (cs1).toArray) ∧
Runs Tryd.prog 12 #[] h5 fun r6 h6 =>
∃ cs2 : List Value,
r6 = (.agg (cs2).toArray) ∧
Runs Tryd.prog 10 #[(.agg (cs1).toArray), (.agg (cs2).toArray), (.int .i64 (n2 + (4 : Int)))] h6 fun r7 h7 =>
∃ p1 : Option Addr,
∃ v1 : Value,
r7 = (.tuple #[(.pointer p1), v1]) ∧
bcase (isNilAddr p1) (
Post (.bool false) h7) (
∃ t2 : Bool, ifeqH Tryd.prog h7 true (v1) (.nilIface) = some t2 ∧
bcase (!t2) (
Post (.bool false) h7) (
Runs Tryd.prog 11 #[] h7 fun r8 h8 =>
∃ cs3 : List Value,
r8 = (.agg (cs3).toArray) ∧
Runs Tryd.prog 12 #[] h8 fun r9 h9 =>
∃ cs4 : List Value,
r9 = (.agg (cs4).toArray) ∧
Runs Tryd.prog 12 #[] h9 fun r10 h10 =>
∃ cs5 : List Value,
r10 = (.agg (cs5).toArray) ∧
(cs3).length = 6 ∧
(cs4).length = 6 ∧
(cs5).length = 6 ∧
Runs Tryd.prog 25 #[(.agg (((cs3) ++ ((cs4) ++ ((cs5) ++ ([(.bool false), (.int .i64 (0 : Int)), (.int .i64 (0 : Int)), (.int .i64 (0 : Int)), (.int .i64 (0 : Int)), (.int .i64 n1), (.int .i64 (0 : Int))] : List Value))))).toArray)] h10 fun r11 h11 =>
∃ (s1 : Option Addr) (s1l s1c : Nat),
∃ n4 : Int,
r11 = (.tuple #[(.slice s1 s1l s1c), (.int .i64 n4)]) ∧
Runs Tryd.prog 24 #[(.pointer p1), (.slice s1 s1l s1c)] h11 fun r12 h12 =>
∃ (s2 : Option Addr) (s2l s2c : Nat),
∃ (s3 : Option Addr) (s3l s3c : Nat),
r12 = (.tuple #[(.slice s2 s2l s2c), (.slice s3 s3l s3c)]) ∧
∃ (I1 : Option Addr → Nat → Nat → Int → Heap → Prop) (m1 : Option Addr → Nat → Nat → Int → Heap → Nat), I1 none 0 0 (1 : Int) h12 ∧ ∀ _ : Env,
∀ (kept_1 : Option Addr) (kept_1l kept_1c : Nat) (k_1 : Int) (h13 : Heap), I1 kept_1 kept_1l kept_1c k_1 h13 →
bcase (decide (k_1 < (n2 + (4 : Int)))) (
fits .u64 k_1 ∧
(0 ≤ k_1 ∧ k_1 ≤ kbits .u64) ∧
bcase (decide ((bits .and .u64 (bits_ / (pow2 k_1)) (1 : Int)) = (1 : Int))) (
fits .u8 k_1 ∧
∀ (b1 : Nat) (h14 : Heap), b1 = h13.size → h14 = h13.push (.cells ([(.int .u8 k_1)] : List Value).toArray 5) →
fits .i64 (n1 + k_1) ∧
Runs Tryd.prog 15 #[(.agg #[(.int .i64 (0 : Int)), (.int .i64 (0 : Int)), (.int .i64 (0 : Int)), (.int .i64 (0 : Int)), (.bool false), (.bool false), (.int .u32 (0 : Int)), (.slice (some ⟨b1, 0, none⟩) 1 1)]), (.int .i64 (n1 + k_1))] h14 fun r13 h15 =>
∃ (s4 : Option Addr) (s4l s4c : Nat),
r13 = (.slice s4 s4l s4c) ∧
Runs Tryd.prog 14 #[(.pointer p1), (.bool false), (.slice s4 s4l s4c)] h15 fun r14 h16 =>
∃ (s5 : Option Addr) (s5l s5c : Nat),
∃ (s6 : Option Addr) (s6l s6c : Nat),
r14 = (.tuple #[(.slice s5 s5l s5c), (.slice s6 s6l s6c)]) ∧
bcase (!decide (((s5l : Nat) : Int) = (0 : Int))) (
Post (.bool false) h16) (
∀ (b2 : Nat) (h17 : Heap), b2 = h16.size → h17 = h16.push (.cells ([(.int .i64 k_1)] : List Value).toArray 3) →
∃ news1 : List Value, (row h17 b2 0 1 = some news1 ∧ ∀ u ∈ news1, u.oneCell' = true) ∧
appK h17 kept_1 kept_1l kept_1c 1 1 3 8 news1 fun (a1 : Option Addr) (cap1 : Nat) (h18 : Heap) =>
fits .i64 (k_1 + (1 : Int)) ∧
I1 a1 (kept_1l + 1) cap1 (k_1 + (1 : Int)) h18 ∧ m1 a1 (kept_1l + 1) cap1 (k_1 + (1 : Int)) h18 < m1 kept_1 kept_1l kept_1c k_1 h13)) (
fits .i64 (k_1 + (1 : Int)) ∧
I1 kept_1 kept_1l kept_1c (k_1 + (1 : Int)) h13 ∧ m1 kept_1 kept_1l kept_1c (k_1 + (1 : Int)) h13 < m1 kept_1 kept_1l kept_1c k_1 h13)) (
∀ (b3 : Nat) (h19 : Heap), b3 = h13.size → h19 = h13.push (.cells ([(.int .u8 (200 : Int))] : List Value).toArray 5) →
fits .i64 (n1 + ((n2 + (4 : Int)) + n3)) ∧
Runs Tryd.prog 15 #[(.agg #[(.int .i64 (0 : Int)), (.int .i64 (0 : Int)), (.int .i64 (0 : Int)), (.int .i64 (0 : Int)), (.bool false), (.bool false), (.int .u32 (0 : Int)), (.slice (some ⟨b3, 0, none⟩) 1 1)]), (.int .i64 (n1 + ((n2 + (4 : Int)) + n3)))] h19 fun r15 h20 =>
∃ (s7 : Option Addr) (s7l s7c : Nat),
r15 = (.slice s7 s7l s7c) ∧
Runs Tryd.prog 14 #[(.pointer p1), (.bool false), (.slice s7 s7l s7c)] h20 fun r16 h21 =>
∃ (s8 : Option Addr) (s8l s8c : Nat),
∃ (s9 : Option Addr) (s9l s9c : Nat),
r16 = (.tuple #[(.slice s8 s8l s8c), (.slice s9 s9l s9c)]) ∧
fits .i64 (((n2 + (4 : Int)) + n3) - (n2 + (4 : Int))) ∧
fits .i64 ((((n2 + (4 : Int)) + n3) - (n2 + (4 : Int))) + (1 : Int)) ∧
Runs Tryd.prog 29 #[(.slice kept_1 kept_1l kept_1c), (.int .i64 ((((n2 + (4 : Int)) + n3) - (n2 + (4 : Int))) + (1 : Int)))] h21 fun r17 h22 =>
∃ n5 : Int,
r17 = (.int .i64 n5) ∧
bcase (decide (((s8l : Nat) : Int) < n5)) (
Post (.bool false) h22) (
bcase (!decide (((s9l : Nat) : Int) = (28 : Int))) (
Post (.bool false) h22) (
∃ (I2 : Int → Heap → Prop) (m2 : Int → Heap → Nat), I2 (0 : Int) h22 ∧ ∀ _ : Env,
∀ (i_1 : Int) (h23 : Heap), I2 i_1 h23 →
bcase (decide (i_1 < ((s8l : Nat) : Int))) (
bcase (decide (i_1 < ((kept_1l : Nat) : Int))) (
(0 ≤ i_1 ∧ i_1 < ((s8l : Nat) : Int)) ∧
onAddr s8 fun b4 o1 =>
∃ (s10 : Option Addr) (s10l s10c : Nat), cell h23 b4 ((o1 + ((i_1).toNat * 24)) + 23) = some (.slice s10 s10l s10c) ∧
(0 ≤ (0 : Int) ∧ (0 : Int) < ((s10l : Nat) : Int)) ∧
onAddr s10 fun b5 o2 =>
∃ n6 : Int, cell h23 b5 o2 = some (.int .u8 n6) ∧
fits .i64 n6 ∧
(0 ≤ i_1 ∧ i_1 < ((kept_1l : Nat) : Int)) ∧
onAddr kept_1 fun b6 o3 =>
∃ n7 : Int, cell h23 b6 (o3 + (i_1).toNat) = some (.int .i64 n7) ∧
bcase (!decide (n6 = n7)) (
Post (.bool false) h23) (
fits .i64 (i_1 + (1 : Int)) ∧
I2 (i_1 + (1 : Int)) h23 ∧ m2 (i_1 + (1 : Int)) h23 < m2 i_1 h23)) (
fits .i64 (i_1 + (1 : Int)) ∧
I2 (i_1 + (1 : Int)) h23 ∧ m2 (i_1 + (1 : Int)) h23 < m2 i_1 h23)) (
Runs Tryd.prog 18 #[(.pointer p1), (.int .i64 (0 : Int))] h23 fun r18 h24 =>
∃ n8 : Int,
∃ n9 : Int,
∃ t3 : Bool,
r18 = (.tuple #[(.int .i64 n8), (.int .i64 n9), (.bool t3)]) ∧
∃ J1 : Bool → Heap → Prop, (
bcase t1 (
J1 t3 h24) (
J1 false h24)) ∧ ∀ _ : Env,
∀ (x4 : Bool) (h25 : Heap), J1 x4 h25 →
∃ J2 : Bool → Heap → Prop, (
bcase x4 (
J2 (decide (n9 = (n2 + (4 : Int)))) h25) (
J2 false h25)) ∧ ∀ _ : Env,
∀ (x5 : Bool) (h26 : Heap), J2 x5 h26 →
bcase x5 (
Runs Tryd.prog 27 #[(.int .i64 n1), (.int .i64 ((((n2 + (4 : Int)) + n3) - (n2 + (4 : Int))) + (1 : Int)))] h26 fun r19 h27 =>
∃ n10 : Int,
r19 = (.int .i64 n10) ∧
Runs Tryd.prog 26 #[(.int .i64 n10), (.int .i64 n8)] h27 fun r20 h28 =>
∃ n11 : Int,
r20 = (.int .i64 n11) ∧
Post (.bool (decide (n11 ≤ (n2 + (4 : Int))))) h28) (
Post (.bool false) h26))))))))) :
    Runs Tryd.prog 7 #[(.int .i64 start), (.int .i64 size), (.int .i64 far), (.int .u64 bits_)] h0 Post :=
  runs_of (args := [(.int .i64 start), (.int .i64 size), (.int .i64 far), (.int .u64 bits_)]) (fun n => ⟨true, false⟩) (fun n => match n with | 0 => [(14, .slice), (15, .int .i64)] | 2 => [(22, .int .i64)] | _ => []) (fun _ => none) (fun n => match n with | 32 => [(4, [(155, .bool)]), (5, [(160, .bool)])] | _ => []) Tryd.func7 rfl (by rw [Tryd.ntmps7]; simp) (Eq.mp (by kernel_rfl) H)

theorem vc_muezzinlaw24_below (l : Option Addr) (lL lC : Nat) (w : Int) (h0 : Heap) (Post : Value → Heap → Prop) (H :
∃ (I1 : Int → Int → Heap → Prop) (m1 : Int → Int → Heap → Nat), I1 (0 : Int) (0 : Int) h0 ∧ ∀ _ : Env,
∀ (n_1 : Int) (i_1 : Int) (h1 : Heap), I1 n_1 i_1 h1 →
bcase (decide (i_1 < ((lL : Nat) : Int))) (
(0 ≤ i_1 ∧ i_1 < ((lL : Nat) : Int)) ∧
onAddr l fun b1 o1 =>
∃ n1 : Int, cell h1 b1 (o1 + (i_1).toNat) = some (.int .i64 n1) ∧
bcase (decide (n1 < w)) (
fits .i64 (n_1 + (1 : Int)) ∧
fits .i64 (i_1 + (1 : Int)) ∧
I1 (n_1 + (1 : Int)) (i_1 + (1 : Int)) h1 ∧ m1 (n_1 + (1 : Int)) (i_1 + (1 : Int)) h1 < m1 n_1 i_1 h1) (
fits .i64 (i_1 + (1 : Int)) ∧
I1 n_1 (i_1 + (1 : Int)) h1 ∧ m1 n_1 (i_1 + (1 : Int)) h1 < m1 n_1 i_1 h1)) (
Post (.int .i64 n_1) h1)) :
    Runs Tryd.prog 29 #[(.slice l lL lC), (.int .i64 w)] h0 Post :=
  runs_of (args := [(.slice l lL lC), (.int .i64 w)]) (fun n => ⟨true, false⟩) (fun n => match n with | 0 => [(5, .int .i64), (6, .int .i64)] | _ => []) (fun _ => none) (fun _ => []) Tryd.func29 rfl (by rw [Tryd.ntmps29]; simp) (Eq.mp (by kernel_rfl) H)
end Go.Proofs.YthlacliefgliiaaDoor
