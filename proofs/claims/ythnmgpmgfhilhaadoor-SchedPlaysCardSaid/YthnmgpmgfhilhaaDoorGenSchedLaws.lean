/- The conditions for calls of functions of the program, in plain form: written by a program (vcgen) off the elaborated code; each is the reckoner's own, by the kernel. -/
import Derived.Test.YthnmgpmgfhilhaaDoorRows
import Derived.Test.YthnmgpmgfhilhaaDoorVc
set_option linter.unusedVariables false
set_option maxRecDepth 100000
namespace Go.Proofs.YthnmgpmgfhilhaaDoor
open Go.Vc
theorem vc_muezzinlaw20_first  (h0 : Heap) (Post : Value → Heap → Prop) (H :
Runs Tryd.prog 10 #[] h0 fun r1 h1 =>
∃ p1 : Option Addr,
r1 = (.pointer p1) ∧
bcase (isNilAddr p1) (
Post (.bool false) h1) (
Runs Tryd.prog 13 #[(.pointer p1)] h1 fun r2 h2 =>
∃ (s1 : Option Addr) (s1l s1c : Nat),
r2 = (.slice s1 s1l s1c) ∧
Runs Tryd.prog 11 #[(.pointer p1), (.int .i64 (3 : Int)), (.int .i64 (10 : Int))] h2 fun r3 h3 =>
∃ v1 : Value,
r3 = v1 ∧
Runs Tryd.prog 12 #[(.pointer p1), (.int .i64 (3 : Int)), (.bool true)] h3 fun r4 h4 =>
∃ v2 : Value,
r4 = v2 ∧
∃ J1 : Bool → Heap → Prop, (
bcase (decide (((s1l : Nat) : Int) = (0 : Int))) (
∃ t1 : Bool, ifeqH Tryd.prog h4 true (v1) (.nilIface) = some t1 ∧
J1 t1 h4) (
J1 false h4)) ∧ ∀ _ : Env,
∀ (x1 : Bool) (h5 : Heap), J1 x1 h5 →
∃ J2 : Bool → Heap → Prop, (
bcase x1 (
∃ t2 : Bool, ifeqH Tryd.prog h5 true (v2) (.nilIface) = some t2 ∧
J2 t2 h5) (
J2 false h5)) ∧ ∀ _ : Env,
∀ (x2 : Bool) (h6 : Heap), J2 x2 h6 →
bcase x2 (
Runs Tryd.prog 13 #[(.pointer p1)] h6 fun r5 h7 =>
∃ (s2 : Option Addr) (s2l s2c : Nat),
r5 = (.slice s2 s2l s2c) ∧
∀ (b1 : Nat) (h8 : Heap), b1 = h7.size → h8 = h7.push (.cells ([(.int .i64 (3 : Int))] : List Value).toArray 3) →
Runs Tryd.prog 17 #[(.slice s2 s2l s2c), (.slice (some ⟨b1, 0, none⟩) 1 1)] h8 fun r6 h9 =>
∃ t3 : Bool,
r6 = (.bool t3) ∧
Post (.bool t3) h9) (
Post (.bool false) h6))) :
    Runs Tryd.prog 8 #[] h0 Post :=
  runs_of (args := []) (fun n => ⟨true, false⟩) (fun _ => []) (fun _ => none) (fun n => match n with | 7 => [(6, [(20, .bool)]), (4, [(24, .bool)])] | _ => []) Tryd.func8 rfl (by rw [Tryd.ntmps8]; simp) (Eq.mp (by kernel_rfl) H)

theorem vc_muezzinlaw20_SchedFair (weights : Option Addr) (weightsL weightsC : Nat) (airs : Option Addr) (airsL airsC : Nat) (turns : Int) (h0 : Heap) (Post : Value → Heap → Prop) (H :
Runs Tryd.prog 8 #[] h0 fun r1 h1 =>
∃ t1 : Bool,
r1 = (.bool t1) ∧
bcase (!t1) (
Post (.bool false) h1) (
∃ J1 : Bool → Heap → Prop, (
bcase (decide (((weightsL : Nat) : Int) < (2 : Int))) (
J1 true h1) (
J1 (decide ((8 : Int) < ((weightsL : Nat) : Int))) h1)) ∧ ∀ _ : Env,
∀ (x1 : Bool) (h2 : Heap), J1 x1 h2 →
∃ J2 : Bool → Heap → Prop, (
bcase x1 (
J2 true h2) (
J2 (decide (((airsL : Nat) : Int) = (0 : Int))) h2)) ∧ ∀ _ : Env,
∀ (x2 : Bool) (h3 : Heap), J2 x2 h3 →
bcase x2 (
Post (.bool t1) h3) (
bcase (decide ((50 : Int) < ((airsL : Nat) : Int))) (
Post (.bool t1) h3) (
Runs Tryd.prog 9 #[(.int .i64 turns), (.int .i64 (200 : Int))] h3 fun r2 h4 =>
∃ n1 : Int,
r2 = (.int .i64 n1) ∧
Runs Tryd.prog 10 #[] h4 fun r3 h5 =>
∃ p1 : Option Addr,
r3 = (.pointer p1) ∧
bcase (isNilAddr p1) (
Post (.bool false) h5) (
fits .i64 (((weightsL : Nat) : Int) + (1 : Int)) ∧
(0 ≤ (((weightsL : Nat) : Int) + (1 : Int)) ∧ (((weightsL : Nat) : Int) + (1 : Int)) ≤ (((weightsL : Nat) : Int) + (1 : Int)) ∧ ((8 : Nat) : Int) * (((weightsL : Nat) : Int) + (1 : Int)) ≤ 281474976710656 ∧ (((weightsL : Nat) : Int) + (1 : Int)) ≤ 9223372036854775807) ∧ ∀ (b1 : Nat) (h6 : Heap), b1 = h5.size → h6 = h5.push (.cells (joinL (List.replicate ((((weightsL : Nat) : Int) + (1 : Int))).toNat [(.int .i64 (0 : Int))])).toArray 2) →
fits .i64 (((weightsL : Nat) : Int) + (1 : Int)) ∧
(0 ≤ (((weightsL : Nat) : Int) + (1 : Int)) ∧ (((weightsL : Nat) : Int) + (1 : Int)) ≤ (((weightsL : Nat) : Int) + (1 : Int)) ∧ ((8 : Nat) : Int) * (((weightsL : Nat) : Int) + (1 : Int)) ≤ 281474976710656 ∧ (((weightsL : Nat) : Int) + (1 : Int)) ≤ 9223372036854775807) ∧ ∀ (b2 : Nat) (h7 : Heap), b2 = h6.size → h7 = h6.push (.cells (joinL (List.replicate ((((weightsL : Nat) : Int) + (1 : Int))).toNat [(.int .i64 (0 : Int))])).toArray 2) →
∃ (I1 : Int → Heap → Prop) (m1 : Int → Heap → Nat), I1 (0 : Int) h7 ∧ ∀ _ : Env,
∀ (i_1 : Int) (h8 : Heap), I1 i_1 h8 →
bcase (decide (i_1 < ((weightsL : Nat) : Int))) (
fits .i64 (i_1 + (1 : Int)) ∧
(0 ≤ i_1 ∧ i_1 < ((weightsL : Nat) : Int)) ∧
onAddr weights fun b3 o1 =>
∃ n2 : Int, cell h8 b3 (o1 + (i_1).toNat) = some (.int .i64 n2) ∧
Runs Tryd.prog 9 #[(.int .i64 n2), (.int .i64 (100 : Int))] h8 fun r4 h9 =>
∃ n3 : Int,
r4 = (.int .i64 n3) ∧
fits .i64 (n3 + (1 : Int)) ∧
(0 ≤ (i_1 + (1 : Int)) ∧ (i_1 + (1 : Int)) < ((((((weightsL : Nat) : Int) + (1 : Int))).toNat : Nat) : Int)) ∧
wr h9 b1 (0 + ((i_1 + (1 : Int))).toNat) ∧ ∀ h10 : Heap, h10 = setc h9 b1 (0 + ((i_1 + (1 : Int))).toNat) (.int .i64 (n3 + (1 : Int))) →
fits .i64 (i_1 + (1 : Int)) ∧
fits .i64 (i_1 + (1 : Int)) ∧
(0 ≤ (i_1 + (1 : Int)) ∧ (i_1 + (1 : Int)) < ((((((weightsL : Nat) : Int) + (1 : Int))).toNat : Nat) : Int)) ∧
∃ n4 : Int, cell h10 b1 (0 + ((i_1 + (1 : Int))).toNat) = some (.int .i64 n4) ∧
Runs Tryd.prog 11 #[(.pointer p1), (.int .i64 (i_1 + (1 : Int))), (.int .i64 n4)] h10 fun r5 h11 =>
∃ v1 : Value,
r5 = v1 ∧
∃ t2 : Bool, ifeqH Tryd.prog h11 true (v1) (.nilIface) = some t2 ∧
bcase (!t2) (
Post (.bool false) h11) (
fits .i64 (i_1 + (1 : Int)) ∧
Runs Tryd.prog 12 #[(.pointer p1), (.int .i64 (i_1 + (1 : Int))), (.bool true)] h11 fun r6 h12 =>
∃ v2 : Value,
r6 = v2 ∧
∃ t3 : Bool, ifeqH Tryd.prog h12 true (v2) (.nilIface) = some t3 ∧
bcase (!t3) (
Post (.bool false) h12) (
fits .i64 (i_1 + (1 : Int)) ∧
I1 (i_1 + (1 : Int)) h12 ∧ m1 (i_1 + (1 : Int)) h12 < m1 i_1 h8))) (
∃ (I2 : Int → Heap → Prop) (m2 : Int → Heap → Nat), I2 (0 : Int) h8 ∧ ∀ _ : Env,
∀ (t_1 : Int) (h13 : Heap), I2 t_1 h13 →
bcase (decide (t_1 < n1)) (
Runs Tryd.prog 13 #[(.pointer p1)] h13 fun r7 h14 =>
∃ (s1 : Option Addr) (s1l s1c : Nat),
r7 = (.slice s1 s1l s1c) ∧
bcase (!decide (((s1l : Nat) : Int) = ((weightsL : Nat) : Int))) (
Post (.bool false) h14) (
(0 ≤ t_1 ∧ 0 < ((airsL : Nat) : Int)) ∧
(0 ≤ (t_1 % ((airsL : Nat) : Int)) ∧ (t_1 % ((airsL : Nat) : Int)) < ((airsL : Nat) : Int)) ∧
onAddr airs fun b4 o2 =>
∃ n5 : Int, cell h14 b4 (o2 + ((t_1 % ((airsL : Nat) : Int))).toNat) = some (.int .i64 n5) ∧
Runs Tryd.prog 9 #[(.int .i64 n5), (.int .i64 (5000 : Int))] h14 fun r8 h15 =>
∃ n6 : Int,
r8 = (.int .i64 n6) ∧
fits .i64 (n6 + (1 : Int)) ∧
(0 ≤ (0 : Int) ∧ (0 : Int) < ((s1l : Nat) : Int)) ∧
onAddr s1 fun b5 o3 =>
∃ n7 : Int, cell h15 b5 o3 = some (.int .i64 n7) ∧
Runs Tryd.prog 14 #[(.pointer p1), (.int .i64 n7), (.int .i64 (n6 + (1 : Int)))] h15 fun r9 h16 =>
∃ v3 : Value,
r9 = v3 ∧
∃ t4 : Bool, ifeqH Tryd.prog h16 true (v3) (.nilIface) = some t4 ∧
bcase (!t4) (
Post (.bool false) h16) (
(0 ≤ (0 : Int) ∧ (0 : Int) < ((s1l : Nat) : Int)) ∧
onAddr s1 fun b6 o4 =>
∃ n8 : Int, cell h16 b6 o4 = some (.int .i64 n8) ∧
(0 ≤ (0 : Int) ∧ (0 : Int) < ((s1l : Nat) : Int)) ∧
onAddr s1 fun b7 o5 =>
∃ n9 : Int, cell h16 b7 o5 = some (.int .i64 n9) ∧
(0 ≤ n9 ∧ n9 < ((((((weightsL : Nat) : Int) + (1 : Int))).toNat : Nat) : Int)) ∧
∃ n10 : Int, cell h16 b2 (0 + (n9).toNat) = some (.int .i64 n10) ∧
fits .i64 (n10 + (n6 + (1 : Int))) ∧
(0 ≤ n8 ∧ n8 < ((((((weightsL : Nat) : Int) + (1 : Int))).toNat : Nat) : Int)) ∧
wr h16 b2 (0 + (n8).toNat) ∧ ∀ h17 : Heap, h17 = setc h16 b2 (0 + (n8).toNat) (.int .i64 (n10 + (n6 + (1 : Int)))) →
fits .i64 (t_1 + (1 : Int)) ∧
I2 (t_1 + (1 : Int)) h17 ∧ m2 (t_1 + (1 : Int)) h17 < m2 t_1 h13))) (
∃ (I3 : Int → Heap → Prop) (m3 : Int → Heap → Nat), I3 (1 : Int) h13 ∧ ∀ _ : Env,
∀ (i_2 : Int) (h18 : Heap), I3 i_2 h18 →
bcase (decide (i_2 ≤ ((weightsL : Nat) : Int))) (
∃ (I4 : Int → Heap → Prop) (m4 : Int → Heap → Nat), I4 (1 : Int) h18 ∧ ∀ _ : Env,
∀ (k_1 : Int) (h19 : Heap), I4 k_1 h19 →
bcase (decide (k_1 ≤ ((weightsL : Nat) : Int))) (
(0 ≤ i_2 ∧ i_2 < ((((((weightsL : Nat) : Int) + (1 : Int))).toNat : Nat) : Int)) ∧
∃ n11 : Int, cell h19 b2 (0 + (i_2).toNat) = some (.int .i64 n11) ∧
(0 ≤ k_1 ∧ k_1 < ((((((weightsL : Nat) : Int) + (1 : Int))).toNat : Nat) : Int)) ∧
∃ n12 : Int, cell h19 b1 (0 + (k_1).toNat) = some (.int .i64 n12) ∧
fits .i64 (n11 * n12) ∧
(0 ≤ k_1 ∧ k_1 < ((((((weightsL : Nat) : Int) + (1 : Int))).toNat : Nat) : Int)) ∧
∃ n13 : Int, cell h19 b2 (0 + (k_1).toNat) = some (.int .i64 n13) ∧
(0 ≤ i_2 ∧ i_2 < ((((((weightsL : Nat) : Int) + (1 : Int))).toNat : Nat) : Int)) ∧
∃ n14 : Int, cell h19 b1 (0 + (i_2).toNat) = some (.int .i64 n14) ∧
fits .i64 (n13 * n14) ∧
fits .i64 ((n11 * n12) - (n13 * n14)) ∧
(0 ≤ k_1 ∧ k_1 < ((((((weightsL : Nat) : Int) + (1 : Int))).toNat : Nat) : Int)) ∧
∃ n15 : Int, cell h19 b1 (0 + (k_1).toNat) = some (.int .i64 n15) ∧
fits .i64 ((5000 : Int) * n15) ∧
(0 ≤ i_2 ∧ i_2 < ((((((weightsL : Nat) : Int) + (1 : Int))).toNat : Nat) : Int)) ∧
∃ n16 : Int, cell h19 b1 (0 + (i_2).toNat) = some (.int .i64 n16) ∧
fits .i64 (n1 * n16) ∧
(0 ≤ k_1 ∧ k_1 < ((((((weightsL : Nat) : Int) + (1 : Int))).toNat : Nat) : Int)) ∧
∃ n17 : Int, cell h19 b1 (0 + (k_1).toNat) = some (.int .i64 n17) ∧
fits .i64 ((n1 * n16) * n17) ∧
(0 ≤ ((n1 * n16) * n17) ∧ 0 < (10000 : Int) ∧ fits .i64 (((n1 * n16) * n17) / (10000 : Int))) ∧
fits .i64 (((5000 : Int) * n15) + (((n1 * n16) * n17) / (10000 : Int))) ∧
(0 ≤ i_2 ∧ i_2 < ((((((weightsL : Nat) : Int) + (1 : Int))).toNat : Nat) : Int)) ∧
∃ n18 : Int, cell h19 b1 (0 + (i_2).toNat) = some (.int .i64 n18) ∧
(0 ≤ k_1 ∧ k_1 < ((((((weightsL : Nat) : Int) + (1 : Int))).toNat : Nat) : Int)) ∧
∃ n19 : Int, cell h19 b1 (0 + (k_1).toNat) = some (.int .i64 n19) ∧
fits .i64 (n18 * n19) ∧
fits .i64 ((((5000 : Int) * n15) + (((n1 * n16) * n17) / (10000 : Int))) + (n18 * n19)) ∧
bcase (decide (((((5000 : Int) * n15) + (((n1 * n16) * n17) / (10000 : Int))) + (n18 * n19)) < ((n11 * n12) - (n13 * n14)))) (
Post (.bool false) h19) (
fits .i64 (k_1 + (1 : Int)) ∧
I4 (k_1 + (1 : Int)) h19 ∧ m4 (k_1 + (1 : Int)) h19 < m4 k_1 h19)) (
fits .i64 (i_2 + (1 : Int)) ∧
I3 (i_2 + (1 : Int)) h19 ∧ m3 (i_2 + (1 : Int)) h19 < m3 i_2 h18)) (
Post (.bool t1) h18)))))))) :
    Runs Tryd.prog 3 #[(.slice weights weightsL weightsC), (.slice airs airsL airsC), (.int .i64 turns)] h0 Post :=
  runs_of (args := [(.slice weights weightsL weightsC), (.slice airs airsL airsC), (.int .i64 turns)]) (fun n => ⟨true, false⟩) (fun n => match n with | 0 => [(12, .int .i64)] | 2 => [(13, .int .i64)] | 4 => [(16, .int .i64)] | 6 => [(17, .int .i64)] | _ => []) (fun _ => none) (fun n => match n with | 4 => [(8, [(28, .bool)]), (5, [(33, .bool)])] | _ => []) Tryd.func3 rfl (by rw [Tryd.ntmps3]; simp) (Eq.mp (by kernel_rfl) H)

theorem vc_muezzinlaw20_SchedComes (a : Int) (b : Int) (c : Int) (h0 : Heap) (Post : Value → Heap → Prop) (H :
Runs Tryd.prog 8 #[] h0 fun r1 h1 =>
∃ t1 : Bool,
r1 = (.bool t1) ∧
bcase (!t1) (
Post (.bool false) h1) (
Runs Tryd.prog 9 #[(.int .i64 a), (.int .i64 (1000000 : Int))] h1 fun r2 h2 =>
∃ n1 : Int,
r2 = (.int .i64 n1) ∧
Runs Tryd.prog 9 #[(.int .i64 b), (.int .i64 (1000000 : Int))] h2 fun r3 h3 =>
∃ n2 : Int,
r3 = (.int .i64 n2) ∧
Runs Tryd.prog 9 #[(.int .i64 c), (.int .i64 (1000000 : Int))] h3 fun r4 h4 =>
∃ n3 : Int,
r4 = (.int .i64 n3) ∧
Runs Tryd.prog 10 #[] h4 fun r5 h5 =>
∃ p1 : Option Addr,
r5 = (.pointer p1) ∧
bcase (isNilAddr p1) (
Post (.bool false) h5) (
∃ (I1 : Int → Heap → Prop) (m1 : Int → Heap → Nat), I1 (1 : Int) h5 ∧ ∀ _ : Env,
∀ (i_1 : Int) (h6 : Heap), I1 i_1 h6 →
bcase (decide (i_1 ≤ (3 : Int))) (
Runs Tryd.prog 11 #[(.pointer p1), (.int .i64 i_1), (.int .i64 (100 : Int))] h6 fun r6 h7 =>
∃ v1 : Value,
r6 = v1 ∧
∃ t2 : Bool, ifeqH Tryd.prog h7 true (v1) (.nilIface) = some t2 ∧
bcase (!t2) (
Post (.bool false) h7) (
Runs Tryd.prog 12 #[(.pointer p1), (.int .i64 i_1), (.bool (decide (i_1 < (3 : Int))))] h7 fun r7 h8 =>
∃ v2 : Value,
r7 = v2 ∧
∃ t3 : Bool, ifeqH Tryd.prog h8 true (v2) (.nilIface) = some t3 ∧
bcase (!t3) (
Post (.bool false) h8) (
fits .i64 (i_1 + (1 : Int)) ∧
I1 (i_1 + (1 : Int)) h8 ∧ m1 (i_1 + (1 : Int)) h8 < m1 i_1 h6))) (
∃ J1 : Bool → Heap → Prop, (
Runs Tryd.prog 14 #[(.pointer p1), (.int .i64 (1 : Int)), (.int .i64 n1)] h6 fun r8 h9 =>
∃ v3 : Value,
r8 = v3 ∧
∃ t4 : Bool, ifeqH Tryd.prog h9 true (v3) (.nilIface) = some t4 ∧
bcase (!t4) (
J1 true h9) (
Runs Tryd.prog 14 #[(.pointer p1), (.int .i64 (2 : Int)), (.int .i64 n2)] h9 fun r9 h10 =>
∃ v4 : Value,
r9 = v4 ∧
∃ t5 : Bool, ifeqH Tryd.prog h10 true (v4) (.nilIface) = some t5 ∧
J1 (!t5) h10)) ∧ ∀ _ : Env,
∀ (x2 : Bool) (h11 : Heap), J1 x2 h11 →
bcase x2 (
Post (.bool false) h11) (
Runs Tryd.prog 14 #[(.pointer p1), (.int .i64 (3 : Int)), (.int .i64 n3)] h11 fun r10 h12 =>
∃ v5 : Value,
r10 = v5 ∧
∃ t6 : Bool, ifeqH Tryd.prog h12 true (v5) (.nilIface) = some t6 ∧
bcase (!t6) (
Post (.bool false) h12) (
Runs Tryd.prog 12 #[(.pointer p1), (.int .i64 (3 : Int)), (.bool true)] h12 fun r11 h13 =>
∃ v6 : Value,
r11 = v6 ∧
Runs Tryd.prog 15 #[(.pointer p1), (.int .i64 (3 : Int))] h13 fun r12 h14 =>
∃ n4 : Int,
∃ t7 : Bool,
r12 = (.tuple #[(.int .i64 n4), (.bool t7)]) ∧
Runs Tryd.prog 12 #[(.pointer p1), (.int .i64 (3 : Int)), (.bool true)] h14 fun r13 h15 =>
∃ v7 : Value,
r13 = v7 ∧
Runs Tryd.prog 15 #[(.pointer p1), (.int .i64 (3 : Int))] h15 fun r14 h16 =>
∃ n5 : Int,
∃ t8 : Bool,
r14 = (.tuple #[(.int .i64 n5), (.bool t8)]) ∧
∃ J2 : Bool → Heap → Prop, (
bcase t1 (
∃ t9 : Bool, ifeqH Tryd.prog h16 true (v6) (.nilIface) = some t9 ∧
J2 t9 h16) (
J2 false h16)) ∧ ∀ _ : Env,
∀ (x3 : Bool) (h17 : Heap), J2 x3 h17 →
∃ J3 : Bool → Heap → Prop, (
bcase x3 (
∃ t10 : Bool, ifeqH Tryd.prog h17 true (v7) (.nilIface) = some t10 ∧
J3 t10 h17) (
J3 false h17)) ∧ ∀ _ : Env,
∀ (x4 : Bool) (h18 : Heap), J3 x4 h18 →
∃ J4 : Bool → Heap → Prop, (
bcase x4 (
J4 t7 h18) (
J4 false h18)) ∧ ∀ _ : Env,
∀ (x5 : Bool) (h19 : Heap), J4 x5 h19 →
∃ J5 : Bool → Heap → Prop, (
bcase x5 (
fits .i64 ((100 : Int) * n3) ∧
fits .i64 ((100 : Int) * (min n1 n2)) ∧
J5 (decide (n4 = (max ((100 : Int) * n3) ((100 : Int) * (min n1 n2))))) h19) (
J5 false h19)) ∧ ∀ _ : Env,
∀ (x6 : Bool) (h20 : Heap), J5 x6 h20 →
∃ J6 : Bool → Heap → Prop, (
bcase x6 (
J6 (decide (n5 = n4)) h20) (
J6 false h20)) ∧ ∀ _ : Env,
∀ (x7 : Bool) (h21 : Heap), J6 x7 h21 →
bcase x7 (
Runs Tryd.prog 13 #[(.pointer p1)] h21 fun r15 h22 =>
∃ (s1 : Option Addr) (s1l s1c : Nat),
r15 = (.slice s1 s1l s1c) ∧
Post (.bool (decide (((s1l : Nat) : Int) = (3 : Int)))) h22) (
Post (.bool false) h21))))))) :
    Runs Tryd.prog 4 #[(.int .i64 a), (.int .i64 b), (.int .i64 c)] h0 Post :=
  runs_of (args := [(.int .i64 a), (.int .i64 b), (.int .i64 c)]) (fun n => ⟨true, false⟩) (fun n => match n with | 0 => [(9, .int .i64)] | _ => []) (fun _ => none) (fun n => match n with | 15 => [(10, [(53, .bool)])] | 21 => [(5, [(78, .bool)]), (4, [(82, .bool)]), (3, [(85, .bool)]), (11, [(96, .bool)]), (5, [(101, .bool)])] | _ => []) Tryd.func4 rfl (by rw [Tryd.ntmps4]; simp) (Eq.mp (by kernel_rfl) H)

theorem vc_muezzinlaw20_SchedWeights (a : Int) (b : Int) (c : Int) (air : Int) (h0 : Heap) (Post : Value → Heap → Prop) (H :
Runs Tryd.prog 8 #[] h0 fun r1 h1 =>
∃ t1 : Bool,
r1 = (.bool t1) ∧
bcase (!t1) (
Post (.bool false) h1) (
Runs Tryd.prog 9 #[(.int .i64 a), (.int .i64 (100 : Int))] h1 fun r2 h2 =>
∃ n1 : Int,
r2 = (.int .i64 n1) ∧
fits .i64 (n1 + (1 : Int)) ∧
Runs Tryd.prog 9 #[(.int .i64 b), (.int .i64 (100 : Int))] h2 fun r3 h3 =>
∃ n2 : Int,
r3 = (.int .i64 n2) ∧
fits .i64 (n2 + (1 : Int)) ∧
Runs Tryd.prog 9 #[(.int .i64 c), (.int .i64 (100 : Int))] h3 fun r4 h4 =>
∃ n3 : Int,
r4 = (.int .i64 n3) ∧
fits .i64 (n3 + (1 : Int)) ∧
Runs Tryd.prog 9 #[(.int .i64 air), (.int .i64 (1048576 : Int))] h4 fun r5 h5 =>
∃ n4 : Int,
r5 = (.int .i64 n4) ∧
Runs Tryd.prog 10 #[] h5 fun r6 h6 =>
∃ p1 : Option Addr,
r6 = (.pointer p1) ∧
∃ J1 : Bool → Heap → Prop, (
bcase (isNilAddr p1) (
J1 true h6) (
Runs Tryd.prog 11 #[(.pointer p1), (.int .i64 (4 : Int)), (.int .i64 (n1 + (1 : Int)))] h6 fun r7 h7 =>
∃ v1 : Value,
r7 = v1 ∧
∃ t2 : Bool, ifeqH Tryd.prog h7 true (v1) (.nilIface) = some t2 ∧
J1 (!t2) h7)) ∧ ∀ _ : Env,
∀ (x1 : Bool) (h8 : Heap), J1 x1 h8 →
∃ J2 : Bool → Heap → Prop, (
bcase x1 (
J2 true h8) (
Runs Tryd.prog 11 #[(.pointer p1), (.int .i64 (9 : Int)), (.int .i64 (n2 + (1 : Int)))] h8 fun r8 h9 =>
∃ v2 : Value,
r8 = v2 ∧
∃ t3 : Bool, ifeqH Tryd.prog h9 true (v2) (.nilIface) = some t3 ∧
J2 (!t3) h9)) ∧ ∀ _ : Env,
∀ (x2 : Bool) (h10 : Heap), J2 x2 h10 →
∃ J3 : Bool → Heap → Prop, (
bcase x2 (
J3 true h10) (
Runs Tryd.prog 12 #[(.pointer p1), (.int .i64 (4 : Int)), (.bool true)] h10 fun r9 h11 =>
∃ v3 : Value,
r9 = v3 ∧
∃ t4 : Bool, ifeqH Tryd.prog h11 true (v3) (.nilIface) = some t4 ∧
J3 (!t4) h11)) ∧ ∀ _ : Env,
∀ (x3 : Bool) (h12 : Heap), J3 x3 h12 →
∃ J4 : Bool → Heap → Prop, (
bcase x3 (
J4 true h12) (
Runs Tryd.prog 12 #[(.pointer p1), (.int .i64 (9 : Int)), (.bool true)] h12 fun r10 h13 =>
∃ v4 : Value,
r10 = v4 ∧
∃ t5 : Bool, ifeqH Tryd.prog h13 true (v4) (.nilIface) = some t5 ∧
J4 (!t5) h13)) ∧ ∀ _ : Env,
∀ (x4 : Bool) (h14 : Heap), J4 x4 h14 →
∃ J5 : Bool → Heap → Prop, (
bcase x4 (
J5 true h14) (
Runs Tryd.prog 14 #[(.pointer p1), (.int .i64 (4 : Int)), (.int .i64 n4)] h14 fun r11 h15 =>
∃ v5 : Value,
r11 = v5 ∧
∃ t6 : Bool, ifeqH Tryd.prog h15 true (v5) (.nilIface) = some t6 ∧
J5 (!t6) h15)) ∧ ∀ _ : Env,
∀ (x5 : Bool) (h16 : Heap), J5 x5 h16 →
bcase x5 (
Post (.bool false) h16) (
Runs Tryd.prog 14 #[(.pointer p1), (.int .i64 (9 : Int)), (.int .i64 n4)] h16 fun r12 h17 =>
∃ v6 : Value,
r12 = v6 ∧
∃ t7 : Bool, ifeqH Tryd.prog h17 true (v6) (.nilIface) = some t7 ∧
bcase (!t7) (
Post (.bool false) h17) (
Runs Tryd.prog 15 #[(.pointer p1), (.int .i64 (4 : Int))] h17 fun r13 h18 =>
∃ n5 : Int,
∃ t8 : Bool,
r13 = (.tuple #[(.int .i64 n5), (.bool t8)]) ∧
Runs Tryd.prog 15 #[(.pointer p1), (.int .i64 (9 : Int))] h18 fun r14 h19 =>
∃ n6 : Int,
∃ t9 : Bool,
r14 = (.tuple #[(.int .i64 n6), (.bool t9)]) ∧
∀ (b1 : Nat) (h20 : Heap), b1 = h19.size → h20 = h19.push (.cells ([(.int .i64 (4 : Int)), (.int .i64 (9 : Int))] : List Value).toArray 3) →
∃ J6 : Option Addr → Nat → Nat → Heap → Prop, (
bcase (decide (n6 < n5)) (
∀ (b2 : Nat) (h21 : Heap), b2 = h20.size → h21 = h20.push (.cells ([(.int .i64 (9 : Int)), (.int .i64 (4 : Int))] : List Value).toArray 3) →
J6 (some ⟨b2, 0, none⟩) 2 2 h21) (
J6 (some ⟨b1, 0, none⟩) 2 2 h20)) ∧ ∀ _ : Env,
∀ (want_1 : Option Addr) (want_1l want_1c : Nat) (h22 : Heap), J6 want_1 want_1l want_1c h22 →
Runs Tryd.prog 13 #[(.pointer p1)] h22 fun r15 h23 =>
∃ (s1 : Option Addr) (s1l s1c : Nat),
r15 = (.slice s1 s1l s1c) ∧
Runs Tryd.prog 16 #[(.pointer p1), (.int .i64 (4 : Int)), (.int .i64 (n3 + (1 : Int)))] h23 fun r16 h24 =>
∃ v7 : Value,
r16 = v7 ∧
Runs Tryd.prog 14 #[(.pointer p1), (.int .i64 (4 : Int)), (.int .i64 n4)] h24 fun r17 h25 =>
∃ v8 : Value,
r17 = v8 ∧
Runs Tryd.prog 15 #[(.pointer p1), (.int .i64 (4 : Int))] h25 fun r18 h26 =>
∃ n7 : Int,
∃ t10 : Bool,
r18 = (.tuple #[(.int .i64 n7), (.bool t10)]) ∧
∃ J7 : Bool → Heap → Prop, (
bcase t1 (
fits .i64 ((10000 : Int) * n4) ∧
(0 ≤ ((10000 : Int) * n4) ∧ 0 < (n1 + (1 : Int)) ∧ fits .i64 (((10000 : Int) * n4) / (n1 + (1 : Int)))) ∧
J7 (decide (n5 = (((10000 : Int) * n4) / (n1 + (1 : Int))))) h26) (
J7 false h26)) ∧ ∀ _ : Env,
∀ (x7 : Bool) (h27 : Heap), J7 x7 h27 →
∃ J8 : Bool → Heap → Prop, (
bcase x7 (
fits .i64 ((10000 : Int) * n4) ∧
(0 ≤ ((10000 : Int) * n4) ∧ 0 < (n2 + (1 : Int)) ∧ fits .i64 (((10000 : Int) * n4) / (n2 + (1 : Int)))) ∧
J8 (decide (n6 = (((10000 : Int) * n4) / (n2 + (1 : Int))))) h27) (
J8 false h27)) ∧ ∀ _ : Env,
∀ (x8 : Bool) (h28 : Heap), J8 x8 h28 →
∃ J9 : Bool → Heap → Prop, (
bcase x8 (
Runs Tryd.prog 17 #[(.slice s1 s1l s1c), (.slice want_1 want_1l want_1c)] h28 fun r19 h29 =>
∃ t11 : Bool,
r19 = (.bool t11) ∧
J9 t11 h29) (
J9 false h28)) ∧ ∀ _ : Env,
∀ (x9 : Bool) (h30 : Heap), J9 x9 h30 →
∃ J10 : Bool → Heap → Prop, (
bcase x9 (
∃ t12 : Bool, ifeqH Tryd.prog h30 true (v7) (.nilIface) = some t12 ∧
J10 t12 h30) (
J10 false h30)) ∧ ∀ _ : Env,
∀ (x10 : Bool) (h31 : Heap), J10 x10 h31 →
∃ J11 : Bool → Heap → Prop, (
bcase x10 (
∃ t13 : Bool, ifeqH Tryd.prog h31 true (v8) (.nilIface) = some t13 ∧
J11 t13 h31) (
J11 false h31)) ∧ ∀ _ : Env,
∀ (x11 : Bool) (h32 : Heap), J11 x11 h32 →
∃ J12 : Bool → Heap → Prop, (
bcase x11 (
fits .i64 ((10000 : Int) * n4) ∧
(0 ≤ ((10000 : Int) * n4) ∧ 0 < (n3 + (1 : Int)) ∧ fits .i64 (((10000 : Int) * n4) / (n3 + (1 : Int)))) ∧
fits .i64 (n5 + (((10000 : Int) * n4) / (n3 + (1 : Int)))) ∧
J12 (decide (n7 = (n5 + (((10000 : Int) * n4) / (n3 + (1 : Int)))))) h32) (
J12 false h32)) ∧ ∀ _ : Env,
∀ (x12 : Bool) (h33 : Heap), J12 x12 h33 →
∃ J13 : Bool → Heap → Prop, (
bcase x12 (
Runs Tryd.prog 16 #[(.pointer p1), (.int .i64 (5 : Int)), (.int .i64 (1 : Int))] h33 fun r20 h34 =>
∃ v9 : Value,
r20 = v9 ∧
Runs Tryd.prog 18 #[v9, (.int .i64 (107 : Int))] h34 fun r21 h35 =>
∃ t14 : Bool,
r21 = (.bool t14) ∧
J13 t14 h35) (
J13 false h33)) ∧ ∀ _ : Env,
∀ (x13 : Bool) (h36 : Heap), J13 x13 h36 →
∃ J14 : Bool → Heap → Prop, (
bcase x13 (
Runs Tryd.prog 16 #[(.pointer p1), (.int .i64 (4 : Int)), (.int .i64 (101 : Int))] h36 fun r22 h37 =>
∃ v10 : Value,
r22 = v10 ∧
Runs Tryd.prog 18 #[v10, (.int .i64 (103 : Int))] h37 fun r23 h38 =>
∃ t15 : Bool,
r23 = (.bool t15) ∧
J14 t15 h38) (
J14 false h36)) ∧ ∀ _ : Env,
∀ (x14 : Bool) (h39 : Heap), J14 x14 h39 →
bcase x14 (
Runs Tryd.prog 14 #[(.pointer p1), (.int .i64 (4 : Int)), (.int .i64 (-1 : Int))] h39 fun r24 h40 =>
∃ v11 : Value,
r24 = v11 ∧
Runs Tryd.prog 18 #[v11, (.int .i64 (103 : Int))] h40 fun r25 h41 =>
∃ t16 : Bool,
r25 = (.bool t16) ∧
Post (.bool t16) h41) (
Post (.bool false) h39))))) :
    Runs Tryd.prog 5 #[(.int .i64 a), (.int .i64 b), (.int .i64 c), (.int .i64 air)] h0 Post :=
  runs_of (args := [(.int .i64 a), (.int .i64 b), (.int .i64 c), (.int .i64 air)]) (fun n => ⟨true, false⟩) (fun _ => []) (fun n => match n with | 16 => some [(15, .slice)] | _ => none) (fun n => match n with | 9 => [(8, [(43, .bool)]), (6, [(49, .bool)]), (5, [(54, .bool)]), (5, [(59, .bool)]), (6, [(65, .bool)])] | 20 => [(9, [(108, .bool)]), (8, [(116, .bool)]), (5, [(121, .bool)]), (4, [(125, .bool)]), (4, [(129, .bool)]), (10, [(139, .bool)]), (5, [(144, .bool)]), (5, [(149, .bool)])] | _ => []) Tryd.func5 rfl (by rw [Tryd.ntmps5]; simp) (Eq.mp (by kernel_rfl) H)

theorem vc_muezzinlaw20_SchedOrder (l : Option Addr) (lL lC : Nat) (airs : Option Addr) (airsL airsC : Nat) (h0 : Heap) (Post : Value → Heap → Prop) (H :
Runs Tryd.prog 8 #[] h0 fun r1 h1 =>
∃ t1 : Bool,
r1 = (.bool t1) ∧
bcase (!t1) (
Post (.bool false) h1) (
bcase (decide ((16 : Int) < ((lL : Nat) : Int))) (
Post (.bool t1) h1) (
bcase (decide ((16 : Int) < ((airsL : Nat) : Int))) (
Post (.bool t1) h1) (
Runs Tryd.prog 10 #[] h1 fun r2 h2 =>
∃ p1 : Option Addr,
r2 = (.pointer p1) ∧
bcase (isNilAddr p1) (
Post (.bool false) h2) (
∃ (I1 : Int → Int → Heap → Prop) (m1 : Int → Int → Heap → Nat), I1 (0 : Int) (0 : Int) h2 ∧ ∀ _ : Env,
∀ (n_1 : Int) (i_1 : Int) (h3 : Heap), I1 n_1 i_1 h3 →
bcase (decide (i_1 < ((lL : Nat) : Int))) (
(0 ≤ i_1 ∧ i_1 < ((lL : Nat) : Int)) ∧
onAddr l fun b1 o1 =>
∃ n1 : Int, cell h3 b1 (o1 + (i_1).toNat) = some (.int .i64 n1) ∧
(3 : Int) ≠ 0 ∧
fits .i64 (i_1 + (1 : Int)) ∧
Runs Tryd.prog 11 #[(.pointer p1), (.int .i64 (i_1 + (1 : Int))), (.int .i64 (50 : Int))] h3 fun r3 h4 =>
∃ v1 : Value,
r3 = v1 ∧
∃ t2 : Bool, ifeqH Tryd.prog h4 true (v1) (.nilIface) = some t2 ∧
bcase (!t2) (
Post (.bool false) h4) (
fits .i64 (i_1 + (1 : Int)) ∧
Runs Tryd.prog 12 #[(.pointer p1), (.int .i64 (i_1 + (1 : Int))), (.bool (!decide (((n1).tmod (3 : Int)) = (0 : Int))))] h4 fun r4 h5 =>
∃ v2 : Value,
r4 = v2 ∧
∃ t3 : Bool, ifeqH Tryd.prog h5 true (v2) (.nilIface) = some t3 ∧
bcase (!t3) (
Post (.bool false) h5) (
bcase (!decide (((n1).tmod (3 : Int)) = (0 : Int))) (
fits .i64 (n_1 + (1 : Int)) ∧
fits .i64 (i_1 + (1 : Int)) ∧
I1 (n_1 + (1 : Int)) (i_1 + (1 : Int)) h5 ∧ m1 (n_1 + (1 : Int)) (i_1 + (1 : Int)) h5 < m1 n_1 i_1 h3) (
fits .i64 (i_1 + (1 : Int)) ∧
I1 n_1 (i_1 + (1 : Int)) h5 ∧ m1 n_1 (i_1 + (1 : Int)) h5 < m1 n_1 i_1 h3)))) (
∃ J1 : Heap → Prop, (
∃ (I2 : Int → Heap → Prop) (m2 : Int → Heap → Nat), I2 (0 : Int) h3 ∧ ∀ _ : Env,
∀ (i_2 : Int) (h6 : Heap), I2 i_2 h6 →
bcase (decide (i_2 < ((airsL : Nat) : Int))) (
bcase (decide (i_2 < ((lL : Nat) : Int))) (
fits .i64 (i_2 + (1 : Int)) ∧
(0 ≤ i_2 ∧ i_2 < ((airsL : Nat) : Int)) ∧
onAddr airs fun b2 o2 =>
∃ n2 : Int, cell h6 b2 (o2 + (i_2).toNat) = some (.int .i64 n2) ∧
Runs Tryd.prog 9 #[(.int .i64 n2), (.int .i64 (5000 : Int))] h6 fun r5 h7 =>
∃ n3 : Int,
r5 = (.int .i64 n3) ∧
Runs Tryd.prog 14 #[(.pointer p1), (.int .i64 (i_2 + (1 : Int))), (.int .i64 n3)] h7 fun r6 h8 =>
∃ v3 : Value,
r6 = v3 ∧
∃ t4 : Bool, ifeqH Tryd.prog h8 true (v3) (.nilIface) = some t4 ∧
bcase (!t4) (
Post (.bool false) h8) (
fits .i64 (i_2 + (1 : Int)) ∧
I2 (i_2 + (1 : Int)) h8 ∧ m2 (i_2 + (1 : Int)) h8 < m2 i_2 h6)) (
J1 h6)) (
J1 h6)) ∧ ∀ _ : Env,
∀ (h9 : Heap), J1 h9 →
Runs Tryd.prog 13 #[(.pointer p1)] h9 fun r7 h10 =>
∃ (s1 : Option Addr) (s1l s1c : Nat),
r7 = (.slice s1 s1l s1c) ∧
bcase (!decide (((s1l : Nat) : Int) = n_1)) (
Post (.bool false) h10) (
∃ (I3 : Int → Int → Heap → Prop) (m3 : Int → Int → Heap → Nat), I3 (-1 : Int) (0 : Int) h10 ∧ ∀ _ : Env,
∀ (last_1 : Int) (i_3 : Int) (h11 : Heap), I3 last_1 i_3 h11 →
bcase (decide (i_3 < n_1)) (
(0 ≤ i_3 ∧ i_3 < ((s1l : Nat) : Int)) ∧
onAddr s1 fun b3 o3 =>
∃ n4 : Int, cell h11 b3 (o3 + (i_3).toNat) = some (.int .i64 n4) ∧
Runs Tryd.prog 15 #[(.pointer p1), (.int .i64 n4)] h11 fun r8 h12 =>
∃ n5 : Int,
∃ t5 : Bool,
r8 = (.tuple #[(.int .i64 n5), (.bool t5)]) ∧
bcase (!t5) (
Post (.bool false) h12) (
(0 ≤ i_3 ∧ i_3 < ((s1l : Nat) : Int)) ∧
onAddr s1 fun b4 o4 =>
∃ n6 : Int, cell h12 b4 (o4 + (i_3).toNat) = some (.int .i64 n6) ∧
(0 ≤ (IntKind.i64.wrap (n6 - (1 : Int))) ∧ (IntKind.i64.wrap (n6 - (1 : Int))) < ((lL : Nat) : Int)) ∧
onAddr l fun b5 o5 =>
∃ n7 : Int, cell h12 b5 (o5 + ((IntKind.i64.wrap (n6 - (1 : Int)))).toNat) = some (.int .i64 n7) ∧
(3 : Int) ≠ 0 ∧
bcase (decide (((n7).tmod (3 : Int)) = (0 : Int))) (
Post (.bool false) h12) (
bcase (decide (n5 < last_1)) (
Post (.bool false) h12) (
bcase (decide (n5 = last_1)) (
(0 ≤ (IntKind.i64.wrap (i_3 - (1 : Int))) ∧ (IntKind.i64.wrap (i_3 - (1 : Int))) < ((s1l : Nat) : Int)) ∧
onAddr s1 fun b6 o6 =>
∃ n8 : Int, cell h12 b6 (o6 + ((IntKind.i64.wrap (i_3 - (1 : Int)))).toNat) = some (.int .i64 n8) ∧
(0 ≤ i_3 ∧ i_3 < ((s1l : Nat) : Int)) ∧
onAddr s1 fun b7 o7 =>
∃ n9 : Int, cell h12 b7 (o7 + (i_3).toNat) = some (.int .i64 n9) ∧
bcase (decide (n9 < n8)) (
Post (.bool false) h12) (
fits .i64 (i_3 + (1 : Int)) ∧
I3 n5 (i_3 + (1 : Int)) h12 ∧ m3 n5 (i_3 + (1 : Int)) h12 < m3 last_1 i_3 h11)) (
fits .i64 (i_3 + (1 : Int)) ∧
I3 n5 (i_3 + (1 : Int)) h12 ∧ m3 n5 (i_3 + (1 : Int)) h12 < m3 last_1 i_3 h11))))) (
∃ J2 : Heap → Prop, (
bcase (decide ((0 : Int) < n_1)) (
(0 ≤ (0 : Int) ∧ (0 : Int) < ((s1l : Nat) : Int)) ∧
onAddr s1 fun b8 o8 =>
∃ n10 : Int, cell h11 b8 o8 = some (.int .i64 n10) ∧
Runs Tryd.prog 19 #[(.pointer p1), (.int .i64 n10)] h11 fun r9 h13 =>
∃ v4 : Value,
r9 = v4 ∧
∃ t6 : Bool, ifeq true (v4) (.nilIface) = some t6 ∧
bcase (!t6) (
Post (.bool false) h13) (
fits .i64 (n_1 - (1 : Int)) ∧
Runs Tryd.prog 13 #[(.pointer p1)] h13 fun r10 h14 =>
∃ (s2 : Option Addr) (s2l s2c : Nat),
r10 = (.slice s2 s2l s2c) ∧
bcase (!decide (((s2l : Nat) : Int) = (n_1 - (1 : Int)))) (
Post (.bool false) h14) (
(0 ≤ (0 : Int) ∧ (0 : Int) < ((s1l : Nat) : Int)) ∧
onAddr s1 fun b9 o9 =>
∃ n11 : Int, cell h14 b9 o9 = some (.int .i64 n11) ∧
Runs Tryd.prog 13 #[(.pointer p1)] h14 fun r11 h15 =>
∃ (s3 : Option Addr) (s3l s3c : Nat),
r11 = (.slice s3 s3l s3c) ∧
cell h15 b9 o9 = some (.int .i64 n11) ∧
Runs Tryd.prog 20 #[(.slice s3 s3l s3c), (.int .i64 n11)] h15 fun r12 h16 =>
∃ t7 : Bool,
r12 = (.bool t7) ∧
bcase t7 (
Post (.bool false) h16) (
J2 h16)))) (
J2 h11)) ∧ ∀ _ : Env,
∀ (h17 : Heap), J2 h17 →
bcase t1 (
Runs Tryd.prog 19 #[(.pointer p1), (.int .i64 (17 : Int))] h17 fun r13 h18 =>
∃ v5 : Value,
r13 = v5 ∧
Runs Tryd.prog 18 #[v5, (.int .i64 (107 : Int))] h18 fun r14 h19 =>
∃ t8 : Bool,
r14 = (.bool t8) ∧
Post (.bool t8) h19) (
Post (.bool false) h17))))))))) :
    Runs Tryd.prog 6 #[(.slice l lL lC), (.slice airs airsL airsC)] h0 Post :=
  runs_of (args := [(.slice l lL lC), (.slice airs airsL airsC)]) (fun n => ⟨!memB n [13, 31], false⟩) (fun n => match n with | 0 => [(7, .int .i64), (8, .int .i64)] | 2 => [(10, .int .i64)] | 4 => [(12, .int .i64), (13, .int .i64)] | _ => []) (fun n => match n with | 23 => some [] | 37 => some [] | _ => none) (fun _ => []) Tryd.func6 rfl (by rw [Tryd.ntmps6]; simp) (Eq.mp (by kernel_rfl) H)
end Go.Proofs.YthnmgpmgfhilhaaDoor
