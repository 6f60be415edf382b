/- The conditions for calls of functions of the program, in plain form: written by a program (vcgen) off the elaborated code; each is the reckoner's own, by the kernel. -/
import Derived.Test.YthlacliefgliiaaDoorRows
import Derived.Test.YthlacliefgliiaaDoorVc
set_option linter.unusedVariables false
set_option maxRecDepth 100000
namespace Go.Proofs.YthlacliefgliiaaDoor
open Go.Vc
theorem vc_seq_Sort (start : Int) (l : Option Addr) (lL lC : Nat) (h0 : Heap) (Post : Value → Heap → Prop) (H :
∀ (b1 : Nat) (h1 : Heap), b1 = h0.size → h1 = h0.push (.cells ([(.int .i64 start)] : List Value).toArray 3) →
∃ (I1 : Option Addr → Nat → Nat → Int → Heap → Prop) (m1 : Option Addr → Nat → Nat → Int → Heap → Nat), I1 none 0 0 (0 : Int) h1 ∧ ∀ _ : Env,
∀ (out_1 : Option Addr) (out_1l out_1c : Nat) (x2 : Int) (h2 : Heap), I1 out_1 out_1l out_1c x2 h2 →
bcase (decide (x2 < ((lL : Nat) : Int))) (
(0 ≤ x2 ∧ x2 < ((lL : Nat) : Int)) ∧
onAddr l fun b2 o1 =>
∃ n1 : Int, cell h2 b2 (o1 + (x2).toNat) = some (.int .i64 n1) ∧
Runs Tryd.prog 67 #[(.int .i64 n1)] h2 fun r1 h3 =>
∃ n2 : Int,
r1 = (.int .i64 n2) ∧
∀ (b3 : Nat) (h4 : Heap), b3 = h3.size → h4 = h3.push (.cells ([(.int .i64 n2)] : List Value).toArray 3) →
∃ news1 : List Value, (row h4 b3 0 1 = some news1 ∧ ∀ u ∈ news1, u.oneCell' = true) ∧
appK h4 out_1 out_1l out_1c 1 1 3 8 news1 fun (a1 : Option Addr) (cap1 : Nat) (h5 : Heap) =>
fits .i64 (x2 + (1 : Int)) ∧
I1 a1 (out_1l + 1) cap1 (x2 + (1 : Int)) h5 ∧ m1 a1 (out_1l + 1) cap1 (x2 + (1 : Int)) h5 < m1 out_1 out_1l out_1c x2 h2) (
Runs Tryd.prog 81 #[(.slice out_1 out_1l out_1c), (.func (.func 82) #[] #[(.pointer (some ⟨b1, 0, none⟩))])] h2 fun r2 h6 =>
Post (.slice out_1 out_1l out_1c) h6)) :
    Runs Tryd.prog 66 #[(.int .i64 start), (.slice l lL lC)] h0 Post :=
  runs_of (args := [(.int .i64 start), (.slice l lL lC)]) (fun n => ⟨true, false⟩) (fun n => match n with | 0 => [(5, .slice), (10, .int .i64)] | _ => []) (fun _ => none) (fun _ => []) Tryd.func66 rfl (by rw [Tryd.ntmps66]; simp) (Eq.mp (by kernel_rfl) H)

theorem vc_slices_SortFunc_int (x : Option Addr) (xL xC : Nat) (cmp : Value) (h0 : Heap) (Post : Value → Heap → Prop) (H :
Runs Tryd.prog 91 #[(.int .u64 (IntKind.u64.wrap ((xL : Nat) : Int)))] h0 fun r1 h1 =>
∃ n1 : Int,
r1 = (.int .i64 n1) ∧
Runs Tryd.prog 90 #[(.slice x xL xC), (.int .i64 (0 : Int)), (.int .i64 ((xL : Nat) : Int)), (.int .i64 n1), cmp] h1 fun r2 h2 =>
Post (.tuple #[]) h2) :
    Runs Tryd.prog 81 #[(.slice x xL xC), cmp] h0 Post :=
  runs_of (args := [(.slice x xL xC), cmp]) (fun n => ⟨false, false⟩) (fun _ => []) (fun _ => none) (fun _ => []) Tryd.func81 rfl (by rw [Tryd.ntmps81]; simp) (Eq.mp (by kernel_rfl) H)

theorem vc_slices_pdqsortCmpFunc_int (data : Option Addr) (dataL dataC : Nat) (a : Int) (b : Int) (limit : Int) (cmp : Value) (h0 : Heap) (Post : Value → Heap → Prop) (H :
∃ (I1 : Int → Int → Int → Bool → Bool → Heap → Prop) (m1 : Int → Int → Int → Bool → Bool → Heap → Nat), I1 a b limit true true h0 ∧ ∀ _ : Env,
∀ (a_1 : Int) (b_1 : Int) (limit_1 : Int) (wasBalanced_1 : Bool) (wasPartitioned_1 : Bool) (h1 : Heap), I1 a_1 b_1 limit_1 wasBalanced_1 wasPartitioned_1 h1 →
bcase (decide ((IntKind.i64.wrap (b_1 - a_1)) ≤ (12 : Int))) (
Runs Tryd.prog 94 #[(.slice data dataL dataC), (.int .i64 a_1), (.int .i64 b_1), cmp] h1 fun r1 h2 =>
Post (.tuple #[]) h2) (
bcase (decide (limit_1 = (0 : Int))) (
Runs Tryd.prog 95 #[(.slice data dataL dataC), (.int .i64 a_1), (.int .i64 b_1), cmp] h1 fun r2 h3 =>
Post (.tuple #[]) h3) (
bcase (!wasBalanced_1) (
Runs Tryd.prog 96 #[(.slice data dataL dataC), (.int .i64 a_1), (.int .i64 b_1), cmp] h1 fun r3 h4 =>
Runs Tryd.prog 97 #[(.slice data dataL dataC), (.int .i64 a_1), (.int .i64 b_1), cmp] h4 fun r4 h5 =>
∃ n1 : Int,
∃ n2 : Int,
r4 = (.tuple #[(.int .i64 n1), (.int .i64 n2)]) ∧
bcase (decide (n2 = (2 : Int))) (
Runs Tryd.prog 98 #[(.slice data dataL dataC), (.int .i64 a_1), (.int .i64 b_1), cmp] h5 fun r5 h6 =>
bcase wasBalanced_1 (
bcase wasPartitioned_1 (
bcase (decide ((1 : Int) = (1 : Int))) (
Runs Tryd.prog 99 #[(.slice data dataL dataC), (.int .i64 a_1), (.int .i64 b_1), cmp] h6 fun r6 h7 =>
∃ t1 : Bool,
r6 = (.bool t1) ∧
bcase t1 (
Post (.tuple #[]) h7) (
bcase (decide ((0 : Int) < a_1)) (
(0 ≤ (IntKind.i64.wrap (a_1 - (1 : Int))) ∧ (IntKind.i64.wrap (a_1 - (1 : Int))) < ((dataL : Nat) : Int)) ∧
onAddr data fun b1 o1 =>
∃ n3 : Int, cell h7 b1 (o1 + ((IntKind.i64.wrap (a_1 - (1 : Int)))).toNat) = some (.int .i64 n3) ∧
(0 ≤ (IntKind.i64.wrap ((IntKind.i64.wrap (b_1 - (1 : Int))) - (IntKind.i64.wrap (n1 - a_1)))) ∧ (IntKind.i64.wrap ((IntKind.i64.wrap (b_1 - (1 : Int))) - (IntKind.i64.wrap (n1 - a_1)))) < ((dataL : Nat) : Int)) ∧
onAddr data fun b2 o2 =>
∃ n4 : Int, cell h7 b2 (o2 + ((IntKind.i64.wrap ((IntKind.i64.wrap (b_1 - (1 : Int))) - (IntKind.i64.wrap (n1 - a_1))))).toNat) = some (.int .i64 n4) ∧
callv Tryd.prog cmp [(.int .i64 n3), (.int .i64 n4)] h7 fun r7 h8 =>
∃ n5 : Int,
r7 = (.int .i64 n5) ∧
bcase (!(decide (n5 < (0 : Int)))) (
Runs Tryd.prog 100 #[(.slice data dataL dataC), (.int .i64 a_1), (.int .i64 b_1), (.int .i64 (IntKind.i64.wrap ((IntKind.i64.wrap (b_1 - (1 : Int))) - (IntKind.i64.wrap (n1 - a_1))))), cmp] h8 fun r8 h9 =>
∃ n6 : Int,
r8 = (.int .i64 n6) ∧
I1 n6 b_1 (IntKind.i64.wrap (limit_1 - (1 : Int))) wasBalanced_1 wasPartitioned_1 h9 ∧ m1 n6 b_1 (IntKind.i64.wrap (limit_1 - (1 : Int))) wasBalanced_1 wasPartitioned_1 h9 < m1 a_1 b_1 limit_1 wasBalanced_1 wasPartitioned_1 h1) (
Runs Tryd.prog 101 #[(.slice data dataL dataC), (.int .i64 a_1), (.int .i64 b_1), (.int .i64 (IntKind.i64.wrap ((IntKind.i64.wrap (b_1 - (1 : Int))) - (IntKind.i64.wrap (n1 - a_1))))), cmp] h8 fun r9 h10 =>
∃ n7 : Int,
∃ t2 : Bool,
r9 = (.tuple #[(.int .i64 n7), (.bool t2)]) ∧
(8 : Int) ≠ 0 ∧
bcase (decide ((IntKind.i64.wrap (n7 - a_1)) < (IntKind.i64.wrap (b_1 - n7)))) (
Runs Tryd.prog 90 #[(.slice data dataL dataC), (.int .i64 a_1), (.int .i64 n7), (.int .i64 (IntKind.i64.wrap (limit_1 - (1 : Int)))), cmp] h10 fun r10 h11 =>
I1 (IntKind.i64.wrap (n7 + (1 : Int))) b_1 (IntKind.i64.wrap (limit_1 - (1 : Int))) (decide ((IntKind.i64.wrap (((IntKind.i64.wrap (b_1 - a_1))).tdiv (8 : Int))) ≤ (IntKind.i64.wrap (n7 - a_1)))) t2 h11 ∧ m1 (IntKind.i64.wrap (n7 + (1 : Int))) b_1 (IntKind.i64.wrap (limit_1 - (1 : Int))) (decide ((IntKind.i64.wrap (((IntKind.i64.wrap (b_1 - a_1))).tdiv (8 : Int))) ≤ (IntKind.i64.wrap (n7 - a_1)))) t2 h11 < m1 a_1 b_1 limit_1 wasBalanced_1 wasPartitioned_1 h1) (
Runs Tryd.prog 90 #[(.slice data dataL dataC), (.int .i64 (IntKind.i64.wrap (n7 + (1 : Int)))), (.int .i64 b_1), (.int .i64 (IntKind.i64.wrap (limit_1 - (1 : Int)))), cmp] h10 fun r11 h12 =>
I1 a_1 n7 (IntKind.i64.wrap (limit_1 - (1 : Int))) (decide ((IntKind.i64.wrap (((IntKind.i64.wrap (b_1 - a_1))).tdiv (8 : Int))) ≤ (IntKind.i64.wrap (b_1 - n7)))) t2 h12 ∧ m1 a_1 n7 (IntKind.i64.wrap (limit_1 - (1 : Int))) (decide ((IntKind.i64.wrap (((IntKind.i64.wrap (b_1 - a_1))).tdiv (8 : Int))) ≤ (IntKind.i64.wrap (b_1 - n7)))) t2 h12 < m1 a_1 b_1 limit_1 wasBalanced_1 wasPartitioned_1 h1))) (
Runs Tryd.prog 101 #[(.slice data dataL dataC), (.int .i64 a_1), (.int .i64 b_1), (.int .i64 (IntKind.i64.wrap ((IntKind.i64.wrap (b_1 - (1 : Int))) - (IntKind.i64.wrap (n1 - a_1))))), cmp] h7 fun r12 h13 =>
∃ n8 : Int,
∃ t3 : Bool,
r12 = (.tuple #[(.int .i64 n8), (.bool t3)]) ∧
(8 : Int) ≠ 0 ∧
bcase (decide ((IntKind.i64.wrap (n8 - a_1)) < (IntKind.i64.wrap (b_1 - n8)))) (
Runs Tryd.prog 90 #[(.slice data dataL dataC), (.int .i64 a_1), (.int .i64 n8), (.int .i64 (IntKind.i64.wrap (limit_1 - (1 : Int)))), cmp] h13 fun r13 h14 =>
I1 (IntKind.i64.wrap (n8 + (1 : Int))) b_1 (IntKind.i64.wrap (limit_1 - (1 : Int))) (decide ((IntKind.i64.wrap (((IntKind.i64.wrap (b_1 - a_1))).tdiv (8 : Int))) ≤ (IntKind.i64.wrap (n8 - a_1)))) t3 h14 ∧ m1 (IntKind.i64.wrap (n8 + (1 : Int))) b_1 (IntKind.i64.wrap (limit_1 - (1 : Int))) (decide ((IntKind.i64.wrap (((IntKind.i64.wrap (b_1 - a_1))).tdiv (8 : Int))) ≤ (IntKind.i64.wrap (n8 - a_1)))) t3 h14 < m1 a_1 b_1 limit_1 wasBalanced_1 wasPartitioned_1 h1) (
Runs Tryd.prog 90 #[(.slice data dataL dataC), (.int .i64 (IntKind.i64.wrap (n8 + (1 : Int)))), (.int .i64 b_1), (.int .i64 (IntKind.i64.wrap (limit_1 - (1 : Int)))), cmp] h13 fun r14 h15 =>
I1 a_1 n8 (IntKind.i64.wrap (limit_1 - (1 : Int))) (decide ((IntKind.i64.wrap (((IntKind.i64.wrap (b_1 - a_1))).tdiv (8 : Int))) ≤ (IntKind.i64.wrap (b_1 - n8)))) t3 h15 ∧ m1 a_1 n8 (IntKind.i64.wrap (limit_1 - (1 : Int))) (decide ((IntKind.i64.wrap (((IntKind.i64.wrap (b_1 - a_1))).tdiv (8 : Int))) ≤ (IntKind.i64.wrap (b_1 - n8)))) t3 h15 < m1 a_1 b_1 limit_1 wasBalanced_1 wasPartitioned_1 h1)))) (
bcase (decide ((0 : Int) < a_1)) (
(0 ≤ (IntKind.i64.wrap (a_1 - (1 : Int))) ∧ (IntKind.i64.wrap (a_1 - (1 : Int))) < ((dataL : Nat) : Int)) ∧
onAddr data fun b3 o3 =>
∃ n9 : Int, cell h6 b3 (o3 + ((IntKind.i64.wrap (a_1 - (1 : Int)))).toNat) = some (.int .i64 n9) ∧
(0 ≤ (IntKind.i64.wrap ((IntKind.i64.wrap (b_1 - (1 : Int))) - (IntKind.i64.wrap (n1 - a_1)))) ∧ (IntKind.i64.wrap ((IntKind.i64.wrap (b_1 - (1 : Int))) - (IntKind.i64.wrap (n1 - a_1)))) < ((dataL : Nat) : Int)) ∧
onAddr data fun b4 o4 =>
∃ n10 : Int, cell h6 b4 (o4 + ((IntKind.i64.wrap ((IntKind.i64.wrap (b_1 - (1 : Int))) - (IntKind.i64.wrap (n1 - a_1))))).toNat) = some (.int .i64 n10) ∧
callv Tryd.prog cmp [(.int .i64 n9), (.int .i64 n10)] h6 fun r15 h16 =>
∃ n11 : Int,
r15 = (.int .i64 n11) ∧
bcase (!(decide (n11 < (0 : Int)))) (
Runs Tryd.prog 100 #[(.slice data dataL dataC), (.int .i64 a_1), (.int .i64 b_1), (.int .i64 (IntKind.i64.wrap ((IntKind.i64.wrap (b_1 - (1 : Int))) - (IntKind.i64.wrap (n1 - a_1))))), cmp] h16 fun r16 h17 =>
∃ n12 : Int,
r16 = (.int .i64 n12) ∧
I1 n12 b_1 (IntKind.i64.wrap (limit_1 - (1 : Int))) wasBalanced_1 wasPartitioned_1 h17 ∧ m1 n12 b_1 (IntKind.i64.wrap (limit_1 - (1 : Int))) wasBalanced_1 wasPartitioned_1 h17 < m1 a_1 b_1 limit_1 wasBalanced_1 wasPartitioned_1 h1) (
Runs Tryd.prog 101 #[(.slice data dataL dataC), (.int .i64 a_1), (.int .i64 b_1), (.int .i64 (IntKind.i64.wrap ((IntKind.i64.wrap (b_1 - (1 : Int))) - (IntKind.i64.wrap (n1 - a_1))))), cmp] h16 fun r17 h18 =>
∃ n13 : Int,
∃ t4 : Bool,
r17 = (.tuple #[(.int .i64 n13), (.bool t4)]) ∧
(8 : Int) ≠ 0 ∧
bcase (decide ((IntKind.i64.wrap (n13 - a_1)) < (IntKind.i64.wrap (b_1 - n13)))) (
Runs Tryd.prog 90 #[(.slice data dataL dataC), (.int .i64 a_1), (.int .i64 n13), (.int .i64 (IntKind.i64.wrap (limit_1 - (1 : Int)))), cmp] h18 fun r18 h19 =>
I1 (IntKind.i64.wrap (n13 + (1 : Int))) b_1 (IntKind.i64.wrap (limit_1 - (1 : Int))) (decide ((IntKind.i64.wrap (((IntKind.i64.wrap (b_1 - a_1))).tdiv (8 : Int))) ≤ (IntKind.i64.wrap (n13 - a_1)))) t4 h19 ∧ m1 (IntKind.i64.wrap (n13 + (1 : Int))) b_1 (IntKind.i64.wrap (limit_1 - (1 : Int))) (decide ((IntKind.i64.wrap (((IntKind.i64.wrap (b_1 - a_1))).tdiv (8 : Int))) ≤ (IntKind.i64.wrap (n13 - a_1)))) t4 h19 < m1 a_1 b_1 limit_1 wasBalanced_1 wasPartitioned_1 h1) (
Runs Tryd.prog 90 #[(.slice data dataL dataC), (.int .i64 (IntKind.i64.wrap (n13 + (1 : Int)))), (.int .i64 b_1), (.int .i64 (IntKind.i64.wrap (limit_1 - (1 : Int)))), cmp] h18 fun r19 h20 =>
I1 a_1 n13 (IntKind.i64.wrap (limit_1 - (1 : Int))) (decide ((IntKind.i64.wrap (((IntKind.i64.wrap (b_1 - a_1))).tdiv (8 : Int))) ≤ (IntKind.i64.wrap (b_1 - n13)))) t4 h20 ∧ m1 a_1 n13 (IntKind.i64.wrap (limit_1 - (1 : Int))) (decide ((IntKind.i64.wrap (((IntKind.i64.wrap (b_1 - a_1))).tdiv (8 : Int))) ≤ (IntKind.i64.wrap (b_1 - n13)))) t4 h20 < m1 a_1 b_1 limit_1 wasBalanced_1 wasPartitioned_1 h1))) (
Runs Tryd.prog 101 #[(.slice data dataL dataC), (.int .i64 a_1), (.int .i64 b_1), (.int .i64 (IntKind.i64.wrap ((IntKind.i64.wrap (b_1 - (1 : Int))) - (IntKind.i64.wrap (n1 - a_1))))), cmp] h6 fun r20 h21 =>
∃ n14 : Int,
∃ t5 : Bool,
r20 = (.tuple #[(.int .i64 n14), (.bool t5)]) ∧
(8 : Int) ≠ 0 ∧
bcase (decide ((IntKind.i64.wrap (n14 - a_1)) < (IntKind.i64.wrap (b_1 - n14)))) (
Runs Tryd.prog 90 #[(.slice data dataL dataC), (.int .i64 a_1), (.int .i64 n14), (.int .i64 (IntKind.i64.wrap (limit_1 - (1 : Int)))), cmp] h21 fun r21 h22 =>
I1 (IntKind.i64.wrap (n14 + (1 : Int))) b_1 (IntKind.i64.wrap (limit_1 - (1 : Int))) (decide ((IntKind.i64.wrap (((IntKind.i64.wrap (b_1 - a_1))).tdiv (8 : Int))) ≤ (IntKind.i64.wrap (n14 - a_1)))) t5 h22 ∧ m1 (IntKind.i64.wrap (n14 + (1 : Int))) b_1 (IntKind.i64.wrap (limit_1 - (1 : Int))) (decide ((IntKind.i64.wrap (((IntKind.i64.wrap (b_1 - a_1))).tdiv (8 : Int))) ≤ (IntKind.i64.wrap (n14 - a_1)))) t5 h22 < m1 a_1 b_1 limit_1 wasBalanced_1 wasPartitioned_1 h1) (
Runs Tryd.prog 90 #[(.slice data dataL dataC), (.int .i64 (IntKind.i64.wrap (n14 + (1 : Int)))), (.int .i64 b_1), (.int .i64 (IntKind.i64.wrap (limit_1 - (1 : Int)))), cmp] h21 fun r22 h23 =>
I1 a_1 n14 (IntKind.i64.wrap (limit_1 - (1 : Int))) (decide ((IntKind.i64.wrap (((IntKind.i64.wrap (b_1 - a_1))).tdiv (8 : Int))) ≤ (IntKind.i64.wrap (b_1 - n14)))) t5 h23 ∧ m1 a_1 n14 (IntKind.i64.wrap (limit_1 - (1 : Int))) (decide ((IntKind.i64.wrap (((IntKind.i64.wrap (b_1 - a_1))).tdiv (8 : Int))) ≤ (IntKind.i64.wrap (b_1 - n14)))) t5 h23 < m1 a_1 b_1 limit_1 wasBalanced_1 wasPartitioned_1 h1)))) (
bcase (decide ((0 : Int) < a_1)) (
(0 ≤ (IntKind.i64.wrap (a_1 - (1 : Int))) ∧ (IntKind.i64.wrap (a_1 - (1 : Int))) < ((dataL : Nat) : Int)) ∧
onAddr data fun b5 o5 =>
∃ n15 : Int, cell h6 b5 (o5 + ((IntKind.i64.wrap (a_1 - (1 : Int)))).toNat) = some (.int .i64 n15) ∧
(0 ≤ (IntKind.i64.wrap ((IntKind.i64.wrap (b_1 - (1 : Int))) - (IntKind.i64.wrap (n1 - a_1)))) ∧ (IntKind.i64.wrap ((IntKind.i64.wrap (b_1 - (1 : Int))) - (IntKind.i64.wrap (n1 - a_1)))) < ((dataL : Nat) : Int)) ∧
onAddr data fun b6 o6 =>
∃ n16 : Int, cell h6 b6 (o6 + ((IntKind.i64.wrap ((IntKind.i64.wrap (b_1 - (1 : Int))) - (IntKind.i64.wrap (n1 - a_1))))).toNat) = some (.int .i64 n16) ∧
callv Tryd.prog cmp [(.int .i64 n15), (.int .i64 n16)] h6 fun r23 h24 =>
∃ n17 : Int,
r23 = (.int .i64 n17) ∧
bcase (!(decide (n17 < (0 : Int)))) (
Runs Tryd.prog 100 #[(.slice data dataL dataC), (.int .i64 a_1), (.int .i64 b_1), (.int .i64 (IntKind.i64.wrap ((IntKind.i64.wrap (b_1 - (1 : Int))) - (IntKind.i64.wrap (n1 - a_1))))), cmp] h24 fun r24 h25 =>
∃ n18 : Int,
r24 = (.int .i64 n18) ∧
I1 n18 b_1 (IntKind.i64.wrap (limit_1 - (1 : Int))) wasBalanced_1 wasPartitioned_1 h25 ∧ m1 n18 b_1 (IntKind.i64.wrap (limit_1 - (1 : Int))) wasBalanced_1 wasPartitioned_1 h25 < m1 a_1 b_1 limit_1 wasBalanced_1 wasPartitioned_1 h1) (
Runs Tryd.prog 101 #[(.slice data dataL dataC), (.int .i64 a_1), (.int .i64 b_1), (.int .i64 (IntKind.i64.wrap ((IntKind.i64.wrap (b_1 - (1 : Int))) - (IntKind.i64.wrap (n1 - a_1))))), cmp] h24 fun r25 h26 =>
∃ n19 : Int,
∃ t6 : Bool,
r25 = (.tuple #[(.int .i64 n19), (.bool t6)]) ∧
(8 : Int) ≠ 0 ∧
bcase (decide ((IntKind.i64.wrap (n19 - a_1)) < (IntKind.i64.wrap (b_1 - n19)))) (
Runs Tryd.prog 90 #[(.slice data dataL dataC), (.int .i64 a_1), (.int .i64 n19), (.int .i64 (IntKind.i64.wrap (limit_1 - (1 : Int)))), cmp] h26 fun r26 h27 =>
I1 (IntKind.i64.wrap (n19 + (1 : Int))) b_1 (IntKind.i64.wrap (limit_1 - (1 : Int))) (decide ((IntKind.i64.wrap (((IntKind.i64.wrap (b_1 - a_1))).tdiv (8 : Int))) ≤ (IntKind.i64.wrap (n19 - a_1)))) t6 h27 ∧ m1 (IntKind.i64.wrap (n19 + (1 : Int))) b_1 (IntKind.i64.wrap (limit_1 - (1 : Int))) (decide ((IntKind.i64.wrap (((IntKind.i64.wrap (b_1 - a_1))).tdiv (8 : Int))) ≤ (IntKind.i64.wrap (n19 - a_1)))) t6 h27 < m1 a_1 b_1 limit_1 wasBalanced_1 wasPartitioned_1 h1) (
Runs Tryd.prog 90 #[(.slice data dataL dataC), (.int .i64 (IntKind.i64.wrap (n19 + (1 : Int)))), (.int .i64 b_1), (.int .i64 (IntKind.i64.wrap (limit_1 - (1 : Int)))), cmp] h26 fun r27 h28 =>
I1 a_1 n19 (IntKind.i64.wrap (limit_1 - (1 : Int))) (decide ((IntKind.i64.wrap (((IntKind.i64.wrap (b_1 - a_1))).tdiv (8 : Int))) ≤ (IntKind.i64.wrap (b_1 - n19)))) t6 h28 ∧ m1 a_1 n19 (IntKind.i64.wrap (limit_1 - (1 : Int))) (decide ((IntKind.i64.wrap (((IntKind.i64.wrap (b_1 - a_1))).tdiv (8 : Int))) ≤ (IntKind.i64.wrap (b_1 - n19)))) t6 h28 < m1 a_1 b_1 limit_1 wasBalanced_1 wasPartitioned_1 h1))) (
Runs Tryd.prog 101 #[(.slice data dataL dataC), (.int .i64 a_1), (.int .i64 b_1), (.int .i64 (IntKind.i64.wrap ((IntKind.i64.wrap (b_1 - (1 : Int))) - (IntKind.i64.wrap (n1 - a_1))))), cmp] h6 fun r28 h29 =>
∃ n20 : Int,
∃ t7 : Bool,
r28 = (.tuple #[(.int .i64 n20), (.bool t7)]) ∧
(8 : Int) ≠ 0 ∧
bcase (decide ((IntKind.i64.wrap (n20 - a_1)) < (IntKind.i64.wrap (b_1 - n20)))) (
Runs Tryd.prog 90 #[(.slice data dataL dataC), (.int .i64 a_1), (.int .i64 n20), (.int .i64 (IntKind.i64.wrap (limit_1 - (1 : Int)))), cmp] h29 fun r29 h30 =>
I1 (IntKind.i64.wrap (n20 + (1 : Int))) b_1 (IntKind.i64.wrap (limit_1 - (1 : Int))) (decide ((IntKind.i64.wrap (((IntKind.i64.wrap (b_1 - a_1))).tdiv (8 : Int))) ≤ (IntKind.i64.wrap (n20 - a_1)))) t7 h30 ∧ m1 (IntKind.i64.wrap (n20 + (1 : Int))) b_1 (IntKind.i64.wrap (limit_1 - (1 : Int))) (decide ((IntKind.i64.wrap (((IntKind.i64.wrap (b_1 - a_1))).tdiv (8 : Int))) ≤ (IntKind.i64.wrap (n20 - a_1)))) t7 h30 < m1 a_1 b_1 limit_1 wasBalanced_1 wasPartitioned_1 h1) (
Runs Tryd.prog 90 #[(.slice data dataL dataC), (.int .i64 (IntKind.i64.wrap (n20 + (1 : Int)))), (.int .i64 b_1), (.int .i64 (IntKind.i64.wrap (limit_1 - (1 : Int)))), cmp] h29 fun r30 h31 =>
I1 a_1 n20 (IntKind.i64.wrap (limit_1 - (1 : Int))) (decide ((IntKind.i64.wrap (((IntKind.i64.wrap (b_1 - a_1))).tdiv (8 : Int))) ≤ (IntKind.i64.wrap (b_1 - n20)))) t7 h31 ∧ m1 a_1 n20 (IntKind.i64.wrap (limit_1 - (1 : Int))) (decide ((IntKind.i64.wrap (((IntKind.i64.wrap (b_1 - a_1))).tdiv (8 : Int))) ≤ (IntKind.i64.wrap (b_1 - n20)))) t7 h31 < m1 a_1 b_1 limit_1 wasBalanced_1 wasPartitioned_1 h1)))) (
bcase (decide ((0 : Int) < a_1)) (
(0 ≤ (IntKind.i64.wrap (a_1 - (1 : Int))) ∧ (IntKind.i64.wrap (a_1 - (1 : Int))) < ((dataL : Nat) : Int)) ∧
onAddr data fun b7 o7 =>
∃ n21 : Int, cell h6 b7 (o7 + ((IntKind.i64.wrap (a_1 - (1 : Int)))).toNat) = some (.int .i64 n21) ∧
(0 ≤ (IntKind.i64.wrap ((IntKind.i64.wrap (b_1 - (1 : Int))) - (IntKind.i64.wrap (n1 - a_1)))) ∧ (IntKind.i64.wrap ((IntKind.i64.wrap (b_1 - (1 : Int))) - (IntKind.i64.wrap (n1 - a_1)))) < ((dataL : Nat) : Int)) ∧
onAddr data fun b8 o8 =>
∃ n22 : Int, cell h6 b8 (o8 + ((IntKind.i64.wrap ((IntKind.i64.wrap (b_1 - (1 : Int))) - (IntKind.i64.wrap (n1 - a_1))))).toNat) = some (.int .i64 n22) ∧
callv Tryd.prog cmp [(.int .i64 n21), (.int .i64 n22)] h6 fun r31 h32 =>
∃ n23 : Int,
r31 = (.int .i64 n23) ∧
bcase (!(decide (n23 < (0 : Int)))) (
Runs Tryd.prog 100 #[(.slice data dataL dataC), (.int .i64 a_1), (.int .i64 b_1), (.int .i64 (IntKind.i64.wrap ((IntKind.i64.wrap (b_1 - (1 : Int))) - (IntKind.i64.wrap (n1 - a_1))))), cmp] h32 fun r32 h33 =>
∃ n24 : Int,
r32 = (.int .i64 n24) ∧
I1 n24 b_1 (IntKind.i64.wrap (limit_1 - (1 : Int))) wasBalanced_1 wasPartitioned_1 h33 ∧ m1 n24 b_1 (IntKind.i64.wrap (limit_1 - (1 : Int))) wasBalanced_1 wasPartitioned_1 h33 < m1 a_1 b_1 limit_1 wasBalanced_1 wasPartitioned_1 h1) (
Runs Tryd.prog 101 #[(.slice data dataL dataC), (.int .i64 a_1), (.int .i64 b_1), (.int .i64 (IntKind.i64.wrap ((IntKind.i64.wrap (b_1 - (1 : Int))) - (IntKind.i64.wrap (n1 - a_1))))), cmp] h32 fun r33 h34 =>
∃ n25 : Int,
∃ t8 : Bool,
r33 = (.tuple #[(.int .i64 n25), (.bool t8)]) ∧
(8 : Int) ≠ 0 ∧
bcase (decide ((IntKind.i64.wrap (n25 - a_1)) < (IntKind.i64.wrap (b_1 - n25)))) (
Runs Tryd.prog 90 #[(.slice data dataL dataC), (.int .i64 a_1), (.int .i64 n25), (.int .i64 (IntKind.i64.wrap (limit_1 - (1 : Int)))), cmp] h34 fun r34 h35 =>
I1 (IntKind.i64.wrap (n25 + (1 : Int))) b_1 (IntKind.i64.wrap (limit_1 - (1 : Int))) (decide ((IntKind.i64.wrap (((IntKind.i64.wrap (b_1 - a_1))).tdiv (8 : Int))) ≤ (IntKind.i64.wrap (n25 - a_1)))) t8 h35 ∧ m1 (IntKind.i64.wrap (n25 + (1 : Int))) b_1 (IntKind.i64.wrap (limit_1 - (1 : Int))) (decide ((IntKind.i64.wrap (((IntKind.i64.wrap (b_1 - a_1))).tdiv (8 : Int))) ≤ (IntKind.i64.wrap (n25 - a_1)))) t8 h35 < m1 a_1 b_1 limit_1 wasBalanced_1 wasPartitioned_1 h1) (
Runs Tryd.prog 90 #[(.slice data dataL dataC), (.int .i64 (IntKind.i64.wrap (n25 + (1 : Int)))), (.int .i64 b_1), (.int .i64 (IntKind.i64.wrap (limit_1 - (1 : Int)))), cmp] h34 fun r35 h36 =>
I1 a_1 n25 (IntKind.i64.wrap (limit_1 - (1 : Int))) (decide ((IntKind.i64.wrap (((IntKind.i64.wrap (b_1 - a_1))).tdiv (8 : Int))) ≤ (IntKind.i64.wrap (b_1 - n25)))) t8 h36 ∧ m1 a_1 n25 (IntKind.i64.wrap (limit_1 - (1 : Int))) (decide ((IntKind.i64.wrap (((IntKind.i64.wrap (b_1 - a_1))).tdiv (8 : Int))) ≤ (IntKind.i64.wrap (b_1 - n25)))) t8 h36 < m1 a_1 b_1 limit_1 wasBalanced_1 wasPartitioned_1 h1))) (
Runs Tryd.prog 101 #[(.slice data dataL dataC), (.int .i64 a_1), (.int .i64 b_1), (.int .i64 (IntKind.i64.wrap ((IntKind.i64.wrap (b_1 - (1 : Int))) - (IntKind.i64.wrap (n1 - a_1))))), cmp] h6 fun r36 h37 =>
∃ n26 : Int,
∃ t9 : Bool,
r36 = (.tuple #[(.int .i64 n26), (.bool t9)]) ∧
(8 : Int) ≠ 0 ∧
bcase (decide ((IntKind.i64.wrap (n26 - a_1)) < (IntKind.i64.wrap (b_1 - n26)))) (
Runs Tryd.prog 90 #[(.slice data dataL dataC), (.int .i64 a_1), (.int .i64 n26), (.int .i64 (IntKind.i64.wrap (limit_1 - (1 : Int)))), cmp] h37 fun r37 h38 =>
I1 (IntKind.i64.wrap (n26 + (1 : Int))) b_1 (IntKind.i64.wrap (limit_1 - (1 : Int))) (decide ((IntKind.i64.wrap (((IntKind.i64.wrap (b_1 - a_1))).tdiv (8 : Int))) ≤ (IntKind.i64.wrap (n26 - a_1)))) t9 h38 ∧ m1 (IntKind.i64.wrap (n26 + (1 : Int))) b_1 (IntKind.i64.wrap (limit_1 - (1 : Int))) (decide ((IntKind.i64.wrap (((IntKind.i64.wrap (b_1 - a_1))).tdiv (8 : Int))) ≤ (IntKind.i64.wrap (n26 - a_1)))) t9 h38 < m1 a_1 b_1 limit_1 wasBalanced_1 wasPartitioned_1 h1) (
Runs Tryd.prog 90 #[(.slice data dataL dataC), (.int .i64 (IntKind.i64.wrap (n26 + (1 : Int)))), (.int .i64 b_1), (.int .i64 (IntKind.i64.wrap (limit_1 - (1 : Int)))), cmp] h37 fun r38 h39 =>
I1 a_1 n26 (IntKind.i64.wrap (limit_1 - (1 : Int))) (decide ((IntKind.i64.wrap (((IntKind.i64.wrap (b_1 - a_1))).tdiv (8 : Int))) ≤ (IntKind.i64.wrap (b_1 - n26)))) t9 h39 ∧ m1 a_1 n26 (IntKind.i64.wrap (limit_1 - (1 : Int))) (decide ((IntKind.i64.wrap (((IntKind.i64.wrap (b_1 - a_1))).tdiv (8 : Int))) ≤ (IntKind.i64.wrap (b_1 - n26)))) t9 h39 < m1 a_1 b_1 limit_1 wasBalanced_1 wasPartitioned_1 h1)))) (
bcase wasBalanced_1 (
bcase wasPartitioned_1 (
bcase (decide (n2 = (1 : Int))) (
Runs Tryd.prog 99 #[(.slice data dataL dataC), (.int .i64 a_1), (.int .i64 b_1), cmp] h5 fun r39 h40 =>
∃ t10 : Bool,
r39 = (.bool t10) ∧
bcase t10 (
Post (.tuple #[]) h40) (
bcase (decide ((0 : Int) < a_1)) (
(0 ≤ (IntKind.i64.wrap (a_1 - (1 : Int))) ∧ (IntKind.i64.wrap (a_1 - (1 : Int))) < ((dataL : Nat) : Int)) ∧
onAddr data fun b9 o9 =>
∃ n27 : Int, cell h40 b9 (o9 + ((IntKind.i64.wrap (a_1 - (1 : Int)))).toNat) = some (.int .i64 n27) ∧
(0 ≤ n1 ∧ n1 < ((dataL : Nat) : Int)) ∧
onAddr data fun b10 o10 =>
∃ n28 : Int, cell h40 b10 (o10 + (n1).toNat) = some (.int .i64 n28) ∧
callv Tryd.prog cmp [(.int .i64 n27), (.int .i64 n28)] h40 fun r40 h41 =>
∃ n29 : Int,
r40 = (.int .i64 n29) ∧
bcase (!(decide (n29 < (0 : Int)))) (
Runs Tryd.prog 100 #[(.slice data dataL dataC), (.int .i64 a_1), (.int .i64 b_1), (.int .i64 n1), cmp] h41 fun r41 h42 =>
∃ n30 : Int,
r41 = (.int .i64 n30) ∧
I1 n30 b_1 (IntKind.i64.wrap (limit_1 - (1 : Int))) wasBalanced_1 wasPartitioned_1 h42 ∧ m1 n30 b_1 (IntKind.i64.wrap (limit_1 - (1 : Int))) wasBalanced_1 wasPartitioned_1 h42 < m1 a_1 b_1 limit_1 wasBalanced_1 wasPartitioned_1 h1) (
Runs Tryd.prog 101 #[(.slice data dataL dataC), (.int .i64 a_1), (.int .i64 b_1), (.int .i64 n1), cmp] h41 fun r42 h43 =>
∃ n31 : Int,
∃ t11 : Bool,
r42 = (.tuple #[(.int .i64 n31), (.bool t11)]) ∧
(8 : Int) ≠ 0 ∧
bcase (decide ((IntKind.i64.wrap (n31 - a_1)) < (IntKind.i64.wrap (b_1 - n31)))) (
Runs Tryd.prog 90 #[(.slice data dataL dataC), (.int .i64 a_1), (.int .i64 n31), (.int .i64 (IntKind.i64.wrap (limit_1 - (1 : Int)))), cmp] h43 fun r43 h44 =>
I1 (IntKind.i64.wrap (n31 + (1 : Int))) b_1 (IntKind.i64.wrap (limit_1 - (1 : Int))) (decide ((IntKind.i64.wrap (((IntKind.i64.wrap (b_1 - a_1))).tdiv (8 : Int))) ≤ (IntKind.i64.wrap (n31 - a_1)))) t11 h44 ∧ m1 (IntKind.i64.wrap (n31 + (1 : Int))) b_1 (IntKind.i64.wrap (limit_1 - (1 : Int))) (decide ((IntKind.i64.wrap (((IntKind.i64.wrap (b_1 - a_1))).tdiv (8 : Int))) ≤ (IntKind.i64.wrap (n31 - a_1)))) t11 h44 < m1 a_1 b_1 limit_1 wasBalanced_1 wasPartitioned_1 h1) (
Runs Tryd.prog 90 #[(.slice data dataL dataC), (.int .i64 (IntKind.i64.wrap (n31 + (1 : Int)))), (.int .i64 b_1), (.int .i64 (IntKind.i64.wrap (limit_1 - (1 : Int)))), cmp] h43 fun r44 h45 =>
I1 a_1 n31 (IntKind.i64.wrap (limit_1 - (1 : Int))) (decide ((IntKind.i64.wrap (((IntKind.i64.wrap (b_1 - a_1))).tdiv (8 : Int))) ≤ (IntKind.i64.wrap (b_1 - n31)))) t11 h45 ∧ m1 a_1 n31 (IntKind.i64.wrap (limit_1 - (1 : Int))) (decide ((IntKind.i64.wrap (((IntKind.i64.wrap (b_1 - a_1))).tdiv (8 : Int))) ≤ (IntKind.i64.wrap (b_1 - n31)))) t11 h45 < m1 a_1 b_1 limit_1 wasBalanced_1 wasPartitioned_1 h1))) (
Runs Tryd.prog 101 #[(.slice data dataL dataC), (.int .i64 a_1), (.int .i64 b_1), (.int .i64 n1), cmp] h40 fun r45 h46 =>
∃ n32 : Int,
∃ t12 : Bool,
r45 = (.tuple #[(.int .i64 n32), (.bool t12)]) ∧
(8 : Int) ≠ 0 ∧
bcase (decide ((IntKind.i64.wrap (n32 - a_1)) < (IntKind.i64.wrap (b_1 - n32)))) (
Runs Tryd.prog 90 #[(.slice data dataL dataC), (.int .i64 a_1), (.int .i64 n32), (.int .i64 (IntKind.i64.wrap (limit_1 - (1 : Int)))), cmp] h46 fun r46 h47 =>
I1 (IntKind.i64.wrap (n32 + (1 : Int))) b_1 (IntKind.i64.wrap (limit_1 - (1 : Int))) (decide ((IntKind.i64.wrap (((IntKind.i64.wrap (b_1 - a_1))).tdiv (8 : Int))) ≤ (IntKind.i64.wrap (n32 - a_1)))) t12 h47 ∧ m1 (IntKind.i64.wrap (n32 + (1 : Int))) b_1 (IntKind.i64.wrap (limit_1 - (1 : Int))) (decide ((IntKind.i64.wrap (((IntKind.i64.wrap (b_1 - a_1))).tdiv (8 : Int))) ≤ (IntKind.i64.wrap (n32 - a_1)))) t12 h47 < m1 a_1 b_1 limit_1 wasBalanced_1 wasPartitioned_1 h1) (
Runs Tryd.prog 90 #[(.slice data dataL dataC), (.int .i64 (IntKind.i64.wrap (n32 + (1 : Int)))), (.int .i64 b_1), (.int .i64 (IntKind.i64.wrap (limit_1 - (1 : Int)))), cmp] h46 fun r47 h48 =>
I1 a_1 n32 (IntKind.i64.wrap (limit_1 - (1 : Int))) (decide ((IntKind.i64.wrap (((IntKind.i64.wrap (b_1 - a_1))).tdiv (8 : Int))) ≤ (IntKind.i64.wrap (b_1 - n32)))) t12 h48 ∧ m1 a_1 n32 (IntKind.i64.wrap (limit_1 - (1 : Int))) (decide ((IntKind.i64.wrap (((IntKind.i64.wrap (b_1 - a_1))).tdiv (8 : Int))) ≤ (IntKind.i64.wrap (b_1 - n32)))) t12 h48 < m1 a_1 b_1 limit_1 wasBalanced_1 wasPartitioned_1 h1)))) (
bcase (decide ((0 : Int) < a_1)) (
(0 ≤ (IntKind.i64.wrap (a_1 - (1 : Int))) ∧ (IntKind.i64.wrap (a_1 - (1 : Int))) < ((dataL : Nat) : Int)) ∧
onAddr data fun b11 o11 =>
∃ n33 : Int, cell h5 b11 (o11 + ((IntKind.i64.wrap (a_1 - (1 : Int)))).toNat) = some (.int .i64 n33) ∧
(0 ≤ n1 ∧ n1 < ((dataL : Nat) : Int)) ∧
onAddr data fun b12 o12 =>
∃ n34 : Int, cell h5 b12 (o12 + (n1).toNat) = some (.int .i64 n34) ∧
callv Tryd.prog cmp [(.int .i64 n33), (.int .i64 n34)] h5 fun r48 h49 =>
∃ n35 : Int,
r48 = (.int .i64 n35) ∧
bcase (!(decide (n35 < (0 : Int)))) (
Runs Tryd.prog 100 #[(.slice data dataL dataC), (.int .i64 a_1), (.int .i64 b_1), (.int .i64 n1), cmp] h49 fun r49 h50 =>
∃ n36 : Int,
r49 = (.int .i64 n36) ∧
I1 n36 b_1 (IntKind.i64.wrap (limit_1 - (1 : Int))) wasBalanced_1 wasPartitioned_1 h50 ∧ m1 n36 b_1 (IntKind.i64.wrap (limit_1 - (1 : Int))) wasBalanced_1 wasPartitioned_1 h50 < m1 a_1 b_1 limit_1 wasBalanced_1 wasPartitioned_1 h1) (
Runs Tryd.prog 101 #[(.slice data dataL dataC), (.int .i64 a_1), (.int .i64 b_1), (.int .i64 n1), cmp] h49 fun r50 h51 =>
∃ n37 : Int,
∃ t13 : Bool,
r50 = (.tuple #[(.int .i64 n37), (.bool t13)]) ∧
(8 : Int) ≠ 0 ∧
bcase (decide ((IntKind.i64.wrap (n37 - a_1)) < (IntKind.i64.wrap (b_1 - n37)))) (
Runs Tryd.prog 90 #[(.slice data dataL dataC), (.int .i64 a_1), (.int .i64 n37), (.int .i64 (IntKind.i64.wrap (limit_1 - (1 : Int)))), cmp] h51 fun r51 h52 =>
I1 (IntKind.i64.wrap (n37 + (1 : Int))) b_1 (IntKind.i64.wrap (limit_1 - (1 : Int))) (decide ((IntKind.i64.wrap (((IntKind.i64.wrap (b_1 - a_1))).tdiv (8 : Int))) ≤ (IntKind.i64.wrap (n37 - a_1)))) t13 h52 ∧ m1 (IntKind.i64.wrap (n37 + (1 : Int))) b_1 (IntKind.i64.wrap (limit_1 - (1 : Int))) (decide ((IntKind.i64.wrap (((IntKind.i64.wrap (b_1 - a_1))).tdiv (8 : Int))) ≤ (IntKind.i64.wrap (n37 - a_1)))) t13 h52 < m1 a_1 b_1 limit_1 wasBalanced_1 wasPartitioned_1 h1) (
Runs Tryd.prog 90 #[(.slice data dataL dataC), (.int .i64 (IntKind.i64.wrap (n37 + (1 : Int)))), (.int .i64 b_1), (.int .i64 (IntKind.i64.wrap (limit_1 - (1 : Int)))), cmp] h51 fun r52 h53 =>
I1 a_1 n37 (IntKind.i64.wrap (limit_1 - (1 : Int))) (decide ((IntKind.i64.wrap (((IntKind.i64.wrap (b_1 - a_1))).tdiv (8 : Int))) ≤ (IntKind.i64.wrap (b_1 - n37)))) t13 h53 ∧ m1 a_1 n37 (IntKind.i64.wrap (limit_1 - (1 : Int))) (decide ((IntKind.i64.wrap (((IntKind.i64.wrap (b_1 - a_1))).tdiv (8 : Int))) ≤ (IntKind.i64.wrap (b_1 - n37)))) t13 h53 < m1 a_1 b_1 limit_1 wasBalanced_1 wasPartitioned_1 h1))) (
Runs Tryd.prog 101 #[(.slice data dataL dataC), (.int .i64 a_1), (.int .i64 b_1), (.int .i64 n1), cmp] h5 fun r53 h54 =>
∃ n38 : Int,
∃ t14 : Bool,
r53 = (.tuple #[(.int .i64 n38), (.bool t14)]) ∧
(8 : Int) ≠ 0 ∧
bcase (decide ((IntKind.i64.wrap (n38 - a_1)) < (IntKind.i64.wrap (b_1 - n38)))) (
Runs Tryd.prog 90 #[(.slice data dataL dataC), (.int .i64 a_1), (.int .i64 n38), (.int .i64 (IntKind.i64.wrap (limit_1 - (1 : Int)))), cmp] h54 fun r54 h55 =>
I1 (IntKind.i64.wrap (n38 + (1 : Int))) b_1 (IntKind.i64.wrap (limit_1 - (1 : Int))) (decide ((IntKind.i64.wrap (((IntKind.i64.wrap (b_1 - a_1))).tdiv (8 : Int))) ≤ (IntKind.i64.wrap (n38 - a_1)))) t14 h55 ∧ m1 (IntKind.i64.wrap (n38 + (1 : Int))) b_1 (IntKind.i64.wrap (limit_1 - (1 : Int))) (decide ((IntKind.i64.wrap (((IntKind.i64.wrap (b_1 - a_1))).tdiv (8 : Int))) ≤ (IntKind.i64.wrap (n38 - a_1)))) t14 h55 < m1 a_1 b_1 limit_1 wasBalanced_1 wasPartitioned_1 h1) (
Runs Tryd.prog 90 #[(.slice data dataL dataC), (.int .i64 (IntKind.i64.wrap (n38 + (1 : Int)))), (.int .i64 b_1), (.int .i64 (IntKind.i64.wrap (limit_1 - (1 : Int)))), cmp] h54 fun r55 h56 =>
I1 a_1 n38 (IntKind.i64.wrap (limit_1 - (1 : Int))) (decide ((IntKind.i64.wrap (((IntKind.i64.wrap (b_1 - a_1))).tdiv (8 : Int))) ≤ (IntKind.i64.wrap (b_1 - n38)))) t14 h56 ∧ m1 a_1 n38 (IntKind.i64.wrap (limit_1 - (1 : Int))) (decide ((IntKind.i64.wrap (((IntKind.i64.wrap (b_1 - a_1))).tdiv (8 : Int))) ≤ (IntKind.i64.wrap (b_1 - n38)))) t14 h56 < m1 a_1 b_1 limit_1 wasBalanced_1 wasPartitioned_1 h1)))) (
bcase (decide ((0 : Int) < a_1)) (
(0 ≤ (IntKind.i64.wrap (a_1 - (1 : Int))) ∧ (IntKind.i64.wrap (a_1 - (1 : Int))) < ((dataL : Nat) : Int)) ∧
onAddr data fun b13 o13 =>
∃ n39 : Int, cell h5 b13 (o13 + ((IntKind.i64.wrap (a_1 - (1 : Int)))).toNat) = some (.int .i64 n39) ∧
(0 ≤ n1 ∧ n1 < ((dataL : Nat) : Int)) ∧
onAddr data fun b14 o14 =>
∃ n40 : Int, cell h5 b14 (o14 + (n1).toNat) = some (.int .i64 n40) ∧
callv Tryd.prog cmp [(.int .i64 n39), (.int .i64 n40)] h5 fun r56 h57 =>
∃ n41 : Int,
r56 = (.int .i64 n41) ∧
bcase (!(decide (n41 < (0 : Int)))) (
Runs Tryd.prog 100 #[(.slice data dataL dataC), (.int .i64 a_1), (.int .i64 b_1), (.int .i64 n1), cmp] h57 fun r57 h58 =>
∃ n42 : Int,
r57 = (.int .i64 n42) ∧
I1 n42 b_1 (IntKind.i64.wrap (limit_1 - (1 : Int))) wasBalanced_1 wasPartitioned_1 h58 ∧ m1 n42 b_1 (IntKind.i64.wrap (limit_1 - (1 : Int))) wasBalanced_1 wasPartitioned_1 h58 < m1 a_1 b_1 limit_1 wasBalanced_1 wasPartitioned_1 h1) (
Runs Tryd.prog 101 #[(.slice data dataL dataC), (.int .i64 a_1), (.int .i64 b_1), (.int .i64 n1), cmp] h57 fun r58 h59 =>
∃ n43 : Int,
∃ t15 : Bool,
r58 = (.tuple #[(.int .i64 n43), (.bool t15)]) ∧
(8 : Int) ≠ 0 ∧
bcase (decide ((IntKind.i64.wrap (n43 - a_1)) < (IntKind.i64.wrap (b_1 - n43)))) (
Runs Tryd.prog 90 #[(.slice data dataL dataC), (.int .i64 a_1), (.int .i64 n43), (.int .i64 (IntKind.i64.wrap (limit_1 - (1 : Int)))), cmp] h59 fun r59 h60 =>
I1 (IntKind.i64.wrap (n43 + (1 : Int))) b_1 (IntKind.i64.wrap (limit_1 - (1 : Int))) (decide ((IntKind.i64.wrap (((IntKind.i64.wrap (b_1 - a_1))).tdiv (8 : Int))) ≤ (IntKind.i64.wrap (n43 - a_1)))) t15 h60 ∧ m1 (IntKind.i64.wrap (n43 + (1 : Int))) b_1 (IntKind.i64.wrap (limit_1 - (1 : Int))) (decide ((IntKind.i64.wrap (((IntKind.i64.wrap (b_1 - a_1))).tdiv (8 : Int))) ≤ (IntKind.i64.wrap (n43 - a_1)))) t15 h60 < m1 a_1 b_1 limit_1 wasBalanced_1 wasPartitioned_1 h1) (
Runs Tryd.prog 90 #[(.slice data dataL dataC), (.int .i64 (IntKind.i64.wrap (n43 + (1 : Int)))), (.int .i64 b_1), (.int .i64 (IntKind.i64.wrap (limit_1 - (1 : Int)))), cmp] h59 fun r60 h61 =>
I1 a_1 n43 (IntKind.i64.wrap (limit_1 - (1 : Int))) (decide ((IntKind.i64.wrap (((IntKind.i64.wrap (b_1 - a_1))).tdiv (8 : Int))) ≤ (IntKind.i64.wrap (b_1 - n43)))) t15 h61 ∧ m1 a_1 n43 (IntKind.i64.wrap (limit_1 - (1 : Int))) (decide ((IntKind.i64.wrap (((IntKind.i64.wrap (b_1 - a_1))).tdiv (8 : Int))) ≤ (IntKind.i64.wrap (b_1 - n43)))) t15 h61 < m1 a_1 b_1 limit_1 wasBalanced_1 wasPartitioned_1 h1))) (
Runs Tryd.prog 101 #[(.slice data dataL dataC), (.int .i64 a_1), (.int .i64 b_1), (.int .i64 n1), cmp] h5 fun r61 h62 =>
∃ n44 : Int,
∃ t16 : Bool,
r61 = (.tuple #[(.int .i64 n44), (.bool t16)]) ∧
(8 : Int) ≠ 0 ∧
bcase (decide ((IntKind.i64.wrap (n44 - a_1)) < (IntKind.i64.wrap (b_1 - n44)))) (
Runs Tryd.prog 90 #[(.slice data dataL dataC), (.int .i64 a_1), (.int .i64 n44), (.int .i64 (IntKind.i64.wrap (limit_1 - (1 : Int)))), cmp] h62 fun r62 h63 =>
I1 (IntKind.i64.wrap (n44 + (1 : Int))) b_1 (IntKind.i64.wrap (limit_1 - (1 : Int))) (decide ((IntKind.i64.wrap (((IntKind.i64.wrap (b_1 - a_1))).tdiv (8 : Int))) ≤ (IntKind.i64.wrap (n44 - a_1)))) t16 h63 ∧ m1 (IntKind.i64.wrap (n44 + (1 : Int))) b_1 (IntKind.i64.wrap (limit_1 - (1 : Int))) (decide ((IntKind.i64.wrap (((IntKind.i64.wrap (b_1 - a_1))).tdiv (8 : Int))) ≤ (IntKind.i64.wrap (n44 - a_1)))) t16 h63 < m1 a_1 b_1 limit_1 wasBalanced_1 wasPartitioned_1 h1) (
Runs Tryd.prog 90 #[(.slice data dataL dataC), (.int .i64 (IntKind.i64.wrap (n44 + (1 : Int)))), (.int .i64 b_1), (.int .i64 (IntKind.i64.wrap (limit_1 - (1 : Int)))), cmp] h62 fun r63 h64 =>
I1 a_1 n44 (IntKind.i64.wrap (limit_1 - (1 : Int))) (decide ((IntKind.i64.wrap (((IntKind.i64.wrap (b_1 - a_1))).tdiv (8 : Int))) ≤ (IntKind.i64.wrap (b_1 - n44)))) t16 h64 ∧ m1 a_1 n44 (IntKind.i64.wrap (limit_1 - (1 : Int))) (decide ((IntKind.i64.wrap (((IntKind.i64.wrap (b_1 - a_1))).tdiv (8 : Int))) ≤ (IntKind.i64.wrap (b_1 - n44)))) t16 h64 < m1 a_1 b_1 limit_1 wasBalanced_1 wasPartitioned_1 h1)))) (
bcase (decide ((0 : Int) < a_1)) (
(0 ≤ (IntKind.i64.wrap (a_1 - (1 : Int))) ∧ (IntKind.i64.wrap (a_1 - (1 : Int))) < ((dataL : Nat) : Int)) ∧
onAddr data fun b15 o15 =>
∃ n45 : Int, cell h5 b15 (o15 + ((IntKind.i64.wrap (a_1 - (1 : Int)))).toNat) = some (.int .i64 n45) ∧
(0 ≤ n1 ∧ n1 < ((dataL : Nat) : Int)) ∧
onAddr data fun b16 o16 =>
∃ n46 : Int, cell h5 b16 (o16 + (n1).toNat) = some (.int .i64 n46) ∧
callv Tryd.prog cmp [(.int .i64 n45), (.int .i64 n46)] h5 fun r64 h65 =>
∃ n47 : Int,
r64 = (.int .i64 n47) ∧
bcase (!(decide (n47 < (0 : Int)))) (
Runs Tryd.prog 100 #[(.slice data dataL dataC), (.int .i64 a_1), (.int .i64 b_1), (.int .i64 n1), cmp] h65 fun r65 h66 =>
∃ n48 : Int,
r65 = (.int .i64 n48) ∧
I1 n48 b_1 (IntKind.i64.wrap (limit_1 - (1 : Int))) wasBalanced_1 wasPartitioned_1 h66 ∧ m1 n48 b_1 (IntKind.i64.wrap (limit_1 - (1 : Int))) wasBalanced_1 wasPartitioned_1 h66 < m1 a_1 b_1 limit_1 wasBalanced_1 wasPartitioned_1 h1) (
Runs Tryd.prog 101 #[(.slice data dataL dataC), (.int .i64 a_1), (.int .i64 b_1), (.int .i64 n1), cmp] h65 fun r66 h67 =>
∃ n49 : Int,
∃ t17 : Bool,
r66 = (.tuple #[(.int .i64 n49), (.bool t17)]) ∧
(8 : Int) ≠ 0 ∧
bcase (decide ((IntKind.i64.wrap (n49 - a_1)) < (IntKind.i64.wrap (b_1 - n49)))) (
Runs Tryd.prog 90 #[(.slice data dataL dataC), (.int .i64 a_1), (.int .i64 n49), (.int .i64 (IntKind.i64.wrap (limit_1 - (1 : Int)))), cmp] h67 fun r67 h68 =>
I1 (IntKind.i64.wrap (n49 + (1 : Int))) b_1 (IntKind.i64.wrap (limit_1 - (1 : Int))) (decide ((IntKind.i64.wrap (((IntKind.i64.wrap (b_1 - a_1))).tdiv (8 : Int))) ≤ (IntKind.i64.wrap (n49 - a_1)))) t17 h68 ∧ m1 (IntKind.i64.wrap (n49 + (1 : Int))) b_1 (IntKind.i64.wrap (limit_1 - (1 : Int))) (decide ((IntKind.i64.wrap (((IntKind.i64.wrap (b_1 - a_1))).tdiv (8 : Int))) ≤ (IntKind.i64.wrap (n49 - a_1)))) t17 h68 < m1 a_1 b_1 limit_1 wasBalanced_1 wasPartitioned_1 h1) (
Runs Tryd.prog 90 #[(.slice data dataL dataC), (.int .i64 (IntKind.i64.wrap (n49 + (1 : Int)))), (.int .i64 b_1), (.int .i64 (IntKind.i64.wrap (limit_1 - (1 : Int)))), cmp] h67 fun r68 h69 =>
I1 a_1 n49 (IntKind.i64.wrap (limit_1 - (1 : Int))) (decide ((IntKind.i64.wrap (((IntKind.i64.wrap (b_1 - a_1))).tdiv (8 : Int))) ≤ (IntKind.i64.wrap (b_1 - n49)))) t17 h69 ∧ m1 a_1 n49 (IntKind.i64.wrap (limit_1 - (1 : Int))) (decide ((IntKind.i64.wrap (((IntKind.i64.wrap (b_1 - a_1))).tdiv (8 : Int))) ≤ (IntKind.i64.wrap (b_1 - n49)))) t17 h69 < m1 a_1 b_1 limit_1 wasBalanced_1 wasPartitioned_1 h1))) (
Runs Tryd.prog 101 #[(.slice data dataL dataC), (.int .i64 a_1), (.int .i64 b_1), (.int .i64 n1), cmp] h5 fun r69 h70 =>
∃ n50 : Int,
∃ t18 : Bool,
r69 = (.tuple #[(.int .i64 n50), (.bool t18)]) ∧
(8 : Int) ≠ 0 ∧
bcase (decide ((IntKind.i64.wrap (n50 - a_1)) < (IntKind.i64.wrap (b_1 - n50)))) (
Runs Tryd.prog 90 #[(.slice data dataL dataC), (.int .i64 a_1), (.int .i64 n50), (.int .i64 (IntKind.i64.wrap (limit_1 - (1 : Int)))), cmp] h70 fun r70 h71 =>
I1 (IntKind.i64.wrap (n50 + (1 : Int))) b_1 (IntKind.i64.wrap (limit_1 - (1 : Int))) (decide ((IntKind.i64.wrap (((IntKind.i64.wrap (b_1 - a_1))).tdiv (8 : Int))) ≤ (IntKind.i64.wrap (n50 - a_1)))) t18 h71 ∧ m1 (IntKind.i64.wrap (n50 + (1 : Int))) b_1 (IntKind.i64.wrap (limit_1 - (1 : Int))) (decide ((IntKind.i64.wrap (((IntKind.i64.wrap (b_1 - a_1))).tdiv (8 : Int))) ≤ (IntKind.i64.wrap (n50 - a_1)))) t18 h71 < m1 a_1 b_1 limit_1 wasBalanced_1 wasPartitioned_1 h1) (
Runs Tryd.prog 90 #[(.slice data dataL dataC), (.int .i64 (IntKind.i64.wrap (n50 + (1 : Int)))), (.int .i64 b_1), (.int .i64 (IntKind.i64.wrap (limit_1 - (1 : Int)))), cmp] h70 fun r71 h72 =>
I1 a_1 n50 (IntKind.i64.wrap (limit_1 - (1 : Int))) (decide ((IntKind.i64.wrap (((IntKind.i64.wrap (b_1 - a_1))).tdiv (8 : Int))) ≤ (IntKind.i64.wrap (b_1 - n50)))) t18 h72 ∧ m1 a_1 n50 (IntKind.i64.wrap (limit_1 - (1 : Int))) (decide ((IntKind.i64.wrap (((IntKind.i64.wrap (b_1 - a_1))).tdiv (8 : Int))) ≤ (IntKind.i64.wrap (b_1 - n50)))) t18 h72 < m1 a_1 b_1 limit_1 wasBalanced_1 wasPartitioned_1 h1))))) (
Runs Tryd.prog 97 #[(.slice data dataL dataC), (.int .i64 a_1), (.int .i64 b_1), cmp] h1 fun r72 h73 =>
∃ n51 : Int,
∃ n52 : Int,
r72 = (.tuple #[(.int .i64 n51), (.int .i64 n52)]) ∧
bcase (decide (n52 = (2 : Int))) (
Runs Tryd.prog 98 #[(.slice data dataL dataC), (.int .i64 a_1), (.int .i64 b_1), cmp] h73 fun r73 h74 =>
bcase wasBalanced_1 (
bcase wasPartitioned_1 (
bcase (decide ((1 : Int) = (1 : Int))) (
Runs Tryd.prog 99 #[(.slice data dataL dataC), (.int .i64 a_1), (.int .i64 b_1), cmp] h74 fun r74 h75 =>
∃ t19 : Bool,
r74 = (.bool t19) ∧
bcase t19 (
Post (.tuple #[]) h75) (
bcase (decide ((0 : Int) < a_1)) (
(0 ≤ (IntKind.i64.wrap (a_1 - (1 : Int))) ∧ (IntKind.i64.wrap (a_1 - (1 : Int))) < ((dataL : Nat) : Int)) ∧
onAddr data fun b17 o17 =>
∃ n53 : Int, cell h75 b17 (o17 + ((IntKind.i64.wrap (a_1 - (1 : Int)))).toNat) = some (.int .i64 n53) ∧
(0 ≤ (IntKind.i64.wrap ((IntKind.i64.wrap (b_1 - (1 : Int))) - (IntKind.i64.wrap (n51 - a_1)))) ∧ (IntKind.i64.wrap ((IntKind.i64.wrap (b_1 - (1 : Int))) - (IntKind.i64.wrap (n51 - a_1)))) < ((dataL : Nat) : Int)) ∧
onAddr data fun b18 o18 =>
∃ n54 : Int, cell h75 b18 (o18 + ((IntKind.i64.wrap ((IntKind.i64.wrap (b_1 - (1 : Int))) - (IntKind.i64.wrap (n51 - a_1))))).toNat) = some (.int .i64 n54) ∧
callv Tryd.prog cmp [(.int .i64 n53), (.int .i64 n54)] h75 fun r75 h76 =>
∃ n55 : Int,
r75 = (.int .i64 n55) ∧
bcase (!(decide (n55 < (0 : Int)))) (
Runs Tryd.prog 100 #[(.slice data dataL dataC), (.int .i64 a_1), (.int .i64 b_1), (.int .i64 (IntKind.i64.wrap ((IntKind.i64.wrap (b_1 - (1 : Int))) - (IntKind.i64.wrap (n51 - a_1))))), cmp] h76 fun r76 h77 =>
∃ n56 : Int,
r76 = (.int .i64 n56) ∧
I1 n56 b_1 limit_1 wasBalanced_1 wasPartitioned_1 h77 ∧ m1 n56 b_1 limit_1 wasBalanced_1 wasPartitioned_1 h77 < m1 a_1 b_1 limit_1 wasBalanced_1 wasPartitioned_1 h1) (
Runs Tryd.prog 101 #[(.slice data dataL dataC), (.int .i64 a_1), (.int .i64 b_1), (.int .i64 (IntKind.i64.wrap ((IntKind.i64.wrap (b_1 - (1 : Int))) - (IntKind.i64.wrap (n51 - a_1))))), cmp] h76 fun r77 h78 =>
∃ n57 : Int,
∃ t20 : Bool,
r77 = (.tuple #[(.int .i64 n57), (.bool t20)]) ∧
(8 : Int) ≠ 0 ∧
bcase (decide ((IntKind.i64.wrap (n57 - a_1)) < (IntKind.i64.wrap (b_1 - n57)))) (
Runs Tryd.prog 90 #[(.slice data dataL dataC), (.int .i64 a_1), (.int .i64 n57), (.int .i64 limit_1), cmp] h78 fun r78 h79 =>
I1 (IntKind.i64.wrap (n57 + (1 : Int))) b_1 limit_1 (decide ((IntKind.i64.wrap (((IntKind.i64.wrap (b_1 - a_1))).tdiv (8 : Int))) ≤ (IntKind.i64.wrap (n57 - a_1)))) t20 h79 ∧ m1 (IntKind.i64.wrap (n57 + (1 : Int))) b_1 limit_1 (decide ((IntKind.i64.wrap (((IntKind.i64.wrap (b_1 - a_1))).tdiv (8 : Int))) ≤ (IntKind.i64.wrap (n57 - a_1)))) t20 h79 < m1 a_1 b_1 limit_1 wasBalanced_1 wasPartitioned_1 h1) (
Runs Tryd.prog 90 #[(.slice data dataL dataC), (.int .i64 (IntKind.i64.wrap (n57 + (1 : Int)))), (.int .i64 b_1), (.int .i64 limit_1), cmp] h78 fun r79 h80 =>
I1 a_1 n57 limit_1 (decide ((IntKind.i64.wrap (((IntKind.i64.wrap (b_1 - a_1))).tdiv (8 : Int))) ≤ (IntKind.i64.wrap (b_1 - n57)))) t20 h80 ∧ m1 a_1 n57 limit_1 (decide ((IntKind.i64.wrap (((IntKind.i64.wrap (b_1 - a_1))).tdiv (8 : Int))) ≤ (IntKind.i64.wrap (b_1 - n57)))) t20 h80 < m1 a_1 b_1 limit_1 wasBalanced_1 wasPartitioned_1 h1))) (
Runs Tryd.prog 101 #[(.slice data dataL dataC), (.int .i64 a_1), (.int .i64 b_1), (.int .i64 (IntKind.i64.wrap ((IntKind.i64.wrap (b_1 - (1 : Int))) - (IntKind.i64.wrap (n51 - a_1))))), cmp] h75 fun r80 h81 =>
∃ n58 : Int,
∃ t21 : Bool,
r80 = (.tuple #[(.int .i64 n58), (.bool t21)]) ∧
(8 : Int) ≠ 0 ∧
bcase (decide ((IntKind.i64.wrap (n58 - a_1)) < (IntKind.i64.wrap (b_1 - n58)))) (
Runs Tryd.prog 90 #[(.slice data dataL dataC), (.int .i64 a_1), (.int .i64 n58), (.int .i64 limit_1), cmp] h81 fun r81 h82 =>
I1 (IntKind.i64.wrap (n58 + (1 : Int))) b_1 limit_1 (decide ((IntKind.i64.wrap (((IntKind.i64.wrap (b_1 - a_1))).tdiv (8 : Int))) ≤ (IntKind.i64.wrap (n58 - a_1)))) t21 h82 ∧ m1 (IntKind.i64.wrap (n58 + (1 : Int))) b_1 limit_1 (decide ((IntKind.i64.wrap (((IntKind.i64.wrap (b_1 - a_1))).tdiv (8 : Int))) ≤ (IntKind.i64.wrap (n58 - a_1)))) t21 h82 < m1 a_1 b_1 limit_1 wasBalanced_1 wasPartitioned_1 h1) (
Runs Tryd.prog 90 #[(.slice data dataL dataC), (.int .i64 (IntKind.i64.wrap (n58 + (1 : Int)))), (.int .i64 b_1), (.int .i64 limit_1), cmp] h81 fun r82 h83 =>
I1 a_1 n58 limit_1 (decide ((IntKind.i64.wrap (((IntKind.i64.wrap (b_1 - a_1))).tdiv (8 : Int))) ≤ (IntKind.i64.wrap (b_1 - n58)))) t21 h83 ∧ m1 a_1 n58 limit_1 (decide ((IntKind.i64.wrap (((IntKind.i64.wrap (b_1 - a_1))).tdiv (8 : Int))) ≤ (IntKind.i64.wrap (b_1 - n58)))) t21 h83 < m1 a_1 b_1 limit_1 wasBalanced_1 wasPartitioned_1 h1)))) (
bcase (decide ((0 : Int) < a_1)) (
(0 ≤ (IntKind.i64.wrap (a_1 - (1 : Int))) ∧ (IntKind.i64.wrap (a_1 - (1 : Int))) < ((dataL : Nat) : Int)) ∧
onAddr data fun b19 o19 =>
∃ n59 : Int, cell h74 b19 (o19 + ((IntKind.i64.wrap (a_1 - (1 : Int)))).toNat) = some (.int .i64 n59) ∧
(0 ≤ (IntKind.i64.wrap ((IntKind.i64.wrap (b_1 - (1 : Int))) - (IntKind.i64.wrap (n51 - a_1)))) ∧ (IntKind.i64.wrap ((IntKind.i64.wrap (b_1 - (1 : Int))) - (IntKind.i64.wrap (n51 - a_1)))) < ((dataL : Nat) : Int)) ∧
onAddr data fun b20 o20 =>
∃ n60 : Int, cell h74 b20 (o20 + ((IntKind.i64.wrap ((IntKind.i64.wrap (b_1 - (1 : Int))) - (IntKind.i64.wrap (n51 - a_1))))).toNat) = some (.int .i64 n60) ∧
callv Tryd.prog cmp [(.int .i64 n59), (.int .i64 n60)] h74 fun r83 h84 =>
∃ n61 : Int,
r83 = (.int .i64 n61) ∧
bcase (!(decide (n61 < (0 : Int)))) (
Runs Tryd.prog 100 #[(.slice data dataL dataC), (.int .i64 a_1), (.int .i64 b_1), (.int .i64 (IntKind.i64.wrap ((IntKind.i64.wrap (b_1 - (1 : Int))) - (IntKind.i64.wrap (n51 - a_1))))), cmp] h84 fun r84 h85 =>
∃ n62 : Int,
r84 = (.int .i64 n62) ∧
I1 n62 b_1 limit_1 wasBalanced_1 wasPartitioned_1 h85 ∧ m1 n62 b_1 limit_1 wasBalanced_1 wasPartitioned_1 h85 < m1 a_1 b_1 limit_1 wasBalanced_1 wasPartitioned_1 h1) (
Runs Tryd.prog 101 #[(.slice data dataL dataC), (.int .i64 a_1), (.int .i64 b_1), (.int .i64 (IntKind.i64.wrap ((IntKind.i64.wrap (b_1 - (1 : Int))) - (IntKind.i64.wrap (n51 - a_1))))), cmp] h84 fun r85 h86 =>
∃ n63 : Int,
∃ t22 : Bool,
r85 = (.tuple #[(.int .i64 n63), (.bool t22)]) ∧
(8 : Int) ≠ 0 ∧
bcase (decide ((IntKind.i64.wrap (n63 - a_1)) < (IntKind.i64.wrap (b_1 - n63)))) (
Runs Tryd.prog 90 #[(.slice data dataL dataC), (.int .i64 a_1), (.int .i64 n63), (.int .i64 limit_1), cmp] h86 fun r86 h87 =>
I1 (IntKind.i64.wrap (n63 + (1 : Int))) b_1 limit_1 (decide ((IntKind.i64.wrap (((IntKind.i64.wrap (b_1 - a_1))).tdiv (8 : Int))) ≤ (IntKind.i64.wrap (n63 - a_1)))) t22 h87 ∧ m1 (IntKind.i64.wrap (n63 + (1 : Int))) b_1 limit_1 (decide ((IntKind.i64.wrap (((IntKind.i64.wrap (b_1 - a_1))).tdiv (8 : Int))) ≤ (IntKind.i64.wrap (n63 - a_1)))) t22 h87 < m1 a_1 b_1 limit_1 wasBalanced_1 wasPartitioned_1 h1) (
Runs Tryd.prog 90 #[(.slice data dataL dataC), (.int .i64 (IntKind.i64.wrap (n63 + (1 : Int)))), (.int .i64 b_1), (.int .i64 limit_1), cmp] h86 fun r87 h88 =>
I1 a_1 n63 limit_1 (decide ((IntKind.i64.wrap (((IntKind.i64.wrap (b_1 - a_1))).tdiv (8 : Int))) ≤ (IntKind.i64.wrap (b_1 - n63)))) t22 h88 ∧ m1 a_1 n63 limit_1 (decide ((IntKind.i64.wrap (((IntKind.i64.wrap (b_1 - a_1))).tdiv (8 : Int))) ≤ (IntKind.i64.wrap (b_1 - n63)))) t22 h88 < m1 a_1 b_1 limit_1 wasBalanced_1 wasPartitioned_1 h1))) (
Runs Tryd.prog 101 #[(.slice data dataL dataC), (.int .i64 a_1), (.int .i64 b_1), (.int .i64 (IntKind.i64.wrap ((IntKind.i64.wrap (b_1 - (1 : Int))) - (IntKind.i64.wrap (n51 - a_1))))), cmp] h74 fun r88 h89 =>
∃ n64 : Int,
∃ t23 : Bool,
r88 = (.tuple #[(.int .i64 n64), (.bool t23)]) ∧
(8 : Int) ≠ 0 ∧
bcase (decide ((IntKind.i64.wrap (n64 - a_1)) < (IntKind.i64.wrap (b_1 - n64)))) (
Runs Tryd.prog 90 #[(.slice data dataL dataC), (.int .i64 a_1), (.int .i64 n64), (.int .i64 limit_1), cmp] h89 fun r89 h90 =>
I1 (IntKind.i64.wrap (n64 + (1 : Int))) b_1 limit_1 (decide ((IntKind.i64.wrap (((IntKind.i64.wrap (b_1 - a_1))).tdiv (8 : Int))) ≤ (IntKind.i64.wrap (n64 - a_1)))) t23 h90 ∧ m1 (IntKind.i64.wrap (n64 + (1 : Int))) b_1 limit_1 (decide ((IntKind.i64.wrap (((IntKind.i64.wrap (b_1 - a_1))).tdiv (8 : Int))) ≤ (IntKind.i64.wrap (n64 - a_1)))) t23 h90 < m1 a_1 b_1 limit_1 wasBalanced_1 wasPartitioned_1 h1) (
Runs Tryd.prog 90 #[(.slice data dataL dataC), (.int .i64 (IntKind.i64.wrap (n64 + (1 : Int)))), (.int .i64 b_1), (.int .i64 limit_1), cmp] h89 fun r90 h91 =>
I1 a_1 n64 limit_1 (decide ((IntKind.i64.wrap (((IntKind.i64.wrap (b_1 - a_1))).tdiv (8 : Int))) ≤ (IntKind.i64.wrap (b_1 - n64)))) t23 h91 ∧ m1 a_1 n64 limit_1 (decide ((IntKind.i64.wrap (((IntKind.i64.wrap (b_1 - a_1))).tdiv (8 : Int))) ≤ (IntKind.i64.wrap (b_1 - n64)))) t23 h91 < m1 a_1 b_1 limit_1 wasBalanced_1 wasPartitioned_1 h1)))) (
bcase (decide ((0 : Int) < a_1)) (
(0 ≤ (IntKind.i64.wrap (a_1 - (1 : Int))) ∧ (IntKind.i64.wrap (a_1 - (1 : Int))) < ((dataL : Nat) : Int)) ∧
onAddr data fun b21 o21 =>
∃ n65 : Int, cell h74 b21 (o21 + ((IntKind.i64.wrap (a_1 - (1 : Int)))).toNat) = some (.int .i64 n65) ∧
(0 ≤ (IntKind.i64.wrap ((IntKind.i64.wrap (b_1 - (1 : Int))) - (IntKind.i64.wrap (n51 - a_1)))) ∧ (IntKind.i64.wrap ((IntKind.i64.wrap (b_1 - (1 : Int))) - (IntKind.i64.wrap (n51 - a_1)))) < ((dataL : Nat) : Int)) ∧
onAddr data fun b22 o22 =>
∃ n66 : Int, cell h74 b22 (o22 + ((IntKind.i64.wrap ((IntKind.i64.wrap (b_1 - (1 : Int))) - (IntKind.i64.wrap (n51 - a_1))))).toNat) = some (.int .i64 n66) ∧
callv Tryd.prog cmp [(.int .i64 n65), (.int .i64 n66)] h74 fun r91 h92 =>
∃ n67 : Int,
r91 = (.int .i64 n67) ∧
bcase (!(decide (n67 < (0 : Int)))) (
Runs Tryd.prog 100 #[(.slice data dataL dataC), (.int .i64 a_1), (.int .i64 b_1), (.int .i64 (IntKind.i64.wrap ((IntKind.i64.wrap (b_1 - (1 : Int))) - (IntKind.i64.wrap (n51 - a_1))))), cmp] h92 fun r92 h93 =>
∃ n68 : Int,
r92 = (.int .i64 n68) ∧
I1 n68 b_1 limit_1 wasBalanced_1 wasPartitioned_1 h93 ∧ m1 n68 b_1 limit_1 wasBalanced_1 wasPartitioned_1 h93 < m1 a_1 b_1 limit_1 wasBalanced_1 wasPartitioned_1 h1) (
Runs Tryd.prog 101 #[(.slice data dataL dataC), (.int .i64 a_1), (.int .i64 b_1), (.int .i64 (IntKind.i64.wrap ((IntKind.i64.wrap (b_1 - (1 : Int))) - (IntKind.i64.wrap (n51 - a_1))))), cmp] h92 fun r93 h94 =>
∃ n69 : Int,
∃ t24 : Bool,
r93 = (.tuple #[(.int .i64 n69), (.bool t24)]) ∧
(8 : Int) ≠ 0 ∧
bcase (decide ((IntKind.i64.wrap (n69 - a_1)) < (IntKind.i64.wrap (b_1 - n69)))) (
Runs Tryd.prog 90 #[(.slice data dataL dataC), (.int .i64 a_1), (.int .i64 n69), (.int .i64 limit_1), cmp] h94 fun r94 h95 =>
I1 (IntKind.i64.wrap (n69 + (1 : Int))) b_1 limit_1 (decide ((IntKind.i64.wrap (((IntKind.i64.wrap (b_1 - a_1))).tdiv (8 : Int))) ≤ (IntKind.i64.wrap (n69 - a_1)))) t24 h95 ∧ m1 (IntKind.i64.wrap (n69 + (1 : Int))) b_1 limit_1 (decide ((IntKind.i64.wrap (((IntKind.i64.wrap (b_1 - a_1))).tdiv (8 : Int))) ≤ (IntKind.i64.wrap (n69 - a_1)))) t24 h95 < m1 a_1 b_1 limit_1 wasBalanced_1 wasPartitioned_1 h1) (
Runs Tryd.prog 90 #[(.slice data dataL dataC), (.int .i64 (IntKind.i64.wrap (n69 + (1 : Int)))), (.int .i64 b_1), (.int .i64 limit_1), cmp] h94 fun r95 h96 =>
I1 a_1 n69 limit_1 (decide ((IntKind.i64.wrap (((IntKind.i64.wrap (b_1 - a_1))).tdiv (8 : Int))) ≤ (IntKind.i64.wrap (b_1 - n69)))) t24 h96 ∧ m1 a_1 n69 limit_1 (decide ((IntKind.i64.wrap (((IntKind.i64.wrap (b_1 - a_1))).tdiv (8 : Int))) ≤ (IntKind.i64.wrap (b_1 - n69)))) t24 h96 < m1 a_1 b_1 limit_1 wasBalanced_1 wasPartitioned_1 h1))) (
Runs Tryd.prog 101 #[(.slice data dataL dataC), (.int .i64 a_1), (.int .i64 b_1), (.int .i64 (IntKind.i64.wrap ((IntKind.i64.wrap (b_1 - (1 : Int))) - (IntKind.i64.wrap (n51 - a_1))))), cmp] h74 fun r96 h97 =>
∃ n70 : Int,
∃ t25 : Bool,
r96 = (.tuple #[(.int .i64 n70), (.bool t25)]) ∧
(8 : Int) ≠ 0 ∧
bcase (decide ((IntKind.i64.wrap (n70 - a_1)) < (IntKind.i64.wrap (b_1 - n70)))) (
Runs Tryd.prog 90 #[(.slice data dataL dataC), (.int .i64 a_1), (.int .i64 n70), (.int .i64 limit_1), cmp] h97 fun r97 h98 =>
I1 (IntKind.i64.wrap (n70 + (1 : Int))) b_1 limit_1 (decide ((IntKind.i64.wrap (((IntKind.i64.wrap (b_1 - a_1))).tdiv (8 : Int))) ≤ (IntKind.i64.wrap (n70 - a_1)))) t25 h98 ∧ m1 (IntKind.i64.wrap (n70 + (1 : Int))) b_1 limit_1 (decide ((IntKind.i64.wrap (((IntKind.i64.wrap (b_1 - a_1))).tdiv (8 : Int))) ≤ (IntKind.i64.wrap (n70 - a_1)))) t25 h98 < m1 a_1 b_1 limit_1 wasBalanced_1 wasPartitioned_1 h1) (
Runs Tryd.prog 90 #[(.slice data dataL dataC), (.int .i64 (IntKind.i64.wrap (n70 + (1 : Int)))), (.int .i64 b_1), (.int .i64 limit_1), cmp] h97 fun r98 h99 =>
I1 a_1 n70 limit_1 (decide ((IntKind.i64.wrap (((IntKind.i64.wrap (b_1 - a_1))).tdiv (8 : Int))) ≤ (IntKind.i64.wrap (b_1 - n70)))) t25 h99 ∧ m1 a_1 n70 limit_1 (decide ((IntKind.i64.wrap (((IntKind.i64.wrap (b_1 - a_1))).tdiv (8 : Int))) ≤ (IntKind.i64.wrap (b_1 - n70)))) t25 h99 < m1 a_1 b_1 limit_1 wasBalanced_1 wasPartitioned_1 h1)))) (
bcase (decide ((0 : Int) < a_1)) (
(0 ≤ (IntKind.i64.wrap (a_1 - (1 : Int))) ∧ (IntKind.i64.wrap (a_1 - (1 : Int))) < ((dataL : Nat) : Int)) ∧
onAddr data fun b23 o23 =>
∃ n71 : Int, cell h74 b23 (o23 + ((IntKind.i64.wrap (a_1 - (1 : Int)))).toNat) = some (.int .i64 n71) ∧
(0 ≤ (IntKind.i64.wrap ((IntKind.i64.wrap (b_1 - (1 : Int))) - (IntKind.i64.wrap (n51 - a_1)))) ∧ (IntKind.i64.wrap ((IntKind.i64.wrap (b_1 - (1 : Int))) - (IntKind.i64.wrap (n51 - a_1)))) < ((dataL : Nat) : Int)) ∧
onAddr data fun b24 o24 =>
∃ n72 : Int, cell h74 b24 (o24 + ((IntKind.i64.wrap ((IntKind.i64.wrap (b_1 - (1 : Int))) - (IntKind.i64.wrap (n51 - a_1))))).toNat) = some (.int .i64 n72) ∧
callv Tryd.prog cmp [(.int .i64 n71), (.int .i64 n72)] h74 fun r99 h100 =>
∃ n73 : Int,
r99 = (.int .i64 n73) ∧
bcase (!(decide (n73 < (0 : Int)))) (
Runs Tryd.prog 100 #[(.slice data dataL dataC), (.int .i64 a_1), (.int .i64 b_1), (.int .i64 (IntKind.i64.wrap ((IntKind.i64.wrap (b_1 - (1 : Int))) - (IntKind.i64.wrap (n51 - a_1))))), cmp] h100 fun r100 h101 =>
∃ n74 : Int,
r100 = (.int .i64 n74) ∧
I1 n74 b_1 limit_1 wasBalanced_1 wasPartitioned_1 h101 ∧ m1 n74 b_1 limit_1 wasBalanced_1 wasPartitioned_1 h101 < m1 a_1 b_1 limit_1 wasBalanced_1 wasPartitioned_1 h1) (
Runs Tryd.prog 101 #[(.slice data dataL dataC), (.int .i64 a_1), (.int .i64 b_1), (.int .i64 (IntKind.i64.wrap ((IntKind.i64.wrap (b_1 - (1 : Int))) - (IntKind.i64.wrap (n51 - a_1))))), cmp] h100 fun r101 h102 =>
∃ n75 : Int,
∃ t26 : Bool,
r101 = (.tuple #[(.int .i64 n75), (.bool t26)]) ∧
(8 : Int) ≠ 0 ∧
bcase (decide ((IntKind.i64.wrap (n75 - a_1)) < (IntKind.i64.wrap (b_1 - n75)))) (
Runs Tryd.prog 90 #[(.slice data dataL dataC), (.int .i64 a_1), (.int .i64 n75), (.int .i64 limit_1), cmp] h102 fun r102 h103 =>
I1 (IntKind.i64.wrap (n75 + (1 : Int))) b_1 limit_1 (decide ((IntKind.i64.wrap (((IntKind.i64.wrap (b_1 - a_1))).tdiv (8 : Int))) ≤ (IntKind.i64.wrap (n75 - a_1)))) t26 h103 ∧ m1 (IntKind.i64.wrap (n75 + (1 : Int))) b_1 limit_1 (decide ((IntKind.i64.wrap (((IntKind.i64.wrap (b_1 - a_1))).tdiv (8 : Int))) ≤ (IntKind.i64.wrap (n75 - a_1)))) t26 h103 < m1 a_1 b_1 limit_1 wasBalanced_1 wasPartitioned_1 h1) (
Runs Tryd.prog 90 #[(.slice data dataL dataC), (.int .i64 (IntKind.i64.wrap (n75 + (1 : Int)))), (.int .i64 b_1), (.int .i64 limit_1), cmp] h102 fun r103 h104 =>
I1 a_1 n75 limit_1 (decide ((IntKind.i64.wrap (((IntKind.i64.wrap (b_1 - a_1))).tdiv (8 : Int))) ≤ (IntKind.i64.wrap (b_1 - n75)))) t26 h104 ∧ m1 a_1 n75 limit_1 (decide ((IntKind.i64.wrap (((IntKind.i64.wrap (b_1 - a_1))).tdiv (8 : Int))) ≤ (IntKind.i64.wrap (b_1 - n75)))) t26 h104 < m1 a_1 b_1 limit_1 wasBalanced_1 wasPartitioned_1 h1))) (
Runs Tryd.prog 101 #[(.slice data dataL dataC), (.int .i64 a_1), (.int .i64 b_1), (.int .i64 (IntKind.i64.wrap ((IntKind.i64.wrap (b_1 - (1 : Int))) - (IntKind.i64.wrap (n51 - a_1))))), cmp] h74 fun r104 h105 =>
∃ n76 : Int,
∃ t27 : Bool,
r104 = (.tuple #[(.int .i64 n76), (.bool t27)]) ∧
(8 : Int) ≠ 0 ∧
bcase (decide ((IntKind.i64.wrap (n76 - a_1)) < (IntKind.i64.wrap (b_1 - n76)))) (
Runs Tryd.prog 90 #[(.slice data dataL dataC), (.int .i64 a_1), (.int .i64 n76), (.int .i64 limit_1), cmp] h105 fun r105 h106 =>
I1 (IntKind.i64.wrap (n76 + (1 : Int))) b_1 limit_1 (decide ((IntKind.i64.wrap (((IntKind.i64.wrap (b_1 - a_1))).tdiv (8 : Int))) ≤ (IntKind.i64.wrap (n76 - a_1)))) t27 h106 ∧ m1 (IntKind.i64.wrap (n76 + (1 : Int))) b_1 limit_1 (decide ((IntKind.i64.wrap (((IntKind.i64.wrap (b_1 - a_1))).tdiv (8 : Int))) ≤ (IntKind.i64.wrap (n76 - a_1)))) t27 h106 < m1 a_1 b_1 limit_1 wasBalanced_1 wasPartitioned_1 h1) (
Runs Tryd.prog 90 #[(.slice data dataL dataC), (.int .i64 (IntKind.i64.wrap (n76 + (1 : Int)))), (.int .i64 b_1), (.int .i64 limit_1), cmp] h105 fun r106 h107 =>
I1 a_1 n76 limit_1 (decide ((IntKind.i64.wrap (((IntKind.i64.wrap (b_1 - a_1))).tdiv (8 : Int))) ≤ (IntKind.i64.wrap (b_1 - n76)))) t27 h107 ∧ m1 a_1 n76 limit_1 (decide ((IntKind.i64.wrap (((IntKind.i64.wrap (b_1 - a_1))).tdiv (8 : Int))) ≤ (IntKind.i64.wrap (b_1 - n76)))) t27 h107 < m1 a_1 b_1 limit_1 wasBalanced_1 wasPartitioned_1 h1)))) (
bcase wasBalanced_1 (
bcase wasPartitioned_1 (
bcase (decide (n52 = (1 : Int))) (
Runs Tryd.prog 99 #[(.slice data dataL dataC), (.int .i64 a_1), (.int .i64 b_1), cmp] h73 fun r107 h108 =>
∃ t28 : Bool,
r107 = (.bool t28) ∧
bcase t28 (
Post (.tuple #[]) h108) (
bcase (decide ((0 : Int) < a_1)) (
(0 ≤ (IntKind.i64.wrap (a_1 - (1 : Int))) ∧ (IntKind.i64.wrap (a_1 - (1 : Int))) < ((dataL : Nat) : Int)) ∧
onAddr data fun b25 o25 =>
∃ n77 : Int, cell h108 b25 (o25 + ((IntKind.i64.wrap (a_1 - (1 : Int)))).toNat) = some (.int .i64 n77) ∧
(0 ≤ n51 ∧ n51 < ((dataL : Nat) : Int)) ∧
onAddr data fun b26 o26 =>
∃ n78 : Int, cell h108 b26 (o26 + (n51).toNat) = some (.int .i64 n78) ∧
callv Tryd.prog cmp [(.int .i64 n77), (.int .i64 n78)] h108 fun r108 h109 =>
∃ n79 : Int,
r108 = (.int .i64 n79) ∧
bcase (!(decide (n79 < (0 : Int)))) (
Runs Tryd.prog 100 #[(.slice data dataL dataC), (.int .i64 a_1), (.int .i64 b_1), (.int .i64 n51), cmp] h109 fun r109 h110 =>
∃ n80 : Int,
r109 = (.int .i64 n80) ∧
I1 n80 b_1 limit_1 wasBalanced_1 wasPartitioned_1 h110 ∧ m1 n80 b_1 limit_1 wasBalanced_1 wasPartitioned_1 h110 < m1 a_1 b_1 limit_1 wasBalanced_1 wasPartitioned_1 h1) (
Runs Tryd.prog 101 #[(.slice data dataL dataC), (.int .i64 a_1), (.int .i64 b_1), (.int .i64 n51), cmp] h109 fun r110 h111 =>
∃ n81 : Int,
∃ t29 : Bool,
r110 = (.tuple #[(.int .i64 n81), (.bool t29)]) ∧
(8 : Int) ≠ 0 ∧
bcase (decide ((IntKind.i64.wrap (n81 - a_1)) < (IntKind.i64.wrap (b_1 - n81)))) (
Runs Tryd.prog 90 #[(.slice data dataL dataC), (.int .i64 a_1), (.int .i64 n81), (.int .i64 limit_1), cmp] h111 fun r111 h112 =>
I1 (IntKind.i64.wrap (n81 + (1 : Int))) b_1 limit_1 (decide ((IntKind.i64.wrap (((IntKind.i64.wrap (b_1 - a_1))).tdiv (8 : Int))) ≤ (IntKind.i64.wrap (n81 - a_1)))) t29 h112 ∧ m1 (IntKind.i64.wrap (n81 + (1 : Int))) b_1 limit_1 (decide ((IntKind.i64.wrap (((IntKind.i64.wrap (b_1 - a_1))).tdiv (8 : Int))) ≤ (IntKind.i64.wrap (n81 - a_1)))) t29 h112 < m1 a_1 b_1 limit_1 wasBalanced_1 wasPartitioned_1 h1) (
Runs Tryd.prog 90 #[(.slice data dataL dataC), (.int .i64 (IntKind.i64.wrap (n81 + (1 : Int)))), (.int .i64 b_1), (.int .i64 limit_1), cmp] h111 fun r112 h113 =>
I1 a_1 n81 limit_1 (decide ((IntKind.i64.wrap (((IntKind.i64.wrap (b_1 - a_1))).tdiv (8 : Int))) ≤ (IntKind.i64.wrap (b_1 - n81)))) t29 h113 ∧ m1 a_1 n81 limit_1 (decide ((IntKind.i64.wrap (((IntKind.i64.wrap (b_1 - a_1))).tdiv (8 : Int))) ≤ (IntKind.i64.wrap (b_1 - n81)))) t29 h113 < m1 a_1 b_1 limit_1 wasBalanced_1 wasPartitioned_1 h1))) (
Runs Tryd.prog 101 #[(.slice data dataL dataC), (.int .i64 a_1), (.int .i64 b_1), (.int .i64 n51), cmp] h108 fun r113 h114 =>
∃ n82 : Int,
∃ t30 : Bool,
r113 = (.tuple #[(.int .i64 n82), (.bool t30)]) ∧
(8 : Int) ≠ 0 ∧
bcase (decide ((IntKind.i64.wrap (n82 - a_1)) < (IntKind.i64.wrap (b_1 - n82)))) (
Runs Tryd.prog 90 #[(.slice data dataL dataC), (.int .i64 a_1), (.int .i64 n82), (.int .i64 limit_1), cmp] h114 fun r114 h115 =>
I1 (IntKind.i64.wrap (n82 + (1 : Int))) b_1 limit_1 (decide ((IntKind.i64.wrap (((IntKind.i64.wrap (b_1 - a_1))).tdiv (8 : Int))) ≤ (IntKind.i64.wrap (n82 - a_1)))) t30 h115 ∧ m1 (IntKind.i64.wrap (n82 + (1 : Int))) b_1 limit_1 (decide ((IntKind.i64.wrap (((IntKind.i64.wrap (b_1 - a_1))).tdiv (8 : Int))) ≤ (IntKind.i64.wrap (n82 - a_1)))) t30 h115 < m1 a_1 b_1 limit_1 wasBalanced_1 wasPartitioned_1 h1) (
Runs Tryd.prog 90 #[(.slice data dataL dataC), (.int .i64 (IntKind.i64.wrap (n82 + (1 : Int)))), (.int .i64 b_1), (.int .i64 limit_1), cmp] h114 fun r115 h116 =>
I1 a_1 n82 limit_1 (decide ((IntKind.i64.wrap (((IntKind.i64.wrap (b_1 - a_1))).tdiv (8 : Int))) ≤ (IntKind.i64.wrap (b_1 - n82)))) t30 h116 ∧ m1 a_1 n82 limit_1 (decide ((IntKind.i64.wrap (((IntKind.i64.wrap (b_1 - a_1))).tdiv (8 : Int))) ≤ (IntKind.i64.wrap (b_1 - n82)))) t30 h116 < m1 a_1 b_1 limit_1 wasBalanced_1 wasPartitioned_1 h1)))) (
bcase (decide ((0 : Int) < a_1)) (
(0 ≤ (IntKind.i64.wrap (a_1 - (1 : Int))) ∧ (IntKind.i64.wrap (a_1 - (1 : Int))) < ((dataL : Nat) : Int)) ∧
onAddr data fun b27 o27 =>
∃ n83 : Int, cell h73 b27 (o27 + ((IntKind.i64.wrap (a_1 - (1 : Int)))).toNat) = some (.int .i64 n83) ∧
(0 ≤ n51 ∧ n51 < ((dataL : Nat) : Int)) ∧
onAddr data fun b28 o28 =>
∃ n84 : Int, cell h73 b28 (o28 + (n51).toNat) = some (.int .i64 n84) ∧
callv Tryd.prog cmp [(.int .i64 n83), (.int .i64 n84)] h73 fun r116 h117 =>
∃ n85 : Int,
r116 = (.int .i64 n85) ∧
bcase (!(decide (n85 < (0 : Int)))) (
Runs Tryd.prog 100 #[(.slice data dataL dataC), (.int .i64 a_1), (.int .i64 b_1), (.int .i64 n51), cmp] h117 fun r117 h118 =>
∃ n86 : Int,
r117 = (.int .i64 n86) ∧
I1 n86 b_1 limit_1 wasBalanced_1 wasPartitioned_1 h118 ∧ m1 n86 b_1 limit_1 wasBalanced_1 wasPartitioned_1 h118 < m1 a_1 b_1 limit_1 wasBalanced_1 wasPartitioned_1 h1) (
Runs Tryd.prog 101 #[(.slice data dataL dataC), (.int .i64 a_1), (.int .i64 b_1), (.int .i64 n51), cmp] h117 fun r118 h119 =>
∃ n87 : Int,
∃ t31 : Bool,
r118 = (.tuple #[(.int .i64 n87), (.bool t31)]) ∧
(8 : Int) ≠ 0 ∧
bcase (decide ((IntKind.i64.wrap (n87 - a_1)) < (IntKind.i64.wrap (b_1 - n87)))) (
Runs Tryd.prog 90 #[(.slice data dataL dataC), (.int .i64 a_1), (.int .i64 n87), (.int .i64 limit_1), cmp] h119 fun r119 h120 =>
I1 (IntKind.i64.wrap (n87 + (1 : Int))) b_1 limit_1 (decide ((IntKind.i64.wrap (((IntKind.i64.wrap (b_1 - a_1))).tdiv (8 : Int))) ≤ (IntKind.i64.wrap (n87 - a_1)))) t31 h120 ∧ m1 (IntKind.i64.wrap (n87 + (1 : Int))) b_1 limit_1 (decide ((IntKind.i64.wrap (((IntKind.i64.wrap (b_1 - a_1))).tdiv (8 : Int))) ≤ (IntKind.i64.wrap (n87 - a_1)))) t31 h120 < m1 a_1 b_1 limit_1 wasBalanced_1 wasPartitioned_1 h1) (
Runs Tryd.prog 90 #[(.slice data dataL dataC), (.int .i64 (IntKind.i64.wrap (n87 + (1 : Int)))), (.int .i64 b_1), (.int .i64 limit_1), cmp] h119 fun r120 h121 =>
I1 a_1 n87 limit_1 (decide ((IntKind.i64.wrap (((IntKind.i64.wrap (b_1 - a_1))).tdiv (8 : Int))) ≤ (IntKind.i64.wrap (b_1 - n87)))) t31 h121 ∧ m1 a_1 n87 limit_1 (decide ((IntKind.i64.wrap (((IntKind.i64.wrap (b_1 - a_1))).tdiv (8 : Int))) ≤ (IntKind.i64.wrap (b_1 - n87)))) t31 h121 < m1 a_1 b_1 limit_1 wasBalanced_1 wasPartitioned_1 h1))) (
Runs Tryd.prog 101 #[(.slice data dataL dataC), (.int .i64 a_1), (.int .i64 b_1), (.int .i64 n51), cmp] h73 fun r121 h122 =>
∃ n88 : Int,
∃ t32 : Bool,
r121 = (.tuple #[(.int .i64 n88), (.bool t32)]) ∧
(8 : Int) ≠ 0 ∧
bcase (decide ((IntKind.i64.wrap (n88 - a_1)) < (IntKind.i64.wrap (b_1 - n88)))) (
Runs Tryd.prog 90 #[(.slice data dataL dataC), (.int .i64 a_1), (.int .i64 n88), (.int .i64 limit_1), cmp] h122 fun r122 h123 =>
I1 (IntKind.i64.wrap (n88 + (1 : Int))) b_1 limit_1 (decide ((IntKind.i64.wrap (((IntKind.i64.wrap (b_1 - a_1))).tdiv (8 : Int))) ≤ (IntKind.i64.wrap (n88 - a_1)))) t32 h123 ∧ m1 (IntKind.i64.wrap (n88 + (1 : Int))) b_1 limit_1 (decide ((IntKind.i64.wrap (((IntKind.i64.wrap (b_1 - a_1))).tdiv (8 : Int))) ≤ (IntKind.i64.wrap (n88 - a_1)))) t32 h123 < m1 a_1 b_1 limit_1 wasBalanced_1 wasPartitioned_1 h1) (
Runs Tryd.prog 90 #[(.slice data dataL dataC), (.int .i64 (IntKind.i64.wrap (n88 + (1 : Int)))), (.int .i64 b_1), (.int .i64 limit_1), cmp] h122 fun r123 h124 =>
I1 a_1 n88 limit_1 (decide ((IntKind.i64.wrap (((IntKind.i64.wrap (b_1 - a_1))).tdiv (8 : Int))) ≤ (IntKind.i64.wrap (b_1 - n88)))) t32 h124 ∧ m1 a_1 n88 limit_1 (decide ((IntKind.i64.wrap (((IntKind.i64.wrap (b_1 - a_1))).tdiv (8 : Int))) ≤ (IntKind.i64.wrap (b_1 - n88)))) t32 h124 < m1 a_1 b_1 limit_1 wasBalanced_1 wasPartitioned_1 h1)))) (
bcase (decide ((0 : Int) < a_1)) (
(0 ≤ (IntKind.i64.wrap (a_1 - (1 : Int))) ∧ (IntKind.i64.wrap (a_1 - (1 : Int))) < ((dataL : Nat) : Int)) ∧
onAddr data fun b29 o29 =>
∃ n89 : Int, cell h73 b29 (o29 + ((IntKind.i64.wrap (a_1 - (1 : Int)))).toNat) = some (.int .i64 n89) ∧
(0 ≤ n51 ∧ n51 < ((dataL : Nat) : Int)) ∧
onAddr data fun b30 o30 =>
∃ n90 : Int, cell h73 b30 (o30 + (n51).toNat) = some (.int .i64 n90) ∧
callv Tryd.prog cmp [(.int .i64 n89), (.int .i64 n90)] h73 fun r124 h125 =>
∃ n91 : Int,
r124 = (.int .i64 n91) ∧
bcase (!(decide (n91 < (0 : Int)))) (
Runs Tryd.prog 100 #[(.slice data dataL dataC), (.int .i64 a_1), (.int .i64 b_1), (.int .i64 n51), cmp] h125 fun r125 h126 =>
∃ n92 : Int,
r125 = (.int .i64 n92) ∧
I1 n92 b_1 limit_1 wasBalanced_1 wasPartitioned_1 h126 ∧ m1 n92 b_1 limit_1 wasBalanced_1 wasPartitioned_1 h126 < m1 a_1 b_1 limit_1 wasBalanced_1 wasPartitioned_1 h1) (
Runs Tryd.prog 101 #[(.slice data dataL dataC), (.int .i64 a_1), (.int .i64 b_1), (.int .i64 n51), cmp] h125 fun r126 h127 =>
∃ n93 : Int,
∃ t33 : Bool,
r126 = (.tuple #[(.int .i64 n93), (.bool t33)]) ∧
(8 : Int) ≠ 0 ∧
bcase (decide ((IntKind.i64.wrap (n93 - a_1)) < (IntKind.i64.wrap (b_1 - n93)))) (
Runs Tryd.prog 90 #[(.slice data dataL dataC), (.int .i64 a_1), (.int .i64 n93), (.int .i64 limit_1), cmp] h127 fun r127 h128 =>
I1 (IntKind.i64.wrap (n93 + (1 : Int))) b_1 limit_1 (decide ((IntKind.i64.wrap (((IntKind.i64.wrap (b_1 - a_1))).tdiv (8 : Int))) ≤ (IntKind.i64.wrap (n93 - a_1)))) t33 h128 ∧ m1 (IntKind.i64.wrap (n93 + (1 : Int))) b_1 limit_1 (decide ((IntKind.i64.wrap (((IntKind.i64.wrap (b_1 - a_1))).tdiv (8 : Int))) ≤ (IntKind.i64.wrap (n93 - a_1)))) t33 h128 < m1 a_1 b_1 limit_1 wasBalanced_1 wasPartitioned_1 h1) (
Runs Tryd.prog 90 #[(.slice data dataL dataC), (.int .i64 (IntKind.i64.wrap (n93 + (1 : Int)))), (.int .i64 b_1), (.int .i64 limit_1), cmp] h127 fun r128 h129 =>
I1 a_1 n93 limit_1 (decide ((IntKind.i64.wrap (((IntKind.i64.wrap (b_1 - a_1))).tdiv (8 : Int))) ≤ (IntKind.i64.wrap (b_1 - n93)))) t33 h129 ∧ m1 a_1 n93 limit_1 (decide ((IntKind.i64.wrap (((IntKind.i64.wrap (b_1 - a_1))).tdiv (8 : Int))) ≤ (IntKind.i64.wrap (b_1 - n93)))) t33 h129 < m1 a_1 b_1 limit_1 wasBalanced_1 wasPartitioned_1 h1))) (
Runs Tryd.prog 101 #[(.slice data dataL dataC), (.int .i64 a_1), (.int .i64 b_1), (.int .i64 n51), cmp] h73 fun r129 h130 =>
∃ n94 : Int,
∃ t34 : Bool,
r129 = (.tuple #[(.int .i64 n94), (.bool t34)]) ∧
(8 : Int) ≠ 0 ∧
bcase (decide ((IntKind.i64.wrap (n94 - a_1)) < (IntKind.i64.wrap (b_1 - n94)))) (
Runs Tryd.prog 90 #[(.slice data dataL dataC), (.int .i64 a_1), (.int .i64 n94), (.int .i64 limit_1), cmp] h130 fun r130 h131 =>
I1 (IntKind.i64.wrap (n94 + (1 : Int))) b_1 limit_1 (decide ((IntKind.i64.wrap (((IntKind.i64.wrap (b_1 - a_1))).tdiv (8 : Int))) ≤ (IntKind.i64.wrap (n94 - a_1)))) t34 h131 ∧ m1 (IntKind.i64.wrap (n94 + (1 : Int))) b_1 limit_1 (decide ((IntKind.i64.wrap (((IntKind.i64.wrap (b_1 - a_1))).tdiv (8 : Int))) ≤ (IntKind.i64.wrap (n94 - a_1)))) t34 h131 < m1 a_1 b_1 limit_1 wasBalanced_1 wasPartitioned_1 h1) (
Runs Tryd.prog 90 #[(.slice data dataL dataC), (.int .i64 (IntKind.i64.wrap (n94 + (1 : Int)))), (.int .i64 b_1), (.int .i64 limit_1), cmp] h130 fun r131 h132 =>
I1 a_1 n94 limit_1 (decide ((IntKind.i64.wrap (((IntKind.i64.wrap (b_1 - a_1))).tdiv (8 : Int))) ≤ (IntKind.i64.wrap (b_1 - n94)))) t34 h132 ∧ m1 a_1 n94 limit_1 (decide ((IntKind.i64.wrap (((IntKind.i64.wrap (b_1 - a_1))).tdiv (8 : Int))) ≤ (IntKind.i64.wrap (b_1 - n94)))) t34 h132 < m1 a_1 b_1 limit_1 wasBalanced_1 wasPartitioned_1 h1)))) (
bcase (decide ((0 : Int) < a_1)) (
(0 ≤ (IntKind.i64.wrap (a_1 - (1 : Int))) ∧ (IntKind.i64.wrap (a_1 - (1 : Int))) < ((dataL : Nat) : Int)) ∧
onAddr data fun b31 o31 =>
∃ n95 : Int, cell h73 b31 (o31 + ((IntKind.i64.wrap (a_1 - (1 : Int)))).toNat) = some (.int .i64 n95) ∧
(0 ≤ n51 ∧ n51 < ((dataL : Nat) : Int)) ∧
onAddr data fun b32 o32 =>
∃ n96 : Int, cell h73 b32 (o32 + (n51).toNat) = some (.int .i64 n96) ∧
callv Tryd.prog cmp [(.int .i64 n95), (.int .i64 n96)] h73 fun r132 h133 =>
∃ n97 : Int,
r132 = (.int .i64 n97) ∧
bcase (!(decide (n97 < (0 : Int)))) (
Runs Tryd.prog 100 #[(.slice data dataL dataC), (.int .i64 a_1), (.int .i64 b_1), (.int .i64 n51), cmp] h133 fun r133 h134 =>
∃ n98 : Int,
r133 = (.int .i64 n98) ∧
I1 n98 b_1 limit_1 wasBalanced_1 wasPartitioned_1 h134 ∧ m1 n98 b_1 limit_1 wasBalanced_1 wasPartitioned_1 h134 < m1 a_1 b_1 limit_1 wasBalanced_1 wasPartitioned_1 h1) (
Runs Tryd.prog 101 #[(.slice data dataL dataC), (.int .i64 a_1), (.int .i64 b_1), (.int .i64 n51), cmp] h133 fun r134 h135 =>
∃ n99 : Int,
∃ t35 : Bool,
r134 = (.tuple #[(.int .i64 n99), (.bool t35)]) ∧
(8 : Int) ≠ 0 ∧
bcase (decide ((IntKind.i64.wrap (n99 - a_1)) < (IntKind.i64.wrap (b_1 - n99)))) (
Runs Tryd.prog 90 #[(.slice data dataL dataC), (.int .i64 a_1), (.int .i64 n99), (.int .i64 limit_1), cmp] h135 fun r135 h136 =>
I1 (IntKind.i64.wrap (n99 + (1 : Int))) b_1 limit_1 (decide ((IntKind.i64.wrap (((IntKind.i64.wrap (b_1 - a_1))).tdiv (8 : Int))) ≤ (IntKind.i64.wrap (n99 - a_1)))) t35 h136 ∧ m1 (IntKind.i64.wrap (n99 + (1 : Int))) b_1 limit_1 (decide ((IntKind.i64.wrap (((IntKind.i64.wrap (b_1 - a_1))).tdiv (8 : Int))) ≤ (IntKind.i64.wrap (n99 - a_1)))) t35 h136 < m1 a_1 b_1 limit_1 wasBalanced_1 wasPartitioned_1 h1) (
Runs Tryd.prog 90 #[(.slice data dataL dataC), (.int .i64 (IntKind.i64.wrap (n99 + (1 : Int)))), (.int .i64 b_1), (.int .i64 limit_1), cmp] h135 fun r136 h137 =>
I1 a_1 n99 limit_1 (decide ((IntKind.i64.wrap (((IntKind.i64.wrap (b_1 - a_1))).tdiv (8 : Int))) ≤ (IntKind.i64.wrap (b_1 - n99)))) t35 h137 ∧ m1 a_1 n99 limit_1 (decide ((IntKind.i64.wrap (((IntKind.i64.wrap (b_1 - a_1))).tdiv (8 : Int))) ≤ (IntKind.i64.wrap (b_1 - n99)))) t35 h137 < m1 a_1 b_1 limit_1 wasBalanced_1 wasPartitioned_1 h1))) (
Runs Tryd.prog 101 #[(.slice data dataL dataC), (.int .i64 a_1), (.int .i64 b_1), (.int .i64 n51), cmp] h73 fun r137 h138 =>
∃ n100 : Int,
∃ t36 : Bool,
r137 = (.tuple #[(.int .i64 n100), (.bool t36)]) ∧
(8 : Int) ≠ 0 ∧
bcase (decide ((IntKind.i64.wrap (n100 - a_1)) < (IntKind.i64.wrap (b_1 - n100)))) (
Runs Tryd.prog 90 #[(.slice data dataL dataC), (.int .i64 a_1), (.int .i64 n100), (.int .i64 limit_1), cmp] h138 fun r138 h139 =>
I1 (IntKind.i64.wrap (n100 + (1 : Int))) b_1 limit_1 (decide ((IntKind.i64.wrap (((IntKind.i64.wrap (b_1 - a_1))).tdiv (8 : Int))) ≤ (IntKind.i64.wrap (n100 - a_1)))) t36 h139 ∧ m1 (IntKind.i64.wrap (n100 + (1 : Int))) b_1 limit_1 (decide ((IntKind.i64.wrap (((IntKind.i64.wrap (b_1 - a_1))).tdiv (8 : Int))) ≤ (IntKind.i64.wrap (n100 - a_1)))) t36 h139 < m1 a_1 b_1 limit_1 wasBalanced_1 wasPartitioned_1 h1) (
Runs Tryd.prog 90 #[(.slice data dataL dataC), (.int .i64 (IntKind.i64.wrap (n100 + (1 : Int)))), (.int .i64 b_1), (.int .i64 limit_1), cmp] h138 fun r139 h140 =>
I1 a_1 n100 limit_1 (decide ((IntKind.i64.wrap (((IntKind.i64.wrap (b_1 - a_1))).tdiv (8 : Int))) ≤ (IntKind.i64.wrap (b_1 - n100)))) t36 h140 ∧ m1 a_1 n100 limit_1 (decide ((IntKind.i64.wrap (((IntKind.i64.wrap (b_1 - a_1))).tdiv (8 : Int))) ≤ (IntKind.i64.wrap (b_1 - n100)))) t36 h140 < m1 a_1 b_1 limit_1 wasBalanced_1 wasPartitioned_1 h1)))))))) :
    Runs Tryd.prog 90 #[(.slice data dataL dataC), (.int .i64 a), (.int .i64 b), (.int .i64 limit), cmp] h0 Post :=
  runs_of (args := [(.slice data dataL dataC), (.int .i64 a), (.int .i64 b), (.int .i64 limit), cmp]) (fun n => ⟨false, false⟩) (fun n => match n with | 0 => [(1, .int .i64), (2, .int .i64), (3, .int .i64), (10, .bool), (11, .bool)] | _ => []) (fun _ => none) (fun _ => []) Tryd.func90 rfl (by rw [Tryd.ntmps90]; simp) (Eq.mp (by kernel_rfl) H)

theorem vc_slices_insertionSortCmpFunc_int (data : Option Addr) (dataL dataC : Nat) (a : Int) (b : Int) (cmp : Value) (h0 : Heap) (Post : Value → Heap → Prop) (H :
∃ (I1 : Int → Heap → Prop) (m1 : Int → Heap → Nat), I1 (IntKind.i64.wrap (a + (1 : Int))) h0 ∧ ∀ _ : Env,
∀ (i_1 : Int) (h1 : Heap), I1 i_1 h1 →
bcase (decide (i_1 < b)) (
∃ (I2 : Int → Heap → Prop) (m2 : Int → Heap → Nat), I2 i_1 h1 ∧ ∀ _ : Env,
∀ (j_1 : Int) (h2 : Heap), I2 j_1 h2 →
bcase (decide (a < j_1)) (
(0 ≤ j_1 ∧ j_1 < ((dataL : Nat) : Int)) ∧
onAddr data fun b1 o1 =>
∃ n1 : Int, cell h2 b1 (o1 + (j_1).toNat) = some (.int .i64 n1) ∧
(0 ≤ (IntKind.i64.wrap (j_1 - (1 : Int))) ∧ (IntKind.i64.wrap (j_1 - (1 : Int))) < ((dataL : Nat) : Int)) ∧
onAddr data fun b2 o2 =>
∃ n2 : Int, cell h2 b2 (o2 + ((IntKind.i64.wrap (j_1 - (1 : Int)))).toNat) = some (.int .i64 n2) ∧
callv Tryd.prog cmp [(.int .i64 n1), (.int .i64 n2)] h2 fun r1 h3 =>
∃ n3 : Int,
r1 = (.int .i64 n3) ∧
bcase (decide (n3 < (0 : Int))) (
(0 ≤ (IntKind.i64.wrap (j_1 - (1 : Int))) ∧ (IntKind.i64.wrap (j_1 - (1 : Int))) < ((dataL : Nat) : Int)) ∧
onAddr data fun b3 o3 =>
∃ n4 : Int, cell h3 b3 (o3 + ((IntKind.i64.wrap (j_1 - (1 : Int)))).toNat) = some (.int .i64 n4) ∧
(0 ≤ j_1 ∧ j_1 < ((dataL : Nat) : Int)) ∧
onAddr data fun b4 o4 =>
∃ n5 : Int, cell h3 b4 (o4 + (j_1).toNat) = some (.int .i64 n5) ∧
(0 ≤ j_1 ∧ j_1 < ((dataL : Nat) : Int)) ∧
onAddr data fun b5 o5 =>
wr h3 b5 (o5 + (j_1).toNat) ∧ ∀ h4 : Heap, h4 = setc h3 b5 (o5 + (j_1).toNat) (.int .i64 n4) →
(0 ≤ (IntKind.i64.wrap (j_1 - (1 : Int))) ∧ (IntKind.i64.wrap (j_1 - (1 : Int))) < ((dataL : Nat) : Int)) ∧
onAddr data fun b6 o6 =>
wr h4 b6 (o6 + ((IntKind.i64.wrap (j_1 - (1 : Int)))).toNat) ∧ ∀ h5 : Heap, h5 = setc h4 b6 (o6 + ((IntKind.i64.wrap (j_1 - (1 : Int)))).toNat) (.int .i64 n5) →
I2 (IntKind.i64.wrap (j_1 - (1 : Int))) h5 ∧ m2 (IntKind.i64.wrap (j_1 - (1 : Int))) h5 < m2 j_1 h2) (
I1 (IntKind.i64.wrap (i_1 + (1 : Int))) h3 ∧ m1 (IntKind.i64.wrap (i_1 + (1 : Int))) h3 < m1 i_1 h1)) (
I1 (IntKind.i64.wrap (i_1 + (1 : Int))) h2 ∧ m1 (IntKind.i64.wrap (i_1 + (1 : Int))) h2 < m1 i_1 h1)) (
Post (.tuple #[]) h1)) :
    Runs Tryd.prog 94 #[(.slice data dataL dataC), (.int .i64 a), (.int .i64 b), cmp] h0 Post :=
  runs_of (args := [(.slice data dataL dataC), (.int .i64 a), (.int .i64 b), cmp]) (fun n => ⟨false, false⟩) (fun n => match n with | 0 => [(8, .int .i64)] | 2 => [(9, .int .i64)] | _ => []) (fun _ => none) (fun _ => []) Tryd.func94 rfl (by rw [Tryd.ntmps94]; simp) (Eq.mp (by kernel_rfl) H)

theorem vc_math_bits_Len (x : Int) (h0 : Heap) (Post : Value → Heap → Prop) (H :
Runs Tryd.prog 103 #[(.int .u64 x)] h0 fun r1 h1 =>
∃ n1 : Int,
r1 = (.int .i64 n1) ∧
Post (.int .i64 n1) h1) :
    Runs Tryd.prog 91 #[(.int .u64 x)] h0 Post :=
  runs_of (args := [(.int .u64 x)]) (fun n => ⟨false, false⟩) (fun _ => []) (fun _ => none) (fun _ => []) Tryd.func91 rfl (by rw [Tryd.ntmps91]; simp) (Eq.mp (by kernel_rfl) H)

theorem vc_math_bits_Len64 (x : Int) (h0 : Heap) (Post : Value → Heap → Prop) (H :
bcase (decide ((4294967296 : Int) ≤ x)) (
(0 ≤ (32 : Int) ∧ (32 : Int) ≤ kbits .u64) ∧
bcase (decide ((65536 : Int) ≤ (x / (4294967296 : Int)))) (
(0 ≤ (16 : Int) ∧ (16 : Int) ≤ kbits .u64) ∧
bcase (decide ((256 : Int) ≤ ((x / (4294967296 : Int)) / (65536 : Int)))) (
(0 ≤ (8 : Int) ∧ (8 : Int) ≤ kbits .u64) ∧
(0 ≤ (IntKind.u8.wrap (((x / (4294967296 : Int)) / (65536 : Int)) / (256 : Int))) ∧ (IntKind.u8.wrap (((x / (4294967296 : Int)) / (65536 : Int)) / (256 : Int))) < (((⟨#[0, 1, 2, 2, 3, 3, 3, 3, 4, 4, 4, 4, 4, 4, 4, 4, 5, 5, 5, 5, 5, 5, 5, 5, 5, 5, 5, 5, 5, 5, 5, 5, 6, 6, 6, 6, 6, 6, 6, 6, 6, 6, 6, 6, 6, 6, 6, 6, 6, 6, 6, 6, 6, 6, 6, 6, 6, 6, 6, 6, 6, 6, 6, 6, 7, 7, 7, 7, 7, 7, 7, 7, 7, 7, 7, 7, 7, 7, 7, 7, 7, 7, 7, 7, 7, 7, 7, 7, 7, 7, 7, 7, 7, 7, 7, 7, 7, 7, 7, 7, 7, 7, 7, 7, 7, 7, 7, 7, 7, 7, 7, 7, 7, 7, 7, 7, 7, 7, 7, 7, 7, 7, 7, 7, 7, 7, 7, 7, 8, 8, 8, 8, 8, 8, 8, 8, 8, 8, 8, 8, 8, 8, 8, 8, 8, 8, 8, 8, 8, 8, 8, 8, 8, 8, 8, 8, 8, 8, 8, 8, 8, 8, 8, 8, 8, 8, 8, 8, 8, 8, 8, 8, 8, 8, 8, 8, 8, 8, 8, 8, 8, 8, 8, 8, 8, 8, 8, 8, 8, 8, 8, 8, 8, 8, 8, 8, 8, 8, 8, 8, 8, 8, 8, 8, 8, 8, 8, 8, 8, 8, 8, 8, 8, 8, 8, 8, 8, 8, 8, 8, 8, 8, 8, 8, 8, 8, 8, 8, 8, 8, 8, 8, 8, 8, 8, 8, 8, 8, 8, 8, 8, 8, 8, 8, 8, 8, 8, 8, 8, 8, 8, 8, 8, 8, 8, 8]⟩ : ByteArray).size : Nat) : Int)) ∧
Post (.int .i64 (IntKind.i64.wrap ((IntKind.i64.wrap ((IntKind.i64.wrap ((32 : Int) + (16 : Int))) + (8 : Int))) + (IntKind.i64.wrap (strAt ⟨#[0, 1, 2, 2, 3, 3, 3, 3, 4, 4, 4, 4, 4, 4, 4, 4, 5, 5, 5, 5, 5, 5, 5, 5, 5, 5, 5, 5, 5, 5, 5, 5, 6, 6, 6, 6, 6, 6, 6, 6, 6, 6, 6, 6, 6, 6, 6, 6, 6, 6, 6, 6, 6, 6, 6, 6, 6, 6, 6, 6, 6, 6, 6, 6, 7, 7, 7, 7, 7, 7, 7, 7, 7, 7, 7, 7, 7, 7, 7, 7, 7, 7, 7, 7, 7, 7, 7, 7, 7, 7, 7, 7, 7, 7, 7, 7, 7, 7, 7, 7, 7, 7, 7, 7, 7, 7, 7, 7, 7, 7, 7, 7, 7, 7, 7, 7, 7, 7, 7, 7, 7, 7, 7, 7, 7, 7, 7, 7, 8, 8, 8, 8, 8, 8, 8, 8, 8, 8, 8, 8, 8, 8, 8, 8, 8, 8, 8, 8, 8, 8, 8, 8, 8, 8, 8, 8, 8, 8, 8, 8, 8, 8, 8, 8, 8, 8, 8, 8, 8, 8, 8, 8, 8, 8, 8, 8, 8, 8, 8, 8, 8, 8, 8, 8, 8, 8, 8, 8, 8, 8, 8, 8, 8, 8, 8, 8, 8, 8, 8, 8, 8, 8, 8, 8, 8, 8, 8, 8, 8, 8, 8, 8, 8, 8, 8, 8, 8, 8, 8, 8, 8, 8, 8, 8, 8, 8, 8, 8, 8, 8, 8, 8, 8, 8, 8, 8, 8, 8, 8, 8, 8, 8, 8, 8, 8, 8, 8, 8, 8, 8, 8, 8, 8, 8, 8, 8]⟩ ((IntKind.u8.wrap (((x / (4294967296 : Int)) / (65536 : Int)) / (256 : Int)))).toNat))))) h0) (
(0 ≤ (IntKind.u8.wrap ((x / (4294967296 : Int)) / (65536 : Int))) ∧ (IntKind.u8.wrap ((x / (4294967296 : Int)) / (65536 : Int))) < (((⟨#[0, 1, 2, 2, 3, 3, 3, 3, 4, 4, 4, 4, 4, 4, 4, 4, 5, 5, 5, 5, 5, 5, 5, 5, 5, 5, 5, 5, 5, 5, 5, 5, 6, 6, 6, 6, 6, 6, 6, 6, 6, 6, 6, 6, 6, 6, 6, 6, 6, 6, 6, 6, 6, 6, 6, 6, 6, 6, 6, 6, 6, 6, 6, 6, 7, 7, 7, 7, 7, 7, 7, 7, 7, 7, 7, 7, 7, 7, 7, 7, 7, 7, 7, 7, 7, 7, 7, 7, 7, 7, 7, 7, 7, 7, 7, 7, 7, 7, 7, 7, 7, 7, 7, 7, 7, 7, 7, 7, 7, 7, 7, 7, 7, 7, 7, 7, 7, 7, 7, 7, 7, 7, 7, 7, 7, 7, 7, 7, 8, 8, 8, 8, 8, 8, 8, 8, 8, 8, 8, 8, 8, 8, 8, 8, 8, 8, 8, 8, 8, 8, 8, 8, 8, 8, 8, 8, 8, 8, 8, 8, 8, 8, 8, 8, 8, 8, 8, 8, 8, 8, 8, 8, 8, 8, 8, 8, 8, 8, 8, 8, 8, 8, 8, 8, 8, 8, 8, 8, 8, 8, 8, 8, 8, 8, 8, 8, 8, 8, 8, 8, 8, 8, 8, 8, 8, 8, 8, 8, 8, 8, 8, 8, 8, 8, 8, 8, 8, 8, 8, 8, 8, 8, 8, 8, 8, 8, 8, 8, 8, 8, 8, 8, 8, 8, 8, 8, 8, 8, 8, 8, 8, 8, 8, 8, 8, 8, 8, 8, 8, 8, 8, 8, 8, 8, 8, 8]⟩ : ByteArray).size : Nat) : Int)) ∧
Post (.int .i64 (IntKind.i64.wrap ((IntKind.i64.wrap ((32 : Int) + (16 : Int))) + (IntKind.i64.wrap (strAt ⟨#[0, 1, 2, 2, 3, 3, 3, 3, 4, 4, 4, 4, 4, 4, 4, 4, 5, 5, 5, 5, 5, 5, 5, 5, 5, 5, 5, 5, 5, 5, 5, 5, 6, 6, 6, 6, 6, 6, 6, 6, 6, 6, 6, 6, 6, 6, 6, 6, 6, 6, 6, 6, 6, 6, 6, 6, 6, 6, 6, 6, 6, 6, 6, 6, 7, 7, 7, 7, 7, 7, 7, 7, 7, 7, 7, 7, 7, 7, 7, 7, 7, 7, 7, 7, 7, 7, 7, 7, 7, 7, 7, 7, 7, 7, 7, 7, 7, 7, 7, 7, 7, 7, 7, 7, 7, 7, 7, 7, 7, 7, 7, 7, 7, 7, 7, 7, 7, 7, 7, 7, 7, 7, 7, 7, 7, 7, 7, 7, 8, 8, 8, 8, 8, 8, 8, 8, 8, 8, 8, 8, 8, 8, 8, 8, 8, 8, 8, 8, 8, 8, 8, 8, 8, 8, 8, 8, 8, 8, 8, 8, 8, 8, 8, 8, 8, 8, 8, 8, 8, 8, 8, 8, 8, 8, 8, 8, 8, 8, 8, 8, 8, 8, 8, 8, 8, 8, 8, 8, 8, 8, 8, 8, 8, 8, 8, 8, 8, 8, 8, 8, 8, 8, 8, 8, 8, 8, 8, 8, 8, 8, 8, 8, 8, 8, 8, 8, 8, 8, 8, 8, 8, 8, 8, 8, 8, 8, 8, 8, 8, 8, 8, 8, 8, 8, 8, 8, 8, 8, 8, 8, 8, 8, 8, 8, 8, 8, 8, 8, 8, 8, 8, 8, 8, 8, 8, 8]⟩ ((IntKind.u8.wrap ((x / (4294967296 : Int)) / (65536 : Int)))).toNat))))) h0)) (
bcase (decide ((256 : Int) ≤ (x / (4294967296 : Int)))) (
(0 ≤ (8 : Int) ∧ (8 : Int) ≤ kbits .u64) ∧
(0 ≤ (IntKind.u8.wrap ((x / (4294967296 : Int)) / (256 : Int))) ∧ (IntKind.u8.wrap ((x / (4294967296 : Int)) / (256 : Int))) < (((⟨#[0, 1, 2, 2, 3, 3, 3, 3, 4, 4, 4, 4, 4, 4, 4, 4, 5, 5, 5, 5, 5, 5, 5, 5, 5, 5, 5, 5, 5, 5, 5, 5, 6, 6, 6, 6, 6, 6, 6, 6, 6, 6, 6, 6, 6, 6, 6, 6, 6, 6, 6, 6, 6, 6, 6, 6, 6, 6, 6, 6, 6, 6, 6, 6, 7, 7, 7, 7, 7, 7, 7, 7, 7, 7, 7, 7, 7, 7, 7, 7, 7, 7, 7, 7, 7, 7, 7, 7, 7, 7, 7, 7, 7, 7, 7, 7, 7, 7, 7, 7, 7, 7, 7, 7, 7, 7, 7, 7, 7, 7, 7, 7, 7, 7, 7, 7, 7, 7, 7, 7, 7, 7, 7, 7, 7, 7, 7, 7, 8, 8, 8, 8, 8, 8, 8, 8, 8, 8, 8, 8, 8, 8, 8, 8, 8, 8, 8, 8, 8, 8, 8, 8, 8, 8, 8, 8, 8, 8, 8, 8, 8, 8, 8, 8, 8, 8, 8, 8, 8, 8, 8, 8, 8, 8, 8, 8, 8, 8, 8, 8, 8, 8, 8, 8, 8, 8, 8, 8, 8, 8, 8, 8, 8, 8, 8, 8, 8, 8, 8, 8, 8, 8, 8, 8, 8, 8, 8, 8, 8, 8, 8, 8, 8, 8, 8, 8, 8, 8, 8, 8, 8, 8, 8, 8, 8, 8, 8, 8, 8, 8, 8, 8, 8, 8, 8, 8, 8, 8, 8, 8, 8, 8, 8, 8, 8, 8, 8, 8, 8, 8, 8, 8, 8, 8, 8, 8]⟩ : ByteArray).size : Nat) : Int)) ∧
Post (.int .i64 (IntKind.i64.wrap ((IntKind.i64.wrap ((32 : Int) + (8 : Int))) + (IntKind.i64.wrap (strAt ⟨#[0, 1, 2, 2, 3, 3, 3, 3, 4, 4, 4, 4, 4, 4, 4, 4, 5, 5, 5, 5, 5, 5, 5, 5, 5, 5, 5, 5, 5, 5, 5, 5, 6, 6, 6, 6, 6, 6, 6, 6, 6, 6, 6, 6, 6, 6, 6, 6, 6, 6, 6, 6, 6, 6, 6, 6, 6, 6, 6, 6, 6, 6, 6, 6, 7, 7, 7, 7, 7, 7, 7, 7, 7, 7, 7, 7, 7, 7, 7, 7, 7, 7, 7, 7, 7, 7, 7, 7, 7, 7, 7, 7, 7, 7, 7, 7, 7, 7, 7, 7, 7, 7, 7, 7, 7, 7, 7, 7, 7, 7, 7, 7, 7, 7, 7, 7, 7, 7, 7, 7, 7, 7, 7, 7, 7, 7, 7, 7, 8, 8, 8, 8, 8, 8, 8, 8, 8, 8, 8, 8, 8, 8, 8, 8, 8, 8, 8, 8, 8, 8, 8, 8, 8, 8, 8, 8, 8, 8, 8, 8, 8, 8, 8, 8, 8, 8, 8, 8, 8, 8, 8, 8, 8, 8, 8, 8, 8, 8, 8, 8, 8, 8, 8, 8, 8, 8, 8, 8, 8, 8, 8, 8, 8, 8, 8, 8, 8, 8, 8, 8, 8, 8, 8, 8, 8, 8, 8, 8, 8, 8, 8, 8, 8, 8, 8, 8, 8, 8, 8, 8, 8, 8, 8, 8, 8, 8, 8, 8, 8, 8, 8, 8, 8, 8, 8, 8, 8, 8, 8, 8, 8, 8, 8, 8, 8, 8, 8, 8, 8, 8, 8, 8, 8, 8, 8, 8]⟩ ((IntKind.u8.wrap ((x / (4294967296 : Int)) / (256 : Int)))).toNat))))) h0) (
(0 ≤ (IntKind.u8.wrap (x / (4294967296 : Int))) ∧ (IntKind.u8.wrap (x / (4294967296 : Int))) < (((⟨#[0, 1, 2, 2, 3, 3, 3, 3, 4, 4, 4, 4, 4, 4, 4, 4, 5, 5, 5, 5, 5, 5, 5, 5, 5, 5, 5, 5, 5, 5, 5, 5, 6, 6, 6, 6, 6, 6, 6, 6, 6, 6, 6, 6, 6, 6, 6, 6, 6, 6, 6, 6, 6, 6, 6, 6, 6, 6, 6, 6, 6, 6, 6, 6, 7, 7, 7, 7, 7, 7, 7, 7, 7, 7, 7, 7, 7, 7, 7, 7, 7, 7, 7, 7, 7, 7, 7, 7, 7, 7, 7, 7, 7, 7, 7, 7, 7, 7, 7, 7, 7, 7, 7, 7, 7, 7, 7, 7, 7, 7, 7, 7, 7, 7, 7, 7, 7, 7, 7, 7, 7, 7, 7, 7, 7, 7, 7, 7, 8, 8, 8, 8, 8, 8, 8, 8, 8, 8, 8, 8, 8, 8, 8, 8, 8, 8, 8, 8, 8, 8, 8, 8, 8, 8, 8, 8, 8, 8, 8, 8, 8, 8, 8, 8, 8, 8, 8, 8, 8, 8, 8, 8, 8, 8, 8, 8, 8, 8, 8, 8, 8, 8, 8, 8, 8, 8, 8, 8, 8, 8, 8, 8, 8, 8, 8, 8, 8, 8, 8, 8, 8, 8, 8, 8, 8, 8, 8, 8, 8, 8, 8, 8, 8, 8, 8, 8, 8, 8, 8, 8, 8, 8, 8, 8, 8, 8, 8, 8, 8, 8, 8, 8, 8, 8, 8, 8, 8, 8, 8, 8, 8, 8, 8, 8, 8, 8, 8, 8, 8, 8, 8, 8, 8, 8, 8, 8]⟩ : ByteArray).size : Nat) : Int)) ∧
Post (.int .i64 (IntKind.i64.wrap ((32 : Int) + (IntKind.i64.wrap (strAt ⟨#[0, 1, 2, 2, 3, 3, 3, 3, 4, 4, 4, 4, 4, 4, 4, 4, 5, 5, 5, 5, 5, 5, 5, 5, 5, 5, 5, 5, 5, 5, 5, 5, 6, 6, 6, 6, 6, 6, 6, 6, 6, 6, 6, 6, 6, 6, 6, 6, 6, 6, 6, 6, 6, 6, 6, 6, 6, 6, 6, 6, 6, 6, 6, 6, 7, 7, 7, 7, 7, 7, 7, 7, 7, 7, 7, 7, 7, 7, 7, 7, 7, 7, 7, 7, 7, 7, 7, 7, 7, 7, 7, 7, 7, 7, 7, 7, 7, 7, 7, 7, 7, 7, 7, 7, 7, 7, 7, 7, 7, 7, 7, 7, 7, 7, 7, 7, 7, 7, 7, 7, 7, 7, 7, 7, 7, 7, 7, 7, 8, 8, 8, 8, 8, 8, 8, 8, 8, 8, 8, 8, 8, 8, 8, 8, 8, 8, 8, 8, 8, 8, 8, 8, 8, 8, 8, 8, 8, 8, 8, 8, 8, 8, 8, 8, 8, 8, 8, 8, 8, 8, 8, 8, 8, 8, 8, 8, 8, 8, 8, 8, 8, 8, 8, 8, 8, 8, 8, 8, 8, 8, 8, 8, 8, 8, 8, 8, 8, 8, 8, 8, 8, 8, 8, 8, 8, 8, 8, 8, 8, 8, 8, 8, 8, 8, 8, 8, 8, 8, 8, 8, 8, 8, 8, 8, 8, 8, 8, 8, 8, 8, 8, 8, 8, 8, 8, 8, 8, 8, 8, 8, 8, 8, 8, 8, 8, 8, 8, 8, 8, 8, 8, 8, 8, 8, 8, 8]⟩ ((IntKind.u8.wrap (x / (4294967296 : Int)))).toNat))))) h0))) (
bcase (decide ((65536 : Int) ≤ x)) (
(0 ≤ (16 : Int) ∧ (16 : Int) ≤ kbits .u64) ∧
bcase (decide ((256 : Int) ≤ (x / (65536 : Int)))) (
(0 ≤ (8 : Int) ∧ (8 : Int) ≤ kbits .u64) ∧
(0 ≤ (IntKind.u8.wrap ((x / (65536 : Int)) / (256 : Int))) ∧ (IntKind.u8.wrap ((x / (65536 : Int)) / (256 : Int))) < (((⟨#[0, 1, 2, 2, 3, 3, 3, 3, 4, 4, 4, 4, 4, 4, 4, 4, 5, 5, 5, 5, 5, 5, 5, 5, 5, 5, 5, 5, 5, 5, 5, 5, 6, 6, 6, 6, 6, 6, 6, 6, 6, 6, 6, 6, 6, 6, 6, 6, 6, 6, 6, 6, 6, 6, 6, 6, 6, 6, 6, 6, 6, 6, 6, 6, 7, 7, 7, 7, 7, 7, 7, 7, 7, 7, 7, 7, 7, 7, 7, 7, 7, 7, 7, 7, 7, 7, 7, 7, 7, 7, 7, 7, 7, 7, 7, 7, 7, 7, 7, 7, 7, 7, 7, 7, 7, 7, 7, 7, 7, 7, 7, 7, 7, 7, 7, 7, 7, 7, 7, 7, 7, 7, 7, 7, 7, 7, 7, 7, 8, 8, 8, 8, 8, 8, 8, 8, 8, 8, 8, 8, 8, 8, 8, 8, 8, 8, 8, 8, 8, 8, 8, 8, 8, 8, 8, 8, 8, 8, 8, 8, 8, 8, 8, 8, 8, 8, 8, 8, 8, 8, 8, 8, 8, 8, 8, 8, 8, 8, 8, 8, 8, 8, 8, 8, 8, 8, 8, 8, 8, 8, 8, 8, 8, 8, 8, 8, 8, 8, 8, 8, 8, 8, 8, 8, 8, 8, 8, 8, 8, 8, 8, 8, 8, 8, 8, 8, 8, 8, 8, 8, 8, 8, 8, 8, 8, 8, 8, 8, 8, 8, 8, 8, 8, 8, 8, 8, 8, 8, 8, 8, 8, 8, 8, 8, 8, 8, 8, 8, 8, 8, 8, 8, 8, 8, 8, 8]⟩ : ByteArray).size : Nat) : Int)) ∧
Post (.int .i64 (IntKind.i64.wrap ((IntKind.i64.wrap ((IntKind.i64.wrap ((0 : Int) + (16 : Int))) + (8 : Int))) + (IntKind.i64.wrap (strAt ⟨#[0, 1, 2, 2, 3, 3, 3, 3, 4, 4, 4, 4, 4, 4, 4, 4, 5, 5, 5, 5, 5, 5, 5, 5, 5, 5, 5, 5, 5, 5, 5, 5, 6, 6, 6, 6, 6, 6, 6, 6, 6, 6, 6, 6, 6, 6, 6, 6, 6, 6, 6, 6, 6, 6, 6, 6, 6, 6, 6, 6, 6, 6, 6, 6, 7, 7, 7, 7, 7, 7, 7, 7, 7, 7, 7, 7, 7, 7, 7, 7, 7, 7, 7, 7, 7, 7, 7, 7, 7, 7, 7, 7, 7, 7, 7, 7, 7, 7, 7, 7, 7, 7, 7, 7, 7, 7, 7, 7, 7, 7, 7, 7, 7, 7, 7, 7, 7, 7, 7, 7, 7, 7, 7, 7, 7, 7, 7, 7, 8, 8, 8, 8, 8, 8, 8, 8, 8, 8, 8, 8, 8, 8, 8, 8, 8, 8, 8, 8, 8, 8, 8, 8, 8, 8, 8, 8, 8, 8, 8, 8, 8, 8, 8, 8, 8, 8, 8, 8, 8, 8, 8, 8, 8, 8, 8, 8, 8, 8, 8, 8, 8, 8, 8, 8, 8, 8, 8, 8, 8, 8, 8, 8, 8, 8, 8, 8, 8, 8, 8, 8, 8, 8, 8, 8, 8, 8, 8, 8, 8, 8, 8, 8, 8, 8, 8, 8, 8, 8, 8, 8, 8, 8, 8, 8, 8, 8, 8, 8, 8, 8, 8, 8, 8, 8, 8, 8, 8, 8, 8, 8, 8, 8, 8, 8, 8, 8, 8, 8, 8, 8, 8, 8, 8, 8, 8, 8]⟩ ((IntKind.u8.wrap ((x / (65536 : Int)) / (256 : Int)))).toNat))))) h0) (
(0 ≤ (IntKind.u8.wrap (x / (65536 : Int))) ∧ (IntKind.u8.wrap (x / (65536 : Int))) < (((⟨#[0, 1, 2, 2, 3, 3, 3, 3, 4, 4, 4, 4, 4, 4, 4, 4, 5, 5, 5, 5, 5, 5, 5, 5, 5, 5, 5, 5, 5, 5, 5, 5, 6, 6, 6, 6, 6, 6, 6, 6, 6, 6, 6, 6, 6, 6, 6, 6, 6, 6, 6, 6, 6, 6, 6, 6, 6, 6, 6, 6, 6, 6, 6, 6, 7, 7, 7, 7, 7, 7, 7, 7, 7, 7, 7, 7, 7, 7, 7, 7, 7, 7, 7, 7, 7, 7, 7, 7, 7, 7, 7, 7, 7, 7, 7, 7, 7, 7, 7, 7, 7, 7, 7, 7, 7, 7, 7, 7, 7, 7, 7, 7, 7, 7, 7, 7, 7, 7, 7, 7, 7, 7, 7, 7, 7, 7, 7, 7, 8, 8, 8, 8, 8, 8, 8, 8, 8, 8, 8, 8, 8, 8, 8, 8, 8, 8, 8, 8, 8, 8, 8, 8, 8, 8, 8, 8, 8, 8, 8, 8, 8, 8, 8, 8, 8, 8, 8, 8, 8, 8, 8, 8, 8, 8, 8, 8, 8, 8, 8, 8, 8, 8, 8, 8, 8, 8, 8, 8, 8, 8, 8, 8, 8, 8, 8, 8, 8, 8, 8, 8, 8, 8, 8, 8, 8, 8, 8, 8, 8, 8, 8, 8, 8, 8, 8, 8, 8, 8, 8, 8, 8, 8, 8, 8, 8, 8, 8, 8, 8, 8, 8, 8, 8, 8, 8, 8, 8, 8, 8, 8, 8, 8, 8, 8, 8, 8, 8, 8, 8, 8, 8, 8, 8, 8, 8, 8]⟩ : ByteArray).size : Nat) : Int)) ∧
Post (.int .i64 (IntKind.i64.wrap ((IntKind.i64.wrap ((0 : Int) + (16 : Int))) + (IntKind.i64.wrap (strAt ⟨#[0, 1, 2, 2, 3, 3, 3, 3, 4, 4, 4, 4, 4, 4, 4, 4, 5, 5, 5, 5, 5, 5, 5, 5, 5, 5, 5, 5, 5, 5, 5, 5, 6, 6, 6, 6, 6, 6, 6, 6, 6, 6, 6, 6, 6, 6, 6, 6, 6, 6, 6, 6, 6, 6, 6, 6, 6, 6, 6, 6, 6, 6, 6, 6, 7, 7, 7, 7, 7, 7, 7, 7, 7, 7, 7, 7, 7, 7, 7, 7, 7, 7, 7, 7, 7, 7, 7, 7, 7, 7, 7, 7, 7, 7, 7, 7, 7, 7, 7, 7, 7, 7, 7, 7, 7, 7, 7, 7, 7, 7, 7, 7, 7, 7, 7, 7, 7, 7, 7, 7, 7, 7, 7, 7, 7, 7, 7, 7, 8, 8, 8, 8, 8, 8, 8, 8, 8, 8, 8, 8, 8, 8, 8, 8, 8, 8, 8, 8, 8, 8, 8, 8, 8, 8, 8, 8, 8, 8, 8, 8, 8, 8, 8, 8, 8, 8, 8, 8, 8, 8, 8, 8, 8, 8, 8, 8, 8, 8, 8, 8, 8, 8, 8, 8, 8, 8, 8, 8, 8, 8, 8, 8, 8, 8, 8, 8, 8, 8, 8, 8, 8, 8, 8, 8, 8, 8, 8, 8, 8, 8, 8, 8, 8, 8, 8, 8, 8, 8, 8, 8, 8, 8, 8, 8, 8, 8, 8, 8, 8, 8, 8, 8, 8, 8, 8, 8, 8, 8, 8, 8, 8, 8, 8, 8, 8, 8, 8, 8, 8, 8, 8, 8, 8, 8, 8, 8]⟩ ((IntKind.u8.wrap (x / (65536 : Int)))).toNat))))) h0)) (
bcase (decide ((256 : Int) ≤ x)) (
(0 ≤ (8 : Int) ∧ (8 : Int) ≤ kbits .u64) ∧
(0 ≤ (IntKind.u8.wrap (x / (256 : Int))) ∧ (IntKind.u8.wrap (x / (256 : Int))) < (((⟨#[0, 1, 2, 2, 3, 3, 3, 3, 4, 4, 4, 4, 4, 4, 4, 4, 5, 5, 5, 5, 5, 5, 5, 5, 5, 5, 5, 5, 5, 5, 5, 5, 6, 6, 6, 6, 6, 6, 6, 6, 6, 6, 6, 6, 6, 6, 6, 6, 6, 6, 6, 6, 6, 6, 6, 6, 6, 6, 6, 6, 6, 6, 6, 6, 7, 7, 7, 7, 7, 7, 7, 7, 7, 7, 7, 7, 7, 7, 7, 7, 7, 7, 7, 7, 7, 7, 7, 7, 7, 7, 7, 7, 7, 7, 7, 7, 7, 7, 7, 7, 7, 7, 7, 7, 7, 7, 7, 7, 7, 7, 7, 7, 7, 7, 7, 7, 7, 7, 7, 7, 7, 7, 7, 7, 7, 7, 7, 7, 8, 8, 8, 8, 8, 8, 8, 8, 8, 8, 8, 8, 8, 8, 8, 8, 8, 8, 8, 8, 8, 8, 8, 8, 8, 8, 8, 8, 8, 8, 8, 8, 8, 8, 8, 8, 8, 8, 8, 8, 8, 8, 8, 8, 8, 8, 8, 8, 8, 8, 8, 8, 8, 8, 8, 8, 8, 8, 8, 8, 8, 8, 8, 8, 8, 8, 8, 8, 8, 8, 8, 8, 8, 8, 8, 8, 8, 8, 8, 8, 8, 8, 8, 8, 8, 8, 8, 8, 8, 8, 8, 8, 8, 8, 8, 8, 8, 8, 8, 8, 8, 8, 8, 8, 8, 8, 8, 8, 8, 8, 8, 8, 8, 8, 8, 8, 8, 8, 8, 8, 8, 8, 8, 8, 8, 8, 8, 8]⟩ : ByteArray).size : Nat) : Int)) ∧
Post (.int .i64 (IntKind.i64.wrap ((IntKind.i64.wrap ((0 : Int) + (8 : Int))) + (IntKind.i64.wrap (strAt ⟨#[0, 1, 2, 2, 3, 3, 3, 3, 4, 4, 4, 4, 4, 4, 4, 4, 5, 5, 5, 5, 5, 5, 5, 5, 5, 5, 5, 5, 5, 5, 5, 5, 6, 6, 6, 6, 6, 6, 6, 6, 6, 6, 6, 6, 6, 6, 6, 6, 6, 6, 6, 6, 6, 6, 6, 6, 6, 6, 6, 6, 6, 6, 6, 6, 7, 7, 7, 7, 7, 7, 7, 7, 7, 7, 7, 7, 7, 7, 7, 7, 7, 7, 7, 7, 7, 7, 7, 7, 7, 7, 7, 7, 7, 7, 7, 7, 7, 7, 7, 7, 7, 7, 7, 7, 7, 7, 7, 7, 7, 7, 7, 7, 7, 7, 7, 7, 7, 7, 7, 7, 7, 7, 7, 7, 7, 7, 7, 7, 8, 8, 8, 8, 8, 8, 8, 8, 8, 8, 8, 8, 8, 8, 8, 8, 8, 8, 8, 8, 8, 8, 8, 8, 8, 8, 8, 8, 8, 8, 8, 8, 8, 8, 8, 8, 8, 8, 8, 8, 8, 8, 8, 8, 8, 8, 8, 8, 8, 8, 8, 8, 8, 8, 8, 8, 8, 8, 8, 8, 8, 8, 8, 8, 8, 8, 8, 8, 8, 8, 8, 8, 8, 8, 8, 8, 8, 8, 8, 8, 8, 8, 8, 8, 8, 8, 8, 8, 8, 8, 8, 8, 8, 8, 8, 8, 8, 8, 8, 8, 8, 8, 8, 8, 8, 8, 8, 8, 8, 8, 8, 8, 8, 8, 8, 8, 8, 8, 8, 8, 8, 8, 8, 8, 8, 8, 8, 8]⟩ ((IntKind.u8.wrap (x / (256 : Int)))).toNat))))) h0) (
(0 ≤ (IntKind.u8.wrap x) ∧ (IntKind.u8.wrap x) < (((⟨#[0, 1, 2, 2, 3, 3, 3, 3, 4, 4, 4, 4, 4, 4, 4, 4, 5, 5, 5, 5, 5, 5, 5, 5, 5, 5, 5, 5, 5, 5, 5, 5, 6, 6, 6, 6, 6, 6, 6, 6, 6, 6, 6, 6, 6, 6, 6, 6, 6, 6, 6, 6, 6, 6, 6, 6, 6, 6, 6, 6, 6, 6, 6, 6, 7, 7, 7, 7, 7, 7, 7, 7, 7, 7, 7, 7, 7, 7, 7, 7, 7, 7, 7, 7, 7, 7, 7, 7, 7, 7, 7, 7, 7, 7, 7, 7, 7, 7, 7, 7, 7, 7, 7, 7, 7, 7, 7, 7, 7, 7, 7, 7, 7, 7, 7, 7, 7, 7, 7, 7, 7, 7, 7, 7, 7, 7, 7, 7, 8, 8, 8, 8, 8, 8, 8, 8, 8, 8, 8, 8, 8, 8, 8, 8, 8, 8, 8, 8, 8, 8, 8, 8, 8, 8, 8, 8, 8, 8, 8, 8, 8, 8, 8, 8, 8, 8, 8, 8, 8, 8, 8, 8, 8, 8, 8, 8, 8, 8, 8, 8, 8, 8, 8, 8, 8, 8, 8, 8, 8, 8, 8, 8, 8, 8, 8, 8, 8, 8, 8, 8, 8, 8, 8, 8, 8, 8, 8, 8, 8, 8, 8, 8, 8, 8, 8, 8, 8, 8, 8, 8, 8, 8, 8, 8, 8, 8, 8, 8, 8, 8, 8, 8, 8, 8, 8, 8, 8, 8, 8, 8, 8, 8, 8, 8, 8, 8, 8, 8, 8, 8, 8, 8, 8, 8, 8, 8]⟩ : ByteArray).size : Nat) : Int)) ∧
Post (.int .i64 (IntKind.i64.wrap ((0 : Int) + (IntKind.i64.wrap (strAt ⟨#[0, 1, 2, 2, 3, 3, 3, 3, 4, 4, 4, 4, 4, 4, 4, 4, 5, 5, 5, 5, 5, 5, 5, 5, 5, 5, 5, 5, 5, 5, 5, 5, 6, 6, 6, 6, 6, 6, 6, 6, 6, 6, 6, 6, 6, 6, 6, 6, 6, 6, 6, 6, 6, 6, 6, 6, 6, 6, 6, 6, 6, 6, 6, 6, 7, 7, 7, 7, 7, 7, 7, 7, 7, 7, 7, 7, 7, 7, 7, 7, 7, 7, 7, 7, 7, 7, 7, 7, 7, 7, 7, 7, 7, 7, 7, 7, 7, 7, 7, 7, 7, 7, 7, 7, 7, 7, 7, 7, 7, 7, 7, 7, 7, 7, 7, 7, 7, 7, 7, 7, 7, 7, 7, 7, 7, 7, 7, 7, 8, 8, 8, 8, 8, 8, 8, 8, 8, 8, 8, 8, 8, 8, 8, 8, 8, 8, 8, 8, 8, 8, 8, 8, 8, 8, 8, 8, 8, 8, 8, 8, 8, 8, 8, 8, 8, 8, 8, 8, 8, 8, 8, 8, 8, 8, 8, 8, 8, 8, 8, 8, 8, 8, 8, 8, 8, 8, 8, 8, 8, 8, 8, 8, 8, 8, 8, 8, 8, 8, 8, 8, 8, 8, 8, 8, 8, 8, 8, 8, 8, 8, 8, 8, 8, 8, 8, 8, 8, 8, 8, 8, 8, 8, 8, 8, 8, 8, 8, 8, 8, 8, 8, 8, 8, 8, 8, 8, 8, 8, 8, 8, 8, 8, 8, 8, 8, 8, 8, 8, 8, 8, 8, 8, 8, 8, 8, 8]⟩ ((IntKind.u8.wrap x)).toNat))))) h0)))) :
    Runs Tryd.prog 103 #[(.int .u64 x)] h0 Post :=
  runs_of (args := [(.int .u64 x)]) (fun n => ⟨false, false⟩) (fun _ => []) (fun _ => none) (fun _ => []) Tryd.func103 rfl (by rw [Tryd.ntmps103]; simp) (Eq.mp (by kernel_rfl) H)
end Go.Proofs.YthlacliefgliiaaDoor
