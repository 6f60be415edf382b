/- The conditions for calls of functions of the program, in plain form: written by a program (vcgen) off the elaborated code; each is the reckoner's own, by the kernel. -/
import Derived.Test.YtlgjjjaepcgaoaaRows
import Derived.Test.YtlgjjjaepcgaoaaVc
set_option linter.unusedVariables false
set_option maxRecDepth 100000
namespace Go.Proofs.Ytlgjjjaepcgaoaa
open Go.Vc
theorem vc_seq_mod (n : Int) (h0 : Heap) (Post : Value → Heap → Prop) (H :
(4096 : Int) ≠ 0 ∧
(4096 : Int) ≠ 0 ∧
Post (.int .i64 (((IntKind.i64.wrap (((n).tmod (4096 : Int)) + (4096 : Int)))).tmod (4096 : Int))) h0) :
    Runs Try.prog 29 #[(.int .i64 n)] h0 Post :=
  runs_of (args := [(.int .i64 n)]) (fun n => ⟨false, false⟩) (fun _ => []) (fun _ => none) (fun _ => []) Try.func29 rfl (by rw [Try.ntmps29]; simp) (Eq.mp (by kernel_rfl) H)

theorem vc_seq_Add (a : Int) (n : Int) (h0 : Heap) (Post : Value → Heap → Prop) (H :
Runs Try.prog 29 #[(.int .i64 a)] h0 fun r1 h1 =>
∃ n1 : Int,
r1 = (.int .i64 n1) ∧
Runs Try.prog 29 #[(.int .i64 n)] h1 fun r2 h2 =>
∃ n2 : Int,
r2 = (.int .i64 n2) ∧
fits .i64 (n1 + n2) ∧
Runs Try.prog 29 #[(.int .i64 (n1 + n2))] h2 fun r3 h3 =>
∃ n3 : Int,
r3 = (.int .i64 n3) ∧
Post (.int .i64 n3) h3) :
    Runs Try.prog 14 #[(.int .i64 a), (.int .i64 n)] h0 Post :=
  runs_of (args := [(.int .i64 a), (.int .i64 n)]) (fun n => ⟨true, false⟩) (fun _ => []) (fun _ => none) (fun _ => []) Try.func14 rfl (by rw [Try.ntmps14]; simp) (Eq.mp (by kernel_rfl) H)

theorem vc_seq_Dist (a : Int) (b : Int) (h0 : Heap) (Post : Value → Heap → Prop) (H :
Runs Try.prog 29 #[(.int .i64 b)] h0 fun r1 h1 =>
∃ n1 : Int,
r1 = (.int .i64 n1) ∧
Runs Try.prog 29 #[(.int .i64 a)] h1 fun r2 h2 =>
∃ n2 : Int,
r2 = (.int .i64 n2) ∧
fits .i64 (n1 - n2) ∧
Runs Try.prog 29 #[(.int .i64 (n1 - n2))] h2 fun r3 h3 =>
∃ n3 : Int,
r3 = (.int .i64 n3) ∧
Post (.int .i64 n3) h3) :
    Runs Try.prog 15 #[(.int .i64 a), (.int .i64 b)] h0 Post :=
  runs_of (args := [(.int .i64 a), (.int .i64 b)]) (fun n => ⟨true, false⟩) (fun _ => []) (fun _ => none) (fun _ => []) Try.func15 rfl (by rw [Try.ntmps15]; simp) (Eq.mp (by kernel_rfl) H)

theorem vc_seq_Ahead (a : Int) (b : Int) (h0 : Heap) (Post : Value → Heap → Prop) (H :
Runs Try.prog 15 #[(.int .i64 a), (.int .i64 b)] h0 fun r1 h1 =>
∃ n1 : Int,
r1 = (.int .i64 n1) ∧
bcase (decide ((0 : Int) < n1)) (
Post (.bool (decide (n1 < (2048 : Int)))) h1) (
Post (.bool false) h1)) :
    Runs Try.prog 16 #[(.int .i64 a), (.int .i64 b)] h0 Post :=
  runs_of (args := [(.int .i64 a), (.int .i64 b)]) (fun n => ⟨true, false⟩) (fun _ => []) (fun _ => none) (fun _ => []) Try.func16 rfl (by rw [Try.ntmps16]; simp) (Eq.mp (by kernel_rfl) H)

theorem vc_muezzinlaw1_first  (h0 : Heap) (Post : Value → Heap → Prop) (H :
Runs Try.prog 14 #[(.int .i64 (4095 : Int)), (.int .i64 (1 : Int))] h0 fun r1 h1 =>
∃ n1 : Int,
r1 = (.int .i64 n1) ∧
bcase (decide (n1 = (0 : Int))) (
Runs Try.prog 14 #[(.int .i64 (4000 : Int)), (.int .i64 (95 : Int))] h1 fun r2 h2 =>
∃ n2 : Int,
r2 = (.int .i64 n2) ∧
Post (.bool (decide (n2 = (4095 : Int)))) h2) (
Post (.bool false) h1)) :
    Runs Try.prog 12 #[] h0 Post :=
  runs_of (args := []) (fun n => ⟨true, false⟩) (fun _ => []) (fun _ => none) (fun _ => []) Try.func12 rfl (by rw [Try.ntmps12]; simp) (Eq.mp (by kernel_rfl) H)

theorem vc_muezzinworld_Number (n : Int) (below : Int) (h0 : Heap) (Post : Value → Heap → Prop) (H :
below ≠ 0 ∧
bcase (decide (((n).tmod below) < (0 : Int))) (
fits .i64 (((n).tmod below) + below) ∧
Post (.int .i64 (((n).tmod below) + below)) h0) (
Post (.int .i64 ((n).tmod below)) h0)) :
    Runs Try.prog 13 #[(.int .i64 n), (.int .i64 below)] h0 Post :=
  runs_of (args := [(.int .i64 n), (.int .i64 below)]) (fun n => ⟨!memB n [1, 2], false⟩) (fun _ => []) (fun _ => none) (fun _ => []) Try.func13 rfl (by rw [Try.ntmps13]; simp) (Eq.mp (by kernel_rfl) H)

theorem vc_muezzinlaw1_SeqRound (a : Int) (b : Int) (n : Int) (h0 : Heap) (Post : Value → Heap → Prop) (H :
Runs Try.prog 12 #[] h0 fun r1 h1 =>
∃ t1 : Bool,
r1 = (.bool t1) ∧
bcase (!t1) (
Post (.bool false) h1) (
Runs Try.prog 13 #[(.int .i64 a), (.int .i64 (4096 : Int))] h1 fun r2 h2 =>
∃ n1 : Int,
r2 = (.int .i64 n1) ∧
Runs Try.prog 13 #[(.int .i64 b), (.int .i64 (4096 : Int))] h2 fun r3 h3 =>
∃ n2 : Int,
r3 = (.int .i64 n2) ∧
Runs Try.prog 13 #[(.int .i64 n), (.int .i64 (4096 : Int))] h3 fun r4 h4 =>
∃ n3 : Int,
r4 = (.int .i64 n3) ∧
Runs Try.prog 15 #[(.int .i64 n1), (.int .i64 n2)] h4 fun r5 h5 =>
∃ n4 : Int,
r5 = (.int .i64 n4) ∧
Runs Try.prog 15 #[(.int .i64 n2), (.int .i64 n1)] h5 fun r6 h6 =>
∃ n5 : Int,
r6 = (.int .i64 n5) ∧
∃ J1 : Bool → Heap → Prop, (
bcase t1 (
Runs Try.prog 14 #[(.int .i64 n1), (.int .i64 n3)] h6 fun r7 h7 =>
∃ n6 : Int,
r7 = (.int .i64 n6) ∧
Runs Try.prog 15 #[(.int .i64 n1), (.int .i64 n6)] h7 fun r8 h8 =>
∃ n7 : Int,
r8 = (.int .i64 n7) ∧
J1 (decide (n7 = n3)) h8) (
J1 false h6)) ∧ ∀ _ : Env,
∀ (x1 : Bool) (h9 : Heap), J1 x1 h9 →
∃ J2 : Bool → Heap → Prop, (
bcase x1 (
Runs Try.prog 14 #[(.int .i64 n1), (.int .i64 n4)] h9 fun r9 h10 =>
∃ n8 : Int,
r9 = (.int .i64 n8) ∧
J2 (decide (n8 = n2)) h10) (
J2 false h9)) ∧ ∀ _ : Env,
∀ (x2 : Bool) (h11 : Heap), J2 x2 h11 →
∃ J3 : Bool → Heap → Prop, (
bcase x2 (
fits .i64 (n4 + n5) ∧
(0 ≤ (n4 + n5) ∧ 0 < (4096 : Int)) ∧
J3 (decide (((n4 + n5) % (4096 : Int)) = (0 : Int))) h11) (
J3 false h11)) ∧ ∀ _ : Env,
∀ (x3 : Bool) (h12 : Heap), J3 x3 h12 →
∃ J4 : Bool → Heap → Prop, (
bcase x3 (
J4 (decide ((0 : Int) ≤ n4)) h12) (
J4 false h12)) ∧ ∀ _ : Env,
∀ (x4 : Bool) (h13 : Heap), J4 x4 h13 →
∃ J5 : Bool → Heap → Prop, (
bcase x4 (
J5 (decide (n4 < (4096 : Int))) h13) (
J5 false h13)) ∧ ∀ _ : Env,
∀ (x5 : Bool) (h14 : Heap), J5 x5 h14 →
∃ J6 : Bool → Heap → Prop, (
bcase x5 (
J6 ((decide (n1 = n2)) == (decide (n4 = (0 : Int)))) h14) (
J6 false h14)) ∧ ∀ _ : Env,
∀ (x6 : Bool) (h15 : Heap), J6 x6 h15 →
∃ J7 : Bool → Heap → Prop, (
bcase x6 (
bcase (decide (n1 = n2)) (
J7 true h15) (
bcase (decide (n4 = (2048 : Int))) (
J7 true h15) (
Runs Try.prog 16 #[(.int .i64 n1), (.int .i64 n2)] h15 fun r10 h16 =>
∃ t2 : Bool,
r10 = (.bool t2) ∧
Runs Try.prog 16 #[(.int .i64 n2), (.int .i64 n1)] h16 fun r11 h17 =>
∃ t3 : Bool,
r11 = (.bool t3) ∧
J7 (!(t2 == t3)) h17))) (
J7 false h15)) ∧ ∀ _ : Env,
∀ (x7 : Bool) (h18 : Heap), J7 x7 h18 →
∃ J8 : Bool → Heap → Prop, (
bcase x7 (
Runs Try.prog 16 #[(.int .i64 n1), (.int .i64 n2)] h18 fun r12 h19 =>
∃ t4 : Bool,
r12 = (.bool t4) ∧
bcase t4 (
Runs Try.prog 16 #[(.int .i64 n2), (.int .i64 n1)] h19 fun r13 h20 =>
∃ t5 : Bool,
r13 = (.bool t5) ∧
J8 (!t5) h20) (
J8 true h19)) (
J8 false h18)) ∧ ∀ _ : Env,
∀ (x8 : Bool) (h21 : Heap), J8 x8 h21 →
bcase x8 (
fits .i64 ((0 : Int) - n3) ∧
Runs Try.prog 14 #[(.int .i64 n1), (.int .i64 ((0 : Int) - n3))] h21 fun r14 h22 =>
∃ n9 : Int,
r14 = (.int .i64 n9) ∧
fits .i64 ((4096 : Int) - n3) ∧
Runs Try.prog 14 #[(.int .i64 n1), (.int .i64 ((4096 : Int) - n3))] h22 fun r15 h23 =>
∃ n10 : Int,
r15 = (.int .i64 n10) ∧
Post (.bool (decide (n9 = n10))) h23) (
Post (.bool false) h21))) :
    Runs Try.prog 4 #[(.int .i64 a), (.int .i64 b), (.int .i64 n)] h0 Post :=
  runs_of (args := [(.int .i64 a), (.int .i64 b), (.int .i64 n)]) (fun n => ⟨true, false⟩) (fun _ => []) (fun _ => none) (fun n => match n with | 10 => [(10, [(37, .bool)]), (7, [(44, .bool)]), (7, [(51, .bool)]), (4, [(55, .bool)]), (4, [(59, .bool)]), (8, [(67, .bool)]), (17, [(84, .bool)]), (11, [(95, .bool)])] | _ => []) Try.func4 rfl (by rw [Try.ntmps4]; simp) (Eq.mp (by kernel_rfl) H)

theorem vc_muezzinlaw1_SeqChains (a : Int) (l : Option Addr) (lL lC : Nat) (h0 : Heap) (Post : Value → Heap → Prop) (H :
Runs Try.prog 12 #[] h0 fun r1 h1 =>
∃ t1 : Bool,
r1 = (.bool t1) ∧
bcase (!t1) (
Post (.bool false) h1) (
bcase (decide ((30 : Int) < ((lL : Nat) : Int))) (
Post (.bool t1) h1) (
Runs Try.prog 13 #[(.int .i64 a), (.int .i64 (4096 : Int))] h1 fun r2 h2 =>
∃ n1 : Int,
r2 = (.int .i64 n1) ∧
∃ (I1 : Int → Int → Int → Heap → Prop) (m1 : Int → Int → Int → Heap → Nat), I1 n1 (0 : Int) (0 : Int) h2 ∧ ∀ _ : Env,
∀ (at_1 : Int) (sum_1 : Int) (i_1 : Int) (h3 : Heap), I1 at_1 sum_1 i_1 h3 →
bcase (decide (i_1 < ((lL : Nat) : Int))) (
(0 ≤ i_1 ∧ i_1 < ((lL : Nat) : Int)) ∧
onAddr l fun b1 o1 =>
∃ n2 : Int, cell h3 b1 (o1 + (i_1).toNat) = some (.int .i64 n2) ∧
Runs Try.prog 13 #[(.int .i64 n2), (.int .i64 (9000 : Int))] h3 fun r3 h4 =>
∃ n3 : Int,
r3 = (.int .i64 n3) ∧
fits .i64 (n3 - (4500 : Int)) ∧
Runs Try.prog 14 #[(.int .i64 at_1), (.int .i64 (n3 - (4500 : Int)))] h4 fun r4 h5 =>
∃ n4 : Int,
r4 = (.int .i64 n4) ∧
fits .i64 (sum_1 + (n3 - (4500 : Int))) ∧
fits .i64 (i_1 + (1 : Int)) ∧
I1 n4 (sum_1 + (n3 - (4500 : Int))) (i_1 + (1 : Int)) h5 ∧ m1 n4 (sum_1 + (n3 - (4500 : Int))) (i_1 + (1 : Int)) h5 < m1 at_1 sum_1 i_1 h3) (
fits .i64 ((0 : Int) - sum_1) ∧
Runs Try.prog 14 #[(.int .i64 at_1), (.int .i64 ((0 : Int) - sum_1))] h3 fun r5 h6 =>
∃ n5 : Int,
r5 = (.int .i64 n5) ∧
∃ J1 : Bool → Heap → Prop, (
bcase t1 (
Runs Try.prog 14 #[(.int .i64 n1), (.int .i64 sum_1)] h6 fun r6 h7 =>
∃ n6 : Int,
r6 = (.int .i64 n6) ∧
J1 (decide (at_1 = n6)) h7) (
J1 false h6)) ∧ ∀ _ : Env,
∀ (x4 : Bool) (h8 : Heap), J1 x4 h8 →
∃ J2 : Bool → Heap → Prop, (
bcase x4 (
J2 (decide (n5 = n1)) h8) (
J2 false h8)) ∧ ∀ _ : Env,
∀ (x5 : Bool) (h9 : Heap), J2 x5 h9 →
bcase x5 (
Runs Try.prog 15 #[(.int .i64 n1), (.int .i64 at_1)] h9 fun r7 h10 =>
∃ n7 : Int,
r7 = (.int .i64 n7) ∧
Runs Try.prog 14 #[(.int .i64 sum_1), (.int .i64 (0 : Int))] h10 fun r8 h11 =>
∃ n8 : Int,
r8 = (.int .i64 n8) ∧
Post (.bool (decide (n7 = n8))) h11) (
Post (.bool false) h9))))) :
    Runs Try.prog 3 #[(.int .i64 a), (.slice l lL lC)] h0 Post :=
  runs_of (args := [(.int .i64 a), (.slice l lL lC)]) (fun n => ⟨true, false⟩) (fun n => match n with | 0 => [(6, .int .i64), (7, .int .i64), (8, .int .i64)] | _ => []) (fun _ => none) (fun n => match n with | 16 => [(8, [(50, .bool)]), (5, [(55, .bool)])] | _ => []) Try.func3 rfl (by rw [Try.ntmps3]; simp) (Eq.mp (by kernel_rfl) H)
end Go.Proofs.Ytlgjjjaepcgaoaa
