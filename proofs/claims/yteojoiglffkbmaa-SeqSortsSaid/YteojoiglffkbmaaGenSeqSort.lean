/- The conditions for calls of functions of the program, in plain form: written by a program (vcgen) off the elaborated code; each is the reckoner's own, by the kernel. -/
import Derived.Test.YteojoiglffkbmaaRows
import Derived.Test.YteojoiglffkbmaaVc
set_option linter.unusedVariables false
set_option maxRecDepth 100000
namespace Go.Proofs.Yteojoiglffkbmaa
open Go.Vc
theorem vc_seq_mod (n : Int) (h0 : Heap) (Post : Value → Heap → Prop) (H :
(4096 : Int) ≠ 0 ∧
(4096 : Int) ≠ 0 ∧
Post (.int .i64 (((IntKind.i64.wrap (((n).tmod (4096 : Int)) + (4096 : Int)))).tmod (4096 : Int))) h0) :
    Runs Try.prog 57 #[(.int .i64 n)] h0 Post :=
  runs_of (args := [(.int .i64 n)]) (fun n => ⟨false, false⟩) (fun _ => []) (fun _ => none) (fun _ => []) Try.func57 rfl (by rw [Try.ntmps57]; simp) (Eq.mp (by kernel_rfl) H)

theorem vc_seq_Add (a : Int) (n : Int) (h0 : Heap) (Post : Value → Heap → Prop) (H :
Runs Try.prog 57 #[(.int .i64 a)] h0 fun r1 h1 =>
∃ n1 : Int,
r1 = (.int .i64 n1) ∧
Runs Try.prog 57 #[(.int .i64 n)] h1 fun r2 h2 =>
∃ n2 : Int,
r2 = (.int .i64 n2) ∧
fits .i64 (n1 + n2) ∧
Runs Try.prog 57 #[(.int .i64 (n1 + n2))] h2 fun r3 h3 =>
∃ n3 : Int,
r3 = (.int .i64 n3) ∧
Post (.int .i64 n3) h3) :
    Runs Try.prog 42 #[(.int .i64 a), (.int .i64 n)] h0 Post :=
  runs_of (args := [(.int .i64 a), (.int .i64 n)]) (fun n => ⟨true, false⟩) (fun _ => []) (fun _ => none) (fun _ => []) Try.func42 rfl (by rw [Try.ntmps42]; simp) (Eq.mp (by kernel_rfl) H)

theorem vc_seq_Dist (a : Int) (b : Int) (h0 : Heap) (Post : Value → Heap → Prop) (H :
Runs Try.prog 57 #[(.int .i64 b)] h0 fun r1 h1 =>
∃ n1 : Int,
r1 = (.int .i64 n1) ∧
Runs Try.prog 57 #[(.int .i64 a)] h1 fun r2 h2 =>
∃ n2 : Int,
r2 = (.int .i64 n2) ∧
fits .i64 (n1 - n2) ∧
Runs Try.prog 57 #[(.int .i64 (n1 - n2))] h2 fun r3 h3 =>
∃ n3 : Int,
r3 = (.int .i64 n3) ∧
Post (.int .i64 n3) h3) :
    Runs Try.prog 41 #[(.int .i64 a), (.int .i64 b)] h0 Post :=
  runs_of (args := [(.int .i64 a), (.int .i64 b)]) (fun n => ⟨true, false⟩) (fun _ => []) (fun _ => none) (fun _ => []) Try.func41 rfl (by rw [Try.ntmps41]; simp) (Eq.mp (by kernel_rfl) H)

theorem vc_seq_Sort_1 (a : Int) (b : Int) (c0 : Option Addr) (h0 : Heap) (Post : Value → Heap → Prop) (H :
onAddr c0 fun b1 o1 =>
∃ n1 : Int, cell h0 b1 o1 = some (.int .i64 n1) ∧
onAddr c0 fun b2 o2 =>
∃ n2 : Int, cell h0 b2 o2 = some (.int .i64 n2) ∧
Runs Try.prog 41 #[(.int .i64 n1), (.int .i64 a)] h0 fun r1 h1 =>
∃ n3 : Int,
r1 = (.int .i64 n3) ∧
cell h1 b2 o2 = some (.int .i64 n2) ∧
Runs Try.prog 41 #[(.int .i64 n2), (.int .i64 b)] h1 fun r2 h2 =>
∃ n4 : Int,
r2 = (.int .i64 n4) ∧
fits .i64 (n3 - n4) ∧
Post (.int .i64 (n3 - n4)) h2) :
    Runs Try.prog 59 #[(.int .i64 a), (.int .i64 b), (.pointer c0)] h0 Post :=
  runs_of (args := [(.int .i64 a), (.int .i64 b), (.pointer c0)]) (fun n => ⟨true, false⟩) (fun _ => []) (fun _ => none) (fun _ => []) Try.func59 rfl (by rw [Try.ntmps59]; simp) (Eq.mp (by kernel_rfl) H)

theorem vc_seq_Sort (start : Int) (l : Option Addr) (lL lC : Nat) (h0 : Heap) (Post : Value → Heap → Prop) (H :
∀ (b1 : Nat) (h1 : Heap), b1 = h0.size → h1 = h0.push (.cells ([(.int .i64 start)] : List Value).toArray 3) →
∃ (I1 : Option Addr → Nat → Nat → Int → Heap → Prop) (m1 : Option Addr → Nat → Nat → Int → Heap → Nat), I1 none 0 0 (0 : Int) h1 ∧ ∀ _ : Env,
∀ (out_1 : Option Addr) (out_1l out_1c : Nat) (x2 : Int) (h2 : Heap), I1 out_1 out_1l out_1c x2 h2 →
bcase (decide (x2 < ((lL : Nat) : Int))) (
(0 ≤ x2 ∧ x2 < ((lL : Nat) : Int)) ∧
onAddr l fun b2 o1 =>
∃ n1 : Int, cell h2 b2 (o1 + (x2).toNat) = some (.int .i64 n1) ∧
Runs Try.prog 57 #[(.int .i64 n1)] h2 fun r1 h3 =>
∃ n2 : Int,
r1 = (.int .i64 n2) ∧
∀ (b3 : Nat) (h4 : Heap), b3 = h3.size → h4 = h3.push (.cells ([(.int .i64 n2)] : List Value).toArray 3) →
∃ news1 : List Value, (row h4 b3 0 1 = some news1 ∧ ∀ u ∈ news1, u.oneCell' = true) ∧
appK h4 out_1 out_1l out_1c 1 1 3 8 news1 fun (a1 : Option Addr) (cap1 : Nat) (h5 : Heap) =>
fits .i64 (x2 + (1 : Int)) ∧
I1 a1 (out_1l + 1) cap1 (x2 + (1 : Int)) h5 ∧ m1 a1 (out_1l + 1) cap1 (x2 + (1 : Int)) h5 < m1 out_1 out_1l out_1c x2 h2) (
Runs Try.prog 58 #[(.slice out_1 out_1l out_1c), (.func (.func 59) #[] #[(.pointer (some ⟨b1, 0, none⟩))])] h2 fun r2 h6 =>
Post (.slice out_1 out_1l out_1c) h6)) :
    Runs Try.prog 40 #[(.int .i64 start), (.slice l lL lC)] h0 Post :=
  runs_of (args := [(.int .i64 start), (.slice l lL lC)]) (fun n => ⟨true, false⟩) (fun n => match n with | 0 => [(5, .slice), (10, .int .i64)] | _ => []) (fun _ => none) (fun _ => []) Try.func40 rfl (by rw [Try.ntmps40]; simp) (Eq.mp (by kernel_rfl) H)

theorem vc_muezzinlaw1_first  (h0 : Heap) (Post : Value → Heap → Prop) (H :
Runs Try.prog 42 #[(.int .i64 (4095 : Int)), (.int .i64 (1 : Int))] h0 fun r1 h1 =>
∃ n1 : Int,
r1 = (.int .i64 n1) ∧
bcase (decide (n1 = (0 : Int))) (
Runs Try.prog 42 #[(.int .i64 (4000 : Int)), (.int .i64 (95 : Int))] h1 fun r2 h2 =>
∃ n2 : Int,
r2 = (.int .i64 n2) ∧
Post (.bool (decide (n2 = (4095 : Int)))) h2) (
Post (.bool false) h1)) :
    Runs Try.prog 39 #[] h0 Post :=
  runs_of (args := []) (fun n => ⟨true, false⟩) (fun _ => []) (fun _ => none) (fun _ => []) Try.func39 rfl (by rw [Try.ntmps39]; simp) (Eq.mp (by kernel_rfl) H)

theorem vc_muezzinref_SameInts (a : Option Addr) (aL aC : Nat) (b : Option Addr) (bL bC : Nat) (h0 : Heap) (Post : Value → Heap → Prop) (H :
bcase (!decide (((aL : Nat) : Int) = ((bL : Nat) : Int))) (
Post (.bool false) h0) (
∃ (I1 : Int → Heap → Prop) (m1 : Int → Heap → Nat), I1 (0 : Int) h0 ∧ ∀ _ : Env,
∀ (i_1 : Int) (h1 : Heap), I1 i_1 h1 →
bcase (decide (i_1 < ((aL : Nat) : Int))) (
(0 ≤ i_1 ∧ i_1 < ((aL : Nat) : Int)) ∧
onAddr a fun b1 o1 =>
∃ n1 : Int, cell h1 b1 (o1 + (i_1).toNat) = some (.int .i64 n1) ∧
(0 ≤ i_1 ∧ i_1 < ((bL : Nat) : Int)) ∧
onAddr b fun b2 o2 =>
∃ n2 : Int, cell h1 b2 (o2 + (i_1).toNat) = some (.int .i64 n2) ∧
bcase (!(decide (n1 = n2))) (
Post (.bool false) h1) (
fits .i64 (i_1 + (1 : Int)) ∧
I1 (i_1 + (1 : Int)) h1 ∧ m1 (i_1 + (1 : Int)) h1 < m1 i_1 h1)) (
Post (.bool true) h1))) :
    Runs Try.prog 43 #[(.slice a aL aC), (.slice b bL bC)] h0 Post :=
  runs_of (args := [(.slice a aL aC), (.slice b bL bC)]) (fun n => ⟨true, false⟩) (fun n => match n with | 0 => [(5, .int .i64)] | _ => []) (fun _ => none) (fun _ => []) Try.func43 rfl (by rw [Try.ntmps43]; simp) (Eq.mp (by kernel_rfl) H)

theorem vc_muezzinlaw1_SeqSorts (start : Int) (l : Option Addr) (lL lC : Nat) (h0 : Heap) (Post : Value → Heap → Prop) (H :
Runs Try.prog 39 #[] h0 fun r1 h1 =>
∃ t1 : Bool,
r1 = (.bool t1) ∧
bcase (!t1) (
Post (.bool false) h1) (
bcase (decide ((40 : Int) < ((lL : Nat) : Int))) (
Post (.bool t1) h1) (
Runs Try.prog 40 #[(.int .i64 start), (.slice l lL lC)] h1 fun r2 h2 =>
∃ (s1 : Option Addr) (s1l s1c : Nat),
r2 = (.slice s1 s1l s1c) ∧
bcase (!decide (((s1l : Nat) : Int) = ((lL : Nat) : Int))) (
Post (.bool false) h2) (
∃ (I1 : Int → Int → Heap → Prop) (m1 : Int → Int → Heap → Nat), I1 (0 : Int) (0 : Int) h2 ∧ ∀ _ : Env,
∀ (sum_1 : Int) (i_1 : Int) (h3 : Heap), I1 sum_1 i_1 h3 →
bcase (decide (i_1 < ((s1l : Nat) : Int))) (
∃ J1 : Heap → Prop, (
bcase (decide ((0 : Int) < i_1)) (
fits .i64 (i_1 - (1 : Int)) ∧
(0 ≤ (i_1 - (1 : Int)) ∧ (i_1 - (1 : Int)) < ((s1l : Nat) : Int)) ∧
onAddr s1 fun b1 o1 =>
∃ n1 : Int, cell h3 b1 (o1 + ((i_1 - (1 : Int))).toNat) = some (.int .i64 n1) ∧
(0 ≤ i_1 ∧ i_1 < ((s1l : Nat) : Int)) ∧
onAddr s1 fun b2 o2 =>
∃ n2 : Int, cell h3 b2 (o2 + (i_1).toNat) = some (.int .i64 n2) ∧
Runs Try.prog 41 #[(.int .i64 start), (.int .i64 n1)] h3 fun r3 h4 =>
∃ n3 : Int,
r3 = (.int .i64 n3) ∧
cell h4 b2 (o2 + (i_1).toNat) = some (.int .i64 n2) ∧
Runs Try.prog 41 #[(.int .i64 start), (.int .i64 n2)] h4 fun r4 h5 =>
∃ n4 : Int,
r4 = (.int .i64 n4) ∧
bcase (decide (n4 < n3)) (
Post (.bool false) h5) (
(0 ≤ i_1 ∧ i_1 < ((s1l : Nat) : Int)) ∧
onAddr s1 fun b3 o3 =>
∃ n5 : Int, cell h5 b3 (o3 + (i_1).toNat) = some (.int .i64 n5) ∧
bcase (decide (n5 < (0 : Int))) (
Post (.bool false) h5) (
(0 ≤ i_1 ∧ i_1 < ((s1l : Nat) : Int)) ∧
onAddr s1 fun b4 o4 =>
∃ n6 : Int, cell h5 b4 (o4 + (i_1).toNat) = some (.int .i64 n6) ∧
bcase (decide ((4095 : Int) < n6)) (
Post (.bool false) h5) (
J1 h5)))) (
(0 ≤ i_1 ∧ i_1 < ((s1l : Nat) : Int)) ∧
onAddr s1 fun b5 o5 =>
∃ n7 : Int, cell h3 b5 (o5 + (i_1).toNat) = some (.int .i64 n7) ∧
bcase (decide (n7 < (0 : Int))) (
Post (.bool false) h3) (
(0 ≤ i_1 ∧ i_1 < ((s1l : Nat) : Int)) ∧
onAddr s1 fun b6 o6 =>
∃ n8 : Int, cell h3 b6 (o6 + (i_1).toNat) = some (.int .i64 n8) ∧
bcase (decide ((4095 : Int) < n8)) (
Post (.bool false) h3) (
J1 h3)))) ∧ ∀ _ : Env,
∀ (h6 : Heap), J1 h6 →
(0 ≤ i_1 ∧ i_1 < ((s1l : Nat) : Int)) ∧
onAddr s1 fun b7 o7 =>
∃ n9 : Int, cell h6 b7 (o7 + (i_1).toNat) = some (.int .i64 n9) ∧
(0 ≤ i_1 ∧ i_1 < ((lL : Nat) : Int)) ∧
onAddr l fun b8 o8 =>
∃ n10 : Int, cell h6 b8 (o8 + (i_1).toNat) = some (.int .i64 n10) ∧
Runs Try.prog 42 #[(.int .i64 n10), (.int .i64 (0 : Int))] h6 fun r5 h7 =>
∃ n11 : Int,
r5 = (.int .i64 n11) ∧
cell h7 b7 (o7 + (i_1).toNat) = some (.int .i64 n9) ∧
fits .i64 (n9 - n11) ∧
Runs Try.prog 42 #[(.int .i64 sum_1), (.int .i64 (n9 - n11))] h7 fun r6 h8 =>
∃ n12 : Int,
r6 = (.int .i64 n12) ∧
cell h8 b7 (o7 + (i_1).toNat) = some (.int .i64 n9) ∧
∃ (I2 : Int → Int → Heap → Prop) (m2 : Int → Int → Heap → Nat), I2 (0 : Int) (0 : Int) h8 ∧ ∀ _ : Env,
∀ (n_1 : Int) (k_1 : Int) (h9 : Heap), I2 n_1 k_1 h9 →
bcase (decide (k_1 < ((lL : Nat) : Int))) (
∃ J2 : Int → Heap → Prop, (
∃ J3 : Int → Heap → Prop, (
(0 ≤ k_1 ∧ k_1 < ((lL : Nat) : Int)) ∧
onAddr l fun b9 o9 =>
∃ n13 : Int, cell h9 b9 (o9 + (k_1).toNat) = some (.int .i64 n13) ∧
(0 ≤ i_1 ∧ i_1 < ((s1l : Nat) : Int)) ∧
onAddr s1 fun b10 o10 =>
∃ n14 : Int, cell h9 b10 (o10 + (i_1).toNat) = some (.int .i64 n14) ∧
Runs Try.prog 42 #[(.int .i64 n13), (.int .i64 (0 : Int))] h9 fun r7 h10 =>
∃ n15 : Int,
r7 = (.int .i64 n15) ∧
cell h10 b10 (o10 + (i_1).toNat) = some (.int .i64 n14) ∧
bcase (decide (n15 = n14)) (
fits .i64 (n_1 + (1 : Int)) ∧
J3 (n_1 + (1 : Int)) h10) (
J3 n_1 h10)) ∧ ∀ _ : Env,
∀ (n_2 : Int) (h11 : Heap), J3 n_2 h11 →
(0 ≤ k_1 ∧ k_1 < ((s1l : Nat) : Int)) ∧
onAddr s1 fun b11 o11 =>
∃ n16 : Int, cell h11 b11 (o11 + (k_1).toNat) = some (.int .i64 n16) ∧
(0 ≤ i_1 ∧ i_1 < ((s1l : Nat) : Int)) ∧
onAddr s1 fun b12 o12 =>
∃ n17 : Int, cell h11 b12 (o12 + (i_1).toNat) = some (.int .i64 n17) ∧
bcase (decide (n16 = n17)) (
fits .i64 (n_2 - (1 : Int)) ∧
J2 (n_2 - (1 : Int)) h11) (
J2 n_2 h11)) ∧ ∀ _ : Env,
∀ (n_3 : Int) (h12 : Heap), J2 n_3 h12 →
fits .i64 (k_1 + (1 : Int)) ∧
I2 n_3 (k_1 + (1 : Int)) h12 ∧ m2 n_3 (k_1 + (1 : Int)) h12 < m2 n_1 k_1 h9) (
bcase (!decide (n_1 = (0 : Int))) (
Post (.bool false) h9) (
fits .i64 (i_1 + (1 : Int)) ∧
I1 n12 (i_1 + (1 : Int)) h9 ∧ m1 n12 (i_1 + (1 : Int)) h9 < m1 sum_1 i_1 h3))) (
∃ J4 : Bool → Heap → Prop, (
bcase t1 (
J4 (decide (sum_1 = (0 : Int))) h3) (
J4 false h3)) ∧ ∀ _ : Env,
∀ (x7 : Bool) (h13 : Heap), J4 x7 h13 →
bcase x7 (
Runs Try.prog 40 #[(.int .i64 start), (.slice s1 s1l s1c)] h13 fun r8 h14 =>
∃ (s2 : Option Addr) (s2l s2c : Nat),
r8 = (.slice s2 s2l s2c) ∧
Runs Try.prog 43 #[(.slice s2 s2l s2c), (.slice s1 s1l s1c)] h14 fun r9 h15 =>
∃ t2 : Bool,
r9 = (.bool t2) ∧
Post (.bool t2) h15) (
Post (.bool false) h13)))))) :
    Runs Try.prog 8 #[(.int .i64 start), (.slice l lL lC)] h0 Post :=
  runs_of (args := [(.int .i64 start), (.slice l lL lC)]) (fun n => ⟨true, false⟩) (fun n => match n with | 0 => [(7, .int .i64), (8, .int .i64)] | 2 => [(9, .int .i64), (10, .int .i64)] | _ => []) (fun n => match n with | 15 => some [] | 19 => some [(9, .int .i64)] | 22 => some [(9, .int .i64)] | _ => none) (fun n => match n with | 26 => [(5, [(111, .bool)])] | _ => []) Try.func8 rfl (by rw [Try.ntmps8]; simp) (Eq.mp (by kernel_rfl) H)
end Go.Proofs.Yteojoiglffkbmaa
