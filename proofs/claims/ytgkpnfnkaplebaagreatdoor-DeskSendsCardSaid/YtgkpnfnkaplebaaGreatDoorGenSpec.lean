/- The conditions for calls of functions of the program, in plain form: written by a program (vcgen) off the elaborated code; each is the reckoner's own, by the kernel. -/
import Derived.Test.YtgkpnfnkaplebaaGreatDoorRows
import Derived.Test.YtgkpnfnkaplebaaGreatDoorVc
set_option linter.unusedVariables false
set_option maxRecDepth 100000
namespace Go.Proofs.YtgkpnfnkaplebaaGreatDoor
open Go.Vc
theorem vc_pool_Pool_Len_1 (q : Option Addr) (c0 : Option Addr) (h0 : Heap) (Post : Value → Heap → Prop) (H :
onAddr c0 fun b1 o1 =>
∃ n1 : Int, cell h0 b1 o1 = some (.int .i64 n1) ∧
Runs Tryz.prog 195 #[(.pointer q)] h0 fun r1 h1 =>
∃ n2 : Int,
r1 = (.int .i64 n2) ∧
cell h1 b1 o1 = some (.int .i64 n1) ∧
fits .i64 (n1 + n2) ∧
onAddr c0 fun b2 o2 =>
wr h1 b2 o2 ∧ ∀ h2 : Heap, h2 = setc h1 b2 o2 (.int .i64 (n1 + n2)) →
Post (.tuple #[]) h2) :
    Runs Tryz.prog 318 #[(.pointer q), (.pointer c0)] h0 Post :=
  runs_of (args := [(.pointer q), (.pointer c0)]) (fun n => ⟨true, false⟩) (fun _ => []) (fun _ => none) (fun _ => []) Tryz.func318 rfl (by rw [Tryz.ntmps318]; simp) (Eq.mp (by kernel_rfl) H)

theorem vc_pool_Pool_Bytes_1 (q : Option Addr) (c0 : Option Addr) (h0 : Heap) (Post : Value → Heap → Prop) (H :
onAddr c0 fun b1 o1 =>
∃ n1 : Int, cell h0 b1 o1 = some (.int .i64 n1) ∧
Runs Tryz.prog 320 #[(.pointer q)] h0 fun r1 h1 =>
∃ n2 : Int,
r1 = (.int .i64 n2) ∧
cell h1 b1 o1 = some (.int .i64 n1) ∧
fits .i64 (n1 + n2) ∧
onAddr c0 fun b2 o2 =>
wr h1 b2 o2 ∧ ∀ h2 : Heap, h2 = setc h1 b2 o2 (.int .i64 (n1 + n2)) →
Post (.tuple #[]) h2) :
    Runs Tryz.prog 319 #[(.pointer q), (.pointer c0)] h0 Post :=
  runs_of (args := [(.pointer q), (.pointer c0)]) (fun n => ⟨true, false⟩) (fun _ => []) (fun _ => none) (fun _ => []) Tryz.func319 rfl (by rw [Tryz.ntmps319]; simp) (Eq.mp (by kernel_rfl) H)

theorem vc_pool_Pool_each (p : Option Addr) (f : Value) (h0 : Heap) (Post : Value → Heap → Prop) (H :
∃ (I1 : Int → Heap → Prop) (m1 : Int → Heap → Nat), I1 (0 : Int) h0 ∧ ∀ _ : Env,
∀ (x1 : Int) (h1 : Heap), I1 x1 h1 →
bcase (decide (x1 < (16 : Int))) (
∃ (I2 : Int → Heap → Prop) (m2 : Int → Heap → Nat), I2 (0 : Int) h1 ∧ ∀ _ : Env,
∀ (x2 : Int) (h2 : Heap), I2 x2 h2 →
bcase (decide (x2 < (8 : Int))) (
onAddr p fun b1 o1 =>
(0 ≤ x1 ∧ x1 < ((16 : Nat) : Int)) ∧
(0 ≤ x2 ∧ x2 < ((8 : Nat) : Int)) ∧
∃ p1 : Option Addr, cell h2 b1 (((o1 + 5) + ((x1).toNat * 8)) + (x2).toNat) = some (.pointer p1) ∧
callv Tryz.prog f [(.pointer p1)] h2 fun r1 h3 =>
fits .i64 (x2 + (1 : Int)) ∧
I2 (x2 + (1 : Int)) h3 ∧ m2 (x2 + (1 : Int)) h3 < m2 x2 h2) (
fits .i64 (x1 + (1 : Int)) ∧
I1 (x1 + (1 : Int)) h2 ∧ m1 (x1 + (1 : Int)) h2 < m1 x1 h1)) (
Post (.tuple #[]) h1)) :
    Runs Tryz.prog 317 #[(.pointer p), f] h0 Post :=
  runs_of (args := [(.pointer p), f]) (fun n => ⟨true, false⟩) (fun n => match n with | 0 => [(6, .int .i64)] | 2 => [(9, .int .i64)] | _ => []) (fun _ => none) (fun _ => []) Tryz.func317 rfl (by rw [Tryz.ntmps317]; simp) (Eq.mp (by kernel_rfl) H)

theorem vc_pool_Pool_Len (p : Option Addr) (h0 : Heap) (Post : Value → Heap → Prop) (H :
∀ (b1 : Nat) (h1 : Heap), b1 = h0.size → h1 = h0.push (.cells ([(.int .i64 (0 : Int))] : List Value).toArray 3) →
wr h1 b1 0 ∧ ∀ h2 : Heap, h2 = setc h1 b1 0 (.int .i64 (0 : Int)) →
Runs Tryz.prog 317 #[(.pointer p), (.func (.func 318) #[] #[(.pointer (some ⟨b1, 0, none⟩))])] h2 fun r1 h3 =>
∃ n1 : Int, cell h3 b1 0 = some (.int .i64 n1) ∧
Post (.int .i64 n1) h3) :
    Runs Tryz.prog 265 #[(.pointer p)] h0 Post :=
  runs_of (args := [(.pointer p)]) (fun n => ⟨true, false⟩) (fun _ => []) (fun _ => none) (fun _ => []) Tryz.func265 rfl (by rw [Tryz.ntmps265]; simp) (Eq.mp (by kernel_rfl) H)

theorem vc_pool_Pool_Bytes (p : Option Addr) (h0 : Heap) (Post : Value → Heap → Prop) (H :
∀ (b1 : Nat) (h1 : Heap), b1 = h0.size → h1 = h0.push (.cells ([(.int .i64 (0 : Int))] : List Value).toArray 3) →
wr h1 b1 0 ∧ ∀ h2 : Heap, h2 = setc h1 b1 0 (.int .i64 (0 : Int)) →
Runs Tryz.prog 317 #[(.pointer p), (.func (.func 319) #[] #[(.pointer (some ⟨b1, 0, none⟩))])] h2 fun r1 h3 =>
∃ n1 : Int, cell h3 b1 0 = some (.int .i64 n1) ∧
Post (.int .i64 n1) h3) :
    Runs Tryz.prog 266 #[(.pointer p)] h0 Post :=
  runs_of (args := [(.pointer p)]) (fun n => ⟨true, false⟩) (fun _ => []) (fun _ => none) (fun _ => []) Tryz.func266 rfl (by rw [Tryz.ntmps266]; simp) (Eq.mp (by kernel_rfl) H)

theorem vc_fq_Queue_Len (q : Option Addr) (h0 : Heap) (Post : Value → Heap → Prop) (H :
onAddr q fun b1 o1 =>
∃ n1 : Int, cell h0 b1 (o1 + 133) = some (.int .i64 n1) ∧
Post (.int .i64 n1) h0) :
    Runs Tryz.prog 195 #[(.pointer q)] h0 Post :=
  runs_of (args := [(.pointer q)]) (fun n => ⟨true, false⟩) (fun _ => []) (fun _ => none) (fun _ => []) Tryz.func195 rfl (by rw [Tryz.ntmps195]; simp) (Eq.mp (by kernel_rfl) H)

theorem vc_fq_Queue_Bytes (q : Option Addr) (h0 : Heap) (Post : Value → Heap → Prop) (H :
onAddr q fun b1 o1 =>
∃ n1 : Int, cell h0 b1 (o1 + 134) = some (.int .i64 n1) ∧
Post (.int .i64 n1) h0) :
    Runs Tryz.prog 320 #[(.pointer q)] h0 Post :=
  runs_of (args := [(.pointer q)]) (fun n => ⟨true, false⟩) (fun _ => []) (fun _ => none) (fun _ => []) Tryz.func320 rfl (by rw [Tryz.ntmps320]; simp) (Eq.mp (by kernel_rfl) H)

theorem vc_fq_Queue_Fattest (q : Option Addr) (h0 : Heap) (Post : Value → Heap → Prop) (H :
∃ (I1 : Int → Int → Int → Heap → Prop) (m1 : Int → Int → Int → Heap → Nat), I1 (0 : Int) (-1 : Int) (0 : Int) h0 ∧ ∀ _ : Env,
∀ (best_1 : Int) (most_1 : Int) (x3 : Int) (h1 : Heap), I1 best_1 most_1 x3 h1 →
bcase (decide (x3 < (16 : Int))) (
onAddr q fun b1 o1 =>
(0 ≤ x3 ∧ x3 < ((16 : Nat) : Int)) ∧
∃ (s1 : Option Addr) (s1l s1c : Nat), cell h1 b1 ((o1 + 3) + ((x3).toNat * 8)) = some (.slice s1 s1l s1c) ∧
bcase (decide ((0 : Int) < ((s1l : Nat) : Int))) (
∃ n1 : Int, cell h1 b1 (((o1 + 3) + ((x3).toNat * 8)) + 1) = some (.int .i64 n1) ∧
bcase (decide (most_1 < n1)) (
∃ n2 : Int, cell h1 b1 (((o1 + 3) + ((x3).toNat * 8)) + 1) = some (.int .i64 n2) ∧
fits .i64 (x3 + (1 : Int)) ∧
I1 x3 n2 (x3 + (1 : Int)) h1 ∧ m1 x3 n2 (x3 + (1 : Int)) h1 < m1 best_1 most_1 x3 h1) (
fits .i64 (x3 + (1 : Int)) ∧
I1 best_1 most_1 (x3 + (1 : Int)) h1 ∧ m1 best_1 most_1 (x3 + (1 : Int)) h1 < m1 best_1 most_1 x3 h1)) (
fits .i64 (x3 + (1 : Int)) ∧
I1 best_1 most_1 (x3 + (1 : Int)) h1 ∧ m1 best_1 most_1 (x3 + (1 : Int)) h1 < m1 best_1 most_1 x3 h1)) (
Post (.tuple #[(.int .i64 best_1), (.int .i64 (max most_1 (0 : Int)))]) h1)) :
    Runs Tryz.prog 322 #[(.pointer q)] h0 Post :=
  runs_of (args := [(.pointer q)]) (fun n => ⟨true, false⟩) (fun n => match n with | 0 => [(4, .int .i64), (5, .int .i64), (8, .int .i64)] | _ => []) (fun _ => none) (fun _ => []) Tryz.func322 rfl (by rw [Tryz.ntmps322]; simp) (Eq.mp (by kernel_rfl) H)

theorem vc_rate_Valid (r : List Value) (h0 : Heap) (Post : Value → Heap → Prop) (H :
∀ (b1 : Nat) (h1 : Heap), b1 = h0.size → h1 = h0.push (.cells (r).toArray 179) →
∃ n1 : Int, cell h1 b1 0 = some (.int .i64 n1) ∧
Runs Tryz.prog 196 #[(.int .i64 n1)] h1 fun r1 h2 =>
∃ n2 : Int,
∃ n3 : Int,
∃ n4 : Int,
r1 = (.tuple #[(.int .i64 n2), (.int .i64 n3), (.int .i64 n4)]) ∧
∃ n5 : Int, cell h2 b1 1 = some (.int .i64 n5) ∧
bcase (decide ((0 : Int) ≤ n5)) (
∃ n6 : Int, cell h2 b1 1 = some (.int .i64 n6) ∧
bcase (decide (n6 ≤ n2)) (
∃ n7 : Int, cell h2 b1 2 = some (.int .i64 n7) ∧
bcase (decide ((1 : Int) ≤ n7)) (
∃ n8 : Int, cell h2 b1 2 = some (.int .i64 n8) ∧
bcase (decide (n8 ≤ n3)) (
∃ n9 : Int, cell h2 b1 4 = some (.int .i64 n9) ∧
bcase (decide ((0 : Int) ≤ n9)) (
∃ n10 : Int, cell h2 b1 4 = some (.int .i64 n10) ∧
bcase (decide (n10 ≤ n4)) (
∃ n11 : Int, cell h2 b1 0 = some (.int .i64 n11) ∧
∃ n12 : Int, cell h2 b1 3 = some (.int .i64 n12) ∧
Runs Tryz.prog 198 #[(.int .i64 n11)] h2 fun r2 h3 =>
∃ (s1 : Option Addr) (s1l s1c : Nat),
r2 = (.slice s1 s1l s1c) ∧
cell h3 b1 3 = some (.int .i64 n12) ∧
cell h3 b1 4 = some (.int .i64 n9) ∧
cell h3 b1 2 = some (.int .i64 n8) ∧
cell h3 b1 2 = some (.int .i64 n7) ∧
cell h3 b1 1 = some (.int .i64 n6) ∧
cell h3 b1 1 = some (.int .i64 n5) ∧
Runs Tryz.prog 197 #[(.slice s1 s1l s1c), (.int .i64 n12)] h3 fun r3 h4 =>
∃ t1 : Bool,
r3 = (.bool t1) ∧
cell h4 b1 4 = some (.int .i64 n9) ∧
cell h4 b1 2 = some (.int .i64 n8) ∧
cell h4 b1 2 = some (.int .i64 n7) ∧
cell h4 b1 1 = some (.int .i64 n6) ∧
cell h4 b1 1 = some (.int .i64 n5) ∧
Post (.bool t1) h4) (
Post (.bool false) h2)) (
Post (.bool false) h2)) (
Post (.bool false) h2)) (
Post (.bool false) h2)) (
Post (.bool false) h2)) (
Post (.bool false) h2)) :
    Runs Tryz.prog 127 #[(.agg (r).toArray)] h0 Post :=
  runs_of (args := [(.agg (r).toArray)]) (fun n => ⟨true, false⟩) (fun _ => []) (fun _ => none) (fun _ => []) Tryz.func127 rfl (by rw [Tryz.ntmps127]; simp) (Eq.mp (by kernel_rfl) H)

theorem vc_sta_Table_All (t : Option Addr) (h0 : Heap) (Post : Value → Heap → Prop) (H :
onAddr t fun b1 o1 =>
∃ cs1 : List Value, row h0 b1 o1 128 = some cs1 ∧
∃ (I1 : Option Addr → Nat → Nat → Int → Heap → Prop) (m1 : Option Addr → Nat → Nat → Int → Heap → Nat), I1 none 0 0 (0 : Int) h0 ∧ ∀ _ : Env,
∀ (out_1 : Option Addr) (out_1l out_1c : Nat) (x2 : Int) (h1 : Heap), I1 out_1 out_1l out_1c x2 h1 →
bcase (decide (x2 < (16 : Int))) (
(0 ≤ x2 ∧ x2 < ((16 : Nat) : Int)) ∧
∀ (b2 : Nat) (h2 : Heap), b2 = h1.size → h2 = h1.push (.cells ([(.bool false), (.int .u8 (0 : Int)), (.int .u8 (0 : Int)), (.int .u8 (0 : Int)), (.int .u8 (0 : Int)), (.int .u8 (0 : Int)), (.int .u8 (0 : Int)), (.int .i64 (0 : Int))] : List Value).toArray 123) →
(((((cs1.drop ((x2).toNat * 8)).take 8))).length = 8 ∧ wrs h2 b2 0 8 ∧ ∀ u ∈ ((((cs1.drop ((x2).toNat * 8)).take 8)) : List Value), u.oneCell' = true) ∧ ∀ h3 : Heap, h3 = setr h2 b2 0 (((cs1.drop ((x2).toNat * 8)).take 8)) →
∃ t1 : Bool, cell h3 b2 0 = some (.bool t1) ∧
bcase t1 (
fits .i64 (x2 + (1 : Int)) ∧
∀ (b3 : Nat) (h4 : Heap), b3 = h3.size → h4 = h3.push (.cells ([(.int .i64 (x2 + (1 : Int)))] : List Value).toArray 3) →
∃ news1 : List Value, (row h4 b3 0 1 = some news1 ∧ ∀ u ∈ news1, u.oneCell' = true) ∧
appK h4 out_1 out_1l out_1c 1 1 3 8 news1 fun (a1 : Option Addr) (cap1 : Nat) (h5 : Heap) =>
fits .i64 (x2 + (1 : Int)) ∧
I1 a1 (out_1l + 1) cap1 (x2 + (1 : Int)) h5 ∧ m1 a1 (out_1l + 1) cap1 (x2 + (1 : Int)) h5 < m1 out_1 out_1l out_1c x2 h1) (
fits .i64 (x2 + (1 : Int)) ∧
I1 out_1 out_1l out_1c (x2 + (1 : Int)) h3 ∧ m1 out_1 out_1l out_1c (x2 + (1 : Int)) h3 < m1 out_1 out_1l out_1c x2 h1)) (
Post (.slice out_1 out_1l out_1c) h1)) :
    Runs Tryz.prog 71 #[(.pointer t)] h0 Post :=
  runs_of (args := [(.pointer t)]) (fun n => ⟨true, false⟩) (fun n => match n with | 0 => [(3, .slice), (10, .int .i64)] | _ => []) (fun _ => none) (fun _ => []) Tryz.func71 rfl (by rw [Tryz.ntmps71]; simp) (Eq.mp (by kernel_rfl) H)
end Go.Proofs.YtgkpnfnkaplebaaGreatDoor
