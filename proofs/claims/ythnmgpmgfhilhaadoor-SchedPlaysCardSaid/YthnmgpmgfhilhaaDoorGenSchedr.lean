/- The conditions for calls of functions of the program, in plain form: written by a program (vcgen) off the elaborated code; each is the reckoner's own, by the kernel. -/
import Derived.Test.YthnmgpmgfhilhaaDoorRows
import Derived.Test.YthnmgpmgfhilhaaDoorVc
set_option linter.unusedVariables false
set_option maxRecDepth 100000
namespace Go.Proofs.YthnmgpmgfhilhaaDoor
open Go.Vc
theorem vc_muezzinref15_Sched_Find (s : Nat) (a : Int) (h0 : Heap) (Post : Value → Heap → Prop) (H :
∃ (I1 : Int → Heap → Prop) (m1 : Int → Heap → Nat), I1 (0 : Int) h0 ∧ ∀ _ : Env,
∀ (i_1 : Int) (h1 : Heap), I1 i_1 h1 →
∃ (s1 : Option Addr) (s1l s1c : Nat), cell h1 s 0 = some (.slice s1 s1l s1c) ∧
bcase (decide (i_1 < ((s1l : Nat) : Int))) (
∃ (s2 : Option Addr) (s2l s2c : Nat), cell h1 s 0 = some (.slice s2 s2l s2c) ∧
(0 ≤ i_1 ∧ i_1 < ((s2l : Nat) : Int)) ∧
onAddr s2 fun b1 o1 =>
∃ n1 : Int, cell h1 b1 (o1 + ((i_1).toNat * 4)) = some (.int .i64 n1) ∧
bcase (decide (n1 = a)) (
Post (.int .i64 i_1) h1) (
fits .i64 (i_1 + (1 : Int)) ∧
I1 (i_1 + (1 : Int)) h1 ∧ m1 (i_1 + (1 : Int)) h1 < m1 i_1 h1)) (
Post (.int .i64 (-1 : Int)) h1)) :
    Runs Tryd.prog 28 #[(.pointer (some ⟨s, 0, none⟩)), (.int .i64 a)] h0 Post :=
  runs_of (args := [(.pointer (some ⟨s, 0, none⟩)), (.int .i64 a)]) (fun n => ⟨true, false⟩) (fun n => match n with | 0 => [(5, .int .i64)] | _ => []) (fun _ => none) (fun _ => []) Tryd.func28 rfl (by rw [Tryd.ntmps28]; simp) (Eq.mp (by kernel_rfl) H)

theorem vc_muezzinref15_Sched_Add (s : Nat) (a : Int) (w : Int) (h0 : Heap) (Post : Value → Heap → Prop) (H :
Runs Tryd.prog 38 #[(.int .i64 a)] h0 fun r1 h1 =>
∃ t1 : Bool,
r1 = (.bool t1) ∧
bcase (!t1) (
Post (.int .i64 (103 : Int)) h1) (
Runs Tryd.prog 39 #[(.int .i64 w)] h1 fun r2 h2 =>
∃ t2 : Bool,
r2 = (.bool t2) ∧
bcase (!t2) (
Post (.int .i64 (103 : Int)) h2) (
Runs Tryd.prog 28 #[(.pointer (some ⟨s, 0, none⟩)), (.int .i64 a)] h2 fun r3 h3 =>
∃ n1 : Int,
r3 = (.int .i64 n1) ∧
bcase (decide ((0 : Int) ≤ n1)) (
Post (.int .i64 (108 : Int)) h3) (
∃ (s1 : Option Addr) (s1l s1c : Nat), cell h3 s 0 = some (.slice s1 s1l s1c) ∧
([(.int .i64 a), (.int .i64 w), (.int .i64 (0 : Int)), (.bool false)] : List Value).length = 4 ∧
∀ (b1 : Nat) (h4 : Heap), b1 = h3.size → h4 = h3.push (.cells ([(.int .i64 a), (.int .i64 w), (.int .i64 (0 : Int)), (.bool false)] : List Value).toArray 54) →
∃ news1 : List Value, (row h4 b1 0 4 = some news1 ∧ ∀ u ∈ news1, u.oneCell' = true) ∧
appK h4 s1 s1l s1c 1 4 54 32 news1 fun (a1 : Option Addr) (cap1 : Nat) (h5 : Heap) =>
wr h5 s 0 ∧ ∀ h6 : Heap, h6 = setc h5 s 0 (.slice a1 (s1l + 1) cap1) →
Post (.int .i64 (0 : Int)) h6)))) :
    Runs Tryd.prog 22 #[(.pointer (some ⟨s, 0, none⟩)), (.int .i64 a), (.int .i64 w)] h0 Post :=
  runs_of (args := [(.pointer (some ⟨s, 0, none⟩)), (.int .i64 a), (.int .i64 w)]) (fun n => ⟨true, false⟩) (fun _ => []) (fun _ => none) (fun _ => []) Tryd.func22 rfl (by rw [Tryd.ntmps22]; simp) (Eq.mp (by kernel_rfl) H)

theorem vc_muezzinref15_Sched_Del (s : Nat) (a : Int) (h0 : Heap) (Post : Value → Heap → Prop) (H :
Runs Tryd.prog 28 #[(.pointer (some ⟨s, 0, none⟩)), (.int .i64 a)] h0 fun r1 h1 =>
∃ n1 : Int,
r1 = (.int .i64 n1) ∧
bcase (decide (n1 < (0 : Int))) (
Post (.int .i64 (107 : Int)) h1) (
∀ (b1 : Nat) (h2 : Heap), b1 = h1.size → h2 = h1.push (.cells ([] : List Value).toArray 54) →
∃ (s1 : Option Addr) (s1l s1c : Nat), cell h2 s 0 = some (.slice s1 s1l s1c) ∧
(0 ≤ (0 : Int) ∧ (0 : Int) ≤ n1 ∧ n1 ≤ ((s1c : Nat) : Int)) ∧
∃ news1 : List Value, (src h2 (slcAddr s1 0 s1c 0) ((n1).toNat * 4) news1 ∧ ∀ u ∈ news1, u.oneCell' = true) ∧
appK h2 (some ⟨b1, 0, none⟩) 0 0 (n1).toNat 4 54 32 news1 fun (a1 : Option Addr) (cap1 : Nat) (h3 : Heap) =>
∃ (s2 : Option Addr) (s2l s2c : Nat), cell h3 s 0 = some (.slice s2 s2l s2c) ∧
fits .i64 (n1 + (1 : Int)) ∧
(0 ≤ (n1 + (1 : Int)) ∧ (n1 + (1 : Int)) ≤ ((s2l : Nat) : Int)) ∧
∃ news2 : List Value, (src h3 (slcAddr s2 ((n1 + (1 : Int))).toNat s2c (((n1 + (1 : Int))).toNat * 4)) ((s2l - ((n1 + (1 : Int))).toNat) * 4) news2 ∧ ∀ u ∈ news2, u.oneCell' = true) ∧
appK h3 a1 (0 + (n1).toNat) cap1 (s2l - ((n1 + (1 : Int))).toNat) 4 54 32 news2 fun (a2 : Option Addr) (cap2 : Nat) (h4 : Heap) =>
wr h4 s 0 ∧ ∀ h5 : Heap, h5 = setc h4 s 0 (.slice a2 ((0 + (n1).toNat) + (s2l - ((n1 + (1 : Int))).toNat)) cap2) →
Post (.int .i64 (0 : Int)) h5)) :
    Runs Tryd.prog 23 #[(.pointer (some ⟨s, 0, none⟩)), (.int .i64 a)] h0 Post :=
  runs_of (args := [(.pointer (some ⟨s, 0, none⟩)), (.int .i64 a)]) (fun n => ⟨true, false⟩) (fun _ => []) (fun _ => none) (fun _ => []) Tryd.func23 rfl (by rw [Tryd.ntmps23]; simp) (Eq.mp (by kernel_rfl) H)

theorem vc_muezzinref15_Sched_Weigh (s : Nat) (a : Int) (w : Int) (h0 : Heap) (Post : Value → Heap → Prop) (H :
Runs Tryd.prog 28 #[(.pointer (some ⟨s, 0, none⟩)), (.int .i64 a)] h0 fun r1 h1 =>
∃ n1 : Int,
r1 = (.int .i64 n1) ∧
bcase (decide (n1 < (0 : Int))) (
Post (.int .i64 (107 : Int)) h1) (
Runs Tryd.prog 39 #[(.int .i64 w)] h1 fun r2 h2 =>
∃ t1 : Bool,
r2 = (.bool t1) ∧
bcase (!t1) (
Post (.int .i64 (103 : Int)) h2) (
∃ (s1 : Option Addr) (s1l s1c : Nat), cell h2 s 0 = some (.slice s1 s1l s1c) ∧
(0 ≤ n1 ∧ n1 < ((s1l : Nat) : Int)) ∧
onAddr s1 fun b1 o1 =>
wr h2 b1 ((o1 + ((n1).toNat * 4)) + 1) ∧ ∀ h3 : Heap, h3 = setc h2 b1 ((o1 + ((n1).toNat * 4)) + 1) (.int .i64 w) →
Post (.int .i64 (0 : Int)) h3))) :
    Runs Tryd.prog 24 #[(.pointer (some ⟨s, 0, none⟩)), (.int .i64 a), (.int .i64 w)] h0 Post :=
  runs_of (args := [(.pointer (some ⟨s, 0, none⟩)), (.int .i64 a), (.int .i64 w)]) (fun n => ⟨true, false⟩) (fun _ => []) (fun _ => none) (fun _ => []) Tryd.func24 rfl (by rw [Tryd.ntmps24]; simp) (Eq.mp (by kernel_rfl) H)

theorem vc_muezzinref15_Sched_Active (s : Nat) (a : Int) (on : Bool) (h0 : Heap) (Post : Value → Heap → Prop) (H :
Runs Tryd.prog 28 #[(.pointer (some ⟨s, 0, none⟩)), (.int .i64 a)] h0 fun r1 h1 =>
∃ n1 : Int,
r1 = (.int .i64 n1) ∧
bcase (decide (n1 < (0 : Int))) (
Post (.int .i64 (107 : Int)) h1) (
bcase on (
∃ (s1 : Option Addr) (s1l s1c : Nat), cell h1 s 0 = some (.slice s1 s1l s1c) ∧
(0 ≤ n1 ∧ n1 < ((s1l : Nat) : Int)) ∧
onAddr s1 fun b1 o1 =>
∃ t1 : Bool, cell h1 b1 ((o1 + ((n1).toNat * 4)) + 3) = some (.bool t1) ∧
bcase (!t1) (
Runs Tryd.prog 27 #[(.pointer (some ⟨s, 0, none⟩))] h1 fun r2 h2 =>
∃ (s2 : Option Addr) (s2l s2c : Nat),
r2 = (.slice s2 s2l s2c) ∧
bcase (decide ((0 : Int) < ((s2l : Nat) : Int))) (
∃ (s3 : Option Addr) (s3l s3c : Nat), cell h2 s 0 = some (.slice s3 s3l s3c) ∧
∃ (s4 : Option Addr) (s4l s4c : Nat), cell h2 s 0 = some (.slice s4 s4l s4c) ∧
(0 ≤ n1 ∧ n1 < ((s4l : Nat) : Int)) ∧
onAddr s4 fun b2 o2 =>
∃ n2 : Int, cell h2 b2 ((o2 + ((n1).toNat * 4)) + 2) = some (.int .i64 n2) ∧
∃ (s5 : Option Addr) (s5l s5c : Nat), cell h2 s 0 = some (.slice s5 s5l s5c) ∧
(0 ≤ (0 : Int) ∧ (0 : Int) < ((s2l : Nat) : Int)) ∧
onAddr s2 fun b3 o3 =>
∃ n3 : Int, cell h2 b3 o3 = some (.int .i64 n3) ∧
Runs Tryd.prog 28 #[(.pointer (some ⟨s, 0, none⟩)), (.int .i64 n3)] h2 fun r3 h3 =>
∃ n4 : Int,
r3 = (.int .i64 n4) ∧
cell h3 s 0 = some (.slice s5 s5l s5c) ∧
cell h3 b2 ((o2 + ((n1).toNat * 4)) + 2) = some (.int .i64 n2) ∧
cell h3 s 0 = some (.slice s4 s4l s4c) ∧
cell h3 s 0 = some (.slice s3 s3l s3c) ∧
(0 ≤ n4 ∧ n4 < ((s5l : Nat) : Int)) ∧
onAddr s5 fun b4 o4 =>
∃ n5 : Int, cell h3 b4 ((o4 + ((n4).toNat * 4)) + 2) = some (.int .i64 n5) ∧
(0 ≤ n1 ∧ n1 < ((s3l : Nat) : Int)) ∧
onAddr s3 fun b5 o5 =>
wr h3 b5 ((o5 + ((n1).toNat * 4)) + 2) ∧ ∀ h4 : Heap, h4 = setc h3 b5 ((o5 + ((n1).toNat * 4)) + 2) (.int .i64 (max n2 n5)) →
∃ (s6 : Option Addr) (s6l s6c : Nat), cell h4 s 0 = some (.slice s6 s6l s6c) ∧
(0 ≤ n1 ∧ n1 < ((s6l : Nat) : Int)) ∧
onAddr s6 fun b6 o6 =>
wr h4 b6 ((o6 + ((n1).toNat * 4)) + 3) ∧ ∀ h5 : Heap, h5 = setc h4 b6 ((o6 + ((n1).toNat * 4)) + 3) (.bool on) →
Post (.int .i64 (0 : Int)) h5) (
∃ (s7 : Option Addr) (s7l s7c : Nat), cell h2 s 0 = some (.slice s7 s7l s7c) ∧
(0 ≤ n1 ∧ n1 < ((s7l : Nat) : Int)) ∧
onAddr s7 fun b7 o7 =>
wr h2 b7 ((o7 + ((n1).toNat * 4)) + 3) ∧ ∀ h6 : Heap, h6 = setc h2 b7 ((o7 + ((n1).toNat * 4)) + 3) (.bool on) →
Post (.int .i64 (0 : Int)) h6)) (
∃ (s8 : Option Addr) (s8l s8c : Nat), cell h1 s 0 = some (.slice s8 s8l s8c) ∧
(0 ≤ n1 ∧ n1 < ((s8l : Nat) : Int)) ∧
onAddr s8 fun b8 o8 =>
wr h1 b8 ((o8 + ((n1).toNat * 4)) + 3) ∧ ∀ h7 : Heap, h7 = setc h1 b8 ((o8 + ((n1).toNat * 4)) + 3) (.bool on) →
Post (.int .i64 (0 : Int)) h7)) (
∃ (s9 : Option Addr) (s9l s9c : Nat), cell h1 s 0 = some (.slice s9 s9l s9c) ∧
(0 ≤ n1 ∧ n1 < ((s9l : Nat) : Int)) ∧
onAddr s9 fun b9 o9 =>
wr h1 b9 ((o9 + ((n1).toNat * 4)) + 3) ∧ ∀ h8 : Heap, h8 = setc h1 b9 ((o9 + ((n1).toNat * 4)) + 3) (.bool on) →
Post (.int .i64 (0 : Int)) h8))) :
    Runs Tryd.prog 25 #[(.pointer (some ⟨s, 0, none⟩)), (.int .i64 a), (.bool on)] h0 Post :=
  runs_of (args := [(.pointer (some ⟨s, 0, none⟩)), (.int .i64 a), (.bool on)]) (fun n => ⟨true, false⟩) (fun _ => []) (fun _ => none) (fun _ => []) Tryd.func25 rfl (by rw [Tryd.ntmps25]; simp) (Eq.mp (by kernel_rfl) H)

theorem vc_muezzinref15_Sched_Charge (s : Nat) (a : Int) (air : Int) (h0 : Heap) (Post : Value → Heap → Prop) (H :
Runs Tryd.prog 28 #[(.pointer (some ⟨s, 0, none⟩)), (.int .i64 a)] h0 fun r1 h1 =>
∃ n1 : Int,
r1 = (.int .i64 n1) ∧
bcase (decide (n1 < (0 : Int))) (
Post (.int .i64 (107 : Int)) h1) (
bcase (decide (air < (0 : Int))) (
Post (.int .i64 (103 : Int)) h1) (
bcase (decide ((1099511627776 : Int) < air)) (
Post (.int .i64 (103 : Int)) h1) (
∃ (s1 : Option Addr) (s1l s1c : Nat), cell h1 s 0 = some (.slice s1 s1l s1c) ∧
∃ (s2 : Option Addr) (s2l s2c : Nat), cell h1 s 0 = some (.slice s2 s2l s2c) ∧
(0 ≤ n1 ∧ n1 < ((s2l : Nat) : Int)) ∧
onAddr s2 fun b1 o1 =>
∃ n2 : Int, cell h1 b1 ((o1 + ((n1).toNat * 4)) + 2) = some (.int .i64 n2) ∧
fits .i64 ((10000 : Int) * air) ∧
∃ (s3 : Option Addr) (s3l s3c : Nat), cell h1 s 0 = some (.slice s3 s3l s3c) ∧
(0 ≤ n1 ∧ n1 < ((s3l : Nat) : Int)) ∧
onAddr s3 fun b2 o2 =>
∃ n3 : Int, cell h1 b2 ((o2 + ((n1).toNat * 4)) + 1) = some (.int .i64 n3) ∧
(0 ≤ ((10000 : Int) * air) ∧ 0 < n3 ∧ fits .i64 (((10000 : Int) * air) / n3)) ∧
fits .i64 (n2 + (((10000 : Int) * air) / n3)) ∧
(0 ≤ n1 ∧ n1 < ((s1l : Nat) : Int)) ∧
onAddr s1 fun b3 o3 =>
wr h1 b3 ((o3 + ((n1).toNat * 4)) + 2) ∧ ∀ h2 : Heap, h2 = setc h1 b3 ((o3 + ((n1).toNat * 4)) + 2) (.int .i64 (min (n2 + (((10000 : Int) * air) / n3)) (1152921504606846976 : Int))) →
Post (.int .i64 (0 : Int)) h2)))) :
    Runs Tryd.prog 26 #[(.pointer (some ⟨s, 0, none⟩)), (.int .i64 a), (.int .i64 air)] h0 Post :=
  runs_of (args := [(.pointer (some ⟨s, 0, none⟩)), (.int .i64 a), (.int .i64 air)]) (fun n => ⟨true, false⟩) (fun _ => []) (fun _ => none) (fun _ => []) Tryd.func26 rfl (by rw [Tryd.ntmps26]; simp) (Eq.mp (by kernel_rfl) H)

theorem vc_muezzinref15_Sched_Order (s : Nat) (h0 : Heap) (Post : Value → Heap → Prop) (H :
∃ (I1 : Option Addr → Nat → Nat → Int → Heap → Prop) (m1 : Option Addr → Nat → Nat → Int → Heap → Nat), I1 none 0 0 (0 : Int) h0 ∧ ∀ _ : Env,
∀ (l_1 : Option Addr) (l_1l l_1c : Nat) (i_1 : Int) (h1 : Heap), I1 l_1 l_1l l_1c i_1 h1 →
∃ (s1 : Option Addr) (s1l s1c : Nat), cell h1 s 0 = some (.slice s1 s1l s1c) ∧
bcase (decide (i_1 < ((s1l : Nat) : Int))) (
∃ (s2 : Option Addr) (s2l s2c : Nat), cell h1 s 0 = some (.slice s2 s2l s2c) ∧
(0 ≤ i_1 ∧ i_1 < ((s2l : Nat) : Int)) ∧
onAddr s2 fun b1 o1 =>
∃ t1 : Bool, cell h1 b1 ((o1 + ((i_1).toNat * 4)) + 3) = some (.bool t1) ∧
bcase (!t1) (
fits .i64 (i_1 + (1 : Int)) ∧
I1 l_1 l_1l l_1c (i_1 + (1 : Int)) h1 ∧ m1 l_1 l_1l l_1c (i_1 + (1 : Int)) h1 < m1 l_1 l_1l l_1c i_1 h1) (
∃ (s3 : Option Addr) (s3l s3c : Nat), cell h1 s 0 = some (.slice s3 s3l s3c) ∧
(0 ≤ i_1 ∧ i_1 < ((s3l : Nat) : Int)) ∧
onAddr s3 fun b2 o2 =>
∃ cs1 : List Value, row h1 b2 (o2 + ((i_1).toNat * 4)) 4 = some cs1 ∧
∀ (b3 : Nat) (h2 : Heap), b3 = h1.size → h2 = h1.push (.cells ([(.int .i64 (0 : Int)), (.int .i64 (0 : Int)), (.int .i64 (0 : Int)), (.bool false)] : List Value).toArray 54) →
(((cs1)).length = 4 ∧ wrs h2 b3 0 4 ∧ ∀ u ∈ ((cs1) : List Value), u.oneCell' = true) ∧ ∀ h3 : Heap, h3 = setr h2 b3 0 (cs1) →
∃ (I2 : Int → Heap → Prop) (m2 : Int → Heap → Nat), I2 ((l_1l : Nat) : Int) h3 ∧ ∀ _ : Env,
∀ (k_1 : Int) (h4 : Heap), I2 k_1 h4 →
bcase (decide ((0 : Int) < k_1)) (
fits .i64 (k_1 - (1 : Int)) ∧
(0 ≤ (k_1 - (1 : Int)) ∧ (k_1 - (1 : Int)) < ((l_1l : Nat) : Int)) ∧
onAddr l_1 fun b4 o3 =>
∃ n1 : Int, cell h4 b4 ((o3 + (((k_1 - (1 : Int))).toNat * 4)) + 2) = some (.int .i64 n1) ∧
∃ n2 : Int, cell h4 b3 2 = some (.int .i64 n2) ∧
bcase (decide (n2 < n1)) (
fits .i64 (k_1 - (1 : Int)) ∧
I2 (k_1 - (1 : Int)) h4 ∧ m2 (k_1 - (1 : Int)) h4 < m2 k_1 h4) (
fits .i64 (k_1 - (1 : Int)) ∧
(0 ≤ (k_1 - (1 : Int)) ∧ (k_1 - (1 : Int)) < ((l_1l : Nat) : Int)) ∧
onAddr l_1 fun b5 o4 =>
∃ n3 : Int, cell h4 b5 ((o4 + (((k_1 - (1 : Int))).toNat * 4)) + 2) = some (.int .i64 n3) ∧
∃ n4 : Int, cell h4 b3 2 = some (.int .i64 n4) ∧
bcase (decide (n3 = n4)) (
fits .i64 (k_1 - (1 : Int)) ∧
(0 ≤ (k_1 - (1 : Int)) ∧ (k_1 - (1 : Int)) < ((l_1l : Nat) : Int)) ∧
onAddr l_1 fun b6 o5 =>
∃ n5 : Int, cell h4 b6 (o5 + (((k_1 - (1 : Int))).toNat * 4)) = some (.int .i64 n5) ∧
∃ n6 : Int, cell h4 b3 0 = some (.int .i64 n6) ∧
bcase (decide (n6 < n5)) (
fits .i64 (k_1 - (1 : Int)) ∧
I2 (k_1 - (1 : Int)) h4 ∧ m2 (k_1 - (1 : Int)) h4 < m2 k_1 h4) (
∀ (b7 : Nat) (h5 : Heap), b7 = h4.size → h5 = h4.push (.cells ([] : List Value).toArray 54) →
(0 ≤ (0 : Int) ∧ (0 : Int) ≤ k_1 ∧ k_1 ≤ ((l_1c : Nat) : Int)) ∧
∃ news1 : List Value, (src h5 (slcAddr l_1 0 l_1c 0) ((k_1).toNat * 4) news1 ∧ ∀ u ∈ news1, u.oneCell' = true) ∧
appK h5 (some ⟨b7, 0, none⟩) 0 0 (k_1).toNat 4 54 32 news1 fun (a1 : Option Addr) (cap1 : Nat) (h6 : Heap) =>
∃ cs2 : List Value, row h6 b3 0 4 = some cs2 ∧
(cs2).length = 4 ∧
∀ (b8 : Nat) (h7 : Heap), b8 = h6.size → h7 = h6.push (.cells (((cs2) ++ [])).toArray 54) →
∃ news2 : List Value, (row h7 b8 0 4 = some news2 ∧ ∀ u ∈ news2, u.oneCell' = true) ∧
appK h7 a1 (0 + (k_1).toNat) cap1 1 4 54 32 news2 fun (a2 : Option Addr) (cap2 : Nat) (h8 : Heap) =>
(0 ≤ k_1 ∧ k_1 ≤ ((l_1l : Nat) : Int)) ∧
∃ news3 : List Value, (src h8 (slcAddr l_1 (k_1).toNat l_1c ((k_1).toNat * 4)) ((l_1l - (k_1).toNat) * 4) news3 ∧ ∀ u ∈ news3, u.oneCell' = true) ∧
appK h8 a2 ((0 + (k_1).toNat) + 1) cap2 (l_1l - (k_1).toNat) 4 54 32 news3 fun (a3 : Option Addr) (cap3 : Nat) (h9 : Heap) =>
fits .i64 (i_1 + (1 : Int)) ∧
I1 a3 (((0 + (k_1).toNat) + 1) + (l_1l - (k_1).toNat)) cap3 (i_1 + (1 : Int)) h9 ∧ m1 a3 (((0 + (k_1).toNat) + 1) + (l_1l - (k_1).toNat)) cap3 (i_1 + (1 : Int)) h9 < m1 l_1 l_1l l_1c i_1 h1)) (
∀ (b9 : Nat) (h10 : Heap), b9 = h4.size → h10 = h4.push (.cells ([] : List Value).toArray 54) →
(0 ≤ (0 : Int) ∧ (0 : Int) ≤ k_1 ∧ k_1 ≤ ((l_1c : Nat) : Int)) ∧
∃ news4 : List Value, (src h10 (slcAddr l_1 0 l_1c 0) ((k_1).toNat * 4) news4 ∧ ∀ u ∈ news4, u.oneCell' = true) ∧
appK h10 (some ⟨b9, 0, none⟩) 0 0 (k_1).toNat 4 54 32 news4 fun (a4 : Option Addr) (cap4 : Nat) (h11 : Heap) =>
∃ cs3 : List Value, row h11 b3 0 4 = some cs3 ∧
(cs3).length = 4 ∧
∀ (b10 : Nat) (h12 : Heap), b10 = h11.size → h12 = h11.push (.cells (((cs3) ++ [])).toArray 54) →
∃ news5 : List Value, (row h12 b10 0 4 = some news5 ∧ ∀ u ∈ news5, u.oneCell' = true) ∧
appK h12 a4 (0 + (k_1).toNat) cap4 1 4 54 32 news5 fun (a5 : Option Addr) (cap5 : Nat) (h13 : Heap) =>
(0 ≤ k_1 ∧ k_1 ≤ ((l_1l : Nat) : Int)) ∧
∃ news6 : List Value, (src h13 (slcAddr l_1 (k_1).toNat l_1c ((k_1).toNat * 4)) ((l_1l - (k_1).toNat) * 4) news6 ∧ ∀ u ∈ news6, u.oneCell' = true) ∧
appK h13 a5 ((0 + (k_1).toNat) + 1) cap5 (l_1l - (k_1).toNat) 4 54 32 news6 fun (a6 : Option Addr) (cap6 : Nat) (h14 : Heap) =>
fits .i64 (i_1 + (1 : Int)) ∧
I1 a6 (((0 + (k_1).toNat) + 1) + (l_1l - (k_1).toNat)) cap6 (i_1 + (1 : Int)) h14 ∧ m1 a6 (((0 + (k_1).toNat) + 1) + (l_1l - (k_1).toNat)) cap6 (i_1 + (1 : Int)) h14 < m1 l_1 l_1l l_1c i_1 h1))) (
∀ (b11 : Nat) (h15 : Heap), b11 = h4.size → h15 = h4.push (.cells ([] : List Value).toArray 54) →
(0 ≤ (0 : Int) ∧ (0 : Int) ≤ k_1 ∧ k_1 ≤ ((l_1c : Nat) : Int)) ∧
∃ news7 : List Value, (src h15 (slcAddr l_1 0 l_1c 0) ((k_1).toNat * 4) news7 ∧ ∀ u ∈ news7, u.oneCell' = true) ∧
appK h15 (some ⟨b11, 0, none⟩) 0 0 (k_1).toNat 4 54 32 news7 fun (a7 : Option Addr) (cap7 : Nat) (h16 : Heap) =>
∃ cs4 : List Value, row h16 b3 0 4 = some cs4 ∧
(cs4).length = 4 ∧
∀ (b12 : Nat) (h17 : Heap), b12 = h16.size → h17 = h16.push (.cells (((cs4) ++ [])).toArray 54) →
∃ news8 : List Value, (row h17 b12 0 4 = some news8 ∧ ∀ u ∈ news8, u.oneCell' = true) ∧
appK h17 a7 (0 + (k_1).toNat) cap7 1 4 54 32 news8 fun (a8 : Option Addr) (cap8 : Nat) (h18 : Heap) =>
(0 ≤ k_1 ∧ k_1 ≤ ((l_1l : Nat) : Int)) ∧
∃ news9 : List Value, (src h18 (slcAddr l_1 (k_1).toNat l_1c ((k_1).toNat * 4)) ((l_1l - (k_1).toNat) * 4) news9 ∧ ∀ u ∈ news9, u.oneCell' = true) ∧
appK h18 a8 ((0 + (k_1).toNat) + 1) cap8 (l_1l - (k_1).toNat) 4 54 32 news9 fun (a9 : Option Addr) (cap9 : Nat) (h19 : Heap) =>
fits .i64 (i_1 + (1 : Int)) ∧
I1 a9 (((0 + (k_1).toNat) + 1) + (l_1l - (k_1).toNat)) cap9 (i_1 + (1 : Int)) h19 ∧ m1 a9 (((0 + (k_1).toNat) + 1) + (l_1l - (k_1).toNat)) cap9 (i_1 + (1 : Int)) h19 < m1 l_1 l_1l l_1c i_1 h1))) (
∃ (I3 : Option Addr → Nat → Nat → Int → Heap → Prop) (m3 : Option Addr → Nat → Nat → Int → Heap → Nat), I3 none 0 0 (0 : Int) h1 ∧ ∀ _ : Env,
∀ (out_1 : Option Addr) (out_1l out_1c : Nat) (i_2 : Int) (h20 : Heap), I3 out_1 out_1l out_1c i_2 h20 →
bcase (decide (i_2 < ((l_1l : Nat) : Int))) (
(0 ≤ i_2 ∧ i_2 < ((l_1l : Nat) : Int)) ∧
onAddr l_1 fun b13 o6 =>
∃ n7 : Int, cell h20 b13 (o6 + ((i_2).toNat * 4)) = some (.int .i64 n7) ∧
∀ (b14 : Nat) (h21 : Heap), b14 = h20.size → h21 = h20.push (.cells ([(.int .i64 n7)] : List Value).toArray 3) →
∃ news10 : List Value, (row h21 b14 0 1 = some news10 ∧ ∀ u ∈ news10, u.oneCell' = true) ∧
appK h21 out_1 out_1l out_1c 1 1 3 8 news10 fun (a10 : Option Addr) (cap10 : Nat) (h22 : Heap) =>
fits .i64 (i_2 + (1 : Int)) ∧
I3 a10 (out_1l + 1) cap10 (i_2 + (1 : Int)) h22 ∧ m3 a10 (out_1l + 1) cap10 (i_2 + (1 : Int)) h22 < m3 out_1 out_1l out_1c i_2 h20) (
Post (.slice out_1 out_1l out_1c) h20))) :
    Runs Tryd.prog 27 #[(.pointer (some ⟨s, 0, none⟩))] h0 Post :=
  runs_of (args := [(.pointer (some ⟨s, 0, none⟩))]) (fun n => ⟨true, false⟩) (fun n => match n with | 0 => [(3, .slice), (4, .int .i64)] | 2 => [(6, .int .i64)] | 4 => [(8, .slice), (9, .int .i64)] | _ => []) (fun _ => none) (fun _ => []) Tryd.func27 rfl (by rw [Tryd.ntmps27]; simp) (Eq.mp (by kernel_rfl) H)

theorem vc_muezzinref15_aid (n : Int) (h0 : Heap) (Post : Value → Heap → Prop) (H :
bcase (decide ((1 : Int) ≤ n)) (
Post (.bool (decide (n ≤ (16 : Int)))) h0) (
Post (.bool false) h0)) :
    Runs Tryd.prog 38 #[(.int .i64 n)] h0 Post :=
  runs_of (args := [(.int .i64 n)]) (fun n => ⟨true, false⟩) (fun _ => []) (fun _ => none) (fun _ => []) Tryd.func38 rfl (by rw [Tryd.ntmps38]; simp) (Eq.mp (by kernel_rfl) H)

theorem vc_muezzinref15_weight (n : Int) (h0 : Heap) (Post : Value → Heap → Prop) (H :
bcase (decide ((1 : Int) ≤ n)) (
Post (.bool (decide (n ≤ (100 : Int)))) h0) (
Post (.bool false) h0)) :
    Runs Tryd.prog 39 #[(.int .i64 n)] h0 Post :=
  runs_of (args := [(.int .i64 n)]) (fun n => ⟨true, false⟩) (fun _ => []) (fun _ => none) (fun _ => []) Tryd.func39 rfl (by rw [Tryd.ntmps39]; simp) (Eq.mp (by kernel_rfl) H)

theorem vc_muezzinref_SameInts (a : Option Addr) (aL aC : Nat) (b : Option Addr) (bL bC : Nat) (h0 : Heap) (Post : Value → Heap → Prop) (H :
bcase (!decide (((aL : Nat) : Int) = ((bL : Nat) : Int))) (
Post (.bool false) h0) (
∃ (I1 : Int → Heap → Prop) (m1 : Int → Heap → Nat), I1 (0 : Int) h0 ∧ ∀ _ : Env,
∀ (i_1 : Int) (h1 : Heap), I1 i_1 h1 →
bcase (decide (i_1 < ((aL : Nat) : Int))) (
(0 ≤ i_1 ∧ i_1 < ((aL : Nat) : Int)) ∧
onAddr a fun b1 o1 =>
∃ n1 : Int, cell h1 b1 (o1 + (i_1).toNat) = some (.int .i64 n1) ∧
(0 ≤ i_1 ∧ i_1 < ((bL : Nat) : Int)) ∧
onAddr b fun b2 o2 =>
∃ n2 : Int, cell h1 b2 (o2 + (i_1).toNat) = some (.int .i64 n2) ∧
bcase (!(decide (n1 = n2))) (
Post (.bool false) h1) (
fits .i64 (i_1 + (1 : Int)) ∧
I1 (i_1 + (1 : Int)) h1 ∧ m1 (i_1 + (1 : Int)) h1 < m1 i_1 h1)) (
Post (.bool true) h1))) :
    Runs Tryd.prog 17 #[(.slice a aL aC), (.slice b bL bC)] h0 Post :=
  runs_of (args := [(.slice a aL aC), (.slice b bL bC)]) (fun n => ⟨true, false⟩) (fun n => match n with | 0 => [(5, .int .i64)] | _ => []) (fun _ => none) (fun _ => []) Tryd.func17 rfl (by rw [Tryd.ntmps17]; simp) (Eq.mp (by kernel_rfl) H)

theorem vc_muezzinref_Has (l : Option Addr) (lL lC : Nat) (n : Int) (h0 : Heap) (Post : Value → Heap → Prop) (H :
∃ (I1 : Int → Heap → Prop) (m1 : Int → Heap → Nat), I1 (0 : Int) h0 ∧ ∀ _ : Env,
∀ (i_1 : Int) (h1 : Heap), I1 i_1 h1 →
bcase (decide (i_1 < ((lL : Nat) : Int))) (
(0 ≤ i_1 ∧ i_1 < ((lL : Nat) : Int)) ∧
onAddr l fun b1 o1 =>
∃ n1 : Int, cell h1 b1 (o1 + (i_1).toNat) = some (.int .i64 n1) ∧
bcase (decide (n1 = n)) (
Post (.bool true) h1) (
fits .i64 (i_1 + (1 : Int)) ∧
I1 (i_1 + (1 : Int)) h1 ∧ m1 (i_1 + (1 : Int)) h1 < m1 i_1 h1)) (
Post (.bool false) h1)) :
    Runs Tryd.prog 20 #[(.slice l lL lC), (.int .i64 n)] h0 Post :=
  runs_of (args := [(.slice l lL lC), (.int .i64 n)]) (fun n => ⟨true, false⟩) (fun n => match n with | 0 => [(5, .int .i64)] | _ => []) (fun _ => none) (fun _ => []) Tryd.func20 rfl (by rw [Tryd.ntmps20]; simp) (Eq.mp (by kernel_rfl) H)
end Go.Proofs.YthnmgpmgfhilhaaDoor
