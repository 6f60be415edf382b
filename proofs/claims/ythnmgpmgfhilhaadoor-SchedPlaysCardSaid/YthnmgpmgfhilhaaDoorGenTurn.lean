/- The conditions for calls of functions of the program, in plain form: written by a program (vcgen) off the elaborated code; each is the reckoner's own, by the kernel. -/
import Derived.Test.YthnmgpmgfhilhaaDoorRows
import Derived.Test.YthnmgpmgfhilhaaDoorVc
set_option linter.unusedVariables false
set_option maxRecDepth 100000
namespace Go.Proofs.YthnmgpmgfhilhaaDoor
open Go.Vc
theorem vc_sched_turns_Len (t : Nat) (h0 : Heap) (Post : Value → Heap → Prop) (H :
∃ (s1 : Option Addr) (s1l s1c : Nat), cell h0 t 0 = some (.slice s1 s1l s1c) ∧
Post (.int .i64 ((s1l : Nat) : Int)) h0) :
    Runs Tryd.prog 32 #[(.pointer (some ⟨t, 0, none⟩))] h0 Post :=
  runs_of (args := [(.pointer (some ⟨t, 0, none⟩))]) (fun n => ⟨true, false⟩) (fun _ => []) (fun _ => none) (fun _ => []) Tryd.func32 rfl (by rw [Tryd.ntmps32]; simp) (Eq.mp (by kernel_rfl) H)

theorem vc_sched_turns_Less (t : Nat) (i : Int) (k : Int) (h0 : Heap) (Post : Value → Heap → Prop) (H :
∃ (s1 : Option Addr) (s1l s1c : Nat), cell h0 t 0 = some (.slice s1 s1l s1c) ∧
(0 ≤ i ∧ i < ((s1l : Nat) : Int)) ∧
onAddr s1 fun b1 o1 =>
∃ p1 : Option Addr, cell h0 b1 (o1 + (i).toNat) = some (.pointer p1) ∧
∃ (s2 : Option Addr) (s2l s2c : Nat), cell h0 t 0 = some (.slice s2 s2l s2c) ∧
(0 ≤ k ∧ k < ((s2l : Nat) : Int)) ∧
onAddr s2 fun b2 o2 =>
∃ p2 : Option Addr, cell h0 b2 (o2 + (k).toNat) = some (.pointer p2) ∧
onAddr p1 fun b3 o3 =>
∃ n1 : Int, cell h0 b3 (o3 + 2) = some (.int .i64 n1) ∧
onAddr p2 fun b4 o4 =>
∃ n2 : Int, cell h0 b4 (o4 + 2) = some (.int .i64 n2) ∧
bcase (decide (n1 < n2)) (
Post (.bool true) h0) (
onAddr p1 fun b5 o5 =>
∃ n3 : Int, cell h0 b5 (o5 + 2) = some (.int .i64 n3) ∧
onAddr p2 fun b6 o6 =>
∃ n4 : Int, cell h0 b6 (o6 + 2) = some (.int .i64 n4) ∧
bcase (decide (n3 = n4)) (
onAddr p1 fun b7 o7 =>
∃ n5 : Int, cell h0 b7 o7 = some (.int .i64 n5) ∧
onAddr p2 fun b8 o8 =>
∃ n6 : Int, cell h0 b8 o8 = some (.int .i64 n6) ∧
Post (.bool (decide (n5 < n6))) h0) (
Post (.bool false) h0))) :
    Runs Tryd.prog 65 #[(.pointer (some ⟨t, 0, none⟩)), (.int .i64 i), (.int .i64 k)] h0 Post :=
  runs_of (args := [(.pointer (some ⟨t, 0, none⟩)), (.int .i64 i), (.int .i64 k)]) (fun n => ⟨true, false⟩) (fun _ => []) (fun _ => none) (fun _ => []) Tryd.func65 rfl (by rw [Tryd.ntmps65]; simp) (Eq.mp (by kernel_rfl) H)

theorem vc_sched_turns_Swap (t : Nat) (i : Int) (k : Int) (h0 : Heap) (Post : Value → Heap → Prop) (H :
∃ (s1 : Option Addr) (s1l s1c : Nat), cell h0 t 0 = some (.slice s1 s1l s1c) ∧
∃ (s2 : Option Addr) (s2l s2c : Nat), cell h0 t 0 = some (.slice s2 s2l s2c) ∧
∃ (s3 : Option Addr) (s3l s3c : Nat), cell h0 t 0 = some (.slice s3 s3l s3c) ∧
(0 ≤ k ∧ k < ((s3l : Nat) : Int)) ∧
onAddr s3 fun b1 o1 =>
∃ p1 : Option Addr, cell h0 b1 (o1 + (k).toNat) = some (.pointer p1) ∧
∃ (s4 : Option Addr) (s4l s4c : Nat), cell h0 t 0 = some (.slice s4 s4l s4c) ∧
(0 ≤ i ∧ i < ((s4l : Nat) : Int)) ∧
onAddr s4 fun b2 o2 =>
∃ p2 : Option Addr, cell h0 b2 (o2 + (i).toNat) = some (.pointer p2) ∧
(0 ≤ i ∧ i < ((s1l : Nat) : Int)) ∧
onAddr s1 fun b3 o3 =>
wr h0 b3 (o3 + (i).toNat) ∧ ∀ h1 : Heap, h1 = setc h0 b3 (o3 + (i).toNat) (.pointer p1) →
(0 ≤ k ∧ k < ((s2l : Nat) : Int)) ∧
onAddr s2 fun b4 o4 =>
wr h1 b4 (o4 + (k).toNat) ∧ ∀ h2 : Heap, h2 = setc h1 b4 (o4 + (k).toNat) (.pointer p2) →
∃ (s5 : Option Addr) (s5l s5c : Nat), cell h2 t 0 = some (.slice s5 s5l s5c) ∧
(0 ≤ i ∧ i < ((s5l : Nat) : Int)) ∧
onAddr s5 fun b5 o5 =>
∃ p3 : Option Addr, cell h2 b5 (o5 + (i).toNat) = some (.pointer p3) ∧
∃ (s6 : Option Addr) (s6l s6c : Nat), cell h2 t 0 = some (.slice s6 s6l s6c) ∧
(0 ≤ k ∧ k < ((s6l : Nat) : Int)) ∧
onAddr s6 fun b6 o6 =>
∃ p4 : Option Addr, cell h2 b6 (o6 + (k).toNat) = some (.pointer p4) ∧
onAddr p3 fun b7 o7 =>
wr h2 b7 (o7 + 4) ∧ ∀ h3 : Heap, h3 = setc h2 b7 (o7 + 4) (.int .i64 i) →
onAddr p4 fun b8 o8 =>
wr h3 b8 (o8 + 4) ∧ ∀ h4 : Heap, h4 = setc h3 b8 (o8 + 4) (.int .i64 k) →
Post (.tuple #[]) h4) :
    Runs Tryd.prog 68 #[(.pointer (some ⟨t, 0, none⟩)), (.int .i64 i), (.int .i64 k)] h0 Post :=
  runs_of (args := [(.pointer (some ⟨t, 0, none⟩)), (.int .i64 i), (.int .i64 k)]) (fun n => ⟨true, false⟩) (fun _ => []) (fun _ => none) (fun _ => []) Tryd.func68 rfl (by rw [Tryd.ntmps68]; simp) (Eq.mp (by kernel_rfl) H)

theorem vc_sched_turns_Push (t : Nat) (x : Value) (h0 : Heap) (Post : Value → Heap → Prop) (H :
∃ p1 : Option Addr,
∃ t1 : Bool, asr Tryd.prog 60 (x) = some ((.pointer p1), t1) ∧
bcase (!t1) (
Post (.tuple #[]) h0) (
∃ (s1 : Option Addr) (s1l s1c : Nat), cell h0 t 0 = some (.slice s1 s1l s1c) ∧
onAddr p1 fun b1 o1 =>
wr h0 b1 (o1 + 4) ∧ ∀ h1 : Heap, h1 = setc h0 b1 (o1 + 4) (.int .i64 ((s1l : Nat) : Int)) →
∃ (s2 : Option Addr) (s2l s2c : Nat), cell h1 t 0 = some (.slice s2 s2l s2c) ∧
∀ (b2 : Nat) (h2 : Heap), b2 = h1.size → h2 = h1.push (.cells ([(.pointer p1)] : List Value).toArray 60) →
∃ news1 : List Value, (row h2 b2 0 1 = some news1 ∧ ∀ u ∈ news1, u.oneCell' = true) ∧
appK h2 s2 s2l s2c 1 1 60 8 news1 fun (a1 : Option Addr) (cap1 : Nat) (h3 : Heap) =>
wr h3 t 0 ∧ ∀ h4 : Heap, h4 = setc h3 t 0 (.slice a1 (s2l + 1) cap1) →
Post (.tuple #[]) h4)) :
    Runs Tryd.prog 67 #[(.pointer (some ⟨t, 0, none⟩)), x] h0 Post :=
  runs_of (args := [(.pointer (some ⟨t, 0, none⟩)), x]) (fun n => ⟨true, false⟩) (fun _ => []) (fun _ => none) (fun _ => []) Tryd.func67 rfl (by rw [Tryd.ntmps67]; simp) (Eq.mp (by kernel_rfl) H)

theorem vc_sched_turns_Pop (t : Nat) (h0 : Heap) (Post : Value → Heap → Prop) (H :
∃ (s1 : Option Addr) (s1l s1c : Nat), cell h0 t 0 = some (.slice s1 s1l s1c) ∧
∃ (s2 : Option Addr) (s2l s2c : Nat), cell h0 t 0 = some (.slice s2 s2l s2c) ∧
fits .i64 (((s2l : Nat) : Int) - (1 : Int)) ∧
(0 ≤ (((s2l : Nat) : Int) - (1 : Int)) ∧ (((s2l : Nat) : Int) - (1 : Int)) < ((s1l : Nat) : Int)) ∧
onAddr s1 fun b1 o1 =>
∃ p1 : Option Addr, cell h0 b1 (o1 + ((((s2l : Nat) : Int) - (1 : Int))).toNat) = some (.pointer p1) ∧
∃ (s3 : Option Addr) (s3l s3c : Nat), cell h0 t 0 = some (.slice s3 s3l s3c) ∧
∃ (s4 : Option Addr) (s4l s4c : Nat), cell h0 t 0 = some (.slice s4 s4l s4c) ∧
fits .i64 (((s4l : Nat) : Int) - (1 : Int)) ∧
(0 ≤ (0 : Int) ∧ (0 : Int) ≤ (((s4l : Nat) : Int) - (1 : Int)) ∧ (((s4l : Nat) : Int) - (1 : Int)) ≤ ((s3c : Nat) : Int)) ∧
wr h0 t 0 ∧ ∀ h1 : Heap, h1 = setc h0 t 0 (.slice (slcAddr s3 0 s3c 0) ((((s4l : Nat) : Int) - (1 : Int))).toNat s3c) →
Post (.iface 60 (.pointer p1)) h1) :
    Runs Tryd.prog 66 #[(.pointer (some ⟨t, 0, none⟩))] h0 Post :=
  runs_of (args := [(.pointer (some ⟨t, 0, none⟩))]) (fun n => ⟨true, false⟩) (fun _ => []) (fun _ => none) (fun _ => []) Tryd.func66 rfl (by rw [Tryd.ntmps66]; simp) (Eq.mp (by kernel_rfl) H)

theorem vc_container_heap_Push (h_ : Value) (x : Value) (h0 : Heap) (Post : Value → Heap → Prop) (H :
ivk Tryd.prog h_ "Push" [x] h0 fun r1 h1 =>
ivk Tryd.prog h_ "Len" [] h1 fun r2 h2 =>
∃ n1 : Int,
r2 = (.int .i64 n1) ∧
fits .i64 (n1 - (1 : Int)) ∧
Runs Tryd.prog 40 #[h_, (.int .i64 (n1 - (1 : Int)))] h2 fun r3 h3 =>
Post (.tuple #[]) h3) :
    Runs Tryd.prog 33 #[h_, x] h0 Post :=
  runs_of (args := [h_, x]) (fun n => ⟨true, false⟩) (fun _ => []) (fun _ => none) (fun _ => []) Tryd.func33 rfl (by rw [Tryd.ntmps33]; simp) (Eq.mp (by kernel_rfl) H)

theorem vc_container_heap_Remove (h_ : Value) (i : Int) (h0 : Heap) (Post : Value → Heap → Prop) (H :
ivk Tryd.prog h_ "Len" [] h0 fun r1 h1 =>
∃ n1 : Int,
r1 = (.int .i64 n1) ∧
fits .i64 (n1 - (1 : Int)) ∧
bcase (!decide ((n1 - (1 : Int)) = i)) (
ivk Tryd.prog h_ "Swap" [(.int .i64 i), (.int .i64 (n1 - (1 : Int)))] h1 fun r2 h2 =>
Runs Tryd.prog 41 #[h_, (.int .i64 i), (.int .i64 (n1 - (1 : Int)))] h2 fun r3 h3 =>
∃ t1 : Bool,
r3 = (.bool t1) ∧
bcase (!t1) (
Runs Tryd.prog 40 #[h_, (.int .i64 i)] h3 fun r4 h4 =>
ivk Tryd.prog h_ "Pop" [] h4 fun r5 h5 =>
∃ v1 : Value,
r5 = v1 ∧
Post v1 h5) (
ivk Tryd.prog h_ "Pop" [] h3 fun r6 h6 =>
∃ v2 : Value,
r6 = v2 ∧
Post v2 h6)) (
ivk Tryd.prog h_ "Pop" [] h1 fun r7 h7 =>
∃ v3 : Value,
r7 = v3 ∧
Post v3 h7)) :
    Runs Tryd.prog 34 #[h_, (.int .i64 i)] h0 Post :=
  runs_of (args := [h_, (.int .i64 i)]) (fun n => ⟨true, false⟩) (fun _ => []) (fun _ => none) (fun _ => []) Tryd.func34 rfl (by rw [Tryd.ntmps34]; simp) (Eq.mp (by kernel_rfl) H)

theorem vc_container_heap_Fix (h_ : Value) (i : Int) (h0 : Heap) (Post : Value → Heap → Prop) (H :
ivk Tryd.prog h_ "Len" [] h0 fun r1 h1 =>
∃ n1 : Int,
r1 = (.int .i64 n1) ∧
Runs Tryd.prog 41 #[h_, (.int .i64 i), (.int .i64 n1)] h1 fun r2 h2 =>
∃ t1 : Bool,
r2 = (.bool t1) ∧
bcase (!t1) (
Runs Tryd.prog 40 #[h_, (.int .i64 i)] h2 fun r3 h3 =>
Post (.tuple #[]) h3) (
Post (.tuple #[]) h2)) :
    Runs Tryd.prog 35 #[h_, (.int .i64 i)] h0 Post :=
  runs_of (args := [h_, (.int .i64 i)]) (fun n => ⟨true, false⟩) (fun _ => []) (fun _ => none) (fun _ => []) Tryd.func35 rfl (by rw [Tryd.ntmps35]; simp) (Eq.mp (by kernel_rfl) H)

theorem vc_container_heap_up (h_ : Value) (j : Int) (h0 : Heap) (Post : Value → Heap → Prop) (H :
∃ (I1 : Int → Heap → Prop) (m1 : Int → Heap → Nat), I1 j h0 ∧ ∀ _ : Env,
∀ (j_1 : Int) (h1 : Heap), I1 j_1 h1 →
(2 : Int) ≠ 0 ∧
bcase (decide ((IntKind.i64.wrap (((IntKind.i64.wrap (j_1 - (1 : Int)))).tdiv (2 : Int))) = j_1)) (
Post (.tuple #[]) h1) (
ivk Tryd.prog h_ "Less" [(.int .i64 j_1), (.int .i64 (IntKind.i64.wrap (((IntKind.i64.wrap (j_1 - (1 : Int)))).tdiv (2 : Int))))] h1 fun r1 h2 =>
∃ t1 : Bool,
r1 = (.bool t1) ∧
bcase (!t1) (
Post (.tuple #[]) h2) (
ivk Tryd.prog h_ "Swap" [(.int .i64 (IntKind.i64.wrap (((IntKind.i64.wrap (j_1 - (1 : Int)))).tdiv (2 : Int)))), (.int .i64 j_1)] h2 fun r2 h3 =>
I1 (IntKind.i64.wrap (((IntKind.i64.wrap (j_1 - (1 : Int)))).tdiv (2 : Int))) h3 ∧ m1 (IntKind.i64.wrap (((IntKind.i64.wrap (j_1 - (1 : Int)))).tdiv (2 : Int))) h3 < m1 j_1 h1))) :
    Runs Tryd.prog 40 #[h_, (.int .i64 j)] h0 Post :=
  runs_of (args := [h_, (.int .i64 j)]) (fun n => ⟨false, false⟩) (fun n => match n with | 0 => [(1, .int .i64)] | _ => []) (fun _ => none) (fun _ => []) Tryd.func40 rfl (by rw [Tryd.ntmps40]; simp) (Eq.mp (by kernel_rfl) H)

theorem vc_container_heap_down (h_ : Value) (i0 : Int) (n : Int) (h0 : Heap) (Post : Value → Heap → Prop) (H :
∃ (I1 : Int → Heap → Prop) (m1 : Int → Heap → Nat), I1 i0 h0 ∧ ∀ _ : Env,
∀ (i_1 : Int) (h1 : Heap), I1 i_1 h1 →
fits .i64 ((2 : Int) * i_1) ∧
fits .i64 (((2 : Int) * i_1) + (1 : Int)) ∧
bcase (decide (n ≤ (((2 : Int) * i_1) + (1 : Int)))) (
Post (.bool (decide (i0 < i_1))) h1) (
bcase (decide ((((2 : Int) * i_1) + (1 : Int)) < (0 : Int))) (
Post (.bool (decide (i0 < i_1))) h1) (
fits .i64 ((((2 : Int) * i_1) + (1 : Int)) + (1 : Int)) ∧
bcase (decide (((((2 : Int) * i_1) + (1 : Int)) + (1 : Int)) < n)) (
ivk Tryd.prog h_ "Less" [(.int .i64 ((((2 : Int) * i_1) + (1 : Int)) + (1 : Int))), (.int .i64 (((2 : Int) * i_1) + (1 : Int)))] h1 fun r1 h2 =>
∃ t1 : Bool,
r1 = (.bool t1) ∧
bcase t1 (
ivk Tryd.prog h_ "Less" [(.int .i64 ((((2 : Int) * i_1) + (1 : Int)) + (1 : Int))), (.int .i64 i_1)] h2 fun r2 h3 =>
∃ t2 : Bool,
r2 = (.bool t2) ∧
bcase (!t2) (
Post (.bool (decide (i0 < i_1))) h3) (
ivk Tryd.prog h_ "Swap" [(.int .i64 i_1), (.int .i64 ((((2 : Int) * i_1) + (1 : Int)) + (1 : Int)))] h3 fun r3 h4 =>
I1 ((((2 : Int) * i_1) + (1 : Int)) + (1 : Int)) h4 ∧ m1 ((((2 : Int) * i_1) + (1 : Int)) + (1 : Int)) h4 < m1 i_1 h1)) (
ivk Tryd.prog h_ "Less" [(.int .i64 (((2 : Int) * i_1) + (1 : Int))), (.int .i64 i_1)] h2 fun r4 h5 =>
∃ t3 : Bool,
r4 = (.bool t3) ∧
bcase (!t3) (
Post (.bool (decide (i0 < i_1))) h5) (
ivk Tryd.prog h_ "Swap" [(.int .i64 i_1), (.int .i64 (((2 : Int) * i_1) + (1 : Int)))] h5 fun r5 h6 =>
I1 (((2 : Int) * i_1) + (1 : Int)) h6 ∧ m1 (((2 : Int) * i_1) + (1 : Int)) h6 < m1 i_1 h1))) (
ivk Tryd.prog h_ "Less" [(.int .i64 (((2 : Int) * i_1) + (1 : Int))), (.int .i64 i_1)] h1 fun r6 h7 =>
∃ t4 : Bool,
r6 = (.bool t4) ∧
bcase (!t4) (
Post (.bool (decide (i0 < i_1))) h7) (
ivk Tryd.prog h_ "Swap" [(.int .i64 i_1), (.int .i64 (((2 : Int) * i_1) + (1 : Int)))] h7 fun r7 h8 =>
I1 (((2 : Int) * i_1) + (1 : Int)) h8 ∧ m1 (((2 : Int) * i_1) + (1 : Int)) h8 < m1 i_1 h1))))) :
    Runs Tryd.prog 41 #[h_, (.int .i64 i0), (.int .i64 n)] h0 Post :=
  runs_of (args := [h_, (.int .i64 i0), (.int .i64 n)]) (fun n => ⟨true, false⟩) (fun n => match n with | 0 => [(7, .int .i64)] | _ => []) (fun _ => none) (fun _ => []) Tryd.func41 rfl (by rw [Tryd.ntmps41]; simp) (Eq.mp (by kernel_rfl) H)
end Go.Proofs.YthnmgpmgfhilhaaDoor
