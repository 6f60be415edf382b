/- The conditions for calls of functions of the program, in plain form: written by a program (vcgen) off the elaborated code; each is the reckoner's own, by the kernel. -/
import Derived.Test.YthnmgpmgfhilhaaDoorRows
import Derived.Test.YthnmgpmgfhilhaaDoorVc
set_option linter.unusedVariables false
set_option maxRecDepth 100000
namespace Go.Proofs.YthnmgpmgfhilhaaDoor
open Go.Vc
theorem vc_sched_New  (h0 : Heap) (Post : Value → Heap → Prop) (H :
∀ (b1 : Nat) (h1 : Heap), b1 = h0.size → h1 = h0.push (.cells ([(.slice none 0 0)] : List Value).toArray 59) →
∀ (b2 : Nat) (h2 : Heap), b2 = h1.size → h2 = h1.push (.cells ([(.pointer none), (.pointer none), (.pointer none), (.pointer none), (.pointer none), (.pointer none), (.pointer none), (.pointer none), (.pointer none), (.pointer none), (.pointer none), (.pointer none), (.pointer none), (.pointer none), (.pointer none), (.pointer none), (.pointer (some ⟨b1, 0, none⟩))] : List Value).toArray 63) →
Post (.pointer (some ⟨b2, 0, none⟩)) h2) :
    Runs Tryd.prog 10 #[] h0 Post :=
  runs_of (args := []) (fun n => ⟨true, false⟩) (fun _ => []) (fun _ => none) (fun _ => []) Tryd.func10 rfl (by rw [Tryd.ntmps10]; simp) (Eq.mp (by kernel_rfl) H)

theorem vc_sched_there (aid : Int) (h0 : Heap) (Post : Value → Heap → Prop) (H :
bcase (decide ((1 : Int) ≤ aid)) (
Post (.bool (decide (aid ≤ (16 : Int)))) h0) (
Post (.bool false) h0)) :
    Runs Tryd.prog 29 #[(.int .i64 aid)] h0 Post :=
  runs_of (args := [(.int .i64 aid)]) (fun n => ⟨true, false⟩) (fun _ => []) (fun _ => none) (fun _ => []) Tryd.func29 rfl (by rw [Tryd.ntmps29]; simp) (Eq.mp (by kernel_rfl) H)

theorem vc_sched_fair (weight : Int) (h0 : Heap) (Post : Value → Heap → Prop) (H :
bcase (decide ((1 : Int) ≤ weight)) (
Post (.bool (decide (weight ≤ (100 : Int)))) h0) (
Post (.bool false) h0)) :
    Runs Tryd.prog 30 #[(.int .i64 weight)] h0 Post :=
  runs_of (args := [(.int .i64 weight)]) (fun n => ⟨true, false⟩) (fun _ => []) (fun _ => none) (fun _ => []) Tryd.func30 rfl (by rw [Tryd.ntmps30]; simp) (Eq.mp (by kernel_rfl) H)

theorem vc_sched_Sched_of (s : Nat) (aid : Int) (h0 : Heap) (Post : Value → Heap → Prop) (H :
Runs Tryd.prog 29 #[(.int .i64 aid)] h0 fun r1 h1 =>
∃ t1 : Bool,
r1 = (.bool t1) ∧
bcase (!t1) (
Post (.pointer none) h1) (
fits .i64 (aid - (1 : Int)) ∧
(0 ≤ (aid - (1 : Int)) ∧ (aid - (1 : Int)) < ((16 : Nat) : Int)) ∧
∃ p1 : Option Addr, cell h1 s (0 + ((aid - (1 : Int))).toNat) = some (.pointer p1) ∧
Post (.pointer p1) h1)) :
    Runs Tryd.prog 31 #[(.pointer (some ⟨s, 0, none⟩)), (.int .i64 aid)] h0 Post :=
  runs_of (args := [(.pointer (some ⟨s, 0, none⟩)), (.int .i64 aid)]) (fun n => ⟨true, false⟩) (fun _ => []) (fun _ => none) (fun _ => []) Tryd.func31 rfl (by rw [Tryd.ntmps31]; simp) (Eq.mp (by kernel_rfl) H)

theorem vc_sched_Sched_Add (s : Nat) (aid : Int) (weight : Int) (h0 : Heap) (Post : Value → Heap → Prop) (H :
Runs Tryd.prog 29 #[(.int .i64 aid)] h0 fun r1 h1 =>
∃ t1 : Bool,
r1 = (.bool t1) ∧
bcase (!t1) (
∃ v1 : Value, cell h1 0 0 = some v1 ∧
Post v1 h1) (
Runs Tryd.prog 30 #[(.int .i64 weight)] h1 fun r2 h2 =>
∃ t2 : Bool,
r2 = (.bool t2) ∧
bcase (!t2) (
∃ v2 : Value, cell h2 0 0 = some v2 ∧
Post v2 h2) (
Runs Tryd.prog 31 #[(.pointer (some ⟨s, 0, none⟩)), (.int .i64 aid)] h2 fun r3 h3 =>
∃ p1 : Option Addr,
r3 = (.pointer p1) ∧
bcase (!(isNilAddr p1)) (
∃ v3 : Value, cell h3 1 0 = some v3 ∧
Post v3 h3) (
fits .i64 (aid - (1 : Int)) ∧
∀ (b1 : Nat) (h4 : Heap), b1 = h3.size → h4 = h3.push (.cells ([(.int .i64 aid), (.int .i64 weight), (.int .i64 (0 : Int)), (.bool false), (.int .i64 (0 : Int))] : List Value).toArray 67) →
(0 ≤ (aid - (1 : Int)) ∧ (aid - (1 : Int)) < ((16 : Nat) : Int)) ∧
wr h4 s (0 + ((aid - (1 : Int))).toNat) ∧ ∀ h5 : Heap, h5 = setc h4 s (0 + ((aid - (1 : Int))).toNat) (.pointer (some ⟨b1, 0, none⟩)) →
Post .nilIface h5)))) :
    Runs Tryd.prog 11 #[(.pointer (some ⟨s, 0, none⟩)), (.int .i64 aid), (.int .i64 weight)] h0 Post :=
  runs_of (args := [(.pointer (some ⟨s, 0, none⟩)), (.int .i64 aid), (.int .i64 weight)]) (fun n => ⟨true, false⟩) (fun _ => []) (fun _ => none) (fun _ => []) Tryd.func11 rfl (by rw [Tryd.ntmps11]; simp) (Eq.mp (by kernel_rfl) H)

theorem vc_sched_Sched_Del (s : Nat) (aid : Int) (h0 : Heap) (Post : Value → Heap → Prop) (H :
Runs Tryd.prog 31 #[(.pointer (some ⟨s, 0, none⟩)), (.int .i64 aid)] h0 fun r1 h1 =>
∃ p1 : Option Addr,
r1 = (.pointer p1) ∧
bcase (isNilAddr p1) (
∃ v1 : Value, cell h1 2 0 = some v1 ∧
Post v1 h1) (
onAddr p1 fun b1 o1 =>
∃ t1 : Bool, cell h1 b1 (o1 + 3) = some (.bool t1) ∧
bcase t1 (
∃ p2 : Option Addr, cell h1 s 16 = some (.pointer p2) ∧
onAddr p1 fun b2 o2 =>
∃ n1 : Int, cell h1 b2 (o2 + 4) = some (.int .i64 n1) ∧
Runs Tryd.prog 34 #[(.iface 56 (.pointer p2)), (.int .i64 n1)] h1 fun r2 h2 =>
∃ v2 : Value,
r2 = v2 ∧
cell h2 s 16 = some (.pointer p2) ∧
fits .i64 (aid - (1 : Int)) ∧
(0 ≤ (aid - (1 : Int)) ∧ (aid - (1 : Int)) < ((16 : Nat) : Int)) ∧
wr h2 s (0 + ((aid - (1 : Int))).toNat) ∧ ∀ h3 : Heap, h3 = setc h2 s (0 + ((aid - (1 : Int))).toNat) (.pointer none) →
Post .nilIface h3) (
fits .i64 (aid - (1 : Int)) ∧
(0 ≤ (aid - (1 : Int)) ∧ (aid - (1 : Int)) < ((16 : Nat) : Int)) ∧
wr h1 s (0 + ((aid - (1 : Int))).toNat) ∧ ∀ h4 : Heap, h4 = setc h1 s (0 + ((aid - (1 : Int))).toNat) (.pointer none) →
Post .nilIface h4))) :
    Runs Tryd.prog 19 #[(.pointer (some ⟨s, 0, none⟩)), (.int .i64 aid)] h0 Post :=
  runs_of (args := [(.pointer (some ⟨s, 0, none⟩)), (.int .i64 aid)]) (fun n => ⟨true, false⟩) (fun _ => []) (fun _ => none) (fun _ => []) Tryd.func19 rfl (by rw [Tryd.ntmps19]; simp) (Eq.mp (by kernel_rfl) H)

theorem vc_sched_Sched_Weigh (s : Nat) (aid : Int) (weight : Int) (h0 : Heap) (Post : Value → Heap → Prop) (H :
Runs Tryd.prog 31 #[(.pointer (some ⟨s, 0, none⟩)), (.int .i64 aid)] h0 fun r1 h1 =>
∃ p1 : Option Addr,
r1 = (.pointer p1) ∧
bcase (isNilAddr p1) (
∃ v1 : Value, cell h1 2 0 = some v1 ∧
Post v1 h1) (
Runs Tryd.prog 30 #[(.int .i64 weight)] h1 fun r2 h2 =>
∃ t1 : Bool,
r2 = (.bool t1) ∧
bcase (!t1) (
∃ v2 : Value, cell h2 0 0 = some v2 ∧
Post v2 h2) (
onAddr p1 fun b1 o1 =>
wr h2 b1 (o1 + 1) ∧ ∀ h3 : Heap, h3 = setc h2 b1 (o1 + 1) (.int .i64 weight) →
Post .nilIface h3))) :
    Runs Tryd.prog 16 #[(.pointer (some ⟨s, 0, none⟩)), (.int .i64 aid), (.int .i64 weight)] h0 Post :=
  runs_of (args := [(.pointer (some ⟨s, 0, none⟩)), (.int .i64 aid), (.int .i64 weight)]) (fun n => ⟨true, false⟩) (fun _ => []) (fun _ => none) (fun _ => []) Tryd.func16 rfl (by rw [Tryd.ntmps16]; simp) (Eq.mp (by kernel_rfl) H)

theorem vc_sched_Sched_Active (s : Nat) (aid : Int) (on : Bool) (h0 : Heap) (Post : Value → Heap → Prop) (H :
Runs Tryd.prog 31 #[(.pointer (some ⟨s, 0, none⟩)), (.int .i64 aid)] h0 fun r1 h1 =>
∃ p1 : Option Addr,
r1 = (.pointer p1) ∧
bcase (isNilAddr p1) (
∃ v1 : Value, cell h1 2 0 = some v1 ∧
Post v1 h1) (
bcase on (
onAddr p1 fun b1 o1 =>
∃ t1 : Bool, cell h1 b1 (o1 + 3) = some (.bool t1) ∧
bcase (!t1) (
∃ p2 : Option Addr, cell h1 s 16 = some (.pointer p2) ∧
Runs Tryd.prog 32 #[(.pointer p2)] h1 fun r2 h2 =>
∃ n1 : Int,
r2 = (.int .i64 n1) ∧
bcase (decide ((0 : Int) < n1)) (
onAddr p1 fun b2 o2 =>
∃ n2 : Int, cell h2 b2 (o2 + 2) = some (.int .i64 n2) ∧
∃ p3 : Option Addr, cell h2 s 16 = some (.pointer p3) ∧
onAddr p3 fun b3 o3 =>
∃ (s1 : Option Addr) (s1l s1c : Nat), cell h2 b3 o3 = some (.slice s1 s1l s1c) ∧
(0 ≤ (0 : Int) ∧ (0 : Int) < ((s1l : Nat) : Int)) ∧
onAddr s1 fun b4 o4 =>
∃ p4 : Option Addr, cell h2 b4 o4 = some (.pointer p4) ∧
onAddr p4 fun b5 o5 =>
∃ n3 : Int, cell h2 b5 (o5 + 2) = some (.int .i64 n3) ∧
onAddr p1 fun b6 o6 =>
wr h2 b6 (o6 + 2) ∧ ∀ h3 : Heap, h3 = setc h2 b6 (o6 + 2) (.int .i64 (max n2 n3)) →
onAddr p1 fun b7 o7 =>
wr h3 b7 (o7 + 3) ∧ ∀ h4 : Heap, h4 = setc h3 b7 (o7 + 3) (.bool true) →
∃ p5 : Option Addr, cell h4 s 16 = some (.pointer p5) ∧
Runs Tryd.prog 33 #[(.iface 56 (.pointer p5)), (.iface 60 (.pointer p1))] h4 fun r3 h5 =>
Post .nilIface h5) (
onAddr p1 fun b8 o8 =>
wr h2 b8 (o8 + 3) ∧ ∀ h6 : Heap, h6 = setc h2 b8 (o8 + 3) (.bool true) →
∃ p6 : Option Addr, cell h6 s 16 = some (.pointer p6) ∧
Runs Tryd.prog 33 #[(.iface 56 (.pointer p6)), (.iface 60 (.pointer p1))] h6 fun r4 h7 =>
Post .nilIface h7)) (
bcase (!on) (
onAddr p1 fun b9 o9 =>
∃ t2 : Bool, cell h1 b9 (o9 + 3) = some (.bool t2) ∧
bcase t2 (
onAddr p1 fun b10 o10 =>
wr h1 b10 (o10 + 3) ∧ ∀ h8 : Heap, h8 = setc h1 b10 (o10 + 3) (.bool false) →
∃ p7 : Option Addr, cell h8 s 16 = some (.pointer p7) ∧
onAddr p1 fun b11 o11 =>
∃ n4 : Int, cell h8 b11 (o11 + 4) = some (.int .i64 n4) ∧
Runs Tryd.prog 34 #[(.iface 56 (.pointer p7)), (.int .i64 n4)] h8 fun r5 h9 =>
∃ v2 : Value,
r5 = v2 ∧
cell h9 s 16 = some (.pointer p7) ∧
Post .nilIface h9) (
Post .nilIface h1)) (
Post .nilIface h1))) (
bcase (!on) (
onAddr p1 fun b12 o12 =>
∃ t3 : Bool, cell h1 b12 (o12 + 3) = some (.bool t3) ∧
bcase t3 (
onAddr p1 fun b13 o13 =>
wr h1 b13 (o13 + 3) ∧ ∀ h10 : Heap, h10 = setc h1 b13 (o13 + 3) (.bool false) →
∃ p8 : Option Addr, cell h10 s 16 = some (.pointer p8) ∧
onAddr p1 fun b14 o14 =>
∃ n5 : Int, cell h10 b14 (o14 + 4) = some (.int .i64 n5) ∧
Runs Tryd.prog 34 #[(.iface 56 (.pointer p8)), (.int .i64 n5)] h10 fun r6 h11 =>
∃ v3 : Value,
r6 = v3 ∧
cell h11 s 16 = some (.pointer p8) ∧
Post .nilIface h11) (
Post .nilIface h1)) (
Post .nilIface h1)))) :
    Runs Tryd.prog 12 #[(.pointer (some ⟨s, 0, none⟩)), (.int .i64 aid), (.bool on)] h0 Post :=
  runs_of (args := [(.pointer (some ⟨s, 0, none⟩)), (.int .i64 aid), (.bool on)]) (fun n => ⟨true, false⟩) (fun _ => []) (fun _ => none) (fun _ => []) Tryd.func12 rfl (by rw [Tryd.ntmps12]; simp) (Eq.mp (by kernel_rfl) H)

theorem vc_sched_Sched_Charge (s : Nat) (aid : Int) (air : Int) (h0 : Heap) (Post : Value → Heap → Prop) (H :
Runs Tryd.prog 31 #[(.pointer (some ⟨s, 0, none⟩)), (.int .i64 aid)] h0 fun r1 h1 =>
∃ p1 : Option Addr,
r1 = (.pointer p1) ∧
bcase (isNilAddr p1) (
∃ v1 : Value, cell h1 2 0 = some v1 ∧
Post v1 h1) (
bcase (decide (air < (0 : Int))) (
∃ v2 : Value, cell h1 0 0 = some v2 ∧
Post v2 h1) (
bcase (decide ((1099511627776 : Int) < air)) (
∃ v3 : Value, cell h1 0 0 = some v3 ∧
Post v3 h1) (
onAddr p1 fun b1 o1 =>
∃ n1 : Int, cell h1 b1 (o1 + 2) = some (.int .i64 n1) ∧
fits .i64 ((10000 : Int) * air) ∧
onAddr p1 fun b2 o2 =>
∃ n2 : Int, cell h1 b2 (o2 + 1) = some (.int .i64 n2) ∧
(0 ≤ ((10000 : Int) * air) ∧ 0 < n2 ∧ fits .i64 (((10000 : Int) * air) / n2)) ∧
fits .i64 (n1 + (((10000 : Int) * air) / n2)) ∧
onAddr p1 fun b3 o3 =>
wr h1 b3 (o3 + 2) ∧ ∀ h2 : Heap, h2 = setc h1 b3 (o3 + 2) (.int .i64 (min (n1 + (((10000 : Int) * air) / n2)) (1152921504606846976 : Int))) →
onAddr p1 fun b4 o4 =>
∃ t1 : Bool, cell h2 b4 (o4 + 3) = some (.bool t1) ∧
bcase t1 (
∃ p2 : Option Addr, cell h2 s 16 = some (.pointer p2) ∧
onAddr p1 fun b5 o5 =>
∃ n3 : Int, cell h2 b5 (o5 + 4) = some (.int .i64 n3) ∧
Runs Tryd.prog 35 #[(.iface 56 (.pointer p2)), (.int .i64 n3)] h2 fun r2 h3 =>
cell h3 s 16 = some (.pointer p2) ∧
Post .nilIface h3) (
Post .nilIface h2))))) :
    Runs Tryd.prog 14 #[(.pointer (some ⟨s, 0, none⟩)), (.int .i64 aid), (.int .i64 air)] h0 Post :=
  runs_of (args := [(.pointer (some ⟨s, 0, none⟩)), (.int .i64 aid), (.int .i64 air)]) (fun n => ⟨true, false⟩) (fun _ => []) (fun _ => none) (fun _ => []) Tryd.func14 rfl (by rw [Tryd.ntmps14]; simp) (Eq.mp (by kernel_rfl) H)

theorem vc_sched_Sched_Order (s : Nat) (h0 : Heap) (Post : Value → Heap → Prop) (H :
∀ (b1 : Nat) (h1 : Heap), b1 = h0.size → h1 = h0.push (.cells ([(.slice none 0 0)] : List Value).toArray 59) →
∃ p1 : Option Addr, cell h1 s 16 = some (.pointer p1) ∧
onAddr p1 fun b2 o1 =>
∃ (s1 : Option Addr) (s1l s1c : Nat), cell h1 b2 o1 = some (.slice s1 s1l s1c) ∧
∃ (I1 : Int → Heap → Prop) (m1 : Int → Heap → Nat), I1 (0 : Int) h1 ∧ ∀ _ : Env,
∀ (x1 : Int) (h2 : Heap), I1 x1 h2 →
bcase (decide (x1 < ((s1l : Nat) : Int))) (
(0 ≤ x1 ∧ x1 < ((s1l : Nat) : Int)) ∧
onAddr s1 fun b3 o2 =>
∃ p2 : Option Addr, cell h2 b3 (o2 + (x1).toNat) = some (.pointer p2) ∧
onAddr p2 fun b4 o3 =>
∃ cs1 : List Value, row h2 b4 o3 5 = some cs1 ∧
∀ (b5 : Nat) (h3 : Heap), b5 = h2.size → h3 = h2.push (.cells ([(.int .i64 (0 : Int)), (.int .i64 (0 : Int)), (.int .i64 (0 : Int)), (.bool false), (.int .i64 (0 : Int))] : List Value).toArray 67) →
(((cs1)).length = 5 ∧ wrs h3 b5 0 5 ∧ ∀ u ∈ ((cs1) : List Value), u.oneCell' = true) ∧ ∀ h4 : Heap, h4 = setr h3 b5 0 (cs1) →
Runs Tryd.prog 33 #[(.iface 56 (.pointer (some ⟨b1, 0, none⟩))), (.iface 60 (.pointer (some ⟨b5, 0, none⟩)))] h4 fun r1 h5 =>
fits .i64 (x1 + (1 : Int)) ∧
I1 (x1 + (1 : Int)) h5 ∧ m1 (x1 + (1 : Int)) h5 < m1 x1 h2) (
∃ (I2 : Option Addr → Nat → Nat → Heap → Prop) (m2 : Option Addr → Nat → Nat → Heap → Nat), I2 none 0 0 h2 ∧ ∀ _ : Env,
∀ (out_1 : Option Addr) (out_1l out_1c : Nat) (h6 : Heap), I2 out_1 out_1l out_1c h6 →
Runs Tryd.prog 32 #[(.pointer (some ⟨b1, 0, none⟩))] h6 fun r2 h7 =>
∃ n1 : Int,
r2 = (.int .i64 n1) ∧
bcase (decide ((0 : Int) < n1)) (
∃ (s2 : Option Addr) (s2l s2c : Nat), cell h7 b1 0 = some (.slice s2 s2l s2c) ∧
(0 ≤ (0 : Int) ∧ (0 : Int) < ((s2l : Nat) : Int)) ∧
onAddr s2 fun b6 o4 =>
∃ p3 : Option Addr, cell h7 b6 o4 = some (.pointer p3) ∧
onAddr p3 fun b7 o5 =>
∃ n2 : Int, cell h7 b7 o5 = some (.int .i64 n2) ∧
∀ (b8 : Nat) (h8 : Heap), b8 = h7.size → h8 = h7.push (.cells ([(.int .i64 n2)] : List Value).toArray 3) →
∃ news1 : List Value, (row h8 b8 0 1 = some news1 ∧ ∀ u ∈ news1, u.oneCell' = true) ∧
appK h8 out_1 out_1l out_1c 1 1 3 8 news1 fun (a1 : Option Addr) (cap1 : Nat) (h9 : Heap) =>
Runs Tryd.prog 34 #[(.iface 56 (.pointer (some ⟨b1, 0, none⟩))), (.int .i64 (0 : Int))] h9 fun r3 h10 =>
∃ v1 : Value,
r3 = v1 ∧
I2 a1 (out_1l + 1) cap1 h10 ∧ m2 a1 (out_1l + 1) cap1 h10 < m2 out_1 out_1l out_1c h6) (
Post (.slice out_1 out_1l out_1c) h7))) :
    Runs Tryd.prog 13 #[(.pointer (some ⟨s, 0, none⟩))] h0 Post :=
  runs_of (args := [(.pointer (some ⟨s, 0, none⟩))]) (fun n => ⟨true, false⟩) (fun n => match n with | 0 => [(18, .int .i64)] | 2 => [(7, .slice)] | _ => []) (fun _ => none) (fun _ => []) Tryd.func13 rfl (by rw [Tryd.ntmps13]; simp) (Eq.mp (by kernel_rfl) H)

theorem vc_sched_Sched_Time (s : Nat) (aid : Int) (h0 : Heap) (Post : Value → Heap → Prop) (H :
Runs Tryd.prog 31 #[(.pointer (some ⟨s, 0, none⟩)), (.int .i64 aid)] h0 fun r1 h1 =>
∃ p1 : Option Addr,
r1 = (.pointer p1) ∧
bcase (isNilAddr p1) (
Post (.tuple #[(.int .i64 (0 : Int)), (.bool false)]) h1) (
onAddr p1 fun b1 o1 =>
∃ n1 : Int, cell h1 b1 (o1 + 2) = some (.int .i64 n1) ∧
Post (.tuple #[(.int .i64 n1), (.bool true)]) h1)) :
    Runs Tryd.prog 15 #[(.pointer (some ⟨s, 0, none⟩)), (.int .i64 aid)] h0 Post :=
  runs_of (args := [(.pointer (some ⟨s, 0, none⟩)), (.int .i64 aid)]) (fun n => ⟨true, false⟩) (fun _ => []) (fun _ => none) (fun _ => []) Tryd.func15 rfl (by rw [Tryd.ntmps15]; simp) (Eq.mp (by kernel_rfl) H)

theorem vc_sched_Sched_Clone (s : Nat) (h0 : Heap) (Post : Value → Heap → Prop) (H :
Runs Tryd.prog 10 #[] h0 fun r1 h1 =>
∃ p1 : Option Addr,
r1 = (.pointer p1) ∧
∃ cs1 : List Value, row h1 s 0 16 = some cs1 ∧
∃ (I1 : Int → Heap → Prop) (m1 : Int → Heap → Nat), I1 (0 : Int) h1 ∧ ∀ _ : Env,
∀ (x1 : Int) (h2 : Heap), I1 x1 h2 →
bcase (decide (x1 < (16 : Int))) (
(0 ≤ x1 ∧ x1 < ((16 : Nat) : Int)) ∧
∃ p2 : Option Addr, cs1[(x1).toNat]? = some (.pointer p2) ∧
bcase (isNilAddr p2) (
fits .i64 (x1 + (1 : Int)) ∧
I1 (x1 + (1 : Int)) h2 ∧ m1 (x1 + (1 : Int)) h2 < m1 x1 h2) (
onAddr p2 fun b1 o1 =>
∃ cs2 : List Value, row h2 b1 o1 5 = some cs2 ∧
∀ (b2 : Nat) (h3 : Heap), b2 = h2.size → h3 = h2.push (.cells ([(.int .i64 (0 : Int)), (.int .i64 (0 : Int)), (.int .i64 (0 : Int)), (.bool false), (.int .i64 (0 : Int))] : List Value).toArray 67) →
(((cs2)).length = 5 ∧ wrs h3 b2 0 5 ∧ ∀ u ∈ ((cs2) : List Value), u.oneCell' = true) ∧ ∀ h4 : Heap, h4 = setr h3 b2 0 (cs2) →
onAddr p1 fun b3 o2 =>
(0 ≤ x1 ∧ x1 < ((16 : Nat) : Int)) ∧
wr h4 b3 (o2 + (x1).toNat) ∧ ∀ h5 : Heap, h5 = setc h4 b3 (o2 + (x1).toNat) (.pointer (some ⟨b2, 0, none⟩)) →
∃ t1 : Bool, cell h5 b2 3 = some (.bool t1) ∧
bcase t1 (
onAddr p1 fun b4 o3 =>
∃ p3 : Option Addr, cell h5 b4 (o3 + 16) = some (.pointer p3) ∧
Runs Tryd.prog 33 #[(.iface 56 (.pointer p3)), (.iface 60 (.pointer (some ⟨b2, 0, none⟩)))] h5 fun r2 h6 =>
fits .i64 (x1 + (1 : Int)) ∧
I1 (x1 + (1 : Int)) h6 ∧ m1 (x1 + (1 : Int)) h6 < m1 x1 h2) (
fits .i64 (x1 + (1 : Int)) ∧
I1 (x1 + (1 : Int)) h5 ∧ m1 (x1 + (1 : Int)) h5 < m1 x1 h2))) (
Post (.pointer p1) h2)) :
    Runs Tryd.prog 21 #[(.pointer (some ⟨s, 0, none⟩))] h0 Post :=
  runs_of (args := [(.pointer (some ⟨s, 0, none⟩))]) (fun n => ⟨true, false⟩) (fun n => match n with | 0 => [(12, .int .i64)] | _ => []) (fun _ => none) (fun _ => []) Tryd.func21 rfl (by rw [Tryd.ntmps21]; simp) (Eq.mp (by kernel_rfl) H)
end Go.Proofs.YthnmgpmgfhilhaaDoor
