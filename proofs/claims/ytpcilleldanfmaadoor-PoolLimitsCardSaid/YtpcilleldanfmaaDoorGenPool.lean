/- The conditions for calls of functions of the program, in plain form: written by a program (vcgen) off the elaborated code; each is the reckoner's own, by the kernel. -/
import Derived.Test.YtpcilleldanfmaaDoorRows
import Derived.Test.YtpcilleldanfmaaDoorVc
set_option linter.unusedVariables false
set_option maxRecDepth 100000
namespace Go.Proofs.YtpcilleldanfmaaDoor
open Go.Vc
theorem vc_pool_New (seed : Int) (target : Int) (interval : Int) (packets : Int) (bytes : Int) (h0 : Heap) (Post : Value → Heap → Prop) (H :
bcase (decide (packets < (1 : Int))) (
∃ v1 : Value, cell h0 0 0 = some v1 ∧
Post (.tuple #[(.pointer none), v1]) h0) (
bcase (decide ((512 : Int) < packets)) (
∃ v2 : Value, cell h0 0 0 = some v2 ∧
Post (.tuple #[(.pointer none), v2]) h0) (
bcase (decide (bytes < (1 : Int))) (
∃ v3 : Value, cell h0 0 0 = some v3 ∧
Post (.tuple #[(.pointer none), v3]) h0) (
bcase (decide ((1048576 : Int) < bytes)) (
∃ v4 : Value, cell h0 0 0 = some v4 ∧
Post (.tuple #[(.pointer none), v4]) h0) (
∀ (b1 : Nat) (h1 : Heap), b1 = h0.size → h1 = h0.push (.cells ([(.int .u32 seed), (.int .i64 target), (.int .i64 interval), (.int .i64 packets), (.int .i64 bytes), (.pointer none), (.pointer none), (.pointer none), (.pointer none), (.pointer none), (.pointer none), (.pointer none), (.pointer none), (.pointer none), (.pointer none), (.pointer none), (.pointer none), (.pointer none), (.pointer none), (.pointer none), (.pointer none), (.pointer none), (.pointer none), (.pointer none), (.pointer none), (.pointer none), (.pointer none), (.pointer none), (.pointer none), (.pointer none), (.pointer none), (.pointer none), (.pointer none), (.pointer none), (.pointer none), (.pointer none), (.pointer none), (.pointer none), (.pointer none), (.pointer none), (.pointer none), (.pointer none), (.pointer none), (.pointer none), (.pointer none), (.pointer none), (.pointer none), (.pointer none), (.pointer none), (.pointer none), (.pointer none), (.pointer none), (.pointer none), (.pointer none), (.pointer none), (.pointer none), (.pointer none), (.pointer none), (.pointer none), (.pointer none), (.pointer none), (.pointer none), (.pointer none), (.pointer none), (.pointer none), (.pointer none), (.pointer none), (.pointer none), (.pointer none), (.pointer none), (.pointer none), (.pointer none), (.pointer none), (.pointer none), (.pointer none), (.pointer none), (.pointer none), (.pointer none), (.pointer none), (.pointer none), (.pointer none), (.pointer none), (.pointer none), (.pointer none), (.pointer none), (.pointer none), (.pointer none), (.pointer none), (.pointer none), (.pointer none), (.pointer none), (.pointer none), (.pointer none), (.pointer none), (.pointer none), (.pointer none), (.pointer none), (.pointer none), (.pointer none), (.pointer none), (.pointer none), (.pointer none), (.pointer none), (.pointer none), (.pointer none), (.pointer none), (.pointer none), (.pointer none), (.pointer none), (.pointer none), (.pointer none), (.pointer none), (.pointer none), (.pointer none), (.pointer none), (.pointer none), (.pointer none), (.pointer none), (.pointer none), (.pointer none), (.pointer none), (.pointer none), (.pointer none), (.pointer none), (.pointer none), (.pointer none), (.pointer none), (.pointer none), (.pointer none), (.pointer none), (.pointer none), (.pointer none), (.pointer none)] : List Value).toArray 64) →
∃ (I1 : Int → Heap → Prop) (m1 : Int → Heap → Nat), I1 (0 : Int) h1 ∧ ∀ _ : Env,
∀ (x1 : Int) (h2 : Heap), I1 x1 h2 →
bcase (decide (x1 < (16 : Int))) (
Runs Tryd.prog 28 #[(.pointer (some ⟨b1, 0, none⟩)), (.int .i64 x1)] h2 fun r1 h3 =>
fits .i64 (x1 + (1 : Int)) ∧
I1 (x1 + (1 : Int)) h3 ∧ m1 (x1 + (1 : Int)) h3 < m1 x1 h2) (
Post (.tuple #[(.pointer (some ⟨b1, 0, none⟩)), .nilIface]) h2)))))) :
    Runs Tryd.prog 9 #[(.int .u32 seed), (.int .i64 target), (.int .i64 interval), (.int .i64 packets), (.int .i64 bytes)] h0 Post :=
  runs_of (args := [(.int .u32 seed), (.int .i64 target), (.int .i64 interval), (.int .i64 packets), (.int .i64 bytes)]) (fun n => ⟨true, false⟩) (fun n => match n with | 0 => [(36, .int .i64)] | _ => []) (fun _ => none) (fun _ => []) Tryd.func9 rfl (by rw [Tryd.ntmps9]; simp) (Eq.mp (by kernel_rfl) H)

theorem vc_pool_there (aid : Int) (tid : Int) (h0 : Heap) (Post : Value → Heap → Prop) (H :
bcase (decide ((1 : Int) ≤ aid)) (
bcase (decide (aid ≤ (16 : Int))) (
bcase (decide ((0 : Int) ≤ tid)) (
Post (.bool (decide (tid < (8 : Int)))) h0) (
Post (.bool false) h0)) (
Post (.bool false) h0)) (
Post (.bool false) h0)) :
    Runs Tryd.prog 29 #[(.int .i64 aid), (.int .i64 tid)] h0 Post :=
  runs_of (args := [(.int .i64 aid), (.int .i64 tid)]) (fun n => ⟨true, false⟩) (fun _ => []) (fun _ => none) (fun _ => []) Tryd.func29 rfl (by rw [Tryd.ntmps29]; simp) (Eq.mp (by kernel_rfl) H)

theorem vc_pool_Pool_Len_1 (q : Option Addr) (c0 : Option Addr) (h0 : Heap) (Post : Value → Heap → Prop) (H :
onAddr c0 fun b1 o1 =>
∃ n1 : Int, cell h0 b1 o1 = some (.int .i64 n1) ∧
Runs Tryd.prog 33 #[(.pointer q)] h0 fun r1 h1 =>
∃ n2 : Int,
r1 = (.int .i64 n2) ∧
cell h1 b1 o1 = some (.int .i64 n1) ∧
fits .i64 (n1 + n2) ∧
onAddr c0 fun b2 o2 =>
wr h1 b2 o2 ∧ ∀ h2 : Heap, h2 = setc h1 b2 o2 (.int .i64 (n1 + n2)) →
Post (.tuple #[]) h2) :
    Runs Tryd.prog 35 #[(.pointer q), (.pointer c0)] h0 Post :=
  runs_of (args := [(.pointer q), (.pointer c0)]) (fun n => ⟨true, false⟩) (fun _ => []) (fun _ => none) (fun _ => []) Tryd.func35 rfl (by rw [Tryd.ntmps35]; simp) (Eq.mp (by kernel_rfl) H)

theorem vc_pool_Pool_Bytes_1 (q : Option Addr) (c0 : Option Addr) (h0 : Heap) (Post : Value → Heap → Prop) (H :
onAddr c0 fun b1 o1 =>
∃ n1 : Int, cell h0 b1 o1 = some (.int .i64 n1) ∧
Runs Tryd.prog 37 #[(.pointer q)] h0 fun r1 h1 =>
∃ n2 : Int,
r1 = (.int .i64 n2) ∧
cell h1 b1 o1 = some (.int .i64 n1) ∧
fits .i64 (n1 + n2) ∧
onAddr c0 fun b2 o2 =>
wr h1 b2 o2 ∧ ∀ h2 : Heap, h2 = setc h1 b2 o2 (.int .i64 (n1 + n2)) →
Post (.tuple #[]) h2) :
    Runs Tryd.prog 36 #[(.pointer q), (.pointer c0)] h0 Post :=
  runs_of (args := [(.pointer q), (.pointer c0)]) (fun n => ⟨true, false⟩) (fun _ => []) (fun _ => none) (fun _ => []) Tryd.func36 rfl (by rw [Tryd.ntmps36]; simp) (Eq.mp (by kernel_rfl) H)

theorem vc_pool_Pool_shrink_1 (q : Option Addr) (c0 : Option Addr) (c1 : Option Addr) (c2 : Option Addr) (h0 : Heap) (Post : Value → Heap → Prop) (H :
Runs Tryd.prog 58 #[(.pointer q)] h0 fun r1 h1 =>
∃ n1 : Int,
∃ n2 : Int,
r1 = (.tuple #[(.int .i64 n1), (.int .i64 n2)]) ∧
Runs Tryd.prog 33 #[(.pointer q)] h1 fun r2 h2 =>
∃ n3 : Int,
r2 = (.int .i64 n3) ∧
bcase (decide ((0 : Int) < n3)) (
onAddr c0 fun b1 o1 =>
∃ n4 : Int, cell h2 b1 o1 = some (.int .i64 n4) ∧
bcase (decide (n4 < n2)) (
onAddr c1 fun b2 o2 =>
wr h2 b2 o2 ∧ ∀ h3 : Heap, h3 = setc h2 b2 o2 (.pointer q) →
onAddr c2 fun b3 o3 =>
wr h3 b3 o3 ∧ ∀ h4 : Heap, h4 = setc h3 b3 o3 (.int .i64 n1) →
onAddr c0 fun b4 o4 =>
wr h4 b4 o4 ∧ ∀ h5 : Heap, h5 = setc h4 b4 o4 (.int .i64 n2) →
Post (.tuple #[]) h5) (
Post (.tuple #[]) h2)) (
Post (.tuple #[]) h2)) :
    Runs Tryd.prog 57 #[(.pointer q), (.pointer c0), (.pointer c1), (.pointer c2)] h0 Post :=
  runs_of (args := [(.pointer q), (.pointer c0), (.pointer c1), (.pointer c2)]) (fun n => ⟨true, false⟩) (fun _ => []) (fun _ => none) (fun _ => []) Tryd.func57 rfl (by rw [Tryd.ntmps57]; simp) (Eq.mp (by kernel_rfl) H)

theorem vc_pool_Pool_renew (p : Nat) (i : Int) (h0 : Heap) (Post : Value → Heap → Prop) (H :
∃ (I1 : Int → Heap → Prop) (m1 : Int → Heap → Nat), I1 (0 : Int) h0 ∧ ∀ _ : Env,
∀ (x1 : Int) (h1 : Heap), I1 x1 h1 →
bcase (decide (x1 < (8 : Int))) (
∃ n1 : Int, cell h1 p 0 = some (.int .u32 n1) ∧
∃ n2 : Int, cell h1 p 1 = some (.int .i64 n2) ∧
∃ n3 : Int, cell h1 p 2 = some (.int .i64 n3) ∧
(0 ≤ i ∧ i < ((16 : Nat) : Int)) ∧
Runs Tryd.prog 53 #[(.int .u32 n1), (.int .i64 n2), (.int .i64 n3)] h1 fun r1 h2 =>
∃ p1 : Option Addr,
r1 = (.pointer p1) ∧
(0 ≤ x1 ∧ x1 < ((8 : Nat) : Int)) ∧
wr h2 p ((5 + ((i).toNat * 8)) + (x1).toNat) ∧ ∀ h3 : Heap, h3 = setc h2 p ((5 + ((i).toNat * 8)) + (x1).toNat) (.pointer p1) →
fits .i64 (x1 + (1 : Int)) ∧
I1 (x1 + (1 : Int)) h3 ∧ m1 (x1 + (1 : Int)) h3 < m1 x1 h1) (
Post (.tuple #[]) h1)) :
    Runs Tryd.prog 28 #[(.pointer (some ⟨p, 0, none⟩)), (.int .i64 i)] h0 Post :=
  runs_of (args := [(.pointer (some ⟨p, 0, none⟩)), (.int .i64 i)]) (fun n => ⟨true, false⟩) (fun n => match n with | 0 => [(5, .int .i64)] | _ => []) (fun _ => none) (fun _ => []) Tryd.func28 rfl (by rw [Tryd.ntmps28]; simp) (Eq.mp (by kernel_rfl) H)

theorem vc_pool_Pool_each (p : Nat) (f : Value) (h0 : Heap) (Post : Value → Heap → Prop) (H :
∃ (I1 : Int → Heap → Prop) (m1 : Int → Heap → Nat), I1 (0 : Int) h0 ∧ ∀ _ : Env,
∀ (x1 : Int) (h1 : Heap), I1 x1 h1 →
bcase (decide (x1 < (16 : Int))) (
∃ (I2 : Int → Heap → Prop) (m2 : Int → Heap → Nat), I2 (0 : Int) h1 ∧ ∀ _ : Env,
∀ (x2 : Int) (h2 : Heap), I2 x2 h2 →
bcase (decide (x2 < (8 : Int))) (
(0 ≤ x1 ∧ x1 < ((16 : Nat) : Int)) ∧
(0 ≤ x2 ∧ x2 < ((8 : Nat) : Int)) ∧
∃ p1 : Option Addr, cell h2 p ((5 + ((x1).toNat * 8)) + (x2).toNat) = some (.pointer p1) ∧
callv Tryd.prog f [(.pointer p1)] h2 fun r1 h3 =>
fits .i64 (x2 + (1 : Int)) ∧
I2 (x2 + (1 : Int)) h3 ∧ m2 (x2 + (1 : Int)) h3 < m2 x2 h2) (
fits .i64 (x1 + (1 : Int)) ∧
I1 (x1 + (1 : Int)) h2 ∧ m1 (x1 + (1 : Int)) h2 < m1 x1 h1)) (
Post (.tuple #[]) h1)) :
    Runs Tryd.prog 34 #[(.pointer (some ⟨p, 0, none⟩)), f] h0 Post :=
  runs_of (args := [(.pointer (some ⟨p, 0, none⟩)), f]) (fun n => ⟨true, false⟩) (fun n => match n with | 0 => [(6, .int .i64)] | 2 => [(9, .int .i64)] | _ => []) (fun _ => none) (fun _ => []) Tryd.func34 rfl (by rw [Tryd.ntmps34]; simp) (Eq.mp (by kernel_rfl) H)

theorem vc_pool_Pool_Len (p : Nat) (h0 : Heap) (Post : Value → Heap → Prop) (H :
∀ (b1 : Nat) (h1 : Heap), b1 = h0.size → h1 = h0.push (.cells ([(.int .i64 (0 : Int))] : List Value).toArray 3) →
wr h1 b1 0 ∧ ∀ h2 : Heap, h2 = setc h1 b1 0 (.int .i64 (0 : Int)) →
Runs Tryd.prog 34 #[(.pointer (some ⟨p, 0, none⟩)), (.func (.func 35) #[] #[(.pointer (some ⟨b1, 0, none⟩))])] h2 fun r1 h3 =>
∃ n1 : Int, cell h3 b1 0 = some (.int .i64 n1) ∧
Post (.int .i64 n1) h3) :
    Runs Tryd.prog 13 #[(.pointer (some ⟨p, 0, none⟩))] h0 Post :=
  runs_of (args := [(.pointer (some ⟨p, 0, none⟩))]) (fun n => ⟨true, false⟩) (fun _ => []) (fun _ => none) (fun _ => []) Tryd.func13 rfl (by rw [Tryd.ntmps13]; simp) (Eq.mp (by kernel_rfl) H)

theorem vc_pool_Pool_Bytes (p : Nat) (h0 : Heap) (Post : Value → Heap → Prop) (H :
∀ (b1 : Nat) (h1 : Heap), b1 = h0.size → h1 = h0.push (.cells ([(.int .i64 (0 : Int))] : List Value).toArray 3) →
wr h1 b1 0 ∧ ∀ h2 : Heap, h2 = setc h1 b1 0 (.int .i64 (0 : Int)) →
Runs Tryd.prog 34 #[(.pointer (some ⟨p, 0, none⟩)), (.func (.func 36) #[] #[(.pointer (some ⟨b1, 0, none⟩))])] h2 fun r1 h3 =>
∃ n1 : Int, cell h3 b1 0 = some (.int .i64 n1) ∧
Post (.int .i64 n1) h3) :
    Runs Tryd.prog 14 #[(.pointer (some ⟨p, 0, none⟩))] h0 Post :=
  runs_of (args := [(.pointer (some ⟨p, 0, none⟩))]) (fun n => ⟨true, false⟩) (fun _ => []) (fun _ => none) (fun _ => []) Tryd.func14 rfl (by rw [Tryd.ntmps14]; simp) (Eq.mp (by kernel_rfl) H)

theorem vc_pool_Pool_shrink (p : Nat) (h0 : Heap) (Post : Value → Heap → Prop) (H :
∀ (b1 : Nat) (h1 : Heap), b1 = h0.size → h1 = h0.push (.cells ([(.int .i64 (0 : Int)), (.int .u32 (0 : Int)), (.int .i64 (0 : Int)), (.int .i64 (0 : Int)), (.slice none 0 0)] : List Value).toArray 35) →
∀ (b2 : Nat) (h2 : Heap), b2 = h1.size → h2 = h1.push (.cells ([(.pointer none)] : List Value).toArray 60) →
∀ (b3 : Nat) (h3 : Heap), b3 = h2.size → h3 = h2.push (.cells ([(.int .i64 (0 : Int))] : List Value).toArray 3) →
∀ (b4 : Nat) (h4 : Heap), b4 = h3.size → h4 = h3.push (.cells ([(.int .i64 (0 : Int))] : List Value).toArray 3) →
wr h4 b3 0 ∧ ∀ h5 : Heap, h5 = setc h4 b3 0 (.int .i64 (0 : Int)) →
wr h5 b4 0 ∧ ∀ h6 : Heap, h6 = setc h5 b4 0 (.int .i64 (-1 : Int)) →
Runs Tryd.prog 34 #[(.pointer (some ⟨p, 0, none⟩)), (.func (.func 57) #[] #[(.pointer (some ⟨b4, 0, none⟩)), (.pointer (some ⟨b2, 0, none⟩)), (.pointer (some ⟨b3, 0, none⟩))])] h6 fun r1 h7 =>
∃ p1 : Option Addr, cell h7 b2 0 = some (.pointer p1) ∧
bcase (isNilAddr p1) (
((([(.int .i64 (0 : Int)), (.int .u32 (0 : Int)), (.int .i64 (0 : Int)), (.int .i64 (0 : Int)), (.slice none 0 0)] : List Value)).length = 5 ∧ wrs h7 b1 0 5 ∧ ∀ u ∈ (([(.int .i64 (0 : Int)), (.int .u32 (0 : Int)), (.int .i64 (0 : Int)), (.int .i64 (0 : Int)), (.slice none 0 0)] : List Value) : List Value), u.oneCell' = true) ∧ ∀ h8 : Heap, h8 = setr h7 b1 0 ([(.int .i64 (0 : Int)), (.int .u32 (0 : Int)), (.int .i64 (0 : Int)), (.int .i64 (0 : Int)), (.slice none 0 0)] : List Value) →
∃ cs1 : List Value, row h8 b1 0 5 = some cs1 ∧
Post (.agg (cs1).toArray) h8) (
∃ p2 : Option Addr, cell h7 b2 0 = some (.pointer p2) ∧
∃ n1 : Int, cell h7 b3 0 = some (.int .i64 n1) ∧
Runs Tryd.prog 59 #[(.pointer p2), (.int .i64 n1)] h7 fun r2 h9 =>
∃ cs2 : List Value,
∃ t1 : Bool,
r2 = (.tuple #[(.agg (cs2).toArray), (.bool t1)]) ∧
∀ (b5 : Nat) (h10 : Heap), b5 = h9.size → h10 = h9.push (.cells ([(.int .i64 (0 : Int)), (.int .u32 (0 : Int)), (.int .i64 (0 : Int)), (.int .i64 (0 : Int)), (.slice none 0 0)] : List Value).toArray 35) →
(((cs2)).length = 5 ∧ wrs h10 b5 0 5 ∧ ∀ u ∈ ((cs2) : List Value), u.oneCell' = true) ∧ ∀ h11 : Heap, h11 = setr h10 b5 0 (cs2) →
∃ cs3 : List Value, row h11 b5 0 5 = some cs3 ∧
(((cs3)).length = 5 ∧ wrs h11 b1 0 5 ∧ ∀ u ∈ ((cs3) : List Value), u.oneCell' = true) ∧ ∀ h12 : Heap, h12 = setr h11 b1 0 (cs3) →
∃ cs4 : List Value, row h12 b1 0 5 = some cs4 ∧
Post (.agg (cs4).toArray) h12)) :
    Runs Tryd.prog 31 #[(.pointer (some ⟨p, 0, none⟩))] h0 Post :=
  runs_of (args := [(.pointer (some ⟨p, 0, none⟩))]) (fun n => ⟨true, false⟩) (fun _ => []) (fun _ => none) (fun _ => []) Tryd.func31 rfl (by rw [Tryd.ntmps31]; simp) (Eq.mp (by kernel_rfl) H)

theorem vc_pool_Pool_Put (p : Nat) (aid : Int) (x : List Value) (h0 : Heap) (Post : Value → Heap → Prop) (H :
∀ (b1 : Nat) (h1 : Heap), b1 = h0.size → h1 = h0.push (.cells (x).toArray 35) →
∃ n1 : Int, cell h1 b1 2 = some (.int .i64 n1) ∧
Runs Tryd.prog 29 #[(.int .i64 aid), (.int .i64 n1)] h1 fun r1 h2 =>
∃ t1 : Bool,
r1 = (.bool t1) ∧
bcase (!t1) (
∃ v1 : Value, cell h2 0 0 = some v1 ∧
Post (.tuple #[(.slice none 0 0), v1]) h2) (
fits .i64 (aid - (1 : Int)) ∧
∃ n2 : Int, cell h2 b1 2 = some (.int .i64 n2) ∧
(0 ≤ (aid - (1 : Int)) ∧ (aid - (1 : Int)) < ((16 : Nat) : Int)) ∧
(0 ≤ n2 ∧ n2 < ((8 : Nat) : Int)) ∧
∃ p1 : Option Addr, cell h2 p ((5 + (((aid - (1 : Int))).toNat * 8)) + (n2).toNat) = some (.pointer p1) ∧
∃ cs1 : List Value, row h2 b1 0 5 = some cs1 ∧
Runs Tryd.prog 30 #[(.pointer p1), (.agg (cs1).toArray)] h2 fun r2 h3 =>
∃ n3 : Int,
r2 = (.int .i64 n3) ∧
cell h3 b1 2 = some (.int .i64 n2) ∧
∃ (I1 : Option Addr → Nat → Nat → Heap → Prop) (m1 : Option Addr → Nat → Nat → Heap → Nat), I1 none 0 0 h3 ∧ ∀ _ : Env,
∀ (out_1 : Option Addr) (out_1l out_1c : Nat) (h4 : Heap), I1 out_1 out_1l out_1c h4 →
∃ J1 : Heap → Prop, (
∃ n4 : Int, cell h4 p 3 = some (.int .i64 n4) ∧
Runs Tryd.prog 13 #[(.pointer (some ⟨p, 0, none⟩))] h4 fun r3 h5 =>
∃ n5 : Int,
r3 = (.int .i64 n5) ∧
cell h5 p 3 = some (.int .i64 n4) ∧
bcase (decide (n4 < n5)) (
J1 h5) (
∃ n6 : Int, cell h5 p 4 = some (.int .i64 n6) ∧
Runs Tryd.prog 14 #[(.pointer (some ⟨p, 0, none⟩))] h5 fun r4 h6 =>
∃ n7 : Int,
r4 = (.int .i64 n7) ∧
cell h6 p 4 = some (.int .i64 n6) ∧
cell h6 p 3 = some (.int .i64 n4) ∧
bcase (decide (n6 < n7)) (
J1 h6) (
Post (.tuple #[(.slice out_1 out_1l out_1c), .nilIface]) h6))) ∧ ∀ _ : Env,
∀ (h7 : Heap), J1 h7 →
Runs Tryd.prog 31 #[(.pointer (some ⟨p, 0, none⟩))] h7 fun r5 h8 =>
∃ cs2 : List Value,
r5 = (.agg (cs2).toArray) ∧
(cs2).length = 5 ∧
∀ (b2 : Nat) (h9 : Heap), b2 = h8.size → h9 = h8.push (.cells (((cs2) ++ [])).toArray 35) →
∃ news1 : List Value, (row h9 b2 0 5 = some news1 ∧ ∀ u ∈ news1, u.oneCell' = true) ∧
appK h9 out_1 out_1l out_1c 1 5 35 56 news1 fun (a1 : Option Addr) (cap1 : Nat) (h10 : Heap) =>
I1 a1 (out_1l + 1) cap1 h10 ∧ m1 a1 (out_1l + 1) cap1 h10 < m1 out_1 out_1l out_1c h4)) :
    Runs Tryd.prog 10 #[(.pointer (some ⟨p, 0, none⟩)), (.int .i64 aid), (.agg (x).toArray)] h0 Post :=
  runs_of (args := [(.pointer (some ⟨p, 0, none⟩)), (.int .i64 aid), (.agg (x).toArray)]) (fun n => ⟨true, false⟩) (fun n => match n with | 0 => [(8, .slice)] | _ => []) (fun n => match n with | 6 => some [] | _ => none) (fun _ => []) Tryd.func10 rfl (by rw [Tryd.ntmps10]; simp) (Eq.mp (by kernel_rfl) H)

theorem vc_pool_Pool_Take (p : Nat) (aid : Int) (tid : Int) (now : Int) (h0 : Heap) (Post : Value → Heap → Prop) (H :
∀ (b1 : Nat) (h1 : Heap), b1 = h0.size → h1 = h0.push (.cells ([(.int .i64 (0 : Int)), (.int .u32 (0 : Int)), (.int .i64 (0 : Int)), (.int .i64 (0 : Int)), (.slice none 0 0)] : List Value).toArray 35) →
Runs Tryd.prog 29 #[(.int .i64 aid), (.int .i64 tid)] h1 fun r1 h2 =>
∃ t1 : Bool,
r1 = (.bool t1) ∧
bcase (!t1) (
((([(.int .i64 (0 : Int)), (.int .u32 (0 : Int)), (.int .i64 (0 : Int)), (.int .i64 (0 : Int)), (.slice none 0 0)] : List Value)).length = 5 ∧ wrs h2 b1 0 5 ∧ ∀ u ∈ (([(.int .i64 (0 : Int)), (.int .u32 (0 : Int)), (.int .i64 (0 : Int)), (.int .i64 (0 : Int)), (.slice none 0 0)] : List Value) : List Value), u.oneCell' = true) ∧ ∀ h3 : Heap, h3 = setr h2 b1 0 ([(.int .i64 (0 : Int)), (.int .u32 (0 : Int)), (.int .i64 (0 : Int)), (.int .i64 (0 : Int)), (.slice none 0 0)] : List Value) →
∃ cs1 : List Value, row h3 b1 0 5 = some cs1 ∧
Post (.tuple #[(.agg (cs1).toArray), (.slice none 0 0), (.bool false)]) h3) (
fits .i64 (aid - (1 : Int)) ∧
(0 ≤ (aid - (1 : Int)) ∧ (aid - (1 : Int)) < ((16 : Nat) : Int)) ∧
(0 ≤ tid ∧ tid < ((8 : Nat) : Int)) ∧
∃ p1 : Option Addr, cell h2 p ((5 + (((aid - (1 : Int))).toNat * 8)) + (tid).toNat) = some (.pointer p1) ∧
Runs Tryd.prog 39 #[(.pointer p1), (.int .i64 now)] h2 fun r2 h4 =>
∃ cs2 : List Value,
∃ (s1 : Option Addr) (s1l s1c : Nat),
∃ t2 : Bool,
r2 = (.tuple #[(.agg (cs2).toArray), (.slice s1 s1l s1c), (.bool t2)]) ∧
(((cs2)).length = 5 ∧ wrs h4 b1 0 5 ∧ ∀ u ∈ ((cs2) : List Value), u.oneCell' = true) ∧ ∀ h5 : Heap, h5 = setr h4 b1 0 (cs2) →
∃ cs3 : List Value, row h5 b1 0 5 = some cs3 ∧
Post (.tuple #[(.agg (cs3).toArray), (.slice s1 s1l s1c), (.bool t2)]) h5)) :
    Runs Tryd.prog 16 #[(.pointer (some ⟨p, 0, none⟩)), (.int .i64 aid), (.int .i64 tid), (.int .i64 now)] h0 Post :=
  runs_of (args := [(.pointer (some ⟨p, 0, none⟩)), (.int .i64 aid), (.int .i64 tid), (.int .i64 now)]) (fun n => ⟨true, false⟩) (fun _ => []) (fun _ => none) (fun _ => []) Tryd.func16 rfl (by rw [Tryd.ntmps16]; simp) (Eq.mp (by kernel_rfl) H)

theorem vc_pool_Pool_Drop (p : Nat) (aid : Int) (h0 : Heap) (Post : Value → Heap → Prop) (H :
Runs Tryd.prog 29 #[(.int .i64 aid), (.int .i64 (0 : Int))] h0 fun r1 h1 =>
∃ t1 : Bool,
r1 = (.bool t1) ∧
bcase (!t1) (
Post (.slice none 0 0) h1) (
fits .i64 (aid - (1 : Int)) ∧
(0 ≤ (aid - (1 : Int)) ∧ (aid - (1 : Int)) < ((16 : Nat) : Int)) ∧
∃ cs1 : List Value, row h1 p (5 + (((aid - (1 : Int))).toNat * 8)) 8 = some cs1 ∧
∃ (I1 : Option Addr → Nat → Nat → Int → Heap → Prop) (m1 : Option Addr → Nat → Nat → Int → Heap → Nat), I1 none 0 0 (0 : Int) h1 ∧ ∀ _ : Env,
∀ (out_1 : Option Addr) (out_1l out_1c : Nat) (x2 : Int) (h2 : Heap), I1 out_1 out_1l out_1c x2 h2 →
bcase (decide (x2 < (8 : Int))) (
(0 ≤ x2 ∧ x2 < ((8 : Nat) : Int)) ∧
∃ p1 : Option Addr, cs1[(x2).toNat]? = some (.pointer p1) ∧
Runs Tryd.prog 38 #[(.pointer p1)] h2 fun r2 h3 =>
∃ (s1 : Option Addr) (s1l s1c : Nat),
r2 = (.slice s1 s1l s1c) ∧
∃ news1 : List Value, (src h3 s1 (s1l * 5) news1 ∧ ∀ u ∈ news1, u.oneCell' = true) ∧
appK h3 out_1 out_1l out_1c s1l 5 35 56 news1 fun (a1 : Option Addr) (cap1 : Nat) (h4 : Heap) =>
fits .i64 (x2 + (1 : Int)) ∧
I1 a1 (out_1l + s1l) cap1 (x2 + (1 : Int)) h4 ∧ m1 a1 (out_1l + s1l) cap1 (x2 + (1 : Int)) h4 < m1 out_1 out_1l out_1c x2 h2) (
fits .i64 (aid - (1 : Int)) ∧
Runs Tryd.prog 28 #[(.pointer (some ⟨p, 0, none⟩)), (.int .i64 (aid - (1 : Int)))] h2 fun r3 h5 =>
Post (.slice out_1 out_1l out_1c) h5))) :
    Runs Tryd.prog 15 #[(.pointer (some ⟨p, 0, none⟩)), (.int .i64 aid)] h0 Post :=
  runs_of (args := [(.pointer (some ⟨p, 0, none⟩)), (.int .i64 aid)]) (fun n => ⟨true, false⟩) (fun n => match n with | 0 => [(5, .slice), (18, .int .i64)] | _ => []) (fun _ => none) (fun _ => []) Tryd.func15 rfl (by rw [Tryd.ntmps15]; simp) (Eq.mp (by kernel_rfl) H)

theorem vc_pool_Pool_Has (p : Nat) (aid : Int) (tid : Int) (h0 : Heap) (Post : Value → Heap → Prop) (H :
Runs Tryd.prog 29 #[(.int .i64 aid), (.int .i64 tid)] h0 fun r1 h1 =>
∃ t1 : Bool,
r1 = (.bool t1) ∧
bcase t1 (
fits .i64 (aid - (1 : Int)) ∧
(0 ≤ (aid - (1 : Int)) ∧ (aid - (1 : Int)) < ((16 : Nat) : Int)) ∧
(0 ≤ tid ∧ tid < ((8 : Nat) : Int)) ∧
∃ p1 : Option Addr, cell h1 p ((5 + (((aid - (1 : Int))).toNat * 8)) + (tid).toNat) = some (.pointer p1) ∧
Runs Tryd.prog 33 #[(.pointer p1)] h1 fun r2 h2 =>
∃ n1 : Int,
r2 = (.int .i64 n1) ∧
Post (.bool (decide ((0 : Int) < n1))) h2) (
Post (.bool false) h1)) :
    Runs Tryd.prog 12 #[(.pointer (some ⟨p, 0, none⟩)), (.int .i64 aid), (.int .i64 tid)] h0 Post :=
  runs_of (args := [(.pointer (some ⟨p, 0, none⟩)), (.int .i64 aid), (.int .i64 tid)]) (fun n => ⟨true, false⟩) (fun _ => []) (fun _ => none) (fun _ => []) Tryd.func12 rfl (by rw [Tryd.ntmps12]; simp) (Eq.mp (by kernel_rfl) H)

theorem vc_pool_Pool_Clone (p : Nat) (h0 : Heap) (Post : Value → Heap → Prop) (H :
∃ cs1 : List Value, row h0 p 0 133 = some cs1 ∧
∀ (b1 : Nat) (h1 : Heap), b1 = h0.size → h1 = h0.push (.cells ([(.int .u32 (0 : Int)), (.int .i64 (0 : Int)), (.int .i64 (0 : Int)), (.int .i64 (0 : Int)), (.int .i64 (0 : Int)), (.pointer none), (.pointer none), (.pointer none), (.pointer none), (.pointer none), (.pointer none), (.pointer none), (.pointer none), (.pointer none), (.pointer none), (.pointer none), (.pointer none), (.pointer none), (.pointer none), (.pointer none), (.pointer none), (.pointer none), (.pointer none), (.pointer none), (.pointer none), (.pointer none), (.pointer none), (.pointer none), (.pointer none), (.pointer none), (.pointer none), (.pointer none), (.pointer none), (.pointer none), (.pointer none), (.pointer none), (.pointer none), (.pointer none), (.pointer none), (.pointer none), (.pointer none), (.pointer none), (.pointer none), (.pointer none), (.pointer none), (.pointer none), (.pointer none), (.pointer none), (.pointer none), (.pointer none), (.pointer none), (.pointer none), (.pointer none), (.pointer none), (.pointer none), (.pointer none), (.pointer none), (.pointer none), (.pointer none), (.pointer none), (.pointer none), (.pointer none), (.pointer none), (.pointer none), (.pointer none), (.pointer none), (.pointer none), (.pointer none), (.pointer none), (.pointer none), (.pointer none), (.pointer none), (.pointer none), (.pointer none), (.pointer none), (.pointer none), (.pointer none), (.pointer none), (.pointer none), (.pointer none), (.pointer none), (.pointer none), (.pointer none), (.pointer none), (.pointer none), (.pointer none), (.pointer none), (.pointer none), (.pointer none), (.pointer none), (.pointer none), (.pointer none), (.pointer none), (.pointer none), (.pointer none), (.pointer none), (.pointer none), (.pointer none), (.pointer none), (.pointer none), (.pointer none), (.pointer none), (.pointer none), (.pointer none), (.pointer none), (.pointer none), (.pointer none), (.pointer none), (.pointer none), (.pointer none), (.pointer none), (.pointer none), (.pointer none), (.pointer none), (.pointer none), (.pointer none), (.pointer none), (.pointer none), (.pointer none), (.pointer none), (.pointer none), (.pointer none), (.pointer none), (.pointer none), (.pointer none), (.pointer none), (.pointer none), (.pointer none), (.pointer none), (.pointer none), (.pointer none), (.pointer none), (.pointer none)] : List Value).toArray 64) →
(((cs1)).length = 133 ∧ wrs h1 b1 0 133 ∧ ∀ u ∈ ((cs1) : List Value), u.oneCell' = true) ∧ ∀ h2 : Heap, h2 = setr h1 b1 0 (cs1) →
∃ (I1 : Int → Heap → Prop) (m1 : Int → Heap → Nat), I1 (0 : Int) h2 ∧ ∀ _ : Env,
∀ (x1 : Int) (h3 : Heap), I1 x1 h3 →
bcase (decide (x1 < (16 : Int))) (
∃ (I2 : Int → Heap → Prop) (m2 : Int → Heap → Nat), I2 (0 : Int) h3 ∧ ∀ _ : Env,
∀ (x2 : Int) (h4 : Heap), I2 x2 h4 →
bcase (decide (x2 < (8 : Int))) (
(0 ≤ x1 ∧ x1 < ((16 : Nat) : Int)) ∧
(0 ≤ x2 ∧ x2 < ((8 : Nat) : Int)) ∧
∃ p1 : Option Addr, cell h4 p ((5 + ((x1).toNat * 8)) + (x2).toNat) = some (.pointer p1) ∧
(0 ≤ x1 ∧ x1 < ((16 : Nat) : Int)) ∧
Runs Tryd.prog 43 #[(.pointer p1)] h4 fun r1 h5 =>
∃ p2 : Option Addr,
r1 = (.pointer p2) ∧
(0 ≤ x2 ∧ x2 < ((8 : Nat) : Int)) ∧
wr h5 b1 ((5 + ((x1).toNat * 8)) + (x2).toNat) ∧ ∀ h6 : Heap, h6 = setc h5 b1 ((5 + ((x1).toNat * 8)) + (x2).toNat) (.pointer p2) →
fits .i64 (x2 + (1 : Int)) ∧
I2 (x2 + (1 : Int)) h6 ∧ m2 (x2 + (1 : Int)) h6 < m2 x2 h4) (
fits .i64 (x1 + (1 : Int)) ∧
I1 (x1 + (1 : Int)) h4 ∧ m1 (x1 + (1 : Int)) h4 < m1 x1 h3)) (
Post (.pointer (some ⟨b1, 0, none⟩)) h3)) :
    Runs Tryd.prog 19 #[(.pointer (some ⟨p, 0, none⟩))] h0 Post :=
  runs_of (args := [(.pointer (some ⟨p, 0, none⟩))]) (fun n => ⟨true, false⟩) (fun n => match n with | 0 => [(9, .int .i64)] | 2 => [(12, .int .i64)] | _ => []) (fun _ => none) (fun _ => []) Tryd.func19 rfl (by rw [Tryd.ntmps19]; simp) (Eq.mp (by kernel_rfl) H)

theorem vc_muezzinref8_NewPool (seed : Int) (target : Int) (interval : Int) (packets : Int) (bytes : Int) (h0 : Heap) (Post : Value → Heap → Prop) (H :
∀ (b1 : Nat) (h1 : Heap), b1 = h0.size → h1 = h0.push (.cells ([(.int .u32 seed), (.int .i64 target), (.int .i64 interval), (.int .i64 packets), (.int .i64 bytes), (.pointer none), (.pointer none), (.pointer none), (.pointer none), (.pointer none), (.pointer none), (.pointer none), (.pointer none), (.pointer none), (.pointer none), (.pointer none), (.pointer none), (.pointer none), (.pointer none), (.pointer none), (.pointer none), (.pointer none), (.pointer none), (.pointer none), (.pointer none), (.pointer none), (.pointer none), (.pointer none), (.pointer none), (.pointer none), (.pointer none), (.pointer none), (.pointer none), (.pointer none), (.pointer none), (.pointer none), (.pointer none), (.pointer none), (.pointer none), (.pointer none), (.pointer none), (.pointer none), (.pointer none), (.pointer none), (.pointer none), (.pointer none), (.pointer none), (.pointer none), (.pointer none), (.pointer none), (.pointer none), (.pointer none), (.pointer none), (.pointer none), (.pointer none), (.pointer none), (.pointer none), (.pointer none), (.pointer none), (.pointer none), (.pointer none), (.pointer none), (.pointer none), (.pointer none), (.pointer none), (.pointer none), (.pointer none), (.pointer none), (.pointer none), (.pointer none), (.pointer none), (.pointer none), (.pointer none), (.pointer none), (.pointer none), (.pointer none), (.pointer none), (.pointer none), (.pointer none), (.pointer none), (.pointer none), (.pointer none), (.pointer none), (.pointer none), (.pointer none), (.pointer none), (.pointer none), (.pointer none), (.pointer none), (.pointer none), (.pointer none), (.pointer none), (.pointer none), (.pointer none), (.pointer none), (.pointer none), (.pointer none), (.pointer none), (.pointer none), (.pointer none), (.pointer none), (.pointer none), (.pointer none), (.pointer none), (.pointer none), (.pointer none), (.pointer none), (.pointer none), (.pointer none), (.pointer none), (.pointer none), (.pointer none), (.pointer none), (.pointer none), (.pointer none), (.pointer none), (.pointer none), (.pointer none), (.pointer none), (.pointer none), (.pointer none), (.pointer none), (.pointer none), (.pointer none), (.pointer none), (.pointer none), (.pointer none), (.pointer none), (.pointer none), (.pointer none), (.pointer none), (.pointer none), (.pointer none), (.pointer none), (.pointer none), (.pointer none), (.pointer none), (.pointer none), (.pointer none), (.pointer none), (.pointer none)] : List Value).toArray 81) →
∃ (I1 : Int → Heap → Prop) (m1 : Int → Heap → Nat), I1 (0 : Int) h1 ∧ ∀ _ : Env,
∀ (a_1 : Int) (h2 : Heap), I1 a_1 h2 →
bcase (decide (a_1 ≤ (16 : Int))) (
∃ (I2 : Int → Heap → Prop) (m2 : Int → Heap → Nat), I2 (0 : Int) h2 ∧ ∀ _ : Env,
∀ (t_1 : Int) (h3 : Heap), I2 t_1 h3 →
bcase (decide (t_1 < (8 : Int))) (
(0 ≤ a_1 ∧ a_1 < ((17 : Nat) : Int)) ∧
Runs Tryd.prog 42 #[(.int .u32 seed), (.int .i64 target), (.int .i64 interval)] h3 fun r1 h4 =>
∃ p1 : Option Addr,
r1 = (.pointer p1) ∧
(0 ≤ t_1 ∧ t_1 < ((8 : Nat) : Int)) ∧
wr h4 b1 ((5 + ((a_1).toNat * 8)) + (t_1).toNat) ∧ ∀ h5 : Heap, h5 = setc h4 b1 ((5 + ((a_1).toNat * 8)) + (t_1).toNat) (.pointer p1) →
fits .i64 (t_1 + (1 : Int)) ∧
I2 (t_1 + (1 : Int)) h5 ∧ m2 (t_1 + (1 : Int)) h5 < m2 t_1 h3) (
fits .i64 (a_1 + (1 : Int)) ∧
I1 (a_1 + (1 : Int)) h3 ∧ m1 (a_1 + (1 : Int)) h3 < m1 a_1 h2)) (
Post (.pointer (some ⟨b1, 0, none⟩)) h2)) :
    Runs Tryd.prog 18 #[(.int .u32 seed), (.int .i64 target), (.int .i64 interval), (.int .i64 packets), (.int .i64 bytes)] h0 Post :=
  runs_of (args := [(.int .u32 seed), (.int .i64 target), (.int .i64 interval), (.int .i64 packets), (.int .i64 bytes)]) (fun n => ⟨true, false⟩) (fun n => match n with | 0 => [(12, .int .i64)] | 2 => [(13, .int .i64)] | _ => []) (fun _ => none) (fun _ => []) Tryd.func18 rfl (by rw [Tryd.ntmps18]; simp) (Eq.mp (by kernel_rfl) H)

theorem vc_muezzinref8_there (aid : Int) (tid : Int) (h0 : Heap) (Post : Value → Heap → Prop) (H :
bcase (decide ((1 : Int) ≤ aid)) (
bcase (decide (aid ≤ (16 : Int))) (
bcase (decide ((0 : Int) ≤ tid)) (
Post (.bool (decide (tid < (8 : Int)))) h0) (
Post (.bool false) h0)) (
Post (.bool false) h0)) (
Post (.bool false) h0)) :
    Runs Tryd.prog 44 #[(.int .i64 aid), (.int .i64 tid)] h0 Post :=
  runs_of (args := [(.int .i64 aid), (.int .i64 tid)]) (fun n => ⟨true, false⟩) (fun _ => []) (fun _ => none) (fun _ => []) Tryd.func44 rfl (by rw [Tryd.ntmps44]; simp) (Eq.mp (by kernel_rfl) H)

theorem vc_muezzinref8_Pool_Len (p : Nat) (h0 : Heap) (Post : Value → Heap → Prop) (H :
∃ (I1 : Int → Int → Heap → Prop) (m1 : Int → Int → Heap → Nat), I1 (0 : Int) (1 : Int) h0 ∧ ∀ _ : Env,
∀ (n_1 : Int) (a_1 : Int) (h1 : Heap), I1 n_1 a_1 h1 →
bcase (decide (a_1 ≤ (16 : Int))) (
∃ (I2 : Int → Int → Heap → Prop) (m2 : Int → Int → Heap → Nat), I2 n_1 (0 : Int) h1 ∧ ∀ _ : Env,
∀ (n_2 : Int) (t_1 : Int) (h2 : Heap), I2 n_2 t_1 h2 →
bcase (decide (t_1 < (8 : Int))) (
(0 ≤ a_1 ∧ a_1 < ((17 : Nat) : Int)) ∧
(0 ≤ t_1 ∧ t_1 < ((8 : Nat) : Int)) ∧
∃ p1 : Option Addr, cell h2 p ((5 + ((a_1).toNat * 8)) + (t_1).toNat) = some (.pointer p1) ∧
Runs Tryd.prog 47 #[(.pointer p1)] h2 fun r1 h3 =>
∃ n1 : Int,
r1 = (.int .i64 n1) ∧
fits .i64 (n_2 + n1) ∧
fits .i64 (t_1 + (1 : Int)) ∧
I2 (n_2 + n1) (t_1 + (1 : Int)) h3 ∧ m2 (n_2 + n1) (t_1 + (1 : Int)) h3 < m2 n_2 t_1 h2) (
fits .i64 (a_1 + (1 : Int)) ∧
I1 n_2 (a_1 + (1 : Int)) h2 ∧ m1 n_2 (a_1 + (1 : Int)) h2 < m1 n_1 a_1 h1)) (
Post (.int .i64 n_1) h1)) :
    Runs Tryd.prog 25 #[(.pointer (some ⟨p, 0, none⟩))] h0 Post :=
  runs_of (args := [(.pointer (some ⟨p, 0, none⟩))]) (fun n => ⟨true, false⟩) (fun n => match n with | 0 => [(3, .int .i64), (4, .int .i64)] | 2 => [(3, .int .i64), (5, .int .i64)] | _ => []) (fun _ => none) (fun _ => []) Tryd.func25 rfl (by rw [Tryd.ntmps25]; simp) (Eq.mp (by kernel_rfl) H)

theorem vc_muezzinref8_Pool_Bytes (p : Nat) (h0 : Heap) (Post : Value → Heap → Prop) (H :
∃ (I1 : Int → Int → Heap → Prop) (m1 : Int → Int → Heap → Nat), I1 (0 : Int) (1 : Int) h0 ∧ ∀ _ : Env,
∀ (n_1 : Int) (a_1 : Int) (h1 : Heap), I1 n_1 a_1 h1 →
bcase (decide (a_1 ≤ (16 : Int))) (
∃ (I2 : Int → Int → Heap → Prop) (m2 : Int → Int → Heap → Nat), I2 n_1 (0 : Int) h1 ∧ ∀ _ : Env,
∀ (n_2 : Int) (t_1 : Int) (h2 : Heap), I2 n_2 t_1 h2 →
bcase (decide (t_1 < (8 : Int))) (
(0 ≤ a_1 ∧ a_1 < ((17 : Nat) : Int)) ∧
(0 ≤ t_1 ∧ t_1 < ((8 : Nat) : Int)) ∧
∃ p1 : Option Addr, cell h2 p ((5 + ((a_1).toNat * 8)) + (t_1).toNat) = some (.pointer p1) ∧
Runs Tryd.prog 52 #[(.pointer p1)] h2 fun r1 h3 =>
∃ n1 : Int,
r1 = (.int .i64 n1) ∧
fits .i64 (n_2 + n1) ∧
fits .i64 (t_1 + (1 : Int)) ∧
I2 (n_2 + n1) (t_1 + (1 : Int)) h3 ∧ m2 (n_2 + n1) (t_1 + (1 : Int)) h3 < m2 n_2 t_1 h2) (
fits .i64 (a_1 + (1 : Int)) ∧
I1 n_2 (a_1 + (1 : Int)) h2 ∧ m1 n_2 (a_1 + (1 : Int)) h2 < m1 n_1 a_1 h1)) (
Post (.int .i64 n_1) h1)) :
    Runs Tryd.prog 26 #[(.pointer (some ⟨p, 0, none⟩))] h0 Post :=
  runs_of (args := [(.pointer (some ⟨p, 0, none⟩))]) (fun n => ⟨true, false⟩) (fun n => match n with | 0 => [(3, .int .i64), (4, .int .i64)] | 2 => [(3, .int .i64), (5, .int .i64)] | _ => []) (fun _ => none) (fun _ => []) Tryd.func26 rfl (by rw [Tryd.ntmps26]; simp) (Eq.mp (by kernel_rfl) H)

theorem vc_muezzinref8_Pool_Put (p : Nat) (aid : Int) (x : List Value) (h0 : Heap) (Post : Value → Heap → Prop) (H :
∀ (b1 : Nat) (h1 : Heap), b1 = h0.size → h1 = h0.push (.cells (x).toArray 35) →
∃ n1 : Int, cell h1 b1 2 = some (.int .i64 n1) ∧
Runs Tryd.prog 44 #[(.int .i64 aid), (.int .i64 n1)] h1 fun r1 h2 =>
∃ t1 : Bool,
r1 = (.bool t1) ∧
bcase (!t1) (
Post (.tuple #[(.slice none 0 0), (.int .i64 (103 : Int))]) h2) (
∃ n2 : Int, cell h2 b1 2 = some (.int .i64 n2) ∧
(0 ≤ aid ∧ aid < ((17 : Nat) : Int)) ∧
(0 ≤ n2 ∧ n2 < ((8 : Nat) : Int)) ∧
∃ p1 : Option Addr, cell h2 p ((5 + ((aid).toNat * 8)) + (n2).toNat) = some (.pointer p1) ∧
∃ cs1 : List Value, row h2 b1 0 5 = some cs1 ∧
Runs Tryd.prog 45 #[(.pointer p1), (.agg (cs1).toArray)] h2 fun r2 h3 =>
∃ n3 : Int,
r2 = (.int .i64 n3) ∧
cell h3 b1 2 = some (.int .i64 n2) ∧
∃ (I1 : Option Addr → Nat → Nat → Heap → Prop) (m1 : Option Addr → Nat → Nat → Heap → Nat), I1 none 0 0 h3 ∧ ∀ _ : Env,
∀ (out_1 : Option Addr) (out_1l out_1c : Nat) (h4 : Heap), I1 out_1 out_1l out_1c h4 →
∃ J1 : Heap → Prop, (
∃ n4 : Int, cell h4 p 3 = some (.int .i64 n4) ∧
Runs Tryd.prog 25 #[(.pointer (some ⟨p, 0, none⟩))] h4 fun r3 h5 =>
∃ n5 : Int,
r3 = (.int .i64 n5) ∧
cell h5 p 3 = some (.int .i64 n4) ∧
bcase (decide (n4 < n5)) (
J1 h5) (
∃ n6 : Int, cell h5 p 4 = some (.int .i64 n6) ∧
Runs Tryd.prog 26 #[(.pointer (some ⟨p, 0, none⟩))] h5 fun r4 h6 =>
∃ n7 : Int,
r4 = (.int .i64 n7) ∧
cell h6 p 4 = some (.int .i64 n6) ∧
cell h6 p 3 = some (.int .i64 n4) ∧
bcase (decide (n6 < n7)) (
J1 h6) (
Post (.tuple #[(.slice out_1 out_1l out_1c), (.int .i64 (0 : Int))]) h6))) ∧ ∀ _ : Env,
∀ (h7 : Heap), J1 h7 →
∃ (I2 : Int → Int → Int → Int → Int → Heap → Prop) (m2 : Int → Int → Int → Int → Int → Heap → Nat), I2 (-1 : Int) (0 : Int) (0 : Int) (0 : Int) (1 : Int) h7 ∧ ∀ _ : Env,
∀ (most_1 : Int) (ba_1 : Int) (bt_1 : Int) (bb_1 : Int) (a_1 : Int) (h8 : Heap), I2 most_1 ba_1 bt_1 bb_1 a_1 h8 →
bcase (decide (a_1 ≤ (16 : Int))) (
∃ (I3 : Int → Int → Int → Int → Int → Heap → Prop) (m3 : Int → Int → Int → Int → Int → Heap → Nat), I3 most_1 ba_1 bt_1 bb_1 (0 : Int) h8 ∧ ∀ _ : Env,
∀ (most_2 : Int) (ba_2 : Int) (bt_2 : Int) (bb_2 : Int) (t_1 : Int) (h9 : Heap), I3 most_2 ba_2 bt_2 bb_2 t_1 h9 →
bcase (decide (t_1 < (8 : Int))) (
∃ J2 : Int → Int → Int → Int → Heap → Prop, (
(0 ≤ a_1 ∧ a_1 < ((17 : Nat) : Int)) ∧
(0 ≤ t_1 ∧ t_1 < ((8 : Nat) : Int)) ∧
∃ p2 : Option Addr, cell h9 p ((5 + ((a_1).toNat * 8)) + (t_1).toNat) = some (.pointer p2) ∧
Runs Tryd.prog 46 #[(.pointer p2)] h9 fun r5 h10 =>
∃ n8 : Int,
∃ n9 : Int,
r5 = (.tuple #[(.int .i64 n8), (.int .i64 n9)]) ∧
(0 ≤ a_1 ∧ a_1 < ((17 : Nat) : Int)) ∧
(0 ≤ t_1 ∧ t_1 < ((8 : Nat) : Int)) ∧
∃ p3 : Option Addr, cell h10 p ((5 + ((a_1).toNat * 8)) + (t_1).toNat) = some (.pointer p3) ∧
Runs Tryd.prog 47 #[(.pointer p3)] h10 fun r6 h11 =>
∃ n10 : Int,
r6 = (.int .i64 n10) ∧
bcase (decide ((0 : Int) < n10)) (
bcase (decide (most_2 < n9)) (
J2 n9 a_1 t_1 n8 h11) (
J2 most_2 ba_2 bt_2 bb_2 h11)) (
J2 most_2 ba_2 bt_2 bb_2 h11)) ∧ ∀ _ : Env,
∀ (most_3 : Int) (ba_3 : Int) (bt_3 : Int) (bb_3 : Int) (h12 : Heap), J2 most_3 ba_3 bt_3 bb_3 h12 →
fits .i64 (t_1 + (1 : Int)) ∧
I3 most_3 ba_3 bt_3 bb_3 (t_1 + (1 : Int)) h12 ∧ m3 most_3 ba_3 bt_3 bb_3 (t_1 + (1 : Int)) h12 < m3 most_2 ba_2 bt_2 bb_2 t_1 h9) (
fits .i64 (a_1 + (1 : Int)) ∧
I2 most_2 ba_2 bt_2 bb_2 (a_1 + (1 : Int)) h9 ∧ m2 most_2 ba_2 bt_2 bb_2 (a_1 + (1 : Int)) h9 < m2 most_1 ba_1 bt_1 bb_1 a_1 h8)) (
(0 ≤ ba_1 ∧ ba_1 < ((17 : Nat) : Int)) ∧
(0 ≤ bt_1 ∧ bt_1 < ((8 : Nat) : Int)) ∧
∃ p4 : Option Addr, cell h8 p ((5 + ((ba_1).toNat * 8)) + (bt_1).toNat) = some (.pointer p4) ∧
Runs Tryd.prog 48 #[(.pointer p4), (.int .i64 bb_1)] h8 fun r7 h13 =>
∃ cs2 : List Value,
∃ t2 : Bool,
r7 = (.tuple #[(.agg (cs2).toArray), (.bool t2)]) ∧
∀ (b2 : Nat) (h14 : Heap), b2 = h13.size → h14 = h13.push (.cells ([(.int .i64 (0 : Int)), (.int .u32 (0 : Int)), (.int .i64 (0 : Int)), (.int .i64 (0 : Int)), (.slice none 0 0)] : List Value).toArray 35) →
(((cs2)).length = 5 ∧ wrs h14 b2 0 5 ∧ ∀ u ∈ ((cs2) : List Value), u.oneCell' = true) ∧ ∀ h15 : Heap, h15 = setr h14 b2 0 (cs2) →
∃ cs3 : List Value, row h15 b2 0 5 = some cs3 ∧
(cs3).length = 5 ∧
∀ (b3 : Nat) (h16 : Heap), b3 = h15.size → h16 = h15.push (.cells (((cs3) ++ [])).toArray 35) →
∃ news1 : List Value, (row h16 b3 0 5 = some news1 ∧ ∀ u ∈ news1, u.oneCell' = true) ∧
appK h16 out_1 out_1l out_1c 1 5 35 56 news1 fun (a1 : Option Addr) (cap1 : Nat) (h17 : Heap) =>
I1 a1 (out_1l + 1) cap1 h17 ∧ m1 a1 (out_1l + 1) cap1 h17 < m1 out_1 out_1l out_1c h4))) :
    Runs Tryd.prog 20 #[(.pointer (some ⟨p, 0, none⟩)), (.int .i64 aid), (.agg (x).toArray)] h0 Post :=
  runs_of (args := [(.pointer (some ⟨p, 0, none⟩)), (.int .i64 aid), (.agg (x).toArray)]) (fun n => ⟨true, false⟩) (fun n => match n with | 0 => [(8, .slice)] | 2 => [(9, .int .i64), (10, .int .i64), (11, .int .i64), (12, .int .i64), (13, .int .i64)] | 4 => [(9, .int .i64), (10, .int .i64), (11, .int .i64), (12, .int .i64), (14, .int .i64)] | _ => []) (fun n => match n with | 6 => some [] | 15 => some [(9, .int .i64), (10, .int .i64), (11, .int .i64), (12, .int .i64)] | _ => none) (fun _ => []) Tryd.func20 rfl (by rw [Tryd.ntmps20]; simp) (Eq.mp (by kernel_rfl) H)

theorem vc_muezzinref8_Pool_Take (p : Nat) (aid : Int) (tid : Int) (now : Int) (h0 : Heap) (Post : Value → Heap → Prop) (H :
∀ (b1 : Nat) (h1 : Heap), b1 = h0.size → h1 = h0.push (.cells ([(.int .i64 (0 : Int)), (.int .u32 (0 : Int)), (.int .i64 (0 : Int)), (.int .i64 (0 : Int)), (.slice none 0 0)] : List Value).toArray 35) →
Runs Tryd.prog 44 #[(.int .i64 aid), (.int .i64 tid)] h1 fun r1 h2 =>
∃ t1 : Bool,
r1 = (.bool t1) ∧
bcase (!t1) (
((([(.int .i64 (0 : Int)), (.int .u32 (0 : Int)), (.int .i64 (0 : Int)), (.int .i64 (0 : Int)), (.slice none 0 0)] : List Value)).length = 5 ∧ wrs h2 b1 0 5 ∧ ∀ u ∈ (([(.int .i64 (0 : Int)), (.int .u32 (0 : Int)), (.int .i64 (0 : Int)), (.int .i64 (0 : Int)), (.slice none 0 0)] : List Value) : List Value), u.oneCell' = true) ∧ ∀ h3 : Heap, h3 = setr h2 b1 0 ([(.int .i64 (0 : Int)), (.int .u32 (0 : Int)), (.int .i64 (0 : Int)), (.int .i64 (0 : Int)), (.slice none 0 0)] : List Value) →
∃ cs1 : List Value, row h3 b1 0 5 = some cs1 ∧
Post (.tuple #[(.agg (cs1).toArray), (.slice none 0 0), (.bool false)]) h3) (
(0 ≤ aid ∧ aid < ((17 : Nat) : Int)) ∧
(0 ≤ tid ∧ tid < ((8 : Nat) : Int)) ∧
∃ p1 : Option Addr, cell h2 p ((5 + ((aid).toNat * 8)) + (tid).toNat) = some (.pointer p1) ∧
Runs Tryd.prog 49 #[(.pointer p1), (.int .i64 now)] h2 fun r2 h4 =>
∃ cs2 : List Value,
∃ (s1 : Option Addr) (s1l s1c : Nat),
∃ t2 : Bool,
r2 = (.tuple #[(.agg (cs2).toArray), (.slice s1 s1l s1c), (.bool t2)]) ∧
(((cs2)).length = 5 ∧ wrs h4 b1 0 5 ∧ ∀ u ∈ ((cs2) : List Value), u.oneCell' = true) ∧ ∀ h5 : Heap, h5 = setr h4 b1 0 (cs2) →
∃ cs3 : List Value, row h5 b1 0 5 = some cs3 ∧
Post (.tuple #[(.agg (cs3).toArray), (.slice s1 s1l s1c), (.bool t2)]) h5)) :
    Runs Tryd.prog 22 #[(.pointer (some ⟨p, 0, none⟩)), (.int .i64 aid), (.int .i64 tid), (.int .i64 now)] h0 Post :=
  runs_of (args := [(.pointer (some ⟨p, 0, none⟩)), (.int .i64 aid), (.int .i64 tid), (.int .i64 now)]) (fun n => ⟨true, false⟩) (fun _ => []) (fun _ => none) (fun _ => []) Tryd.func22 rfl (by rw [Tryd.ntmps22]; simp) (Eq.mp (by kernel_rfl) H)

theorem vc_muezzinref8_Pool_Drop (p : Nat) (aid : Int) (h0 : Heap) (Post : Value → Heap → Prop) (H :
∃ (I1 : Option Addr → Nat → Nat → Int → Heap → Prop) (m1 : Option Addr → Nat → Nat → Int → Heap → Nat), I1 none 0 0 (0 : Int) h0 ∧ ∀ _ : Env,
∀ (out_1 : Option Addr) (out_1l out_1c : Nat) (t_1 : Int) (h1 : Heap), I1 out_1 out_1l out_1c t_1 h1 →
bcase (decide (t_1 < (8 : Int))) (
Runs Tryd.prog 44 #[(.int .i64 aid), (.int .i64 t_1)] h1 fun r1 h2 =>
∃ t1 : Bool,
r1 = (.bool t1) ∧
bcase t1 (
(0 ≤ aid ∧ aid < ((17 : Nat) : Int)) ∧
(0 ≤ t_1 ∧ t_1 < ((8 : Nat) : Int)) ∧
∃ p1 : Option Addr, cell h2 p ((5 + ((aid).toNat * 8)) + (t_1).toNat) = some (.pointer p1) ∧
Runs Tryd.prog 51 #[(.pointer p1)] h2 fun r2 h3 =>
∃ (s1 : Option Addr) (s1l s1c : Nat),
r2 = (.slice s1 s1l s1c) ∧
∃ news1 : List Value, (src h3 s1 (s1l * 5) news1 ∧ ∀ u ∈ news1, u.oneCell' = true) ∧
appK h3 out_1 out_1l out_1c s1l 5 35 56 news1 fun (a1 : Option Addr) (cap1 : Nat) (h4 : Heap) =>
∃ n1 : Int, cell h4 p 0 = some (.int .u32 n1) ∧
∃ n2 : Int, cell h4 p 1 = some (.int .i64 n2) ∧
∃ n3 : Int, cell h4 p 2 = some (.int .i64 n3) ∧
(0 ≤ aid ∧ aid < ((17 : Nat) : Int)) ∧
Runs Tryd.prog 42 #[(.int .u32 n1), (.int .i64 n2), (.int .i64 n3)] h4 fun r3 h5 =>
∃ p2 : Option Addr,
r3 = (.pointer p2) ∧
(0 ≤ t_1 ∧ t_1 < ((8 : Nat) : Int)) ∧
wr h5 p ((5 + ((aid).toNat * 8)) + (t_1).toNat) ∧ ∀ h6 : Heap, h6 = setc h5 p ((5 + ((aid).toNat * 8)) + (t_1).toNat) (.pointer p2) →
fits .i64 (t_1 + (1 : Int)) ∧
I1 a1 (out_1l + s1l) cap1 (t_1 + (1 : Int)) h6 ∧ m1 a1 (out_1l + s1l) cap1 (t_1 + (1 : Int)) h6 < m1 out_1 out_1l out_1c t_1 h1) (
Post (.slice out_1 out_1l out_1c) h2)) (
Post (.slice out_1 out_1l out_1c) h1)) :
    Runs Tryd.prog 24 #[(.pointer (some ⟨p, 0, none⟩)), (.int .i64 aid)] h0 Post :=
  runs_of (args := [(.pointer (some ⟨p, 0, none⟩)), (.int .i64 aid)]) (fun n => ⟨true, false⟩) (fun n => match n with | 0 => [(5, .slice), (6, .int .i64)] | _ => []) (fun _ => none) (fun _ => []) Tryd.func24 rfl (by rw [Tryd.ntmps24]; simp) (Eq.mp (by kernel_rfl) H)

theorem vc_muezzinref8_Pool_Has (p : Nat) (aid : Int) (tid : Int) (h0 : Heap) (Post : Value → Heap → Prop) (H :
Runs Tryd.prog 44 #[(.int .i64 aid), (.int .i64 tid)] h0 fun r1 h1 =>
∃ t1 : Bool,
r1 = (.bool t1) ∧
bcase t1 (
(0 ≤ aid ∧ aid < ((17 : Nat) : Int)) ∧
(0 ≤ tid ∧ tid < ((8 : Nat) : Int)) ∧
∃ p1 : Option Addr, cell h1 p ((5 + ((aid).toNat * 8)) + (tid).toNat) = some (.pointer p1) ∧
Runs Tryd.prog 47 #[(.pointer p1)] h1 fun r2 h2 =>
∃ n1 : Int,
r2 = (.int .i64 n1) ∧
Post (.bool (decide ((0 : Int) < n1))) h2) (
Post (.bool false) h1)) :
    Runs Tryd.prog 27 #[(.pointer (some ⟨p, 0, none⟩)), (.int .i64 aid), (.int .i64 tid)] h0 Post :=
  runs_of (args := [(.pointer (some ⟨p, 0, none⟩)), (.int .i64 aid), (.int .i64 tid)]) (fun n => ⟨true, false⟩) (fun _ => []) (fun _ => none) (fun _ => []) Tryd.func27 rfl (by rw [Tryd.ntmps27]; simp) (Eq.mp (by kernel_rfl) H)
end Go.Proofs.YtpcilleldanfmaaDoor
