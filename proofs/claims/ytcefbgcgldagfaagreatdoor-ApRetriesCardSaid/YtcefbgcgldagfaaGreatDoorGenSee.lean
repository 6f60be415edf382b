/- The conditions for calls of functions of the program, in plain form: written by a program (vcgen) off the elaborated code; each is the reckoner's own, by the kernel. -/
import Derived.Test.YtcefbgcgldagfaaGreatDoorRows
import Derived.Test.YtcefbgcgldagfaaGreatDoorVc
set_option linter.unusedVariables false
set_option maxRecDepth 100000
namespace Go.Proofs.YtcefbgcgldagfaaGreatDoor
open Go.Vc
theorem vc_muezzinsee_Is (e : Value) (code : Int) (h0 : Heap) (Post : Value → Heap → Prop) (H :
Runs Tryz.prog 66 #[(.int .i64 code)] h0 fun r1 h1 =>
∃ cs1 : List Value,
r1 = (.agg (cs1).toArray) ∧
Runs Tryz.prog 65 #[e, (.agg (cs1).toArray)] h1 fun r2 h2 =>
∃ t1 : Bool,
r2 = (.bool t1) ∧
Post (.bool t1) h2) :
    Runs Tryz.prog 24 #[e, (.int .i64 code)] h0 Post :=
  runs_of (args := [e, (.int .i64 code)]) (fun n => ⟨true, false⟩) (fun _ => []) (fun _ => none) (fun _ => []) Tryz.func24 rfl (by rw [Tryz.ntmps24]; simp) (Eq.mp (by kernel_rfl) H)

theorem vc_muezzinsee_Same (e : Value) (f : List Value) (h0 : Heap) (Post : Value → Heap → Prop) (H :
∀ (b1 : Nat) (h1 : Heap), b1 = h0.size → h1 = h0.push (.cells (f).toArray 161) →
∃ cs1 : List Value, row h1 b1 0 3 = some cs1 ∧
Runs Tryz.prog 140 #[e] h1 fun r1 h2 =>
∃ cs2 : List Value,
r1 = (.agg (cs2).toArray) ∧
row h2 b1 0 3 = some (cs1) ∧
Runs Tryz.prog 139 #[(.agg (cs2).toArray), (.agg (cs1).toArray)] h2 fun r2 h3 =>
∃ t1 : Bool,
r2 = (.bool t1) ∧
Post (.bool t1) h3) :
    Runs Tryz.prog 65 #[e, (.agg (f).toArray)] h0 Post :=
  runs_of (args := [e, (.agg (f).toArray)]) (fun n => ⟨true, false⟩) (fun _ => []) (fun _ => none) (fun _ => []) Tryz.func65 rfl (by rw [Tryz.ntmps65]; simp) (Eq.mp (by kernel_rfl) H)

theorem vc_muezzinref_Bare (code : Int) (h0 : Heap) (Post : Value → Heap → Prop) (H :
∀ (b1 : Nat) (h1 : Heap), b1 = h0.size → h1 = h0.push (.cells ([(.int .i64 (0 : Int)), (.bool false), (.int .i64 (0 : Int))] : List Value).toArray 161) →
((([(.int .i64 code), (.bool false), (.int .i64 (0 : Int))] : List Value)).length = 3 ∧ wrs h1 b1 0 3 ∧ ∀ u ∈ (([(.int .i64 code), (.bool false), (.int .i64 (0 : Int))] : List Value) : List Value), u.oneCell' = true) ∧ ∀ h2 : Heap, h2 = setr h1 b1 0 ([(.int .i64 code), (.bool false), (.int .i64 (0 : Int))] : List Value) →
∃ cs1 : List Value, row h2 b1 0 3 = some cs1 ∧
Post (.agg (cs1).toArray) h2) :
    Runs Tryz.prog 66 #[(.int .i64 code)] h0 Post :=
  runs_of (args := [(.int .i64 code)]) (fun n => ⟨true, false⟩) (fun _ => []) (fun _ => none) (fun _ => []) Tryz.func66 rfl (by rw [Tryz.ntmps66]; simp) (Eq.mp (by kernel_rfl) H)

theorem vc_muezzinref_None  (h0 : Heap) (Post : Value → Heap → Prop) (H :
∀ (b1 : Nat) (h1 : Heap), b1 = h0.size → h1 = h0.push (.cells ([(.int .i64 (0 : Int)), (.bool false), (.int .i64 (0 : Int))] : List Value).toArray 161) →
((([(.int .i64 (0 : Int)), (.bool false), (.int .i64 (0 : Int))] : List Value)).length = 3 ∧ wrs h1 b1 0 3 ∧ ∀ u ∈ (([(.int .i64 (0 : Int)), (.bool false), (.int .i64 (0 : Int))] : List Value) : List Value), u.oneCell' = true) ∧ ∀ h2 : Heap, h2 = setr h1 b1 0 ([(.int .i64 (0 : Int)), (.bool false), (.int .i64 (0 : Int))] : List Value) →
∃ cs1 : List Value, row h2 b1 0 3 = some cs1 ∧
Post (.agg (cs1).toArray) h2) :
    Runs Tryz.prog 230 #[] h0 Post :=
  runs_of (args := []) (fun n => ⟨true, false⟩) (fun _ => []) (fun _ => none) (fun _ => []) Tryz.func230 rfl (by rw [Tryz.ntmps230]; simp) (Eq.mp (by kernel_rfl) H)

theorem vc_muezzinref_Placed (code : Int) (pos : Int) (h0 : Heap) (Post : Value → Heap → Prop) (H :
∀ (b1 : Nat) (h1 : Heap), b1 = h0.size → h1 = h0.push (.cells ([(.int .i64 (0 : Int)), (.bool false), (.int .i64 (0 : Int))] : List Value).toArray 161) →
bcase (decide (code = (0 : Int))) (
Runs Tryz.prog 230 #[] h1 fun r1 h2 =>
∃ cs1 : List Value,
r1 = (.agg (cs1).toArray) ∧
(((cs1)).length = 3 ∧ wrs h2 b1 0 3 ∧ ∀ u ∈ ((cs1) : List Value), u.oneCell' = true) ∧ ∀ h3 : Heap, h3 = setr h2 b1 0 (cs1) →
∃ cs2 : List Value, row h3 b1 0 3 = some cs2 ∧
Post (.agg (cs2).toArray) h3) (
((([(.int .i64 code), (.bool true), (.int .i64 pos)] : List Value)).length = 3 ∧ wrs h1 b1 0 3 ∧ ∀ u ∈ (([(.int .i64 code), (.bool true), (.int .i64 pos)] : List Value) : List Value), u.oneCell' = true) ∧ ∀ h4 : Heap, h4 = setr h1 b1 0 ([(.int .i64 code), (.bool true), (.int .i64 pos)] : List Value) →
∃ cs3 : List Value, row h4 b1 0 3 = some cs3 ∧
Post (.agg (cs3).toArray) h4)) :
    Runs Tryz.prog 232 #[(.int .i64 code), (.int .i64 pos)] h0 Post :=
  runs_of (args := [(.int .i64 code), (.int .i64 pos)]) (fun n => ⟨true, false⟩) (fun _ => []) (fun _ => none) (fun _ => []) Tryz.func232 rfl (by rw [Tryz.ntmps232]; simp) (Eq.mp (by kernel_rfl) H)

theorem vc_muezzinref_SameFault (a : List Value) (b : List Value) (h0 : Heap) (Post : Value → Heap → Prop) (H :
∀ (b1 : Nat) (h1 : Heap), b1 = h0.size → h1 = h0.push (.cells (a).toArray 161) →
∀ (b2 : Nat) (h2 : Heap), b2 = h1.size → h2 = h1.push (.cells (b).toArray 161) →
∃ n1 : Int, cell h2 b1 0 = some (.int .i64 n1) ∧
∃ n2 : Int, cell h2 b2 0 = some (.int .i64 n2) ∧
bcase (decide (n1 = n2)) (
∃ t1 : Bool, cell h2 b1 1 = some (.bool t1) ∧
∃ t2 : Bool, cell h2 b2 1 = some (.bool t2) ∧
bcase (t1 == t2) (
∃ n3 : Int, cell h2 b1 2 = some (.int .i64 n3) ∧
∃ n4 : Int, cell h2 b2 2 = some (.int .i64 n4) ∧
Post (.bool (decide (n3 = n4))) h2) (
Post (.bool false) h2)) (
Post (.bool false) h2)) :
    Runs Tryz.prog 139 #[(.agg (a).toArray), (.agg (b).toArray)] h0 Post :=
  runs_of (args := [(.agg (a).toArray), (.agg (b).toArray)]) (fun n => ⟨true, false⟩) (fun _ => []) (fun _ => none) (fun _ => []) Tryz.func139 rfl (by rw [Tryz.ntmps139]; simp) (Eq.mp (by kernel_rfl) H)

theorem vc_muezzinsee_Fault (e : Value) (h0 : Heap) (Post : Value → Heap → Prop) (H :
∀ (b1 : Nat) (h1 : Heap), b1 = h0.size → h1 = h0.push (.cells ([(.int .i64 (0 : Int)), (.bool false), (.int .i64 (0 : Int))] : List Value).toArray 161) →
∃ t1 : Bool, ifeqH Tryz.prog h1 true (e) (.nilIface) = some t1 ∧
bcase t1 (
Runs Tryz.prog 230 #[] h1 fun r1 h2 =>
∃ cs1 : List Value,
r1 = (.agg (cs1).toArray) ∧
(((cs1)).length = 3 ∧ wrs h2 b1 0 3 ∧ ∀ u ∈ ((cs1) : List Value), u.oneCell' = true) ∧ ∀ h3 : Heap, h3 = setr h2 b1 0 (cs1) →
∃ cs2 : List Value, row h3 b1 0 3 = some cs2 ∧
Post (.agg (cs2).toArray) h3) (
∃ p1 : Option Addr,
∃ t2 : Bool, asr Tryz.prog 317 (e) = some ((.pointer p1), t2) ∧
bcase (!t2) (
Runs Tryz.prog 231 #[e] h1 fun r2 h4 =>
∃ n1 : Int,
r2 = (.int .i64 n1) ∧
Runs Tryz.prog 66 #[(.int .i64 n1)] h4 fun r3 h5 =>
∃ cs3 : List Value,
r3 = (.agg (cs3).toArray) ∧
(((cs3)).length = 3 ∧ wrs h5 b1 0 3 ∧ ∀ u ∈ ((cs3) : List Value), u.oneCell' = true) ∧ ∀ h6 : Heap, h6 = setr h5 b1 0 (cs3) →
∃ cs4 : List Value, row h6 b1 0 3 = some cs4 ∧
Post (.agg (cs4).toArray) h6) (
bcase (isNilAddr p1) (
Runs Tryz.prog 66 #[(.int .i64 (-1 : Int))] h1 fun r4 h7 =>
∃ cs5 : List Value,
r4 = (.agg (cs5).toArray) ∧
(((cs5)).length = 3 ∧ wrs h7 b1 0 3 ∧ ∀ u ∈ ((cs5) : List Value), u.oneCell' = true) ∧ ∀ h8 : Heap, h8 = setr h7 b1 0 (cs5) →
∃ cs6 : List Value, row h8 b1 0 3 = some cs6 ∧
Post (.agg (cs6).toArray) h8) (
onAddr p1 fun b2 o1 =>
∃ v1 : Value, cell h1 b2 (o1 + 1) = some v1 ∧
∃ t3 : Bool, ifeqH Tryz.prog h1 true (v1) (.nilIface) = some t3 ∧
bcase t3 (
Runs Tryz.prog 66 #[(.int .i64 (-1 : Int))] h1 fun r5 h9 =>
∃ cs7 : List Value,
r5 = (.agg (cs7).toArray) ∧
(((cs7)).length = 3 ∧ wrs h9 b1 0 3 ∧ ∀ u ∈ ((cs7) : List Value), u.oneCell' = true) ∧ ∀ h10 : Heap, h10 = setr h9 b1 0 (cs7) →
∃ cs8 : List Value, row h10 b1 0 3 = some cs8 ∧
Post (.agg (cs8).toArray) h10) (
onAddr p1 fun b3 o2 =>
∃ v2 : Value, cell h1 b3 (o2 + 1) = some v2 ∧
onAddr p1 fun b4 o3 =>
∃ n2 : Int, cell h1 b4 o3 = some (.int .i64 n2) ∧
Runs Tryz.prog 231 #[v2] h1 fun r6 h11 =>
∃ n3 : Int,
r6 = (.int .i64 n3) ∧
cell h11 b4 o3 = some (.int .i64 n2) ∧
Runs Tryz.prog 232 #[(.int .i64 n3), (.int .i64 n2)] h11 fun r7 h12 =>
∃ cs9 : List Value,
r7 = (.agg (cs9).toArray) ∧
(((cs9)).length = 3 ∧ wrs h12 b1 0 3 ∧ ∀ u ∈ ((cs9) : List Value), u.oneCell' = true) ∧ ∀ h13 : Heap, h13 = setr h12 b1 0 (cs9) →
∃ cs10 : List Value, row h13 b1 0 3 = some cs10 ∧
Post (.agg (cs10).toArray) h13))))) :
    Runs Tryz.prog 140 #[e] h0 Post :=
  runs_of (args := [e]) (fun n => ⟨true, false⟩) (fun _ => []) (fun _ => none) (fun _ => []) Tryz.func140 rfl (by rw [Tryz.ntmps140]; simp) (Eq.mp (by kernel_rfl) H)

theorem vc_muezzinsee_sentinel (e : Value) (h0 : Heap) (Post : Value → Heap → Prop) (H :
Runs Tryz.prog 291 #[] h0 fun r1 h1 =>
∃ (s1 : Option Addr) (s1l s1c : Nat),
r1 = (.slice s1 s1l s1c) ∧
∃ (I1 : Int → Heap → Prop) (m1 : Int → Heap → Nat), I1 (0 : Int) h1 ∧ ∀ _ : Env,
∀ (i_1 : Int) (h2 : Heap), I1 i_1 h2 →
bcase (decide (i_1 < ((s1l : Nat) : Int))) (
(0 ≤ i_1 ∧ i_1 < ((s1l : Nat) : Int)) ∧
onAddr s1 fun b1 o1 =>
∃ v1 : Value, cell h2 b1 (o1 + (i_1).toNat) = some v1 ∧
Runs Tryz.prog 292 #[e, v1] h2 fun r2 h3 =>
∃ t1 : Bool,
r2 = (.bool t1) ∧
bcase t1 (
fits .i64 ((101 : Int) + i_1) ∧
Post (.int .i64 ((101 : Int) + i_1)) h3) (
fits .i64 (i_1 + (1 : Int)) ∧
I1 (i_1 + (1 : Int)) h3 ∧ m1 (i_1 + (1 : Int)) h3 < m1 i_1 h2)) (
Post (.int .i64 (-1 : Int)) h2)) :
    Runs Tryz.prog 231 #[e] h0 Post :=
  runs_of (args := [e]) (fun n => ⟨true, false⟩) (fun n => match n with | 0 => [(4, .int .i64)] | _ => []) (fun _ => none) (fun _ => []) Tryz.func231 rfl (by rw [Tryz.ntmps231]; simp) (Eq.mp (by kernel_rfl) H)

theorem vc_muezzinsee_sentinels  (h0 : Heap) (Post : Value → Heap → Prop) (H :
∃ v1 : Value, cell h0 8 0 = some v1 ∧
∃ v2 : Value, cell h0 7 0 = some v2 ∧
∃ v3 : Value, cell h0 1 0 = some v3 ∧
∃ v4 : Value, cell h0 9 0 = some v4 ∧
∃ v5 : Value, cell h0 5 0 = some v5 ∧
∃ v6 : Value, cell h0 11 0 = some v6 ∧
∃ v7 : Value, cell h0 0 0 = some v7 ∧
∃ v8 : Value, cell h0 2 0 = some v8 ∧
∃ v9 : Value, cell h0 4 0 = some v9 ∧
∃ v10 : Value, cell h0 3 0 = some v10 ∧
∃ v11 : Value, cell h0 6 0 = some v11 ∧
∃ v12 : Value, cell h0 10 0 = some v12 ∧
∃ v13 : Value, cell h0 12 0 = some v13 ∧
∃ v14 : Value, cell h0 13 0 = some v14 ∧
partv 1 v1 fun cs1 =>
partv 1 v2 fun cs2 =>
partv 1 v3 fun cs3 =>
partv 1 v4 fun cs4 =>
partv 1 v5 fun cs5 =>
partv 1 v6 fun cs6 =>
partv 1 v7 fun cs7 =>
partv 1 v8 fun cs8 =>
partv 1 v9 fun cs9 =>
partv 1 v10 fun cs10 =>
partv 1 v11 fun cs11 =>
partv 1 v12 fun cs12 =>
partv 1 v13 fun cs13 =>
partv 1 v14 fun cs14 =>
∀ (b1 : Nat) (h1 : Heap), b1 = h0.size → h1 = h0.push (.cells ((cs1 ++ (cs2 ++ (cs3 ++ (cs4 ++ (cs5 ++ (cs6 ++ (cs7 ++ (cs8 ++ (cs9 ++ (cs10 ++ (cs11 ++ (cs12 ++ (cs13 ++ (cs14 ++ []))))))))))))))).toArray 66) →
Post (.slice (some ⟨b1, 0, none⟩) 14 14) h1) :
    Runs Tryz.prog 291 #[] h0 Post :=
  runs_of (args := []) (fun n => ⟨true, false⟩) (fun _ => []) (fun _ => none) (fun _ => []) Tryz.func291 rfl (by rw [Tryz.ntmps291]; simp) (Eq.mp (by kernel_rfl) H)

theorem vc_muezzinsee_Alike (a : Value) (b : Value) (h0 : Heap) (Post : Value → Heap → Prop) (H :
∃ t1 : Bool, ifeqH Tryz.prog h0 true (a) (.nilIface) = some t1 ∧
bcase t1 (
∃ t2 : Bool, ifeqH Tryz.prog h0 true (a) (.nilIface) = some t2 ∧
bcase t2 (
∃ t3 : Bool, ifeqH Tryz.prog h0 true (b) (.nilIface) = some t3 ∧
Post (.bool t3) h0) (
Post (.bool false) h0)) (
∃ t4 : Bool, ifeqH Tryz.prog h0 true (b) (.nilIface) = some t4 ∧
bcase t4 (
∃ t5 : Bool, ifeqH Tryz.prog h0 true (a) (.nilIface) = some t5 ∧
bcase t5 (
∃ t6 : Bool, ifeqH Tryz.prog h0 true (b) (.nilIface) = some t6 ∧
Post (.bool t6) h0) (
Post (.bool false) h0)) (
∃ t7 : Bool, ifeqH Tryz.prog h0 false (a) (b) = some t7 ∧
Post (.bool t7) h0))) :
    Runs Tryz.prog 292 #[a, b] h0 Post :=
  runs_of (args := [a, b]) (fun n => ⟨true, false⟩) (fun _ => []) (fun _ => none) (fun _ => []) Tryz.func292 rfl (by rw [Tryz.ntmps292]; simp) (Eq.mp (by kernel_rfl) H)
end Go.Proofs.YtcefbgcgldagfaaGreatDoor
