/- The conditions for calls of functions of the program, in plain form: written by a program (vcgen) off the elaborated code; each is the reckoner's own, by the kernel. -/
import Derived.Test.YtgjbgcgjcamlgaaGreatDoorRows
import Derived.Test.YtgjbgcgjcamlgaaGreatDoorVc
set_option linter.unusedVariables false
set_option maxRecDepth 100000
namespace Go.Proofs.YtgjbgcgjcamlgaaGreatDoor
open Go.Vc
theorem vc_muezzinlaw26_first  (h0 : Heap) (Post : Value → Heap → Prop) (H :
Runs Tryz.prog 6 #[(.int .i64 (0 : Int))] h0 fun r1 h1 =>
∃ cs1 : List Value,
r1 = (.agg (cs1).toArray) ∧
Runs Tryz.prog 8 #[(.agg (cs1).toArray)] h1 fun r2 h2 =>
∃ p1 : Option Addr,
∃ v1 : Value,
r2 = (.tuple #[(.pointer p1), v1]) ∧
bcase (isNilAddr p1) (
Post (.bool false) h2) (
∃ t1 : Bool, ifeqH Tryz.prog h2 true (v1) (.nilIface) = some t1 ∧
bcase (!t1) (
Post (.bool false) h2) (
Runs Tryz.prog 21 #[(.pointer p1), (.int .i64 (0 : Int)), (.agg #[(.int .u32 (0 : Int)), (.int .u32 (0 : Int)), (.int .u32 (0 : Int)), (.int .u32 (0 : Int))])] h2 fun r3 h3 =>
∃ cs2 : List Value,
∃ t2 : Bool,
r3 = (.tuple #[(.agg (cs2).toArray), (.bool t2)]) ∧
∀ (b1 : Nat) (h4 : Heap), b1 = h3.size → h4 = h3.push (.cells ([(.int .i64 (0 : Int)), (.int .i64 (0 : Int)), (.int .i64 (0 : Int)), (.int .i64 (0 : Int)), (.int .i64 (0 : Int)), (.int .i64 (0 : Int)), (.bool false), (.slice none 0 0), (.int .i64 (0 : Int)), (.int .i64 (0 : Int))] : List Value).toArray 61) →
(((cs2)).length = 10 ∧ wrs h4 b1 0 10 ∧ ∀ u ∈ ((cs2) : List Value), u.oneCell' = true) ∧ ∀ h5 : Heap, h5 = setr h4 b1 0 (cs2) →
Runs Tryz.prog 11 #[(.int .i64 (1 : Int))] h5 fun r4 h6 =>
∃ cs3 : List Value,
r4 = (.agg (cs3).toArray) ∧
Runs Tryz.prog 10 #[(.pointer p1), (.agg (cs3).toArray), (.agg #[(.int .i64 (1 : Int)), (.int .i64 (0 : Int)), (.int .i64 (1 : Int)), (.int .i64 (20 : Int)), (.int .i64 (0 : Int))]), (.int .i64 (1 : Int)), (.agg #[(.bool false), (.bool false), (.bool false), (.bool false)]), (.int .i64 (0 : Int))] h6 fun r5 h7 =>
∃ n1 : Int,
∃ v2 : Value,
r5 = (.tuple #[(.int .i64 n1), v2]) ∧
bcase (!t2) (
∃ t3 : Bool, ifeqH Tryz.prog h7 true (v2) (.nilIface) = some t3 ∧
bcase t3 (
Post (.bool (decide (n1 = (1 : Int)))) h7) (
Post (.bool false) h7)) (
Post (.bool false) h7)))) :
    Runs Tryz.prog 5 #[] h0 Post :=
  runs_of (args := []) (fun n => ⟨true, false⟩) (fun _ => []) (fun _ => none) (fun _ => []) Tryz.func5 rfl (by rw [Tryz.ntmps5]; simp) (Eq.mp (by kernel_rfl) H)

theorem vc_muezzinair_Config (n : Int) (h0 : Heap) (Post : Value → Heap → Prop) (H :
∀ (b1 : Nat) (h1 : Heap), b1 = h0.size → h1 = h0.push (.cells ([(.int .u8 (0 : Int)), (.int .u8 (0 : Int)), (.int .u8 (0 : Int)), (.int .u8 (0 : Int)), (.int .u8 (0 : Int)), (.int .u8 (0 : Int)), (.int .u32 (0 : Int)), (.int .i64 (0 : Int)), (.int .i64 (0 : Int)), (.int .i64 (0 : Int)), (.int .i64 (0 : Int)), (.int .i64 (0 : Int)), (.int .i64 (0 : Int)), (.int .i64 (0 : Int)), (.int .i64 (0 : Int)), (.int .i64 (0 : Int)), (.int .i64 (0 : Int)), (.int .i64 (0 : Int)), (.int .i64 (0 : Int)), (.int .i64 (0 : Int)), (.int .i64 (0 : Int))] : List Value).toArray 28) →
Runs Tryz.prog 7 #[(.int .i64 n), (.int .i64 (1048576 : Int))] h1 fun r1 h2 =>
∃ n1 : Int,
r1 = (.int .i64 n1) ∧
Runs Tryz.prog 12 #[] h2 fun r2 h3 =>
∃ cs1 : List Value,
r2 = (.agg (cs1).toArray) ∧
fits .u32 n1 ∧
(cs1).length = 6 ∧
∀ (b2 : Nat) (h4 : Heap), b2 = h3.size → h4 = h3.push (.cells ([(.int .u8 (0 : Int)), (.int .u8 (0 : Int)), (.int .u8 (0 : Int)), (.int .u8 (0 : Int)), (.int .u8 (0 : Int)), (.int .u8 (0 : Int)), (.int .u32 (0 : Int)), (.int .i64 (0 : Int)), (.int .i64 (0 : Int)), (.int .i64 (0 : Int)), (.int .i64 (0 : Int)), (.int .i64 (0 : Int)), (.int .i64 (0 : Int)), (.int .i64 (0 : Int)), (.int .i64 (0 : Int)), (.int .i64 (0 : Int)), (.int .i64 (0 : Int)), (.int .i64 (0 : Int)), (.int .i64 (0 : Int)), (.int .i64 (0 : Int)), (.int .i64 (0 : Int))] : List Value).toArray 28) →
(((((cs1) ++ ([(.int .u32 n1), (.int .i64 (40 : Int)), (.int .i64 (8000 : Int)), (.int .i64 (50000 : Int)), (.int .i64 (1000000 : Int)), (.int .i64 (16 : Int)), (.int .i64 (2 : Int)), (.int .i64 (1073741824 : Int)), (.int .i64 (20000 : Int)), (.int .i64 (0 : Int)), (.int .i64 (0 : Int)), (.int .i64 (0 : Int)), (.int .i64 (0 : Int)), (.int .i64 (100000 : Int)), (.int .i64 (200000 : Int))] : List Value)))).length = 21 ∧ wrs h4 b2 0 21 ∧ ∀ u ∈ ((((cs1) ++ ([(.int .u32 n1), (.int .i64 (40 : Int)), (.int .i64 (8000 : Int)), (.int .i64 (50000 : Int)), (.int .i64 (1000000 : Int)), (.int .i64 (16 : Int)), (.int .i64 (2 : Int)), (.int .i64 (1073741824 : Int)), (.int .i64 (20000 : Int)), (.int .i64 (0 : Int)), (.int .i64 (0 : Int)), (.int .i64 (0 : Int)), (.int .i64 (0 : Int)), (.int .i64 (100000 : Int)), (.int .i64 (200000 : Int))] : List Value))) : List Value), u.oneCell' = true) ∧ ∀ h5 : Heap, h5 = setr h4 b2 0 (((cs1) ++ ([(.int .u32 n1), (.int .i64 (40 : Int)), (.int .i64 (8000 : Int)), (.int .i64 (50000 : Int)), (.int .i64 (1000000 : Int)), (.int .i64 (16 : Int)), (.int .i64 (2 : Int)), (.int .i64 (1073741824 : Int)), (.int .i64 (20000 : Int)), (.int .i64 (0 : Int)), (.int .i64 (0 : Int)), (.int .i64 (0 : Int)), (.int .i64 (0 : Int)), (.int .i64 (100000 : Int)), (.int .i64 (200000 : Int))] : List Value))) →
(0 ≤ n1 ∧ 0 < (5 : Int)) ∧
bcase (decide ((n1 % (5 : Int)) = (1 : Int))) (
wr h5 b2 11 ∧ ∀ h6 : Heap, h6 = setc h5 b2 11 (.int .i64 (1 : Int)) →
wr h6 b2 12 ∧ ∀ h7 : Heap, h7 = setc h6 b2 12 (.int .i64 (0 : Int)) →
∃ cs2 : List Value, row h7 b2 0 21 = some cs2 ∧
(((cs2)).length = 21 ∧ wrs h7 b1 0 21 ∧ ∀ u ∈ ((cs2) : List Value), u.oneCell' = true) ∧ ∀ h8 : Heap, h8 = setr h7 b1 0 (cs2) →
∃ cs3 : List Value, row h8 b1 0 21 = some cs3 ∧
Post (.agg (cs3).toArray) h8) (
bcase (decide ((n1 % (5 : Int)) = (2 : Int))) (
wr h5 b2 11 ∧ ∀ h9 : Heap, h9 = setc h5 b2 11 (.int .i64 (64 : Int)) →
wr h9 b2 7 ∧ ∀ h10 : Heap, h10 = setc h9 b2 7 (.int .i64 (9 : Int)) →
wr h10 b2 19 ∧ ∀ h11 : Heap, h11 = setc h10 b2 19 (.int .i64 (0 : Int)) →
wr h11 b2 20 ∧ ∀ h12 : Heap, h12 = setc h11 b2 20 (.int .i64 (0 : Int)) →
∃ cs4 : List Value, row h12 b2 0 21 = some cs4 ∧
(((cs4)).length = 21 ∧ wrs h12 b1 0 21 ∧ ∀ u ∈ ((cs4) : List Value), u.oneCell' = true) ∧ ∀ h13 : Heap, h13 = setr h12 b1 0 (cs4) →
∃ cs5 : List Value, row h13 b1 0 21 = some cs5 ∧
Post (.agg (cs5).toArray) h13) (
bcase (decide ((n1 % (5 : Int)) = (3 : Int))) (
wr h5 b2 11 ∧ ∀ h14 : Heap, h14 = setc h5 b2 11 (.int .i64 (4 : Int)) →
wr h14 b2 13 ∧ ∀ h15 : Heap, h15 = setc h14 b2 13 (.int .i64 (20000 : Int)) →
wr h15 b2 9 ∧ ∀ h16 : Heap, h16 = setc h15 b2 9 (.int .i64 (100 : Int)) →
wr h16 b2 10 ∧ ∀ h17 : Heap, h17 = setc h16 b2 10 (.int .i64 (1000 : Int)) →
wr h17 b2 8 ∧ ∀ h18 : Heap, h18 = setc h17 b2 8 (.int .i64 (100000 : Int)) →
∃ cs6 : List Value, row h18 b2 0 21 = some cs6 ∧
(((cs6)).length = 21 ∧ wrs h18 b1 0 21 ∧ ∀ u ∈ ((cs6) : List Value), u.oneCell' = true) ∧ ∀ h19 : Heap, h19 = setr h18 b1 0 (cs6) →
∃ cs7 : List Value, row h19 b1 0 21 = some cs7 ∧
Post (.agg (cs7).toArray) h19) (
bcase (decide ((n1 % (5 : Int)) = (4 : Int))) (
wr h5 b2 11 ∧ ∀ h20 : Heap, h20 = setc h5 b2 11 (.int .i64 (8 : Int)) →
wr h20 b2 12 ∧ ∀ h21 : Heap, h21 = setc h20 b2 12 (.int .i64 (5 : Int)) →
wr h21 b2 14 ∧ ∀ h22 : Heap, h22 = setc h21 b2 14 (.int .i64 (300 : Int)) →
((([(.int .i64 (600 : Int)), (.int .i64 (600 : Int)), (.int .i64 (600 : Int)), (.int .i64 (600 : Int))] : List Value)).length = 4 ∧ wrs h22 b2 15 4 ∧ ∀ u ∈ (([(.int .i64 (600 : Int)), (.int .i64 (600 : Int)), (.int .i64 (600 : Int)), (.int .i64 (600 : Int))] : List Value) : List Value), u.oneCell' = true) ∧ ∀ h23 : Heap, h23 = setr h22 b2 15 ([(.int .i64 (600 : Int)), (.int .i64 (600 : Int)), (.int .i64 (600 : Int)), (.int .i64 (600 : Int))] : List Value) →
∃ cs8 : List Value, row h23 b2 0 21 = some cs8 ∧
(((cs8)).length = 21 ∧ wrs h23 b1 0 21 ∧ ∀ u ∈ ((cs8) : List Value), u.oneCell' = true) ∧ ∀ h24 : Heap, h24 = setr h23 b1 0 (cs8) →
∃ cs9 : List Value, row h24 b1 0 21 = some cs9 ∧
Post (.agg (cs9).toArray) h24) (
∃ cs10 : List Value, row h5 b2 0 21 = some cs10 ∧
(((cs10)).length = 21 ∧ wrs h5 b1 0 21 ∧ ∀ u ∈ ((cs10) : List Value), u.oneCell' = true) ∧ ∀ h25 : Heap, h25 = setr h5 b1 0 (cs10) →
∃ cs11 : List Value, row h25 b1 0 21 = some cs11 ∧
Post (.agg (cs11).toArray) h25))))) :
    Runs Tryz.prog 6 #[(.int .i64 n)] h0 Post :=
  runs_of (args := [(.int .i64 n)]) (fun n => ⟨true, false⟩) (fun _ => []) (fun _ => none) (fun _ => []) Tryz.func6 rfl (by rw [Tryz.ntmps6]; simp) (Eq.mp (by kernel_rfl) H)

theorem vc_muezzinair_Addr (who : Int) (h0 : Heap) (Post : Value → Heap → Prop) (H :
∀ (b1 : Nat) (h1 : Heap), b1 = h0.size → h1 = h0.push (.cells ([(.int .u8 (0 : Int)), (.int .u8 (0 : Int)), (.int .u8 (0 : Int)), (.int .u8 (0 : Int)), (.int .u8 (0 : Int)), (.int .u8 (0 : Int))] : List Value).toArray 24) →
fits .u8 who ∧
((([(.int .u8 (2 : Int)), (.int .u8 (0 : Int)), (.int .u8 (0 : Int)), (.int .u8 (0 : Int)), (.int .u8 (0 : Int)), (.int .u8 who)] : List Value)).length = 6 ∧ wrs h1 b1 0 6 ∧ ∀ u ∈ (([(.int .u8 (2 : Int)), (.int .u8 (0 : Int)), (.int .u8 (0 : Int)), (.int .u8 (0 : Int)), (.int .u8 (0 : Int)), (.int .u8 who)] : List Value) : List Value), u.oneCell' = true) ∧ ∀ h2 : Heap, h2 = setr h1 b1 0 ([(.int .u8 (2 : Int)), (.int .u8 (0 : Int)), (.int .u8 (0 : Int)), (.int .u8 (0 : Int)), (.int .u8 (0 : Int)), (.int .u8 who)] : List Value) →
∃ cs1 : List Value, row h2 b1 0 6 = some cs1 ∧
Post (.agg (cs1).toArray) h2) :
    Runs Tryz.prog 11 #[(.int .i64 who)] h0 Post :=
  runs_of (args := [(.int .i64 who)]) (fun n => ⟨true, false⟩) (fun _ => []) (fun _ => none) (fun _ => []) Tryz.func11 rfl (by rw [Tryz.ntmps11]; simp) (Eq.mp (by kernel_rfl) H)

theorem vc_muezzinair_BSS  (h0 : Heap) (Post : Value → Heap → Prop) (H :
∀ (b1 : Nat) (h1 : Heap), b1 = h0.size → h1 = h0.push (.cells ([(.int .u8 (0 : Int)), (.int .u8 (0 : Int)), (.int .u8 (0 : Int)), (.int .u8 (0 : Int)), (.int .u8 (0 : Int)), (.int .u8 (0 : Int))] : List Value).toArray 24) →
((([(.int .u8 (2 : Int)), (.int .u8 (0 : Int)), (.int .u8 (0 : Int)), (.int .u8 (0 : Int)), (.int .u8 (1 : Int)), (.int .u8 (0 : Int))] : List Value)).length = 6 ∧ wrs h1 b1 0 6 ∧ ∀ u ∈ (([(.int .u8 (2 : Int)), (.int .u8 (0 : Int)), (.int .u8 (0 : Int)), (.int .u8 (0 : Int)), (.int .u8 (1 : Int)), (.int .u8 (0 : Int))] : List Value) : List Value), u.oneCell' = true) ∧ ∀ h2 : Heap, h2 = setr h1 b1 0 ([(.int .u8 (2 : Int)), (.int .u8 (0 : Int)), (.int .u8 (0 : Int)), (.int .u8 (0 : Int)), (.int .u8 (1 : Int)), (.int .u8 (0 : Int))] : List Value) →
∃ cs1 : List Value, row h2 b1 0 6 = some cs1 ∧
Post (.agg (cs1).toArray) h2) :
    Runs Tryz.prog 12 #[] h0 Post :=
  runs_of (args := []) (fun n => ⟨true, false⟩) (fun _ => []) (fun _ => none) (fun _ => []) Tryz.func12 rfl (by rw [Tryz.ntmps12]; simp) (Eq.mp (by kernel_rfl) H)

theorem vc_ap_New (c : List Value) (h0 : Heap) (Post : Value → Heap → Prop) (H :
∀ (b1 : Nat) (h1 : Heap), b1 = h0.size → h1 = h0.push (.cells (c).toArray 28) →
∃ n1 : Int, cell h1 b1 6 = some (.int .u32 n1) ∧
∃ n2 : Int, cell h1 b1 9 = some (.int .i64 n2) ∧
∃ n3 : Int, cell h1 b1 10 = some (.int .i64 n3) ∧
∃ n4 : Int, cell h1 b1 7 = some (.int .i64 n4) ∧
∃ n5 : Int, cell h1 b1 8 = some (.int .i64 n5) ∧
Runs Tryz.prog 22 #[(.int .u32 n1), (.int .i64 n2), (.int .i64 n3), (.int .i64 n4), (.int .i64 n5)] h1 fun r1 h2 =>
∃ p1 : Option Addr,
∃ v1 : Value,
r1 = (.tuple #[(.pointer p1), v1]) ∧
∃ t1 : Bool, ifeqH Tryz.prog h2 true (v1) (.nilIface) = some t1 ∧
bcase (!t1) (
Post (.tuple #[(.pointer none), v1]) h2) (
∃ n6 : Int, cell h2 b1 11 = some (.int .i64 n6) ∧
∃ n7 : Int, cell h2 b1 12 = some (.int .i64 n7) ∧
∃ n8 : Int, cell h2 b1 13 = some (.int .i64 n8) ∧
Runs Tryz.prog 23 #[(.int .i64 n6), (.int .i64 n7), (.int .i64 n8)] h2 fun r2 h3 =>
∃ p2 : Option Addr,
∃ v2 : Value,
r2 = (.tuple #[(.pointer p2), v2]) ∧
∃ t2 : Bool, ifeqH Tryz.prog h3 true (v2) (.nilIface) = some t2 ∧
bcase (!t2) (
Post (.tuple #[(.pointer none), v2]) h3) (
∃ n9 : Int, cell h3 b1 19 = some (.int .i64 n9) ∧
∃ n10 : Int, cell h3 b1 20 = some (.int .i64 n10) ∧
Runs Tryz.prog 24 #[(.int .i64 n9), (.int .i64 n10)] h3 fun r3 h4 =>
∃ p3 : Option Addr,
∃ v3 : Value,
r3 = (.tuple #[(.pointer p3), v3]) ∧
∃ t3 : Bool, ifeqH Tryz.prog h4 true (v3) (.nilIface) = some t3 ∧
bcase (!t3) (
Post (.tuple #[(.pointer none), v3]) h4) (
∃ J1 : Bool → Heap → Prop, (
∃ n11 : Int, cell h4 b1 9 = some (.int .i64 n11) ∧
bcase (decide (n11 < (0 : Int))) (
J1 true h4) (
∃ n12 : Int, cell h4 b1 9 = some (.int .i64 n12) ∧
J1 (decide ((1073741824 : Int) < n12)) h4)) ∧ ∀ _ : Env,
∀ (x1 : Bool) (h5 : Heap), J1 x1 h5 →
∃ J2 : Bool → Heap → Prop, (
bcase x1 (
J2 true h5) (
∃ n13 : Int, cell h5 b1 10 = some (.int .i64 n13) ∧
J2 (decide (n13 < (0 : Int))) h5)) ∧ ∀ _ : Env,
∀ (x2 : Bool) (h6 : Heap), J2 x2 h6 →
∃ J3 : Bool → Heap → Prop, (
bcase x2 (
J3 true h6) (
∃ n14 : Int, cell h6 b1 10 = some (.int .i64 n14) ∧
J3 (decide ((1073741824 : Int) < n14)) h6)) ∧ ∀ _ : Env,
∀ (x3 : Bool) (h7 : Heap), J3 x3 h7 →
∃ J4 : Bool → Heap → Prop, (
bcase x3 (
J4 true h7) (
∃ n15 : Int, cell h7 b1 14 = some (.int .i64 n15) ∧
J4 (decide (n15 < (1 : Int))) h7)) ∧ ∀ _ : Env,
∀ (x4 : Bool) (h8 : Heap), J4 x4 h8 →
∃ J5 : Bool → Heap → Prop, (
bcase x4 (
J5 true h8) (
∃ n16 : Int, cell h8 b1 14 = some (.int .i64 n16) ∧
J5 (decide ((65535 : Int) < n16)) h8)) ∧ ∀ _ : Env,
∀ (x5 : Bool) (h9 : Heap), J5 x5 h9 →
∃ J6 : Bool → Heap → Prop, (
bcase x5 (
J6 true h9) (
Runs Tryz.prog 26 #[(.slice (some ⟨b1, 15, none⟩) 4 4), (.func (.func 25) #[] #[])] h9 fun r4 h10 =>
∃ t4 : Bool,
r4 = (.bool t4) ∧
J6 t4 h10)) ∧ ∀ _ : Env,
∀ (x6 : Bool) (h11 : Heap), J6 x6 h11 →
bcase x6 (
∃ v4 : Value, cell h11 0 0 = some v4 ∧
Post (.tuple #[(.pointer none), v4]) h11) (
∃ cs1 : List Value, row h11 b1 0 6 = some cs1 ∧
Runs Tryz.prog 27 #[(.agg (cs1).toArray)] h11 fun r5 h12 =>
∃ t5 : Bool,
r5 = (.bool t5) ∧
bcase (!t5) (
∃ v5 : Value, cell h12 0 0 = some v5 ∧
Post (.tuple #[(.pointer none), v5]) h12) (
∃ cs2 : List Value, row h12 b1 0 21 = some cs2 ∧
(cs2).length = 21 ∧
∀ (b2 : Nat) (h13 : Heap), b2 = h12.size → h13 = h12.push (.cells (((cs2) ++ ([(.int .i64 (0 : Int)), (.bool false), (.int .u8 (0 : Int)), (.int .u8 (0 : Int)), (.int .u8 (0 : Int)), (.int .u8 (0 : Int)), (.int .u8 (0 : Int)), (.int .u8 (0 : Int)), (.int .i64 (0 : Int)), (.bool false), (.int .u8 (0 : Int)), (.int .u8 (0 : Int)), (.int .u8 (0 : Int)), (.int .u8 (0 : Int)), (.int .u8 (0 : Int)), (.int .u8 (0 : Int)), (.int .i64 (0 : Int)), (.bool false), (.int .u8 (0 : Int)), (.int .u8 (0 : Int)), (.int .u8 (0 : Int)), (.int .u8 (0 : Int)), (.int .u8 (0 : Int)), (.int .u8 (0 : Int)), (.int .i64 (0 : Int)), (.bool false), (.int .u8 (0 : Int)), (.int .u8 (0 : Int)), (.int .u8 (0 : Int)), (.int .u8 (0 : Int)), (.int .u8 (0 : Int)), (.int .u8 (0 : Int)), (.int .i64 (0 : Int)), (.bool false), (.int .u8 (0 : Int)), (.int .u8 (0 : Int)), (.int .u8 (0 : Int)), (.int .u8 (0 : Int)), (.int .u8 (0 : Int)), (.int .u8 (0 : Int)), (.int .i64 (0 : Int)), (.bool false), (.int .u8 (0 : Int)), (.int .u8 (0 : Int)), (.int .u8 (0 : Int)), (.int .u8 (0 : Int)), (.int .u8 (0 : Int)), (.int .u8 (0 : Int)), (.int .i64 (0 : Int)), (.bool false), (.int .u8 (0 : Int)), (.int .u8 (0 : Int)), (.int .u8 (0 : Int)), (.int .u8 (0 : Int)), (.int .u8 (0 : Int)), (.int .u8 (0 : Int)), (.int .i64 (0 : Int)), (.bool false), (.int .u8 (0 : Int)), (.int .u8 (0 : Int)), (.int .u8 (0 : Int)), (.int .u8 (0 : Int)), (.int .u8 (0 : Int)), (.int .u8 (0 : Int)), (.int .i64 (0 : Int)), (.bool false), (.int .u8 (0 : Int)), (.int .u8 (0 : Int)), (.int .u8 (0 : Int)), (.int .u8 (0 : Int)), (.int .u8 (0 : Int)), (.int .u8 (0 : Int)), (.int .i64 (0 : Int)), (.bool false), (.int .u8 (0 : Int)), (.int .u8 (0 : Int)), (.int .u8 (0 : Int)), (.int .u8 (0 : Int)), (.int .u8 (0 : Int)), (.int .u8 (0 : Int)), (.int .i64 (0 : Int)), (.bool false), (.int .u8 (0 : Int)), (.int .u8 (0 : Int)), (.int .u8 (0 : Int)), (.int .u8 (0 : Int)), (.int .u8 (0 : Int)), (.int .u8 (0 : Int)), (.int .i64 (0 : Int)), (.bool false), (.int .u8 (0 : Int)), (.int .u8 (0 : Int)), (.int .u8 (0 : Int)), (.int .u8 (0 : Int)), (.int .u8 (0 : Int)), (.int .u8 (0 : Int)), (.int .i64 (0 : Int)), (.bool false), (.int .u8 (0 : Int)), (.int .u8 (0 : Int)), (.int .u8 (0 : Int)), (.int .u8 (0 : Int)), (.int .u8 (0 : Int)), (.int .u8 (0 : Int)), (.int .i64 (0 : Int)), (.bool false), (.int .u8 (0 : Int)), (.int .u8 (0 : Int)), (.int .u8 (0 : Int)), (.int .u8 (0 : Int)), (.int .u8 (0 : Int)), (.int .u8 (0 : Int)), (.int .i64 (0 : Int)), (.bool false), (.int .u8 (0 : Int)), (.int .u8 (0 : Int)), (.int .u8 (0 : Int)), (.int .u8 (0 : Int)), (.int .u8 (0 : Int)), (.int .u8 (0 : Int)), (.int .i64 (0 : Int)), (.bool false), (.int .u8 (0 : Int)), (.int .u8 (0 : Int)), (.int .u8 (0 : Int)), (.int .u8 (0 : Int)), (.int .u8 (0 : Int)), (.int .u8 (0 : Int)), (.int .i64 (0 : Int)), (.bool false), (.bool false), (.bool false), (.bool false), (.bool false), (.bool false), (.bool false), (.bool false), (.int .i64 (0 : Int)), (.int .i64 (0 : Int)), (.bool false), (.bool false), (.bool false), (.bool false), (.bool false), (.bool false), (.bool false), (.bool false), (.int .i64 (0 : Int)), (.int .i64 (0 : Int)), (.bool false), (.bool false), (.bool false), (.bool false), (.bool false), (.bool false), (.bool false), (.bool false), (.int .i64 (0 : Int)), (.int .i64 (0 : Int)), (.bool false), (.bool false), (.bool false), (.bool false), (.bool false), (.bool false), (.bool false), (.bool false), (.int .i64 (0 : Int)), (.int .i64 (0 : Int)), (.bool false), (.bool false), (.bool false), (.bool false), (.bool false), (.bool false), (.bool false), (.bool false), (.int .i64 (0 : Int)), (.int .i64 (0 : Int)), (.bool false), (.bool false), (.bool false), (.bool false), (.bool false), (.bool false), (.bool false), (.bool false), (.int .i64 (0 : Int)), (.int .i64 (0 : Int)), (.bool false), (.bool false), (.bool false), (.bool false), (.bool false), (.bool false), (.bool false), (.bool false), (.int .i64 (0 : Int)), (.int .i64 (0 : Int)), (.bool false), (.bool false), (.bool false), (.bool false), (.bool false), (.bool false), (.bool false), (.bool false), (.int .i64 (0 : Int)), (.int .i64 (0 : Int)), (.bool false), (.bool false), (.bool false), (.bool false), (.bool false), (.bool false), (.bool false), (.bool false), (.int .i64 (0 : Int)), (.int .i64 (0 : Int)), (.bool false), (.bool false), (.bool false), (.bool false), (.bool false), (.bool false), (.bool false), (.bool false), (.int .i64 (0 : Int)), (.int .i64 (0 : Int)), (.bool false), (.bool false), (.bool false), (.bool false), (.bool false), (.bool false), (.bool false), (.bool false), (.int .i64 (0 : Int)), (.int .i64 (0 : Int)), (.bool false), (.bool false), (.bool false), (.bool false), (.bool false), (.bool false), (.bool false), (.bool false), (.int .i64 (0 : Int)), (.int .i64 (0 : Int)), (.bool false), (.bool false), (.bool false), (.bool false), (.bool false), (.bool false), (.bool false), (.bool false), (.int .i64 (0 : Int)), (.int .i64 (0 : Int)), (.bool false), (.bool false), (.bool false), (.bool false), (.bool false), (.bool false), (.bool false), (.bool false), (.int .i64 (0 : Int)), (.int .i64 (0 : Int)), (.bool false), (.bool false), (.bool false), (.bool false), (.bool false), (.bool false), (.bool false), (.bool false), (.int .i64 (0 : Int)), (.int .i64 (0 : Int)), (.bool false), (.bool false), (.bool false), (.bool false), (.bool false), (.bool false), (.bool false), (.bool false), (.int .i64 (0 : Int)), (.int .i64 (0 : Int)), (.slice none 0 0), (.pointer p1), (.pointer p3), (.pointer none), (.pointer none), (.pointer none), (.pointer none), (.bool false), (.int .i64 (0 : Int)), (.int .i64 (0 : Int)), (.bool false), (.int .i64 (0 : Int)), (.int .i64 (0 : Int)), (.bool false), (.int .i64 (0 : Int)), (.int .i64 (0 : Int)), (.bool false), (.int .i64 (0 : Int)), (.int .i64 (0 : Int)), (.pointer none), (.pointer none), (.pointer none), (.pointer none), (.pointer none), (.pointer none), (.pointer none), (.pointer none), (.pointer none), (.pointer none), (.pointer none), (.pointer none), (.pointer none), (.pointer none), (.pointer none), (.pointer none), (.int .i64 (0 : Int)), (.slice none 0 0)] : List Value))).toArray 101) →
∃ (I1 : Int → Heap → Prop) (m1 : Int → Heap → Nat), I1 (0 : Int) h13 ∧ ∀ _ : Env,
∀ (x7 : Int) (h14 : Heap), I1 x7 h14 →
bcase (decide (x7 < (4 : Int))) (
Runs Tryz.prog 28 #[] h14 fun r6 h15 =>
∃ p4 : Option Addr,
r6 = (.pointer p4) ∧
(0 ≤ x7 ∧ x7 < ((4 : Nat) : Int)) ∧
wr h15 b2 (313 + (x7).toNat) ∧ ∀ h16 : Heap, h16 = setc h15 b2 (313 + (x7).toNat) (.pointer p4) →
fits .i64 (x7 + (1 : Int)) ∧
I1 (x7 + (1 : Int)) h16 ∧ m1 (x7 + (1 : Int)) h16 < m1 x7 h14) (
Post (.tuple #[(.pointer (some ⟨b2, 0, none⟩)), .nilIface]) h14))))))) :
    Runs Tryz.prog 8 #[(.agg (c).toArray)] h0 Post :=
  runs_of (args := [(.agg (c).toArray)]) (fun n => ⟨true, false⟩) (fun n => match n with | 0 => [(99, .int .i64)] | _ => []) (fun _ => none) (fun n => match n with | 11 => [(8, [(60, .bool)]), (5, [(65, .bool)]), (5, [(70, .bool)]), (5, [(75, .bool)]), (5, [(80, .bool)]), (6, [(86, .bool)])] | _ => []) Tryz.func8 rfl (by rw [Tryz.ntmps8]; simp) (Eq.mp (by kernel_rfl) H)

theorem vc_ap_New_1 (n : Int) (h0 : Heap) (Post : Value → Heap → Prop) (H :
bcase (decide (n < (0 : Int))) (
Post (.bool true) h0) (
Post (.bool (decide ((54840 : Int) < n))) h0)) :
    Runs Tryz.prog 25 #[(.int .i64 n)] h0 Post :=
  runs_of (args := [(.int .i64 n)]) (fun n => ⟨true, false⟩) (fun _ => []) (fun _ => none) (fun _ => []) Tryz.func25 rfl (by rw [Tryz.ntmps25]; simp) (Eq.mp (by kernel_rfl) H)

theorem vc_slices_ContainsFunc_int64 (s : Option Addr) (sL sC : Nat) (f : Value) (h0 : Heap) (Post : Value → Heap → Prop) (H :
Runs Tryz.prog 62 #[(.slice s sL sC), f] h0 fun r1 h1 =>
∃ n1 : Int,
r1 = (.int .i64 n1) ∧
Post (.bool (decide ((0 : Int) ≤ n1))) h1) :
    Runs Tryz.prog 26 #[(.slice s sL sC), f] h0 Post :=
  runs_of (args := [(.slice s sL sC), f]) (fun n => ⟨true, false⟩) (fun _ => []) (fun _ => none) (fun _ => []) Tryz.func26 rfl (by rw [Tryz.ntmps26]; simp) (Eq.mp (by kernel_rfl) H)

theorem vc_slices_IndexFunc_int64 (s : Option Addr) (sL sC : Nat) (f : Value) (h0 : Heap) (Post : Value → Heap → Prop) (H :
∃ (I1 : Int → Heap → Prop) (m1 : Int → Heap → Nat), I1 (0 : Int) h0 ∧ ∀ _ : Env,
∀ (x1 : Int) (h1 : Heap), I1 x1 h1 →
bcase (decide (x1 < ((sL : Nat) : Int))) (
(0 ≤ x1 ∧ x1 < ((sL : Nat) : Int)) ∧
onAddr s fun b1 o1 =>
∃ n1 : Int, cell h1 b1 (o1 + (x1).toNat) = some (.int .i64 n1) ∧
callv Tryz.prog f [(.int .i64 n1)] h1 fun r1 h2 =>
∃ t1 : Bool,
r1 = (.bool t1) ∧
bcase t1 (
Post (.int .i64 x1) h2) (
fits .i64 (x1 + (1 : Int)) ∧
I1 (x1 + (1 : Int)) h2 ∧ m1 (x1 + (1 : Int)) h2 < m1 x1 h1)) (
Post (.int .i64 (-1 : Int)) h1)) :
    Runs Tryz.prog 62 #[(.slice s sL sC), f] h0 Post :=
  runs_of (args := [(.slice s sL sC), f]) (fun n => ⟨true, false⟩) (fun n => match n with | 0 => [(8, .int .i64)] | _ => []) (fun _ => none) (fun _ => []) Tryz.func62 rfl (by rw [Tryz.ntmps62]; simp) (Eq.mp (by kernel_rfl) H)

theorem vc_sta_Fair (a : List Value) (h0 : Heap) (Post : Value → Heap → Prop) (H :
∀ (b1 : Nat) (h1 : Heap), b1 = h0.size → h1 = h0.push (.cells (a).toArray 24) →
(0 ≤ (0 : Int) ∧ (0 : Int) < ((6 : Nat) : Int)) ∧
∃ n1 : Int, cell h1 b1 0 = some (.int .u8 n1) ∧
bcase (decide ((bits .and .u8 n1 (1 : Int)) = (0 : Int))) (
∃ cs1 : List Value, row h1 b1 0 6 = some cs1 ∧
∃ l1 l2 : List Int, cs1 = l1.map (Value.int .u8) ∧ ([(.int .u8 (0 : Int)), (.int .u8 (0 : Int)), (.int .u8 (0 : Int)), (.int .u8 (0 : Int)), (.int .u8 (0 : Int)), (.int .u8 (0 : Int))] : List Value) = l2.map (Value.int .u8) ∧ (l1.length = 6 ∧ l2.length = 6) ∧
Post (.bool (!(decide (l1 = l2)))) h1) (
Post (.bool false) h1)) :
    Runs Tryz.prog 27 #[(.agg (a).toArray)] h0 Post :=
  runs_of (args := [(.agg (a).toArray)]) (fun n => ⟨true, false⟩) (fun _ => []) (fun _ => none) (fun _ => []) Tryz.func27 rfl (by rw [Tryz.ntmps27]; simp) (Eq.mp (by kernel_rfl) H)

theorem vc_sched_New  (h0 : Heap) (Post : Value → Heap → Prop) (H :
∀ (b1 : Nat) (h1 : Heap), b1 = h0.size → h1 = h0.push (.cells ([(.slice none 0 0)] : List Value).toArray 163) →
∀ (b2 : Nat) (h2 : Heap), b2 = h1.size → h2 = h1.push (.cells ([(.pointer none), (.pointer none), (.pointer none), (.pointer none), (.pointer none), (.pointer none), (.pointer none), (.pointer none), (.pointer none), (.pointer none), (.pointer none), (.pointer none), (.pointer none), (.pointer none), (.pointer none), (.pointer none), (.pointer (some ⟨b1, 0, none⟩))] : List Value).toArray 167) →
Post (.pointer (some ⟨b2, 0, none⟩)) h2) :
    Runs Tryz.prog 28 #[] h0 Post :=
  runs_of (args := []) (fun n => ⟨true, false⟩) (fun _ => []) (fun _ => none) (fun _ => []) Tryz.func28 rfl (by rw [Tryz.ntmps28]; simp) (Eq.mp (by kernel_rfl) H)

theorem vc_aql_New (station : Int) (all : Int) (h0 : Heap) (Post : Value → Heap → Prop) (H :
Runs Tryz.prog 61 #[(.int .i64 station)] h0 fun r1 h1 =>
∃ t1 : Bool,
r1 = (.bool t1) ∧
bcase (!t1) (
∃ v1 : Value, cell h1 0 0 = some v1 ∧
Post (.tuple #[(.pointer none), v1]) h1) (
Runs Tryz.prog 61 #[(.int .i64 all)] h1 fun r2 h2 =>
∃ t2 : Bool,
r2 = (.bool t2) ∧
bcase (!t2) (
∃ v2 : Value, cell h2 0 0 = some v2 ∧
Post (.tuple #[(.pointer none), v2]) h2) (
∀ (b1 : Nat) (h3 : Heap), b1 = h2.size → h3 = h2.push (.cells ([(.int .i64 station), (.int .i64 all), (.int .i64 (0 : Int)), (.int .i64 (0 : Int)), (.int .i64 (0 : Int)), (.int .i64 (0 : Int)), (.int .i64 (0 : Int)), (.int .i64 (0 : Int)), (.int .i64 (0 : Int)), (.int .i64 (0 : Int)), (.int .i64 (0 : Int)), (.int .i64 (0 : Int)), (.int .i64 (0 : Int)), (.int .i64 (0 : Int)), (.int .i64 (0 : Int)), (.int .i64 (0 : Int)), (.int .i64 (0 : Int)), (.int .i64 (0 : Int))] : List Value).toArray 158) →
Post (.tuple #[(.pointer (some ⟨b1, 0, none⟩)), .nilIface]) h3))) :
    Runs Tryz.prog 24 #[(.int .i64 station), (.int .i64 all)] h0 Post :=
  runs_of (args := [(.int .i64 station), (.int .i64 all)]) (fun n => ⟨true, false⟩) (fun _ => []) (fun _ => none) (fun _ => []) Tryz.func24 rfl (by rw [Tryz.ntmps24]; simp) (Eq.mp (by kernel_rfl) H)

theorem vc_aql_fair (n : Int) (h0 : Heap) (Post : Value → Heap → Prop) (H :
bcase (decide ((0 : Int) ≤ n)) (
Post (.bool (decide (n ≤ (1099511627776 : Int)))) h0) (
Post (.bool false) h0)) :
    Runs Tryz.prog 61 #[(.int .i64 n)] h0 Post :=
  runs_of (args := [(.int .i64 n)]) (fun n => ⟨true, false⟩) (fun _ => []) (fun _ => none) (fun _ => []) Tryz.func61 rfl (by rw [Tryz.ntmps61]; simp) (Eq.mp (by kernel_rfl) H)

theorem vc_ba_New (size : Int) (retry : Int) (life : Int) (h0 : Heap) (Post : Value → Heap → Prop) (H :
bcase (decide (size < (1 : Int))) (
∃ v1 : Value, cell h0 0 0 = some v1 ∧
Post (.tuple #[(.pointer none), v1]) h0) (
bcase (decide ((64 : Int) < size)) (
∃ v2 : Value, cell h0 0 0 = some v2 ∧
Post (.tuple #[(.pointer none), v2]) h0) (
bcase (decide (retry < (0 : Int))) (
∃ v3 : Value, cell h0 0 0 = some v3 ∧
Post (.tuple #[(.pointer none), v3]) h0) (
bcase (decide ((15 : Int) < retry)) (
∃ v4 : Value, cell h0 0 0 = some v4 ∧
Post (.tuple #[(.pointer none), v4]) h0) (
bcase (decide (life < (1 : Int))) (
∃ v5 : Value, cell h0 0 0 = some v5 ∧
Post (.tuple #[(.pointer none), v5]) h0) (
bcase (decide ((1099511627776 : Int) < life)) (
∃ v6 : Value, cell h0 0 0 = some v6 ∧
Post (.tuple #[(.pointer none), v6]) h0) (
Runs Tryz.prog 60 #[(.int .i64 (0 : Int)), (.int .i64 (1 : Int))] h0 fun r1 h1 =>
∃ p1 : Option Addr,
∃ v7 : Value,
r1 = (.tuple #[(.pointer p1), v7]) ∧
∃ t1 : Bool, ifeqH Tryz.prog h1 true (v7) (.nilIface) = some t1 ∧
bcase (!t1) (
Post (.tuple #[(.pointer none), v7]) h1) (
∀ (b1 : Nat) (h2 : Heap), b1 = h1.size → h2 = h1.push (.cells ([(.pointer p1), (.int .i64 size), (.int .i64 retry), (.int .i64 life), (.int .i64 (1 : Int)), (.int .i64 (0 : Int)), (.slice none 0 0), (.bool false), (.int .i64 (0 : Int))] : List Value).toArray 155) →
Post (.tuple #[(.pointer (some ⟨b1, 0, none⟩)), .nilIface]) h2)))))))) :
    Runs Tryz.prog 23 #[(.int .i64 size), (.int .i64 retry), (.int .i64 life)] h0 Post :=
  runs_of (args := [(.int .i64 size), (.int .i64 retry), (.int .i64 life)]) (fun n => ⟨true, false⟩) (fun _ => []) (fun _ => none) (fun _ => []) Tryz.func23 rfl (by rw [Tryz.ntmps23]; simp) (Eq.mp (by kernel_rfl) H)

theorem vc_win_New (start : Int) (size : Int) (h0 : Heap) (Post : Value → Heap → Prop) (H :
bcase (decide (start < (0 : Int))) (
∃ v1 : Value, cell h0 0 0 = some v1 ∧
Post (.tuple #[(.pointer none), v1]) h0) (
bcase (decide ((4096 : Int) ≤ start)) (
∃ v2 : Value, cell h0 0 0 = some v2 ∧
Post (.tuple #[(.pointer none), v2]) h0) (
bcase (decide (size < (1 : Int))) (
∃ v3 : Value, cell h0 0 0 = some v3 ∧
Post (.tuple #[(.pointer none), v3]) h0) (
bcase (decide ((64 : Int) < size)) (
∃ v4 : Value, cell h0 0 0 = some v4 ∧
Post (.tuple #[(.pointer none), v4]) h0) (
∀ (b1 : Nat) (h1 : Heap), b1 = h0.size → h1 = h0.push (.cells ([(.int .i64 start), (.int .i64 start), (.int .i64 size), (.slice none 0 0)] : List Value).toArray 225) →
Post (.tuple #[(.pointer (some ⟨b1, 0, none⟩)), .nilIface]) h1))))) :
    Runs Tryz.prog 60 #[(.int .i64 start), (.int .i64 size)] h0 Post :=
  runs_of (args := [(.int .i64 start), (.int .i64 size)]) (fun n => ⟨true, false⟩) (fun _ => []) (fun _ => none) (fun _ => []) Tryz.func60 rfl (by rw [Tryz.ntmps60]; simp) (Eq.mp (by kernel_rfl) H)

theorem vc_ap_AP_Send (a : Option Addr) (now : Int) (draws : List Value) (h0 : Heap) (Post : Value → Heap → Prop) (H :
∀ (b1 : Nat) (h1 : Heap), b1 = h0.size → h1 = h0.push (.cells (draws).toArray 64) →
∀ (b2 : Nat) (h2 : Heap), b2 = h1.size → h2 = h1.push (.cells ([(.int .i64 (0 : Int)), (.int .i64 (0 : Int)), (.int .i64 (0 : Int)), (.int .i64 (0 : Int)), (.int .i64 (0 : Int)), (.int .i64 (0 : Int)), (.bool false), (.slice none 0 0), (.int .i64 (0 : Int)), (.int .i64 (0 : Int))] : List Value).toArray 61) →
onAddr a fun b3 o1 =>
∃ n1 : Int, cell h2 b3 (o1 + 21) = some (.int .i64 n1) ∧
bcase (decide (now < n1)) (
((([(.int .i64 (0 : Int)), (.int .i64 (0 : Int)), (.int .i64 (0 : Int)), (.int .i64 (0 : Int)), (.int .i64 (0 : Int)), (.int .i64 (0 : Int)), (.bool false), (.slice none 0 0), (.int .i64 (0 : Int)), (.int .i64 (0 : Int))] : List Value)).length = 10 ∧ wrs h2 b2 0 10 ∧ ∀ u ∈ (([(.int .i64 (0 : Int)), (.int .i64 (0 : Int)), (.int .i64 (0 : Int)), (.int .i64 (0 : Int)), (.int .i64 (0 : Int)), (.int .i64 (0 : Int)), (.bool false), (.slice none 0 0), (.int .i64 (0 : Int)), (.int .i64 (0 : Int))] : List Value) : List Value), u.oneCell' = true) ∧ ∀ h3 : Heap, h3 = setr h2 b2 0 ([(.int .i64 (0 : Int)), (.int .i64 (0 : Int)), (.int .i64 (0 : Int)), (.int .i64 (0 : Int)), (.int .i64 (0 : Int)), (.int .i64 (0 : Int)), (.bool false), (.slice none 0 0), (.int .i64 (0 : Int)), (.int .i64 (0 : Int))] : List Value) →
∃ cs1 : List Value, row h3 b2 0 10 = some cs1 ∧
Post (.tuple #[(.agg (cs1).toArray), (.bool false)]) h3) (
onAddr a fun b4 o2 =>
wr h2 b4 (o2 + 21) ∧ ∀ h4 : Heap, h4 = setc h2 b4 (o2 + 21) (.int .i64 now) →
onAddr a fun b5 o3 =>
Runs Tryz.prog 20 #[(.pointer (some ⟨b5, (o3 + 22), none⟩))] h4 fun r1 h5 =>
∃ (s1 : Option Addr) (s1l s1c : Nat),
r1 = (.slice s1 s1l s1c) ∧
∃ (I1 : Int → Heap → Prop) (m1 : Int → Heap → Nat), I1 (0 : Int) h5 ∧ ∀ _ : Env,
∀ (x1 : Int) (h6 : Heap), I1 x1 h6 →
bcase (decide (x1 < ((s1l : Nat) : Int))) (
(0 ≤ x1 ∧ x1 < ((s1l : Nat) : Int)) ∧
onAddr s1 fun b6 o4 =>
∃ n2 : Int, cell h6 b6 (o4 + (x1).toNat) = some (.int .i64 n2) ∧
∃ (I2 : Int → Heap → Prop) (m2 : Int → Heap → Nat), I2 (0 : Int) h6 ∧ ∀ _ : Env,
∀ (x2 : Int) (h7 : Heap), I2 x2 h7 →
bcase (decide (x2 < (8 : Int))) (
Runs Tryz.prog 35 #[(.pointer a), (.int .i64 n2)] h7 fun r2 h8 =>
∃ p1 : Option Addr,
r2 = (.pointer p1) ∧
onAddr p1 fun b7 o5 =>
(0 ≤ x2 ∧ x2 < ((8 : Nat) : Int)) ∧
∃ t1 : Bool, cell h8 b7 (((o5 + 6) + ((x2).toNat * 5)) + 4) = some (.bool t1) ∧
bcase (!t1) (
Runs Tryz.prog 51 #[(.pointer a), (.pointer (some ⟨b7, ((o5 + 6) + ((x2).toNat * 5)), none⟩))] h8 fun r3 h9 =>
fits .i64 (x2 + (1 : Int)) ∧
I2 (x2 + (1 : Int)) h9 ∧ m2 (x2 + (1 : Int)) h9 < m2 x2 h7) (
fits .i64 (x2 + (1 : Int)) ∧
I2 (x2 + (1 : Int)) h8 ∧ m2 (x2 + (1 : Int)) h8 < m2 x2 h7)) (
fits .i64 (x1 + (1 : Int)) ∧
I1 (x1 + (1 : Int)) h7 ∧ m1 (x1 + (1 : Int)) h7 < m1 x1 h6)) (
onAddr a fun b8 o6 =>
∃ cs2 : List Value, row h6 b1 0 4 = some cs2 ∧
Runs Tryz.prog 53 #[(.pointer a)] h6 fun r4 h10 =>
∃ cs3 : List Value,
r4 = (.agg (cs3).toArray) ∧
row h10 b1 0 4 = some (cs2) ∧
Runs Tryz.prog 52 #[(.pointer (some ⟨b8, (o6 + 317), none⟩)), (.agg (cs3).toArray), (.agg (cs2).toArray)] h10 fun r5 h11 =>
∃ n3 : Int,
∃ n4 : Int,
∃ t2 : Bool,
r5 = (.tuple #[(.int .i64 n3), (.int .i64 n4), (.bool t2)]) ∧
bcase (!t2) (
((([(.int .i64 (0 : Int)), (.int .i64 (0 : Int)), (.int .i64 (0 : Int)), (.int .i64 (0 : Int)), (.int .i64 (0 : Int)), (.int .i64 (0 : Int)), (.bool false), (.slice none 0 0), (.int .i64 (0 : Int)), (.int .i64 (0 : Int))] : List Value)).length = 10 ∧ wrs h11 b2 0 10 ∧ ∀ u ∈ (([(.int .i64 (0 : Int)), (.int .i64 (0 : Int)), (.int .i64 (0 : Int)), (.int .i64 (0 : Int)), (.int .i64 (0 : Int)), (.int .i64 (0 : Int)), (.bool false), (.slice none 0 0), (.int .i64 (0 : Int)), (.int .i64 (0 : Int))] : List Value) : List Value), u.oneCell' = true) ∧ ∀ h12 : Heap, h12 = setr h11 b2 0 ([(.int .i64 (0 : Int)), (.int .i64 (0 : Int)), (.int .i64 (0 : Int)), (.int .i64 (0 : Int)), (.int .i64 (0 : Int)), (.int .i64 (0 : Int)), (.bool false), (.slice none 0 0), (.int .i64 (0 : Int)), (.int .i64 (0 : Int))] : List Value) →
∃ cs4 : List Value, row h12 b2 0 10 = some cs4 ∧
Post (.tuple #[(.agg (cs4).toArray), (.bool false)]) h12) (
onAddr a fun b9 o7 =>
(0 ≤ n3 ∧ n3 < ((4 : Nat) : Int)) ∧
∃ p2 : Option Addr, cell h11 b9 ((o7 + 313) + (n3).toNat) = some (.pointer p2) ∧
Runs Tryz.prog 54 #[(.pointer p2)] h11 fun r6 h13 =>
∃ (s2 : Option Addr) (s2l s2c : Nat),
r6 = (.slice s2 s2l s2c) ∧
∃ (I3 : Int → Heap → Prop) (m3 : Int → Heap → Nat), I3 (0 : Int) h13 ∧ ∀ _ : Env,
∀ (x3 : Int) (h14 : Heap), I3 x3 h14 →
bcase (decide (x3 < ((s2l : Nat) : Int))) (
(0 ≤ x3 ∧ x3 < ((s2l : Nat) : Int)) ∧
onAddr s2 fun b10 o8 =>
∃ n5 : Int, cell h14 b10 (o8 + (x3).toNat) = some (.int .i64 n5) ∧
onAddr a fun b11 o9 =>
∃ p3 : Option Addr, cell h14 b11 (o9 + 312) = some (.pointer p3) ∧
Runs Tryz.prog 55 #[(.pointer p3), (.int .i64 n5)] h14 fun r7 h15 =>
∃ t3 : Bool,
r7 = (.bool t3) ∧
bcase (!t3) (
fits .i64 (x3 + (1 : Int)) ∧
I3 (x3 + (1 : Int)) h15 ∧ m3 (x3 + (1 : Int)) h15 < m3 x3 h14) (
Runs Tryz.prog 56 #[(.pointer a), (.int .i64 n5), (.int .i64 n3)] h15 fun r8 h16 =>
∃ (s3 : Option Addr) (s3l s3c : Nat),
r8 = (.slice s3 s3l s3c) ∧
∃ (I4 : Int → Heap → Prop) (m4 : Int → Heap → Nat), I4 (0 : Int) h16 ∧ ∀ _ : Env,
∀ (x4 : Int) (h17 : Heap), I4 x4 h17 →
bcase (decide (x4 < ((s3l : Nat) : Int))) (
(0 ≤ x4 ∧ x4 < ((s3l : Nat) : Int)) ∧
onAddr s3 fun b12 o10 =>
∃ n6 : Int, cell h17 b12 (o10 + (x4).toNat) = some (.int .i64 n6) ∧
Runs Tryz.prog 57 #[(.pointer a), (.int .i64 n5), (.int .i64 n6)] h17 fun r9 h18 =>
∃ p4 : Option Addr,
r9 = (.pointer p4) ∧
bcase (!(isNilAddr p4)) (
Runs Tryz.prog 58 #[(.pointer a), (.pointer p4), (.int .i64 n4)] h18 fun r10 h19 =>
∃ cs5 : List Value,
r10 = (.agg (cs5).toArray) ∧
(((cs5)).length = 10 ∧ wrs h19 b2 0 10 ∧ ∀ u ∈ ((cs5) : List Value), u.oneCell' = true) ∧ ∀ h20 : Heap, h20 = setr h19 b2 0 (cs5) →
∃ cs6 : List Value, row h20 b2 0 10 = some cs6 ∧
Post (.tuple #[(.agg (cs6).toArray), (.bool true)]) h20) (
fits .i64 (x4 + (1 : Int)) ∧
I4 (x4 + (1 : Int)) h18 ∧ m4 (x4 + (1 : Int)) h18 < m4 x4 h17)) (
fits .i64 (x3 + (1 : Int)) ∧
I3 (x3 + (1 : Int)) h17 ∧ m3 (x3 + (1 : Int)) h17 < m3 x3 h14))) (
((([(.int .i64 (0 : Int)), (.int .i64 (0 : Int)), (.int .i64 (0 : Int)), (.int .i64 (0 : Int)), (.int .i64 (0 : Int)), (.int .i64 (0 : Int)), (.bool false), (.slice none 0 0), (.int .i64 (0 : Int)), (.int .i64 (0 : Int))] : List Value)).length = 10 ∧ wrs h14 b2 0 10 ∧ ∀ u ∈ (([(.int .i64 (0 : Int)), (.int .i64 (0 : Int)), (.int .i64 (0 : Int)), (.int .i64 (0 : Int)), (.int .i64 (0 : Int)), (.int .i64 (0 : Int)), (.bool false), (.slice none 0 0), (.int .i64 (0 : Int)), (.int .i64 (0 : Int))] : List Value) : List Value), u.oneCell' = true) ∧ ∀ h21 : Heap, h21 = setr h14 b2 0 ([(.int .i64 (0 : Int)), (.int .i64 (0 : Int)), (.int .i64 (0 : Int)), (.int .i64 (0 : Int)), (.int .i64 (0 : Int)), (.int .i64 (0 : Int)), (.bool false), (.slice none 0 0), (.int .i64 (0 : Int)), (.int .i64 (0 : Int))] : List Value) →
∃ cs7 : List Value, row h21 b2 0 10 = some cs7 ∧
Post (.tuple #[(.agg (cs7).toArray), (.bool false)]) h21))))) :
    Runs Tryz.prog 21 #[(.pointer a), (.int .i64 now), (.agg (draws).toArray)] h0 Post :=
  runs_of (args := [(.pointer a), (.int .i64 now), (.agg (draws).toArray)]) (fun n => ⟨true, false⟩) (fun n => match n with | 0 => [(36, .int .i64)] | 2 => [(40, .int .i64)] | 4 => [(82, .int .i64)] | 6 => [(98, .int .i64)] | _ => []) (fun _ => none) (fun _ => []) Tryz.func21 rfl (by rw [Tryz.ntmps21]; simp) (Eq.mp (by kernel_rfl) H)

theorem vc_ap_AP_actives (a : Option Addr) (h0 : Heap) (Post : Value → Heap → Prop) (H :
∀ (b1 : Nat) (h1 : Heap), b1 = h0.size → h1 = h0.push (.cells ([(.bool false), (.bool false), (.bool false), (.bool false)] : List Value).toArray 46) →
∀ (b2 : Nat) (h2 : Heap), b2 = h1.size → h2 = h1.push (.cells ([(.bool false), (.bool false), (.bool false), (.bool false)] : List Value).toArray 46) →
onAddr a fun b3 o1 =>
∃ cs1 : List Value, row h2 b3 (o1 + 313) 4 = some cs1 ∧
∃ (I1 : Int → Heap → Prop) (m1 : Int → Heap → Nat), I1 (0 : Int) h2 ∧ ∀ _ : Env,
∀ (x1 : Int) (h3 : Heap), I1 x1 h3 →
bcase (decide (x1 < (4 : Int))) (
(0 ≤ x1 ∧ x1 < ((4 : Nat) : Int)) ∧
∃ p1 : Option Addr, cs1[(x1).toNat]? = some (.pointer p1) ∧
onAddr a fun b4 o2 =>
Runs Tryz.prog 20 #[(.pointer (some ⟨b4, (o2 + 22), none⟩))] h3 fun r1 h4 =>
∃ (s1 : Option Addr) (s1l s1c : Nat),
r1 = (.slice s1 s1l s1c) ∧
∃ (I2 : Option Addr → Nat → Nat → Int → Heap → Prop) (m2 : Option Addr → Nat → Nat → Int → Heap → Nat), I2 none 0 0 (0 : Int) h4 ∧ ∀ _ : Env,
∀ (on_1 : Option Addr) (on_1l on_1c : Nat) (x3 : Int) (h5 : Heap), I2 on_1 on_1l on_1c x3 h5 →
bcase (decide (x3 < ((s1l : Nat) : Int))) (
(0 ≤ x3 ∧ x3 < ((s1l : Nat) : Int)) ∧
onAddr s1 fun b5 o3 =>
∃ n1 : Int, cell h5 b5 (o3 + (x3).toNat) = some (.int .i64 n1) ∧
onAddr a fun b6 o4 =>
Runs Tryz.prog 92 #[(.pointer (some ⟨b6, (o4 + 150), none⟩)), (.int .i64 n1), (.int .i64 x1)] h5 fun r2 h6 =>
∃ t1 : Bool,
r2 = (.bool t1) ∧
bcase t1 (
Runs Tryz.prog 56 #[(.pointer a), (.int .i64 n1), (.int .i64 x1)] h6 fun r3 h7 =>
∃ (s2 : Option Addr) (s2l s2c : Nat),
r3 = (.slice s2 s2l s2c) ∧
bcase (decide ((0 : Int) < ((s2l : Nat) : Int))) (
∀ (b7 : Nat) (h8 : Heap), b7 = h7.size → h8 = h7.push (.cells ([(.int .i64 n1)] : List Value).toArray 3) →
∃ news1 : List Value, (row h8 b7 0 1 = some news1 ∧ ∀ u ∈ news1, u.oneCell' = true) ∧
appK h8 on_1 on_1l on_1c 1 1 3 8 news1 fun (a1 : Option Addr) (cap1 : Nat) (h9 : Heap) =>
(0 ≤ x1 ∧ x1 < ((4 : Nat) : Int)) ∧
∃ t2 : Bool, cell h9 b2 (0 + (x1).toNat) = some (.bool t2) ∧
bcase t2 (
(0 ≤ x1 ∧ x1 < ((4 : Nat) : Int)) ∧
wr h9 b2 (0 + (x1).toNat) ∧ ∀ h10 : Heap, h10 = setc h9 b2 (0 + (x1).toNat) (.bool true) →
fits .i64 (x3 + (1 : Int)) ∧
I2 a1 (on_1l + 1) cap1 (x3 + (1 : Int)) h10 ∧ m2 a1 (on_1l + 1) cap1 (x3 + (1 : Int)) h10 < m2 on_1 on_1l on_1c x3 h5) (
onAddr a fun b8 o5 =>
∃ p2 : Option Addr, cell h9 b8 (o5 + 312) = some (.pointer p2) ∧
Runs Tryz.prog 55 #[(.pointer p2), (.int .i64 n1)] h9 fun r4 h11 =>
∃ t3 : Bool,
r4 = (.bool t3) ∧
(0 ≤ x1 ∧ x1 < ((4 : Nat) : Int)) ∧
wr h11 b2 (0 + (x1).toNat) ∧ ∀ h12 : Heap, h12 = setc h11 b2 (0 + (x1).toNat) (.bool t3) →
fits .i64 (x3 + (1 : Int)) ∧
I2 a1 (on_1l + 1) cap1 (x3 + (1 : Int)) h12 ∧ m2 a1 (on_1l + 1) cap1 (x3 + (1 : Int)) h12 < m2 on_1 on_1l on_1c x3 h5)) (
Runs Tryz.prog 93 #[(.pointer p1), (.int .i64 n1), (.bool false)] h7 fun r5 h13 =>
∃ v1 : Value,
r5 = v1 ∧
fits .i64 (x3 + (1 : Int)) ∧
I2 on_1 on_1l on_1c (x3 + (1 : Int)) h13 ∧ m2 on_1 on_1l on_1c (x3 + (1 : Int)) h13 < m2 on_1 on_1l on_1c x3 h5)) (
Runs Tryz.prog 93 #[(.pointer p1), (.int .i64 n1), (.bool false)] h6 fun r6 h14 =>
∃ v2 : Value,
r6 = v2 ∧
fits .i64 (x3 + (1 : Int)) ∧
I2 on_1 on_1l on_1c (x3 + (1 : Int)) h14 ∧ m2 on_1 on_1l on_1c (x3 + (1 : Int)) h14 < m2 on_1 on_1l on_1c x3 h5)) (
∃ (I3 : Int → Heap → Prop) (m3 : Int → Heap → Nat), I3 (0 : Int) h5 ∧ ∀ _ : Env,
∀ (x4 : Int) (h15 : Heap), I3 x4 h15 →
bcase (decide (x4 < ((on_1l : Nat) : Int))) (
(0 ≤ x4 ∧ x4 < ((on_1l : Nat) : Int)) ∧
onAddr on_1 fun b9 o6 =>
∃ n2 : Int, cell h15 b9 (o6 + (x4).toNat) = some (.int .i64 n2) ∧
Runs Tryz.prog 93 #[(.pointer p1), (.int .i64 n2), (.bool true)] h15 fun r7 h16 =>
∃ v3 : Value,
r7 = v3 ∧
fits .i64 (x4 + (1 : Int)) ∧
I3 (x4 + (1 : Int)) h16 ∧ m3 (x4 + (1 : Int)) h16 < m3 x4 h15) (
fits .i64 (x1 + (1 : Int)) ∧
I1 (x1 + (1 : Int)) h15 ∧ m1 (x1 + (1 : Int)) h15 < m1 x1 h3))) (
∃ cs2 : List Value, row h3 b2 0 4 = some cs2 ∧
(((cs2)).length = 4 ∧ wrs h3 b1 0 4 ∧ ∀ u ∈ ((cs2) : List Value), u.oneCell' = true) ∧ ∀ h17 : Heap, h17 = setr h3 b1 0 (cs2) →
∃ cs3 : List Value, row h17 b1 0 4 = some cs3 ∧
Post (.agg (cs3).toArray) h17)) :
    Runs Tryz.prog 53 #[(.pointer a)] h0 Post :=
  runs_of (args := [(.pointer a)]) (fun n => ⟨true, false⟩) (fun n => match n with | 0 => [(15, .int .i64)] | 2 => [(6, .slice), (24, .int .i64)] | 4 => [(65, .int .i64)] | _ => []) (fun _ => none) (fun _ => []) Tryz.func53 rfl (by rw [Tryz.ntmps53]; simp) (Eq.mp (by kernel_rfl) H)

theorem vc_sta_Table_All (t : Option Addr) (h0 : Heap) (Post : Value → Heap → Prop) (H :
onAddr t fun b1 o1 =>
∃ cs1 : List Value, row h0 b1 o1 128 = some cs1 ∧
∃ (I1 : Option Addr → Nat → Nat → Int → Heap → Prop) (m1 : Option Addr → Nat → Nat → Int → Heap → Nat), I1 none 0 0 (0 : Int) h0 ∧ ∀ _ : Env,
∀ (out_1 : Option Addr) (out_1l out_1c : Nat) (x2 : Int) (h1 : Heap), I1 out_1 out_1l out_1c x2 h1 →
bcase (decide (x2 < (16 : Int))) (
(0 ≤ x2 ∧ x2 < ((16 : Nat) : Int)) ∧
∀ (b2 : Nat) (h2 : Heap), b2 = h1.size → h2 = h1.push (.cells ([(.bool false), (.int .u8 (0 : Int)), (.int .u8 (0 : Int)), (.int .u8 (0 : Int)), (.int .u8 (0 : Int)), (.int .u8 (0 : Int)), (.int .u8 (0 : Int)), (.int .i64 (0 : Int))] : List Value).toArray 78) →
(((((cs1.drop ((x2).toNat * 8)).take 8))).length = 8 ∧ wrs h2 b2 0 8 ∧ ∀ u ∈ ((((cs1.drop ((x2).toNat * 8)).take 8)) : List Value), u.oneCell' = true) ∧ ∀ h3 : Heap, h3 = setr h2 b2 0 (((cs1.drop ((x2).toNat * 8)).take 8)) →
∃ t1 : Bool, cell h3 b2 0 = some (.bool t1) ∧
bcase t1 (
fits .i64 (x2 + (1 : Int)) ∧
∀ (b3 : Nat) (h4 : Heap), b3 = h3.size → h4 = h3.push (.cells ([(.int .i64 (x2 + (1 : Int)))] : List Value).toArray 3) →
∃ news1 : List Value, (row h4 b3 0 1 = some news1 ∧ ∀ u ∈ news1, u.oneCell' = true) ∧
appK h4 out_1 out_1l out_1c 1 1 3 8 news1 fun (a1 : Option Addr) (cap1 : Nat) (h5 : Heap) =>
fits .i64 (x2 + (1 : Int)) ∧
I1 a1 (out_1l + 1) cap1 (x2 + (1 : Int)) h5 ∧ m1 a1 (out_1l + 1) cap1 (x2 + (1 : Int)) h5 < m1 out_1 out_1l out_1c x2 h1) (
fits .i64 (x2 + (1 : Int)) ∧
I1 out_1 out_1l out_1c (x2 + (1 : Int)) h3 ∧ m1 out_1 out_1l out_1c (x2 + (1 : Int)) h3 < m1 out_1 out_1l out_1c x2 h1)) (
Post (.slice out_1 out_1l out_1c) h1)) :
    Runs Tryz.prog 20 #[(.pointer t)] h0 Post :=
  runs_of (args := [(.pointer t)]) (fun n => ⟨true, false⟩) (fun n => match n with | 0 => [(3, .slice), (10, .int .i64)] | _ => []) (fun _ => none) (fun _ => []) Tryz.func20 rfl (by rw [Tryz.ntmps20]; simp) (Eq.mp (by kernel_rfl) H)

theorem vc_edca_Edca_Contend (e : Option Addr) (ready : List Value) (draws : List Value) (h0 : Heap) (Post : Value → Heap → Prop) (H :
∀ (b1 : Nat) (h1 : Heap), b1 = h0.size → h1 = h0.push (.cells (ready).toArray 46) →
∀ (b2 : Nat) (h2 : Heap), b2 = h1.size → h2 = h1.push (.cells (draws).toArray 64) →
∃ (I1 : Int → Int → Int → Heap → Prop) (m1 : Int → Int → Int → Heap → Nat), I1 (-1 : Int) (0 : Int) (0 : Int) h2 ∧ ∀ _ : Env,
∀ (winner_1 : Int) (least_1 : Int) (x3 : Int) (h3 : Heap), I1 winner_1 least_1 x3 h3 →
bcase (decide (x3 < (4 : Int))) (
(0 ≤ x3 ∧ x3 < ((4 : Nat) : Int)) ∧
∃ t1 : Bool, cell h3 b1 (0 + (x3).toNat) = some (.bool t1) ∧
bcase (!t1) (
fits .i64 (x3 + (1 : Int)) ∧
I1 winner_1 least_1 (x3 + (1 : Int)) h3 ∧ m1 winner_1 least_1 (x3 + (1 : Int)) h3 < m1 winner_1 least_1 x3 h3) (
onAddr e fun b3 o1 =>
(0 ≤ x3 ∧ x3 < ((4 : Nat) : Int)) ∧
∃ t2 : Bool, cell h3 b3 (o1 + ((x3).toNat * 3)) = some (.bool t2) ∧
bcase (!t2) (
(0 ≤ x3 ∧ x3 < ((4 : Nat) : Int)) ∧
∃ n1 : Int, cell h3 b2 (0 + (x3).toNat) = some (.int .u32 n1) ∧
Runs Tryz.prog 89 #[(.pointer e), (.int .i64 x3)] h3 fun r1 h4 =>
∃ n2 : Int,
r1 = (.int .i64 n2) ∧
cell h4 b2 (0 + (x3).toNat) = some (.int .u32 n1) ∧
fits .i64 (n2 + (1 : Int)) ∧
fits .u32 (n2 + (1 : Int)) ∧
(0 ≤ n1 ∧ 0 < (n2 + (1 : Int))) ∧
fits .i64 (n1 % (n2 + (1 : Int))) ∧
wr h4 b3 (o1 + ((x3).toNat * 3)) ∧ ∀ h5 : Heap, h5 = setc h4 b3 (o1 + ((x3).toNat * 3)) (.bool true) →
cell h5 b2 (0 + (x3).toNat) = some (.int .u32 n1) ∧
wr h5 b3 ((o1 + ((x3).toNat * 3)) + 1) ∧ ∀ h6 : Heap, h6 = setc h5 b3 ((o1 + ((x3).toNat * 3)) + 1) (.int .i64 (n1 % (n2 + (1 : Int)))) →
onAddr e fun b4 o2 =>
(0 ≤ x3 ∧ x3 < ((4 : Nat) : Int)) ∧
∃ n3 : Int, cell h6 b4 ((o2 + ((x3).toNat * 3)) + 1) = some (.int .i64 n3) ∧
Runs Tryz.prog 90 #[(.int .i64 x3)] h6 fun r2 h7 =>
∃ n4 : Int,
r2 = (.int .i64 n4) ∧
cell h7 b4 ((o2 + ((x3).toNat * 3)) + 1) = some (.int .i64 n3) ∧
fits .i64 (n4 + n3) ∧
bcase (decide (winner_1 < (0 : Int))) (
fits .i64 (x3 + (1 : Int)) ∧
I1 x3 (n4 + n3) (x3 + (1 : Int)) h7 ∧ m1 x3 (n4 + n3) (x3 + (1 : Int)) h7 < m1 winner_1 least_1 x3 h3) (
bcase (decide ((n4 + n3) ≤ least_1)) (
fits .i64 (x3 + (1 : Int)) ∧
I1 x3 (n4 + n3) (x3 + (1 : Int)) h7 ∧ m1 x3 (n4 + n3) (x3 + (1 : Int)) h7 < m1 winner_1 least_1 x3 h3) (
fits .i64 (x3 + (1 : Int)) ∧
I1 winner_1 least_1 (x3 + (1 : Int)) h7 ∧ m1 winner_1 least_1 (x3 + (1 : Int)) h7 < m1 winner_1 least_1 x3 h3))) (
onAddr e fun b5 o3 =>
(0 ≤ x3 ∧ x3 < ((4 : Nat) : Int)) ∧
∃ n5 : Int, cell h3 b5 ((o3 + ((x3).toNat * 3)) + 1) = some (.int .i64 n5) ∧
Runs Tryz.prog 90 #[(.int .i64 x3)] h3 fun r3 h8 =>
∃ n6 : Int,
r3 = (.int .i64 n6) ∧
cell h8 b5 ((o3 + ((x3).toNat * 3)) + 1) = some (.int .i64 n5) ∧
fits .i64 (n6 + n5) ∧
bcase (decide (winner_1 < (0 : Int))) (
fits .i64 (x3 + (1 : Int)) ∧
I1 x3 (n6 + n5) (x3 + (1 : Int)) h8 ∧ m1 x3 (n6 + n5) (x3 + (1 : Int)) h8 < m1 winner_1 least_1 x3 h3) (
bcase (decide ((n6 + n5) ≤ least_1)) (
fits .i64 (x3 + (1 : Int)) ∧
I1 x3 (n6 + n5) (x3 + (1 : Int)) h8 ∧ m1 x3 (n6 + n5) (x3 + (1 : Int)) h8 < m1 winner_1 least_1 x3 h3) (
fits .i64 (x3 + (1 : Int)) ∧
I1 winner_1 least_1 (x3 + (1 : Int)) h8 ∧ m1 winner_1 least_1 (x3 + (1 : Int)) h8 < m1 winner_1 least_1 x3 h3))))) (
bcase (decide (winner_1 < (0 : Int))) (
Post (.tuple #[(.int .i64 (0 : Int)), (.int .i64 (0 : Int)), (.bool false)]) h3) (
∃ (I2 : Int → Heap → Prop) (m2 : Int → Heap → Nat), I2 (0 : Int) h3 ∧ ∀ _ : Env,
∀ (x4 : Int) (h9 : Heap), I2 x4 h9 →
bcase (decide (x4 < (4 : Int))) (
onAddr e fun b6 o4 =>
(0 ≤ x4 ∧ x4 < ((4 : Nat) : Int)) ∧
(0 ≤ x4 ∧ x4 < ((4 : Nat) : Int)) ∧
∃ t3 : Bool, cell h9 b1 (0 + (x4).toNat) = some (.bool t3) ∧
bcase (!t3) (
fits .i64 (x4 + (1 : Int)) ∧
I2 (x4 + (1 : Int)) h9 ∧ m2 (x4 + (1 : Int)) h9 < m2 x4 h9) (
∃ n7 : Int, cell h9 b6 ((o4 + ((x4).toNat * 3)) + 1) = some (.int .i64 n7) ∧
Runs Tryz.prog 90 #[(.int .i64 x4)] h9 fun r4 h10 =>
∃ n8 : Int,
r4 = (.int .i64 n8) ∧
cell h10 b6 ((o4 + ((x4).toNat * 3)) + 1) = some (.int .i64 n7) ∧
fits .i64 (n8 + n7) ∧
bcase (decide (least_1 < (n8 + n7))) (
∃ n9 : Int, cell h10 b6 ((o4 + ((x4).toNat * 3)) + 1) = some (.int .i64 n9) ∧
Runs Tryz.prog 90 #[(.int .i64 x4)] h10 fun r5 h11 =>
∃ n10 : Int,
r5 = (.int .i64 n10) ∧
cell h11 b6 ((o4 + ((x4).toNat * 3)) + 1) = some (.int .i64 n9) ∧
fits .i64 (least_1 - n10) ∧
fits .i64 (n9 - (max (least_1 - n10) (0 : Int))) ∧
wr h11 b6 ((o4 + ((x4).toNat * 3)) + 1) ∧ ∀ h12 : Heap, h12 = setc h11 b6 ((o4 + ((x4).toNat * 3)) + 1) (.int .i64 (max (n9 - (max (least_1 - n10) (0 : Int))) (0 : Int))) →
fits .i64 (x4 + (1 : Int)) ∧
I2 (x4 + (1 : Int)) h12 ∧ m2 (x4 + (1 : Int)) h12 < m2 x4 h9) (
bcase (!decide (x4 = winner_1)) (
Runs Tryz.prog 91 #[(.pointer e), (.int .i64 x4)] h10 fun r6 h13 =>
wr h13 b6 (o4 + ((x4).toNat * 3)) ∧ ∀ h14 : Heap, h14 = setc h13 b6 (o4 + ((x4).toNat * 3)) (.bool false) →
wr h14 b6 ((o4 + ((x4).toNat * 3)) + 1) ∧ ∀ h15 : Heap, h15 = setc h14 b6 ((o4 + ((x4).toNat * 3)) + 1) (.int .i64 (0 : Int)) →
fits .i64 (x4 + (1 : Int)) ∧
I2 (x4 + (1 : Int)) h15 ∧ m2 (x4 + (1 : Int)) h15 < m2 x4 h9) (
wr h10 b6 (o4 + ((x4).toNat * 3)) ∧ ∀ h16 : Heap, h16 = setc h10 b6 (o4 + ((x4).toNat * 3)) (.bool false) →
wr h16 b6 ((o4 + ((x4).toNat * 3)) + 1) ∧ ∀ h17 : Heap, h17 = setc h16 b6 ((o4 + ((x4).toNat * 3)) + 1) (.int .i64 (0 : Int)) →
fits .i64 (x4 + (1 : Int)) ∧
I2 (x4 + (1 : Int)) h17 ∧ m2 (x4 + (1 : Int)) h17 < m2 x4 h9)))) (
Post (.tuple #[(.int .i64 winner_1), (.int .i64 least_1), (.bool true)]) h9)))) :
    Runs Tryz.prog 52 #[(.pointer e), (.agg (ready).toArray), (.agg (draws).toArray)] h0 Post :=
  runs_of (args := [(.pointer e), (.agg (ready).toArray), (.agg (draws).toArray)]) (fun n => ⟨true, false⟩) (fun n => match n with | 0 => [(9, .int .i64), (10, .int .i64), (16, .int .i64)] | 2 => [(71, .int .i64)] | _ => []) (fun _ => none) (fun _ => []) Tryz.func52 rfl (by rw [Tryz.ntmps52]; simp) (Eq.mp (by kernel_rfl) H)

theorem vc_ap_AP_Join (a : Option Addr) (addr : List Value) (r : List Value) (weight : Int) (uapsd : List Value) (most : Int) (h0 : Heap) (Post : Value → Heap → Prop) (H :
∀ (b1 : Nat) (h1 : Heap), b1 = h0.size → h1 = h0.push (.cells (addr).toArray 24) →
∀ (b2 : Nat) (h2 : Heap), b2 = h1.size → h2 = h1.push (.cells (r).toArray 42) →
∀ (b3 : Nat) (h3 : Heap), b3 = h2.size → h3 = h2.push (.cells (uapsd).toArray 46) →
∃ cs1 : List Value, row h3 b1 0 6 = some cs1 ∧
Runs Tryz.prog 27 #[(.agg (cs1).toArray)] h3 fun r1 h4 =>
∃ t1 : Bool,
r1 = (.bool t1) ∧
bcase (!t1) (
∃ v1 : Value, cell h4 0 0 = some v1 ∧
Post (.tuple #[(.int .i64 (0 : Int)), v1]) h4) (
∃ cs2 : List Value, row h4 b1 0 6 = some cs2 ∧
onAddr a fun b4 o1 =>
∃ cs3 : List Value, row h4 b4 o1 6 = some cs3 ∧
∃ l1 l2 : List Int, cs2 = l1.map (Value.int .u8) ∧ cs3 = l2.map (Value.int .u8) ∧ (l1.length = 6 ∧ l2.length = 6) ∧
bcase (decide (l1 = l2)) (
∃ v2 : Value, cell h4 1 0 = some v2 ∧
Post (.tuple #[(.int .i64 (0 : Int)), v2]) h4) (
∃ J1 : Bool → Heap → Prop, (
∃ cs4 : List Value, row h4 b2 0 5 = some cs4 ∧
Runs Tryz.prog 31 #[(.agg (cs4).toArray)] h4 fun r2 h5 =>
∃ t2 : Bool,
r2 = (.bool t2) ∧
bcase (!t2) (
J1 true h5) (
J1 (decide (weight < (1 : Int))) h5)) ∧ ∀ _ : Env,
∀ (x1 : Bool) (h6 : Heap), J1 x1 h6 →
∃ J2 : Bool → Heap → Prop, (
bcase x1 (
J2 true h6) (
J2 (decide ((100 : Int) < weight)) h6)) ∧ ∀ _ : Env,
∀ (x2 : Bool) (h7 : Heap), J2 x2 h7 →
∃ J3 : Bool → Heap → Prop, (
bcase x2 (
J3 true h7) (
J3 (decide (most < (0 : Int))) h7)) ∧ ∀ _ : Env,
∀ (x3 : Bool) (h8 : Heap), J3 x3 h8 →
bcase x3 (
∃ v3 : Value, cell h8 0 0 = some v3 ∧
Post (.tuple #[(.int .i64 (0 : Int)), v3]) h8) (
bcase (decide ((8 : Int) < most)) (
∃ v4 : Value, cell h8 0 0 = some v4 ∧
Post (.tuple #[(.int .i64 (0 : Int)), v4]) h8) (
onAddr a fun b5 o2 =>
∃ cs5 : List Value, row h8 b1 0 6 = some cs5 ∧
Runs Tryz.prog 32 #[(.pointer (some ⟨b5, (o2 + 22), none⟩)), (.agg (cs5).toArray)] h8 fun r3 h9 =>
∃ n1 : Int,
∃ v5 : Value,
r3 = (.tuple #[(.int .i64 n1), v5]) ∧
∃ t3 : Bool, ifeqH Tryz.prog h9 true (v5) (.nilIface) = some t3 ∧
bcase (!t3) (
Post (.tuple #[(.int .i64 (0 : Int)), v5]) h9) (
∃ cs6 : List Value, row h9 b2 0 5 = some cs6 ∧
(cs6).length = 5 ∧
∀ (b6 : Nat) (h10 : Heap), b6 = h9.size → h10 = h9.push (.cells (((cs6) ++ ([(.int .i64 (0 : Int)), (.pointer none), (.int .i64 (0 : Int)), (.bool false), (.bool false), (.bool false), (.pointer none), (.int .i64 (0 : Int)), (.bool false), (.bool false), (.bool false), (.pointer none), (.int .i64 (0 : Int)), (.bool false), (.bool false), (.bool false), (.pointer none), (.int .i64 (0 : Int)), (.bool false), (.bool false), (.bool false), (.pointer none), (.int .i64 (0 : Int)), (.bool false), (.bool false), (.bool false), (.pointer none), (.int .i64 (0 : Int)), (.bool false), (.bool false), (.bool false), (.pointer none), (.int .i64 (0 : Int)), (.bool false), (.bool false), (.bool false), (.pointer none), (.int .i64 (0 : Int)), (.bool false), (.bool false), (.bool false), (.int .i64 (0 : Int)), (.int .i64 (0 : Int)), (.int .i64 (0 : Int)), (.int .i64 (0 : Int))] : List Value))).toArray 113) →
∃ (I1 : Int → Heap → Prop) (m1 : Int → Heap → Nat), I1 (0 : Int) h10 ∧ ∀ _ : Env,
∀ (x4 : Int) (h11 : Heap), I1 x4 h11 →
bcase (decide (x4 < (8 : Int))) (
onAddr a fun b7 o3 =>
∃ n2 : Int, cell h11 b7 (o3 + 11) = some (.int .i64 n2) ∧
onAddr a fun b8 o4 =>
∃ n3 : Int, cell h11 b8 (o4 + 12) = some (.int .i64 n3) ∧
onAddr a fun b9 o5 =>
∃ n4 : Int, cell h11 b9 (o5 + 13) = some (.int .i64 n4) ∧
Runs Tryz.prog 23 #[(.int .i64 n2), (.int .i64 n3), (.int .i64 n4)] h11 fun r4 h12 =>
∃ p1 : Option Addr,
∃ v6 : Value,
r4 = (.tuple #[(.pointer p1), v6]) ∧
(0 ≤ x4 ∧ x4 < ((8 : Nat) : Int)) ∧
wr h12 b6 (6 + ((x4).toNat * 5)) ∧ ∀ h13 : Heap, h13 = setc h12 b6 (6 + ((x4).toNat * 5)) (.pointer p1) →
∃ t4 : Bool, ifeqH Tryz.prog h13 true (v6) (.nilIface) = some t4 ∧
bcase (!t4) (
Post (.tuple #[(.int .i64 (0 : Int)), v6]) h13) (
fits .i64 (x4 + (1 : Int)) ∧
I1 (x4 + (1 : Int)) h13 ∧ m1 (x4 + (1 : Int)) h13 < m1 x4 h11)) (
onAddr a fun b10 o6 =>
∃ cs7 : List Value, row h11 b10 (o6 + 313) 4 = some cs7 ∧
∃ (I2 : Int → Heap → Prop) (m2 : Int → Heap → Nat), I2 (0 : Int) h11 ∧ ∀ _ : Env,
∀ (x5 : Int) (h14 : Heap), I2 x5 h14 →
bcase (decide (x5 < (4 : Int))) (
(0 ≤ x5 ∧ x5 < ((4 : Nat) : Int)) ∧
∃ p2 : Option Addr, cs7[(x5).toNat]? = some (.pointer p2) ∧
Runs Tryz.prog 33 #[(.pointer p2), (.int .i64 n1), (.int .i64 weight)] h14 fun r5 h15 =>
∃ v7 : Value,
r5 = v7 ∧
∃ t5 : Bool, ifeqH Tryz.prog h15 true (v7) (.nilIface) = some t5 ∧
bcase (!t5) (
Post (.tuple #[(.int .i64 (0 : Int)), v7]) h15) (
fits .i64 (x5 + (1 : Int)) ∧
I2 (x5 + (1 : Int)) h15 ∧ m2 (x5 + (1 : Int)) h15 < m2 x5 h14)) (
onAddr a fun b11 o7 =>
∃ cs8 : List Value, row h14 b3 0 4 = some cs8 ∧
Runs Tryz.prog 34 #[(.pointer (some ⟨b11, (o7 + 150), none⟩)), (.int .i64 n1), (.agg (cs8).toArray), (.int .i64 most)] h14 fun r6 h16 =>
∃ v8 : Value,
r6 = v8 ∧
∃ t6 : Bool, ifeqH Tryz.prog h16 true (v8) (.nilIface) = some t6 ∧
bcase (!t6) (
Post (.tuple #[(.int .i64 (0 : Int)), v8]) h16) (
fits .i64 (n1 - (1 : Int)) ∧
onAddr a fun b12 o8 =>
(0 ≤ (n1 - (1 : Int)) ∧ (n1 - (1 : Int)) < ((16 : Nat) : Int)) ∧
wr h16 b12 ((o8 + 329) + ((n1 - (1 : Int))).toNat) ∧ ∀ h17 : Heap, h17 = setc h16 b12 ((o8 + 329) + ((n1 - (1 : Int))).toNat) (.pointer (some ⟨b6, 0, none⟩)) →
Post (.tuple #[(.int .i64 n1), .nilIface]) h17))))))))) :
    Runs Tryz.prog 10 #[(.pointer a), (.agg (addr).toArray), (.agg (r).toArray), (.int .i64 weight), (.agg (uapsd).toArray), (.int .i64 most)] h0 Post :=
  runs_of (args := [(.pointer a), (.agg (addr).toArray), (.agg (r).toArray), (.int .i64 weight), (.agg (uapsd).toArray), (.int .i64 most)]) (fun n => ⟨true, false⟩) (fun n => match n with | 1 => [(71, .int .i64)] | 3 => [(107, .int .i64)] | _ => []) (fun _ => none) (fun n => match n with | 5 => [(7, [(43, .bool)]), (4, [(47, .bool)]), (4, [(51, .bool)])] | _ => []) Tryz.func10 rfl (by rw [Tryz.ntmps10]; simp) (Eq.mp (by kernel_rfl) H)

theorem vc_rate_Valid (r : List Value) (h0 : Heap) (Post : Value → Heap → Prop) (H :
∀ (b1 : Nat) (h1 : Heap), b1 = h0.size → h1 = h0.push (.cells (r).toArray 42) →
∃ n1 : Int, cell h1 b1 0 = some (.int .i64 n1) ∧
Runs Tryz.prog 65 #[(.int .i64 n1)] h1 fun r1 h2 =>
∃ n2 : Int,
∃ n3 : Int,
∃ n4 : Int,
r1 = (.tuple #[(.int .i64 n2), (.int .i64 n3), (.int .i64 n4)]) ∧
∃ n5 : Int, cell h2 b1 1 = some (.int .i64 n5) ∧
bcase (decide ((0 : Int) ≤ n5)) (
∃ n6 : Int, cell h2 b1 1 = some (.int .i64 n6) ∧
bcase (decide (n6 ≤ n2)) (
∃ n7 : Int, cell h2 b1 2 = some (.int .i64 n7) ∧
bcase (decide ((1 : Int) ≤ n7)) (
∃ n8 : Int, cell h2 b1 2 = some (.int .i64 n8) ∧
bcase (decide (n8 ≤ n3)) (
∃ n9 : Int, cell h2 b1 4 = some (.int .i64 n9) ∧
bcase (decide ((0 : Int) ≤ n9)) (
∃ n10 : Int, cell h2 b1 4 = some (.int .i64 n10) ∧
bcase (decide (n10 ≤ n4)) (
∃ n11 : Int, cell h2 b1 0 = some (.int .i64 n11) ∧
∃ n12 : Int, cell h2 b1 3 = some (.int .i64 n12) ∧
Runs Tryz.prog 67 #[(.int .i64 n11)] h2 fun r2 h3 =>
∃ (s1 : Option Addr) (s1l s1c : Nat),
r2 = (.slice s1 s1l s1c) ∧
cell h3 b1 3 = some (.int .i64 n12) ∧
cell h3 b1 4 = some (.int .i64 n10) ∧
cell h3 b1 4 = some (.int .i64 n9) ∧
cell h3 b1 2 = some (.int .i64 n8) ∧
cell h3 b1 2 = some (.int .i64 n7) ∧
cell h3 b1 1 = some (.int .i64 n6) ∧
cell h3 b1 1 = some (.int .i64 n5) ∧
Runs Tryz.prog 66 #[(.slice s1 s1l s1c), (.int .i64 n12)] h3 fun r3 h4 =>
∃ t1 : Bool,
r3 = (.bool t1) ∧
cell h4 b1 4 = some (.int .i64 n10) ∧
cell h4 b1 4 = some (.int .i64 n9) ∧
cell h4 b1 2 = some (.int .i64 n8) ∧
cell h4 b1 2 = some (.int .i64 n7) ∧
cell h4 b1 1 = some (.int .i64 n6) ∧
cell h4 b1 1 = some (.int .i64 n5) ∧
Post (.bool t1) h4) (
Post (.bool false) h2)) (
Post (.bool false) h2)) (
Post (.bool false) h2)) (
Post (.bool false) h2)) (
Post (.bool false) h2)) (
Post (.bool false) h2)) :
    Runs Tryz.prog 31 #[(.agg (r).toArray)] h0 Post :=
  runs_of (args := [(.agg (r).toArray)]) (fun n => ⟨true, false⟩) (fun _ => []) (fun _ => none) (fun _ => []) Tryz.func31 rfl (by rw [Tryz.ntmps31]; simp) (Eq.mp (by kernel_rfl) H)

theorem vc_rate_tops (mode : Int) (h0 : Heap) (Post : Value → Heap → Prop) (H :
bcase (decide (mode = (1 : Int))) (
Post (.tuple #[(.int .i64 (7 : Int)), (.int .i64 (1 : Int)), (.int .i64 (0 : Int))]) h0) (
bcase (decide (mode = (2 : Int))) (
Post (.tuple #[(.int .i64 (7 : Int)), (.int .i64 (4 : Int)), (.int .i64 (1 : Int))]) h0) (
bcase (decide (mode = (3 : Int))) (
Post (.tuple #[(.int .i64 (9 : Int)), (.int .i64 (8 : Int)), (.int .i64 (1 : Int))]) h0) (
bcase (decide (mode = (4 : Int))) (
Post (.tuple #[(.int .i64 (11 : Int)), (.int .i64 (8 : Int)), (.int .i64 (2 : Int))]) h0) (
Post (.tuple #[(.int .i64 (-1 : Int)), (.int .i64 (0 : Int)), (.int .i64 (-1 : Int))]) h0))))) :
    Runs Tryz.prog 65 #[(.int .i64 mode)] h0 Post :=
  runs_of (args := [(.int .i64 mode)]) (fun n => ⟨true, false⟩) (fun _ => []) (fun _ => none) (fun _ => []) Tryz.func65 rfl (by rw [Tryz.ntmps65]; simp) (Eq.mp (by kernel_rfl) H)

theorem vc_rate_widths (mode : Int) (h0 : Heap) (Post : Value → Heap → Prop) (H :
bcase (decide (mode = (1 : Int))) (
∀ (b1 : Nat) (h1 : Heap), b1 = h0.size → h1 = h0.push (.cells ([(.int .i64 (20 : Int))] : List Value).toArray 3) →
Post (.slice (some ⟨b1, 0, none⟩) 1 1) h1) (
bcase (decide (mode = (2 : Int))) (
∀ (b2 : Nat) (h2 : Heap), b2 = h0.size → h2 = h0.push (.cells ([(.int .i64 (20 : Int)), (.int .i64 (40 : Int))] : List Value).toArray 3) →
Post (.slice (some ⟨b2, 0, none⟩) 2 2) h2) (
bcase (decide (mode = (3 : Int))) (
bcase (decide (mode = (3 : Int))) (
∀ (b3 : Nat) (h3 : Heap), b3 = h0.size → h3 = h0.push (.cells ([(.int .i64 (20 : Int)), (.int .i64 (40 : Int)), (.int .i64 (80 : Int)), (.int .i64 (160 : Int))] : List Value).toArray 3) →
Post (.slice (some ⟨b3, 0, none⟩) 4 4) h3) (
Post (.slice none 0 0) h0)) (
bcase (decide (mode = (4 : Int))) (
∀ (b4 : Nat) (h4 : Heap), b4 = h0.size → h4 = h0.push (.cells ([(.int .i64 (20 : Int)), (.int .i64 (40 : Int)), (.int .i64 (80 : Int)), (.int .i64 (160 : Int))] : List Value).toArray 3) →
Post (.slice (some ⟨b4, 0, none⟩) 4 4) h4) (
Post (.slice none 0 0) h0))))) :
    Runs Tryz.prog 67 #[(.int .i64 mode)] h0 Post :=
  runs_of (args := [(.int .i64 mode)]) (fun n => ⟨true, false⟩) (fun _ => []) (fun _ => none) (fun _ => []) Tryz.func67 rfl (by rw [Tryz.ntmps67]; simp) (Eq.mp (by kernel_rfl) H)

theorem vc_slices_Contains_int (s : Option Addr) (sL sC : Nat) (v : Int) (h0 : Heap) (Post : Value → Heap → Prop) (H :
Runs Tryz.prog 121 #[(.slice s sL sC), (.int .i64 v)] h0 fun r1 h1 =>
∃ n1 : Int,
r1 = (.int .i64 n1) ∧
Post (.bool (decide ((0 : Int) ≤ n1))) h1) :
    Runs Tryz.prog 66 #[(.slice s sL sC), (.int .i64 v)] h0 Post :=
  runs_of (args := [(.slice s sL sC), (.int .i64 v)]) (fun n => ⟨true, false⟩) (fun _ => []) (fun _ => none) (fun _ => []) Tryz.func66 rfl (by rw [Tryz.ntmps66]; simp) (Eq.mp (by kernel_rfl) H)

theorem vc_slices_Index_int (s : Option Addr) (sL sC : Nat) (v : Int) (h0 : Heap) (Post : Value → Heap → Prop) (H :
∃ (I1 : Int → Heap → Prop) (m1 : Int → Heap → Nat), I1 (0 : Int) h0 ∧ ∀ _ : Env,
∀ (x1 : Int) (h1 : Heap), I1 x1 h1 →
bcase (decide (x1 < ((sL : Nat) : Int))) (
(0 ≤ x1 ∧ x1 < ((sL : Nat) : Int)) ∧
onAddr s fun b1 o1 =>
∃ n1 : Int, cell h1 b1 (o1 + (x1).toNat) = some (.int .i64 n1) ∧
bcase (decide (v = n1)) (
Post (.int .i64 x1) h1) (
fits .i64 (x1 + (1 : Int)) ∧
I1 (x1 + (1 : Int)) h1 ∧ m1 (x1 + (1 : Int)) h1 < m1 x1 h1)) (
Post (.int .i64 (-1 : Int)) h1)) :
    Runs Tryz.prog 121 #[(.slice s sL sC), (.int .i64 v)] h0 Post :=
  runs_of (args := [(.slice s sL sC), (.int .i64 v)]) (fun n => ⟨true, false⟩) (fun n => match n with | 0 => [(8, .int .i64)] | _ => []) (fun _ => none) (fun _ => []) Tryz.func121 rfl (by rw [Tryz.ntmps121]; simp) (Eq.mp (by kernel_rfl) H)

theorem vc_sta_Table_Add (t : Option Addr) (a : List Value) (h0 : Heap) (Post : Value → Heap → Prop) (H :
∀ (b1 : Nat) (h1 : Heap), b1 = h0.size → h1 = h0.push (.cells (a).toArray 24) →
∃ cs1 : List Value, row h1 b1 0 6 = some cs1 ∧
Runs Tryz.prog 27 #[(.agg (cs1).toArray)] h1 fun r1 h2 =>
∃ t1 : Bool,
r1 = (.bool t1) ∧
bcase (!t1) (
∃ v1 : Value, cell h2 0 0 = some v1 ∧
Post (.tuple #[(.int .i64 (0 : Int)), v1]) h2) (
∃ cs2 : List Value, row h2 b1 0 6 = some cs2 ∧
Runs Tryz.prog 68 #[(.pointer t), (.agg (cs2).toArray)] h2 fun r2 h3 =>
∃ n1 : Int,
∃ t2 : Bool,
r2 = (.tuple #[(.int .i64 n1), (.bool t2)]) ∧
bcase t2 (
∃ v2 : Value, cell h3 1 0 = some v2 ∧
Post (.tuple #[(.int .i64 (0 : Int)), v2]) h3) (
∃ (I1 : Int → Heap → Prop) (m1 : Int → Heap → Nat), I1 (0 : Int) h3 ∧ ∀ _ : Env,
∀ (x1 : Int) (h4 : Heap), I1 x1 h4 →
bcase (decide (x1 < (16 : Int))) (
onAddr t fun b2 o1 =>
(0 ≤ x1 ∧ x1 < ((16 : Nat) : Int)) ∧
∃ t3 : Bool, cell h4 b2 (o1 + ((x1).toNat * 8)) = some (.bool t3) ∧
bcase (!t3) (
∃ cs3 : List Value, row h4 b1 0 6 = some cs3 ∧
wr h4 b2 (o1 + ((x1).toNat * 8)) ∧ ∀ h5 : Heap, h5 = setc h4 b2 (o1 + ((x1).toNat * 8)) (.bool true) →
row h5 b1 0 6 = some (cs3) ∧
(((cs3)).length = 6 ∧ wrs h5 b2 ((o1 + ((x1).toNat * 8)) + 1) 6 ∧ ∀ u ∈ ((cs3) : List Value), u.oneCell' = true) ∧ ∀ h6 : Heap, h6 = setr h5 b2 ((o1 + ((x1).toNat * 8)) + 1) (cs3) →
∃ n2 : Int, cell h6 b2 ((o1 + ((x1).toNat * 8)) + 7) = some (.int .i64 n2) ∧
fits .i64 (n2 + (1 : Int)) ∧
wr h6 b2 ((o1 + ((x1).toNat * 8)) + 7) ∧ ∀ h7 : Heap, h7 = setc h6 b2 ((o1 + ((x1).toNat * 8)) + 7) (.int .i64 (n2 + (1 : Int))) →
fits .i64 (x1 + (1 : Int)) ∧
Post (.tuple #[(.int .i64 (x1 + (1 : Int))), .nilIface]) h7) (
fits .i64 (x1 + (1 : Int)) ∧
I1 (x1 + (1 : Int)) h4 ∧ m1 (x1 + (1 : Int)) h4 < m1 x1 h4)) (
∃ v3 : Value, cell h4 3 0 = some v3 ∧
Post (.tuple #[(.int .i64 (0 : Int)), v3]) h4)))) :
    Runs Tryz.prog 32 #[(.pointer t), (.agg (a).toArray)] h0 Post :=
  runs_of (args := [(.pointer t), (.agg (a).toArray)]) (fun n => ⟨true, false⟩) (fun n => match n with | 0 => [(22, .int .i64)] | _ => []) (fun _ => none) (fun _ => []) Tryz.func32 rfl (by rw [Tryz.ntmps32]; simp) (Eq.mp (by kernel_rfl) H)

theorem vc_sta_Table_Find (t : Option Addr) (a : List Value) (h0 : Heap) (Post : Value → Heap → Prop) (H :
∀ (b1 : Nat) (h1 : Heap), b1 = h0.size → h1 = h0.push (.cells (a).toArray 24) →
onAddr t fun b2 o1 =>
∃ cs1 : List Value, row h1 b2 o1 128 = some cs1 ∧
∃ (I1 : Int → Heap → Prop) (m1 : Int → Heap → Nat), I1 (0 : Int) h1 ∧ ∀ _ : Env,
∀ (x1 : Int) (h2 : Heap), I1 x1 h2 →
bcase (decide (x1 < (16 : Int))) (
(0 ≤ x1 ∧ x1 < ((16 : Nat) : Int)) ∧
∀ (b3 : Nat) (h3 : Heap), b3 = h2.size → h3 = h2.push (.cells ([(.bool false), (.int .u8 (0 : Int)), (.int .u8 (0 : Int)), (.int .u8 (0 : Int)), (.int .u8 (0 : Int)), (.int .u8 (0 : Int)), (.int .u8 (0 : Int)), (.int .i64 (0 : Int))] : List Value).toArray 78) →
(((((cs1.drop ((x1).toNat * 8)).take 8))).length = 8 ∧ wrs h3 b3 0 8 ∧ ∀ u ∈ ((((cs1.drop ((x1).toNat * 8)).take 8)) : List Value), u.oneCell' = true) ∧ ∀ h4 : Heap, h4 = setr h3 b3 0 (((cs1.drop ((x1).toNat * 8)).take 8)) →
∃ t1 : Bool, cell h4 b3 0 = some (.bool t1) ∧
bcase t1 (
∃ cs2 : List Value, row h4 b3 1 6 = some cs2 ∧
∃ cs3 : List Value, row h4 b1 0 6 = some cs3 ∧
∃ l1 l2 : List Int, cs2 = l1.map (Value.int .u8) ∧ cs3 = l2.map (Value.int .u8) ∧ (l1.length = 6 ∧ l2.length = 6) ∧
bcase (decide (l1 = l2)) (
fits .i64 (x1 + (1 : Int)) ∧
Post (.tuple #[(.int .i64 (x1 + (1 : Int))), (.bool true)]) h4) (
fits .i64 (x1 + (1 : Int)) ∧
I1 (x1 + (1 : Int)) h4 ∧ m1 (x1 + (1 : Int)) h4 < m1 x1 h2)) (
fits .i64 (x1 + (1 : Int)) ∧
I1 (x1 + (1 : Int)) h4 ∧ m1 (x1 + (1 : Int)) h4 < m1 x1 h2)) (
Post (.tuple #[(.int .i64 (0 : Int)), (.bool false)]) h2)) :
    Runs Tryz.prog 68 #[(.pointer t), (.agg (a).toArray)] h0 Post :=
  runs_of (args := [(.pointer t), (.agg (a).toArray)]) (fun n => ⟨true, false⟩) (fun n => match n with | 0 => [(12, .int .i64)] | _ => []) (fun _ => none) (fun _ => []) Tryz.func68 rfl (by rw [Tryz.ntmps68]; simp) (Eq.mp (by kernel_rfl) H)

theorem vc_sched_Sched_Add (s : Option Addr) (aid : Int) (weight : Int) (h0 : Heap) (Post : Value → Heap → Prop) (H :
Runs Tryz.prog 69 #[(.int .i64 aid)] h0 fun r1 h1 =>
∃ t1 : Bool,
r1 = (.bool t1) ∧
bcase (!t1) (
∃ v1 : Value, cell h1 0 0 = some v1 ∧
Post v1 h1) (
Runs Tryz.prog 70 #[(.int .i64 weight)] h1 fun r2 h2 =>
∃ t2 : Bool,
r2 = (.bool t2) ∧
bcase (!t2) (
∃ v2 : Value, cell h2 0 0 = some v2 ∧
Post v2 h2) (
Runs Tryz.prog 71 #[(.pointer s), (.int .i64 aid)] h2 fun r3 h3 =>
∃ p1 : Option Addr,
r3 = (.pointer p1) ∧
bcase (!(isNilAddr p1)) (
∃ v3 : Value, cell h3 1 0 = some v3 ∧
Post v3 h3) (
fits .i64 (aid - (1 : Int)) ∧
∀ (b1 : Nat) (h4 : Heap), b1 = h3.size → h4 = h3.push (.cells ([(.int .i64 aid), (.int .i64 weight), (.int .i64 (0 : Int)), (.bool false), (.int .i64 (0 : Int))] : List Value).toArray 179) →
onAddr s fun b2 o1 =>
(0 ≤ (aid - (1 : Int)) ∧ (aid - (1 : Int)) < ((16 : Nat) : Int)) ∧
wr h4 b2 (o1 + ((aid - (1 : Int))).toNat) ∧ ∀ h5 : Heap, h5 = setc h4 b2 (o1 + ((aid - (1 : Int))).toNat) (.pointer (some ⟨b1, 0, none⟩)) →
Post .nilIface h5)))) :
    Runs Tryz.prog 33 #[(.pointer s), (.int .i64 aid), (.int .i64 weight)] h0 Post :=
  runs_of (args := [(.pointer s), (.int .i64 aid), (.int .i64 weight)]) (fun n => ⟨true, false⟩) (fun _ => []) (fun _ => none) (fun _ => []) Tryz.func33 rfl (by rw [Tryz.ntmps33]; simp) (Eq.mp (by kernel_rfl) H)

theorem vc_sched_Sched_of (s : Option Addr) (aid : Int) (h0 : Heap) (Post : Value → Heap → Prop) (H :
Runs Tryz.prog 69 #[(.int .i64 aid)] h0 fun r1 h1 =>
∃ t1 : Bool,
r1 = (.bool t1) ∧
bcase (!t1) (
Post (.pointer none) h1) (
fits .i64 (aid - (1 : Int)) ∧
onAddr s fun b1 o1 =>
(0 ≤ (aid - (1 : Int)) ∧ (aid - (1 : Int)) < ((16 : Nat) : Int)) ∧
∃ p1 : Option Addr, cell h1 b1 (o1 + ((aid - (1 : Int))).toNat) = some (.pointer p1) ∧
Post (.pointer p1) h1)) :
    Runs Tryz.prog 71 #[(.pointer s), (.int .i64 aid)] h0 Post :=
  runs_of (args := [(.pointer s), (.int .i64 aid)]) (fun n => ⟨true, false⟩) (fun _ => []) (fun _ => none) (fun _ => []) Tryz.func71 rfl (by rw [Tryz.ntmps71]; simp) (Eq.mp (by kernel_rfl) H)

theorem vc_sched_there (aid : Int) (h0 : Heap) (Post : Value → Heap → Prop) (H :
bcase (decide ((1 : Int) ≤ aid)) (
Post (.bool (decide (aid ≤ (16 : Int)))) h0) (
Post (.bool false) h0)) :
    Runs Tryz.prog 69 #[(.int .i64 aid)] h0 Post :=
  runs_of (args := [(.int .i64 aid)]) (fun n => ⟨true, false⟩) (fun _ => []) (fun _ => none) (fun _ => []) Tryz.func69 rfl (by rw [Tryz.ntmps69]; simp) (Eq.mp (by kernel_rfl) H)

theorem vc_sched_fair (weight : Int) (h0 : Heap) (Post : Value → Heap → Prop) (H :
bcase (decide ((1 : Int) ≤ weight)) (
Post (.bool (decide (weight ≤ (100 : Int)))) h0) (
Post (.bool false) h0)) :
    Runs Tryz.prog 70 #[(.int .i64 weight)] h0 Post :=
  runs_of (args := [(.int .i64 weight)]) (fun n => ⟨true, false⟩) (fun _ => []) (fun _ => none) (fun _ => []) Tryz.func70 rfl (by rw [Tryz.ntmps70]; simp) (Eq.mp (by kernel_rfl) H)

theorem vc_ps_Power_Add (p : Option Addr) (aid : Int) (uapsd : List Value) (most : Int) (h0 : Heap) (Post : Value → Heap → Prop) (H :
∀ (b1 : Nat) (h1 : Heap), b1 = h0.size → h1 = h0.push (.cells (uapsd).toArray 46) →
bcase (decide (aid < (1 : Int))) (
∃ v1 : Value, cell h1 0 0 = some v1 ∧
Post v1 h1) (
bcase (decide ((16 : Int) < aid)) (
∃ v2 : Value, cell h1 0 0 = some v2 ∧
Post v2 h1) (
bcase (decide (most < (0 : Int))) (
∃ v3 : Value, cell h1 0 0 = some v3 ∧
Post v3 h1) (
bcase (decide ((8 : Int) < most)) (
∃ v4 : Value, cell h1 0 0 = some v4 ∧
Post v4 h1) (
Runs Tryz.prog 72 #[(.pointer p), (.int .i64 aid)] h1 fun r1 h2 =>
∃ p1 : Option Addr,
r1 = (.pointer p1) ∧
bcase (!(isNilAddr p1)) (
∃ v5 : Value, cell h2 1 0 = some v5 ∧
Post v5 h2) (
fits .i64 (aid - (1 : Int)) ∧
∃ cs1 : List Value, row h2 b1 0 4 = some cs1 ∧
(cs1).length = 4 ∧
onAddr p fun b2 o1 =>
(0 ≤ (aid - (1 : Int)) ∧ (aid - (1 : Int)) < ((16 : Nat) : Int)) ∧
((((([(.bool true), (.bool false), (.bool false), (.bool false)] : List Value) ++ ((cs1) ++ ([(.int .i64 most), (.int .i64 (0 : Int))] : List Value))))).length = 10 ∧ wrs h2 b2 (o1 + (((aid - (1 : Int))).toNat * 10)) 10 ∧ ∀ u ∈ (((([(.bool true), (.bool false), (.bool false), (.bool false)] : List Value) ++ ((cs1) ++ ([(.int .i64 most), (.int .i64 (0 : Int))] : List Value)))) : List Value), u.oneCell' = true) ∧ ∀ h3 : Heap, h3 = setr h2 b2 (o1 + (((aid - (1 : Int))).toNat * 10)) ((([(.bool true), (.bool false), (.bool false), (.bool false)] : List Value) ++ ((cs1) ++ ([(.int .i64 most), (.int .i64 (0 : Int))] : List Value)))) →
Post .nilIface h3)))))) :
    Runs Tryz.prog 34 #[(.pointer p), (.int .i64 aid), (.agg (uapsd).toArray), (.int .i64 most)] h0 Post :=
  runs_of (args := [(.pointer p), (.int .i64 aid), (.agg (uapsd).toArray), (.int .i64 most)]) (fun n => ⟨true, false⟩) (fun _ => []) (fun _ => none) (fun _ => []) Tryz.func34 rfl (by rw [Tryz.ntmps34]; simp) (Eq.mp (by kernel_rfl) H)

theorem vc_ps_Power_of (p : Option Addr) (aid : Int) (h0 : Heap) (Post : Value → Heap → Prop) (H :
bcase (decide (aid < (1 : Int))) (
Post (.pointer none) h0) (
bcase (decide ((16 : Int) < aid)) (
Post (.pointer none) h0) (
fits .i64 (aid - (1 : Int)) ∧
onAddr p fun b1 o1 =>
(0 ≤ (aid - (1 : Int)) ∧ (aid - (1 : Int)) < ((16 : Nat) : Int)) ∧
∃ t1 : Bool, cell h0 b1 (o1 + (((aid - (1 : Int))).toNat * 10)) = some (.bool t1) ∧
bcase (!t1) (
Post (.pointer none) h0) (
fits .i64 (aid - (1 : Int)) ∧
onAddr p fun b2 o2 =>
(0 ≤ (aid - (1 : Int)) ∧ (aid - (1 : Int)) < ((16 : Nat) : Int)) ∧
Post (.pointer (some ⟨b2, (o2 + (((aid - (1 : Int))).toNat * 10)), none⟩)) h0)))) :
    Runs Tryz.prog 72 #[(.pointer p), (.int .i64 aid)] h0 Post :=
  runs_of (args := [(.pointer p), (.int .i64 aid)]) (fun n => ⟨true, false⟩) (fun _ => []) (fun _ => none) (fun _ => []) Tryz.func72 rfl (by rw [Tryz.ntmps72]; simp) (Eq.mp (by kernel_rfl) H)

theorem vc_pool_New (seed : Int) (target : Int) (interval : Int) (packets : Int) (bytes : Int) (h0 : Heap) (Post : Value → Heap → Prop) (H :
bcase (decide (packets < (1 : Int))) (
∃ v1 : Value, cell h0 0 0 = some v1 ∧
Post (.tuple #[(.pointer none), v1]) h0) (
bcase (decide ((512 : Int) < packets)) (
∃ v2 : Value, cell h0 0 0 = some v2 ∧
Post (.tuple #[(.pointer none), v2]) h0) (
bcase (decide (bytes < (1 : Int))) (
∃ v3 : Value, cell h0 0 0 = some v3 ∧
Post (.tuple #[(.pointer none), v3]) h0) (
bcase (decide ((1048576 : Int) < bytes)) (
∃ v4 : Value, cell h0 0 0 = some v4 ∧
Post (.tuple #[(.pointer none), v4]) h0) (
∀ (b1 : Nat) (h1 : Heap), b1 = h0.size → h1 = h0.push (.cells ([(.int .u32 seed), (.int .i64 target), (.int .i64 interval), (.int .i64 packets), (.int .i64 bytes), (.pointer none), (.pointer none), (.pointer none), (.pointer none), (.pointer none), (.pointer none), (.pointer none), (.pointer none), (.pointer none), (.pointer none), (.pointer none), (.pointer none), (.pointer none), (.pointer none), (.pointer none), (.pointer none), (.pointer none), (.pointer none), (.pointer none), (.pointer none), (.pointer none), (.pointer none), (.pointer none), (.pointer none), (.pointer none), (.pointer none), (.pointer none), (.pointer none), (.pointer none), (.pointer none), (.pointer none), (.pointer none), (.pointer none), (.pointer none), (.pointer none), (.pointer none), (.pointer none), (.pointer none), (.pointer none), (.pointer none), (.pointer none), (.pointer none), (.pointer none), (.pointer none), (.pointer none), (.pointer none), (.pointer none), (.pointer none), (.pointer none), (.pointer none), (.pointer none), (.pointer none), (.pointer none), (.pointer none), (.pointer none), (.pointer none), (.pointer none), (.pointer none), (.pointer none), (.pointer none), (.pointer none), (.pointer none), (.pointer none), (.pointer none), (.pointer none), (.pointer none), (.pointer none), (.pointer none), (.pointer none), (.pointer none), (.pointer none), (.pointer none), (.pointer none), (.pointer none), (.pointer none), (.pointer none), (.pointer none), (.pointer none), (.pointer none), (.pointer none), (.pointer none), (.pointer none), (.pointer none), (.pointer none), (.pointer none), (.pointer none), (.pointer none), (.pointer none), (.pointer none), (.pointer none), (.pointer none), (.pointer none), (.pointer none), (.pointer none), (.pointer none), (.pointer none), (.pointer none), (.pointer none), (.pointer none), (.pointer none), (.pointer none), (.pointer none), (.pointer none), (.pointer none), (.pointer none), (.pointer none), (.pointer none), (.pointer none), (.pointer none), (.pointer none), (.pointer none), (.pointer none), (.pointer none), (.pointer none), (.pointer none), (.pointer none), (.pointer none), (.pointer none), (.pointer none), (.pointer none), (.pointer none), (.pointer none), (.pointer none), (.pointer none), (.pointer none), (.pointer none), (.pointer none), (.pointer none)] : List Value).toArray 149) →
∃ (I1 : Int → Heap → Prop) (m1 : Int → Heap → Nat), I1 (0 : Int) h1 ∧ ∀ _ : Env,
∀ (x1 : Int) (h2 : Heap), I1 x1 h2 →
bcase (decide (x1 < (16 : Int))) (
Runs Tryz.prog 59 #[(.pointer (some ⟨b1, 0, none⟩)), (.int .i64 x1)] h2 fun r1 h3 =>
fits .i64 (x1 + (1 : Int)) ∧
I1 (x1 + (1 : Int)) h3 ∧ m1 (x1 + (1 : Int)) h3 < m1 x1 h2) (
Post (.tuple #[(.pointer (some ⟨b1, 0, none⟩)), .nilIface]) h2)))))) :
    Runs Tryz.prog 22 #[(.int .u32 seed), (.int .i64 target), (.int .i64 interval), (.int .i64 packets), (.int .i64 bytes)] h0 Post :=
  runs_of (args := [(.int .u32 seed), (.int .i64 target), (.int .i64 interval), (.int .i64 packets), (.int .i64 bytes)]) (fun n => ⟨true, false⟩) (fun n => match n with | 0 => [(36, .int .i64)] | _ => []) (fun _ => none) (fun _ => []) Tryz.func22 rfl (by rw [Tryz.ntmps22]; simp) (Eq.mp (by kernel_rfl) H)

theorem vc_pool_Pool_renew (p : Option Addr) (i : Int) (h0 : Heap) (Post : Value → Heap → Prop) (H :
∃ (I1 : Int → Heap → Prop) (m1 : Int → Heap → Nat), I1 (0 : Int) h0 ∧ ∀ _ : Env,
∀ (x1 : Int) (h1 : Heap), I1 x1 h1 →
bcase (decide (x1 < (8 : Int))) (
onAddr p fun b1 o1 =>
∃ n1 : Int, cell h1 b1 o1 = some (.int .u32 n1) ∧
onAddr p fun b2 o2 =>
∃ n2 : Int, cell h1 b2 (o2 + 1) = some (.int .i64 n2) ∧
onAddr p fun b3 o3 =>
∃ n3 : Int, cell h1 b3 (o3 + 2) = some (.int .i64 n3) ∧
onAddr p fun b4 o4 =>
(0 ≤ i ∧ i < ((16 : Nat) : Int)) ∧
Runs Tryz.prog 117 #[(.int .u32 n1), (.int .i64 n2), (.int .i64 n3)] h1 fun r1 h2 =>
∃ p1 : Option Addr,
r1 = (.pointer p1) ∧
(0 ≤ x1 ∧ x1 < ((8 : Nat) : Int)) ∧
wr h2 b4 (((o4 + 5) + ((i).toNat * 8)) + (x1).toNat) ∧ ∀ h3 : Heap, h3 = setc h2 b4 (((o4 + 5) + ((i).toNat * 8)) + (x1).toNat) (.pointer p1) →
fits .i64 (x1 + (1 : Int)) ∧
I1 (x1 + (1 : Int)) h3 ∧ m1 (x1 + (1 : Int)) h3 < m1 x1 h1) (
Post (.tuple #[]) h1)) :
    Runs Tryz.prog 59 #[(.pointer p), (.int .i64 i)] h0 Post :=
  runs_of (args := [(.pointer p), (.int .i64 i)]) (fun n => ⟨true, false⟩) (fun n => match n with | 0 => [(5, .int .i64)] | _ => []) (fun _ => none) (fun _ => []) Tryz.func59 rfl (by rw [Tryz.ntmps59]; simp) (Eq.mp (by kernel_rfl) H)

theorem vc_fq_New (seed : Int) (target : Int) (interval : Int) (h0 : Heap) (Post : Value → Heap → Prop) (H :
∀ (b1 : Nat) (h1 : Heap), b1 = h0.size → h1 = h0.push (.cells ([(.int .u32 seed), (.int .i64 target), (.int .i64 interval), (.slice none 0 0), (.int .i64 (0 : Int)), (.int .i64 (0 : Int)), (.int .i64 (0 : Int)), (.int .i64 (0 : Int)), (.int .u32 (0 : Int)), (.int .u32 (0 : Int)), (.bool false), (.slice none 0 0), (.int .i64 (0 : Int)), (.int .i64 (0 : Int)), (.int .i64 (0 : Int)), (.int .i64 (0 : Int)), (.int .u32 (0 : Int)), (.int .u32 (0 : Int)), (.bool false), (.slice none 0 0), (.int .i64 (0 : Int)), (.int .i64 (0 : Int)), (.int .i64 (0 : Int)), (.int .i64 (0 : Int)), (.int .u32 (0 : Int)), (.int .u32 (0 : Int)), (.bool false), (.slice none 0 0), (.int .i64 (0 : Int)), (.int .i64 (0 : Int)), (.int .i64 (0 : Int)), (.int .i64 (0 : Int)), (.int .u32 (0 : Int)), (.int .u32 (0 : Int)), (.bool false), (.slice none 0 0), (.int .i64 (0 : Int)), (.int .i64 (0 : Int)), (.int .i64 (0 : Int)), (.int .i64 (0 : Int)), (.int .u32 (0 : Int)), (.int .u32 (0 : Int)), (.bool false), (.slice none 0 0), (.int .i64 (0 : Int)), (.int .i64 (0 : Int)), (.int .i64 (0 : Int)), (.int .i64 (0 : Int)), (.int .u32 (0 : Int)), (.int .u32 (0 : Int)), (.bool false), (.slice none 0 0), (.int .i64 (0 : Int)), (.int .i64 (0 : Int)), (.int .i64 (0 : Int)), (.int .i64 (0 : Int)), (.int .u32 (0 : Int)), (.int .u32 (0 : Int)), (.bool false), (.slice none 0 0), (.int .i64 (0 : Int)), (.int .i64 (0 : Int)), (.int .i64 (0 : Int)), (.int .i64 (0 : Int)), (.int .u32 (0 : Int)), (.int .u32 (0 : Int)), (.bool false), (.slice none 0 0), (.int .i64 (0 : Int)), (.int .i64 (0 : Int)), (.int .i64 (0 : Int)), (.int .i64 (0 : Int)), (.int .u32 (0 : Int)), (.int .u32 (0 : Int)), (.bool false), (.slice none 0 0), (.int .i64 (0 : Int)), (.int .i64 (0 : Int)), (.int .i64 (0 : Int)), (.int .i64 (0 : Int)), (.int .u32 (0 : Int)), (.int .u32 (0 : Int)), (.bool false), (.slice none 0 0), (.int .i64 (0 : Int)), (.int .i64 (0 : Int)), (.int .i64 (0 : Int)), (.int .i64 (0 : Int)), (.int .u32 (0 : Int)), (.int .u32 (0 : Int)), (.bool false), (.slice none 0 0), (.int .i64 (0 : Int)), (.int .i64 (0 : Int)), (.int .i64 (0 : Int)), (.int .i64 (0 : Int)), (.int .u32 (0 : Int)), (.int .u32 (0 : Int)), (.bool false), (.slice none 0 0), (.int .i64 (0 : Int)), (.int .i64 (0 : Int)), (.int .i64 (0 : Int)), (.int .i64 (0 : Int)), (.int .u32 (0 : Int)), (.int .u32 (0 : Int)), (.bool false), (.slice none 0 0), (.int .i64 (0 : Int)), (.int .i64 (0 : Int)), (.int .i64 (0 : Int)), (.int .i64 (0 : Int)), (.int .u32 (0 : Int)), (.int .u32 (0 : Int)), (.bool false), (.slice none 0 0), (.int .i64 (0 : Int)), (.int .i64 (0 : Int)), (.int .i64 (0 : Int)), (.int .i64 (0 : Int)), (.int .u32 (0 : Int)), (.int .u32 (0 : Int)), (.bool false), (.slice none 0 0), (.int .i64 (0 : Int)), (.int .i64 (0 : Int)), (.int .i64 (0 : Int)), (.int .i64 (0 : Int)), (.int .u32 (0 : Int)), (.int .u32 (0 : Int)), (.bool false), (.slice none 0 0), (.slice none 0 0), (.int .i64 (0 : Int)), (.int .i64 (0 : Int))] : List Value).toArray 241) →
Post (.pointer (some ⟨b1, 0, none⟩)) h1) :
    Runs Tryz.prog 117 #[(.int .u32 seed), (.int .i64 target), (.int .i64 interval)] h0 Post :=
  runs_of (args := [(.int .u32 seed), (.int .i64 target), (.int .i64 interval)]) (fun n => ⟨true, false⟩) (fun _ => []) (fun _ => none) (fun _ => []) Tryz.func117 rfl (by rw [Tryz.ntmps117]; simp) (Eq.mp (by kernel_rfl) H)
end Go.Proofs.YtgjbgcgjcamlgaaGreatDoor
