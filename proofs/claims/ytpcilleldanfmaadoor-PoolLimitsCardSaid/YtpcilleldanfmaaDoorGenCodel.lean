/- The conditions for calls of functions of the program, in plain form: written by a program (vcgen) off the elaborated code; each is the reckoner's own, by the kernel. -/
import Derived.Test.YtpcilleldanfmaaDoorRows
import Derived.Test.YtpcilleldanfmaaDoorVc
set_option linter.unusedVariables false
set_option maxRecDepth 100000
namespace Go.Proofs.YtpcilleldanfmaaDoor
open Go.Vc
theorem vc_codel_Codel_Pull (c : List Value) (now : Int) (target : Int) (interval : Int) (bytes : Int) (l : Option Addr) (lL lC : Nat) (h0 : Heap) (Post : Value → Heap → Prop) (H :
∀ (b1 : Nat) (h1 : Heap), b1 = h0.size → h1 = h0.push (.cells (c).toArray 91) →
∀ (b2 : Nat) (h2 : Heap), b2 = h1.size → h2 = h1.push (.cells ([(.int .i64 (0 : Int)), (.int .i64 (0 : Int)), (.int .u32 (0 : Int)), (.int .u32 (0 : Int)), (.bool false)] : List Value).toArray 91) →
∃ cs1 : List Value, row h2 b1 0 5 = some cs1 ∧
(cs1).length = 5 ∧
∀ (b3 : Nat) (h3 : Heap), b3 = h2.size → h3 = h2.push (.cells (((cs1) ++ ([(.int .i64 now), (.int .i64 (min (max target (0 : Int)) (1073741824 : Int))), (.int .i64 (min (max interval (0 : Int)) (1073741824 : Int))), (.int .i64 bytes), (.slice l lL lC), (.int .i64 (0 : Int))] : List Value))).toArray 144) →
Runs Tryd.prog 86 #[(.pointer (some ⟨b3, 0, none⟩))] h3 fun r1 h4 =>
∃ t1 : Bool,
r1 = (.bool t1) ∧
∃ cs2 : List Value, row h4 b3 0 5 = some cs2 ∧
∃ n1 : Int, cell h4 b3 10 = some (.int .i64 n1) ∧
(((cs2)).length = 5 ∧ wrs h4 b2 0 5 ∧ ∀ u ∈ ((cs2) : List Value), u.oneCell' = true) ∧ ∀ h5 : Heap, h5 = setr h4 b2 0 (cs2) →
cell h5 b3 10 = some (.int .i64 n1) ∧
∃ cs3 : List Value, row h5 b2 0 5 = some cs3 ∧
Post (.tuple #[(.agg (cs3).toArray), (.int .i64 n1), (.bool t1)]) h5) :
    Runs Tryd.prog 77 #[(.agg (c).toArray), (.int .i64 now), (.int .i64 target), (.int .i64 interval), (.int .i64 bytes), (.slice l lL lC)] h0 Post :=
  runs_of (args := [(.agg (c).toArray), (.int .i64 now), (.int .i64 target), (.int .i64 interval), (.int .i64 bytes), (.slice l lL lC)]) (fun n => ⟨true, false⟩) (fun _ => []) (fun _ => none) (fun _ => []) Tryd.func77 rfl (by rw [Tryd.ntmps77]; simp) (Eq.mp (by kernel_rfl) H)

theorem vc_codel_state_run (s : Option Addr) (h0 : Heap) (Post : Value → Heap → Prop) (H :
Runs Tryd.prog 91 #[(.pointer s)] h0 fun r1 h1 =>
∃ t1 : Bool,
∃ t2 : Bool,
r1 = (.tuple #[(.bool t1), (.bool t2)]) ∧
bcase (!t1) (
onAddr s fun b1 o1 =>
wr h1 b1 (o1 + 4) ∧ ∀ h2 : Heap, h2 = setc h1 b1 (o1 + 4) (.bool false) →
Post (.bool false) h2) (
onAddr s fun b2 o2 =>
∃ t3 : Bool, cell h1 b2 (o2 + 4) = some (.bool t3) ∧
bcase t3 (
bcase (!t2) (
onAddr s fun b3 o3 =>
wr h1 b3 (o3 + 4) ∧ ∀ h3 : Heap, h3 = setc h1 b3 (o3 + 4) (.bool false) →
Post (.bool true) h3) (
onAddr s fun b4 o4 =>
∃ t4 : Bool, cell h1 b4 (o4 + 4) = some (.bool t4) ∧
bcase t4 (
Runs Tryd.prog 92 #[(.pointer s)] h1 fun r2 h4 =>
∃ t5 : Bool,
r2 = (.bool t5) ∧
Post (.bool t5) h4) (
bcase t2 (
Runs Tryd.prog 93 #[(.pointer s)] h1 fun r3 h5 =>
∃ t6 : Bool,
r3 = (.bool t6) ∧
Post (.bool t6) h5) (
Post (.bool true) h1)))) (
onAddr s fun b5 o5 =>
∃ t7 : Bool, cell h1 b5 (o5 + 4) = some (.bool t7) ∧
bcase t7 (
Runs Tryd.prog 92 #[(.pointer s)] h1 fun r4 h6 =>
∃ t8 : Bool,
r4 = (.bool t8) ∧
Post (.bool t8) h6) (
bcase t2 (
Runs Tryd.prog 93 #[(.pointer s)] h1 fun r5 h7 =>
∃ t9 : Bool,
r5 = (.bool t9) ∧
Post (.bool t9) h7) (
Post (.bool true) h1))))) :
    Runs Tryd.prog 86 #[(.pointer s)] h0 Post :=
  runs_of (args := [(.pointer s)]) (fun n => ⟨true, false⟩) (fun _ => []) (fun _ => none) (fun _ => []) Tryd.func86 rfl (by rw [Tryd.ntmps86]; simp) (Eq.mp (by kernel_rfl) H)

theorem vc_codel_state_look (s : Option Addr) (h0 : Heap) (Post : Value → Heap → Prop) (H :
onAddr s fun b1 o1 =>
∃ n1 : Int, cell h0 b1 (o1 + 10) = some (.int .i64 n1) ∧
onAddr s fun b2 o2 =>
∃ (s1 : Option Addr) (s1l s1c : Nat), cell h0 b2 (o2 + 9) = some (.slice s1 s1l s1c) ∧
bcase (decide (((s1l : Nat) : Int) ≤ n1)) (
onAddr s fun b3 o3 =>
wr h0 b3 o3 ∧ ∀ h1 : Heap, h1 = setc h0 b3 o3 (.int .i64 (0 : Int)) →
Post (.tuple #[(.bool false), (.bool false)]) h1) (
onAddr s fun b4 o4 =>
∃ (s2 : Option Addr) (s2l s2c : Nat), cell h0 b4 (o4 + 9) = some (.slice s2 s2l s2c) ∧
onAddr s fun b5 o5 =>
∃ n2 : Int, cell h0 b5 (o5 + 10) = some (.int .i64 n2) ∧
(0 ≤ n2 ∧ n2 < ((s2l : Nat) : Int)) ∧
onAddr s2 fun b6 o6 =>
∃ cs1 : List Value, row h0 b6 (o6 + ((n2).toNat * 2)) 2 = some cs1 ∧
∀ (b7 : Nat) (h2 : Heap), b7 = h0.size → h2 = h0.push (.cells ([(.int .i64 (0 : Int)), (.int .i64 (0 : Int))] : List Value).toArray 125) →
(((cs1)).length = 2 ∧ wrs h2 b7 0 2 ∧ ∀ u ∈ ((cs1) : List Value), u.oneCell' = true) ∧ ∀ h3 : Heap, h3 = setr h2 b7 0 (cs1) →
onAddr s fun b8 o7 =>
∃ n3 : Int, cell h3 b8 (o7 + 8) = some (.int .i64 n3) ∧
∃ n4 : Int, cell h3 b7 1 = some (.int .i64 n4) ∧
fits .i64 (n3 - (max n4 (0 : Int))) ∧
onAddr s fun b9 o8 =>
wr h3 b9 (o8 + 8) ∧ ∀ h4 : Heap, h4 = setc h3 b9 (o8 + 8) (.int .i64 (n3 - (max n4 (0 : Int)))) →
onAddr s fun b10 o9 =>
∃ n5 : Int, cell h4 b10 (o9 + 5) = some (.int .i64 n5) ∧
∃ n6 : Int, cell h4 b7 0 = some (.int .i64 n6) ∧
fits .i64 (n5 - n6) ∧
onAddr s fun b11 o10 =>
∃ n7 : Int, cell h4 b11 (o10 + 6) = some (.int .i64 n7) ∧
bcase (decide ((n5 - n6) < n7)) (
onAddr s fun b12 o11 =>
wr h4 b12 o11 ∧ ∀ h5 : Heap, h5 = setc h4 b12 o11 (.int .i64 (0 : Int)) →
Post (.tuple #[(.bool true), (.bool false)]) h5) (
onAddr s fun b13 o12 =>
∃ n8 : Int, cell h4 b13 (o12 + 8) = some (.int .i64 n8) ∧
bcase (decide (n8 ≤ (1514 : Int))) (
onAddr s fun b14 o13 =>
wr h4 b14 o13 ∧ ∀ h6 : Heap, h6 = setc h4 b14 o13 (.int .i64 (0 : Int)) →
Post (.tuple #[(.bool true), (.bool false)]) h6) (
onAddr s fun b15 o14 =>
∃ n9 : Int, cell h4 b15 o14 = some (.int .i64 n9) ∧
bcase (decide (n9 = (0 : Int))) (
onAddr s fun b16 o15 =>
∃ n10 : Int, cell h4 b16 (o15 + 5) = some (.int .i64 n10) ∧
onAddr s fun b17 o16 =>
∃ n11 : Int, cell h4 b17 (o16 + 7) = some (.int .i64 n11) ∧
fits .i64 (n10 + n11) ∧
onAddr s fun b18 o17 =>
wr h4 b18 o17 ∧ ∀ h7 : Heap, h7 = setc h4 b18 o17 (.int .i64 (n10 + n11)) →
Post (.tuple #[(.bool true), (.bool false)]) h7) (
onAddr s fun b19 o18 =>
∃ n12 : Int, cell h4 b19 (o18 + 5) = some (.int .i64 n12) ∧
onAddr s fun b20 o19 =>
∃ n13 : Int, cell h4 b20 o19 = some (.int .i64 n13) ∧
Post (.tuple #[(.bool true), (.bool (decide (n13 ≤ n12)))]) h4))))) :
    Runs Tryd.prog 91 #[(.pointer s)] h0 Post :=
  runs_of (args := [(.pointer s)]) (fun n => ⟨true, false⟩) (fun _ => []) (fun _ => none) (fun _ => []) Tryd.func91 rfl (by rw [Tryd.ntmps91]; simp) (Eq.mp (by kernel_rfl) H)

theorem vc_codel_state_more (s : Option Addr) (h0 : Heap) (Post : Value → Heap → Prop) (H :
∃ (I1 : Bool → Heap → Prop) (m1 : Bool → Heap → Nat), I1 true h0 ∧ ∀ _ : Env,
∀ (is_1 : Bool) (h1 : Heap), I1 is_1 h1 →
onAddr s fun b1 o1 =>
∃ n1 : Int, cell h1 b1 (o1 + 5) = some (.int .i64 n1) ∧
onAddr s fun b2 o2 =>
∃ n2 : Int, cell h1 b2 (o2 + 1) = some (.int .i64 n2) ∧
bcase (decide (n2 ≤ n1)) (
onAddr s fun b3 o3 =>
∃ t1 : Bool, cell h1 b3 (o3 + 4) = some (.bool t1) ∧
bcase t1 (
onAddr s fun b4 o4 =>
∃ n3 : Int, cell h1 b4 (o4 + 10) = some (.int .i64 n3) ∧
fits .i64 (n3 + (1 : Int)) ∧
onAddr s fun b5 o5 =>
wr h1 b5 (o5 + 10) ∧ ∀ h2 : Heap, h2 = setc h1 b5 (o5 + 10) (.int .i64 (n3 + (1 : Int))) →
∃ J1 : Heap → Prop, (
onAddr s fun b6 o6 =>
∃ n4 : Int, cell h2 b6 (o6 + 2) = some (.int .u32 n4) ∧
bcase (decide (n4 < (4294967295 : Int))) (
onAddr s fun b7 o7 =>
∃ n5 : Int, cell h2 b7 (o7 + 2) = some (.int .u32 n5) ∧
fits .u32 (n5 + (1 : Int)) ∧
onAddr s fun b8 o8 =>
wr h2 b8 (o8 + 2) ∧ ∀ h3 : Heap, h3 = setc h2 b8 (o8 + 2) (.int .u32 (n5 + (1 : Int))) →
J1 h3) (
J1 h2)) ∧ ∀ _ : Env,
∀ (h4 : Heap), J1 h4 →
Runs Tryd.prog 91 #[(.pointer s)] h4 fun r1 h5 =>
∃ t2 : Bool,
∃ t3 : Bool,
r1 = (.tuple #[(.bool t2), (.bool t3)]) ∧
bcase (!t2) (
onAddr s fun b9 o9 =>
wr h5 b9 (o9 + 4) ∧ ∀ h6 : Heap, h6 = setc h5 b9 (o9 + 4) (.bool false) →
I1 t2 h6 ∧ m1 t2 h6 < m1 is_1 h1) (
bcase (!t3) (
onAddr s fun b10 o10 =>
wr h5 b10 (o10 + 4) ∧ ∀ h7 : Heap, h7 = setc h5 b10 (o10 + 4) (.bool false) →
I1 t2 h7 ∧ m1 t2 h7 < m1 is_1 h1) (
onAddr s fun b11 o11 =>
∃ n6 : Int, cell h5 b11 (o11 + 1) = some (.int .i64 n6) ∧
onAddr s fun b12 o12 =>
∃ n7 : Int, cell h5 b12 (o12 + 7) = some (.int .i64 n7) ∧
onAddr s fun b13 o13 =>
∃ n8 : Int, cell h5 b13 (o13 + 2) = some (.int .u32 n8) ∧
Runs Tryd.prog 95 #[(.int .i64 n6), (.int .i64 n7), (.int .u32 n8)] h5 fun r2 h8 =>
∃ n9 : Int,
r2 = (.int .i64 n9) ∧
onAddr s fun b14 o14 =>
wr h8 b14 (o14 + 1) ∧ ∀ h9 : Heap, h9 = setc h8 b14 (o14 + 1) (.int .i64 n9) →
I1 t2 h9 ∧ m1 t2 h9 < m1 is_1 h1))) (
Post (.bool is_1) h1)) (
Post (.bool is_1) h1)) :
    Runs Tryd.prog 92 #[(.pointer s)] h0 Post :=
  runs_of (args := [(.pointer s)]) (fun n => ⟨true, false⟩) (fun n => match n with | 0 => [(3, .bool)] | _ => []) (fun n => match n with | 6 => some [] | _ => none) (fun _ => []) Tryd.func92 rfl (by rw [Tryd.ntmps92]; simp) (Eq.mp (by kernel_rfl) H)

theorem vc_codel_state_begins (s : Option Addr) (h0 : Heap) (Post : Value → Heap → Prop) (H :
onAddr s fun b1 o1 =>
∃ n1 : Int, cell h0 b1 (o1 + 10) = some (.int .i64 n1) ∧
fits .i64 (n1 + (1 : Int)) ∧
onAddr s fun b2 o2 =>
wr h0 b2 (o2 + 10) ∧ ∀ h1 : Heap, h1 = setc h0 b2 (o2 + 10) (.int .i64 (n1 + (1 : Int))) →
Runs Tryd.prog 91 #[(.pointer s)] h1 fun r1 h2 =>
∃ t1 : Bool,
∃ t2 : Bool,
r1 = (.tuple #[(.bool t1), (.bool t2)]) ∧
onAddr s fun b3 o3 =>
wr h2 b3 (o3 + 4) ∧ ∀ h3 : Heap, h3 = setc h2 b3 (o3 + 4) (.bool true) →
onAddr s fun b4 o4 =>
∃ n2 : Int, cell h3 b4 (o4 + 2) = some (.int .u32 n2) ∧
onAddr s fun b5 o5 =>
∃ n3 : Int, cell h3 b5 (o5 + 3) = some (.int .u32 n3) ∧
onAddr s fun b6 o6 =>
wr h3 b6 (o6 + 2) ∧ ∀ h4 : Heap, h4 = setc h3 b6 (o6 + 2) (.int .u32 (1 : Int)) →
∃ J1 : Heap → Prop, (
bcase (decide ((1 : Int) < (IntKind.u32.wrap (n2 - n3)))) (
onAddr s fun b7 o7 =>
∃ n4 : Int, cell h4 b7 (o7 + 5) = some (.int .i64 n4) ∧
onAddr s fun b8 o8 =>
∃ n5 : Int, cell h4 b8 (o8 + 1) = some (.int .i64 n5) ∧
fits .i64 (n4 - n5) ∧
onAddr s fun b9 o9 =>
∃ n6 : Int, cell h4 b9 (o9 + 7) = some (.int .i64 n6) ∧
fits .i64 ((16 : Int) * n6) ∧
bcase (decide ((n4 - n5) < ((16 : Int) * n6))) (
onAddr s fun b10 o10 =>
wr h4 b10 (o10 + 2) ∧ ∀ h5 : Heap, h5 = setc h4 b10 (o10 + 2) (.int .u32 (IntKind.u32.wrap (n2 - n3))) →
J1 h5) (
J1 h4)) (
J1 h4)) ∧ ∀ _ : Env,
∀ (h6 : Heap), J1 h6 →
onAddr s fun b11 o11 =>
∃ n7 : Int, cell h6 b11 (o11 + 2) = some (.int .u32 n7) ∧
onAddr s fun b12 o12 =>
wr h6 b12 (o12 + 3) ∧ ∀ h7 : Heap, h7 = setc h6 b12 (o12 + 3) (.int .u32 n7) →
onAddr s fun b13 o13 =>
∃ n8 : Int, cell h7 b13 (o13 + 5) = some (.int .i64 n8) ∧
onAddr s fun b14 o14 =>
∃ n9 : Int, cell h7 b14 (o14 + 7) = some (.int .i64 n9) ∧
onAddr s fun b15 o15 =>
∃ n10 : Int, cell h7 b15 (o15 + 2) = some (.int .u32 n10) ∧
Runs Tryd.prog 95 #[(.int .i64 n8), (.int .i64 n9), (.int .u32 n10)] h7 fun r2 h8 =>
∃ n11 : Int,
r2 = (.int .i64 n11) ∧
onAddr s fun b16 o16 =>
wr h8 b16 (o16 + 1) ∧ ∀ h9 : Heap, h9 = setc h8 b16 (o16 + 1) (.int .i64 n11) →
Post (.bool t1) h9) :
    Runs Tryd.prog 93 #[(.pointer s)] h0 Post :=
  runs_of (args := [(.pointer s)]) (fun n => ⟨!memB n [4], false⟩) (fun _ => []) (fun n => match n with | 8 => some [] | _ => none) (fun _ => []) Tryd.func93 rfl (by rw [Tryd.ntmps93]; simp) (Eq.mp (by kernel_rfl) H)

theorem vc_muezzinref8_Pull (c : List Value) (now : Int) (target : Int) (interval : Int) (bytes : Int) (l : Option Addr) (lL lC : Nat) (h0 : Heap) (Post : Value → Heap → Prop) (H :
∀ (b1 : Nat) (h1 : Heap), b1 = h0.size → h1 = h0.push (.cells (c).toArray 109) →
∀ (b2 : Nat) (h2 : Heap), b2 = h1.size → h2 = h1.push (.cells ([(.int .i64 (0 : Int)), (.int .i64 (0 : Int)), (.int .u32 (0 : Int)), (.int .u32 (0 : Int)), (.bool false)] : List Value).toArray 109) →
∃ cs1 : List Value, row h2 b1 0 5 = some cs1 ∧
Runs Tryd.prog 83 #[(.int .i64 target), (.int .i64 (0 : Int)), (.int .i64 (1073741824 : Int))] h2 fun r1 h3 =>
∃ n1 : Int,
r1 = (.int .i64 n1) ∧
row h3 b1 0 5 = some (cs1) ∧
Runs Tryd.prog 83 #[(.int .i64 interval), (.int .i64 (0 : Int)), (.int .i64 (1073741824 : Int))] h3 fun r2 h4 =>
∃ n2 : Int,
r2 = (.int .i64 n2) ∧
row h4 b1 0 5 = some (cs1) ∧
(cs1).length = 5 ∧
∀ (b3 : Nat) (h5 : Heap), b3 = h4.size → h5 = h4.push (.cells (((cs1) ++ ([(.int .i64 now), (.int .i64 n1), (.int .i64 n2), (.int .i64 bytes), (.slice l lL lC), (.int .i64 (0 : Int))] : List Value))).toArray 138) →
Runs Tryd.prog 84 #[(.pointer (some ⟨b3, 0, none⟩))] h5 fun r3 h6 =>
∃ t1 : Bool,
∃ t2 : Bool,
r3 = (.tuple #[(.bool t1), (.bool t2)]) ∧
bcase (!t1) (
wr h6 b3 4 ∧ ∀ h7 : Heap, h7 = setc h6 b3 4 (.bool false) →
∃ cs2 : List Value, row h7 b3 0 5 = some cs2 ∧
(((cs2)).length = 5 ∧ wrs h7 b2 0 5 ∧ ∀ u ∈ ((cs2) : List Value), u.oneCell' = true) ∧ ∀ h8 : Heap, h8 = setr h7 b2 0 (cs2) →
∃ cs3 : List Value, row h8 b2 0 5 = some cs3 ∧
Post (.tuple #[(.agg (cs3).toArray), (.int .i64 (0 : Int)), (.bool false)]) h8) (
∃ t3 : Bool, cell h6 b3 4 = some (.bool t3) ∧
bcase t3 (
bcase (!t2) (
wr h6 b3 4 ∧ ∀ h9 : Heap, h9 = setc h6 b3 4 (.bool false) →
∃ cs4 : List Value, row h9 b3 0 5 = some cs4 ∧
(((cs4)).length = 5 ∧ wrs h9 b2 0 5 ∧ ∀ u ∈ ((cs4) : List Value), u.oneCell' = true) ∧ ∀ h10 : Heap, h10 = setr h9 b2 0 (cs4) →
∃ cs5 : List Value, row h10 b2 0 5 = some cs5 ∧
Post (.tuple #[(.agg (cs5).toArray), (.int .i64 (0 : Int)), (.bool true)]) h10) (
∃ (I1 : Bool → Heap → Prop) (m1 : Bool → Heap → Nat), I1 t1 h6 ∧ ∀ _ : Env,
∀ (is_1 : Bool) (h11 : Heap), I1 is_1 h11 →
∃ t4 : Bool, cell h11 b3 4 = some (.bool t4) ∧
bcase t4 (
∃ n3 : Int, cell h11 b3 5 = some (.int .i64 n3) ∧
∃ n4 : Int, cell h11 b3 1 = some (.int .i64 n4) ∧
bcase (decide (n4 ≤ n3)) (
∃ n5 : Int, cell h11 b3 10 = some (.int .i64 n5) ∧
fits .i64 (n5 + (1 : Int)) ∧
wr h11 b3 10 ∧ ∀ h12 : Heap, h12 = setc h11 b3 10 (.int .i64 (n5 + (1 : Int))) →
∃ J1 : Heap → Prop, (
∃ n6 : Int, cell h12 b3 2 = some (.int .u32 n6) ∧
bcase (decide (n6 < (4294967295 : Int))) (
∃ n7 : Int, cell h12 b3 2 = some (.int .u32 n7) ∧
fits .u32 (n7 + (1 : Int)) ∧
wr h12 b3 2 ∧ ∀ h13 : Heap, h13 = setc h12 b3 2 (.int .u32 (n7 + (1 : Int))) →
J1 h13) (
J1 h12)) ∧ ∀ _ : Env,
∀ (h14 : Heap), J1 h14 →
Runs Tryd.prog 84 #[(.pointer (some ⟨b3, 0, none⟩))] h14 fun r4 h15 =>
∃ t5 : Bool,
∃ t6 : Bool,
r4 = (.tuple #[(.bool t5), (.bool t6)]) ∧
bcase (!t5) (
wr h15 b3 4 ∧ ∀ h16 : Heap, h16 = setc h15 b3 4 (.bool false) →
I1 t5 h16 ∧ m1 t5 h16 < m1 is_1 h11) (
bcase (!t6) (
wr h15 b3 4 ∧ ∀ h17 : Heap, h17 = setc h15 b3 4 (.bool false) →
I1 t5 h17 ∧ m1 t5 h17 < m1 is_1 h11) (
∃ n8 : Int, cell h15 b3 1 = some (.int .i64 n8) ∧
∃ n9 : Int, cell h15 b3 7 = some (.int .i64 n9) ∧
∃ n10 : Int, cell h15 b3 2 = some (.int .u32 n10) ∧
Runs Tryd.prog 85 #[(.int .i64 n8), (.int .i64 n9), (.int .u32 n10)] h15 fun r5 h18 =>
∃ n11 : Int,
r5 = (.int .i64 n11) ∧
wr h18 b3 1 ∧ ∀ h19 : Heap, h19 = setc h18 b3 1 (.int .i64 n11) →
I1 t5 h19 ∧ m1 t5 h19 < m1 is_1 h11))) (
∃ cs6 : List Value, row h11 b3 0 5 = some cs6 ∧
∃ n12 : Int, cell h11 b3 10 = some (.int .i64 n12) ∧
(((cs6)).length = 5 ∧ wrs h11 b2 0 5 ∧ ∀ u ∈ ((cs6) : List Value), u.oneCell' = true) ∧ ∀ h20 : Heap, h20 = setr h11 b2 0 (cs6) →
cell h20 b3 10 = some (.int .i64 n12) ∧
∃ cs7 : List Value, row h20 b2 0 5 = some cs7 ∧
Post (.tuple #[(.agg (cs7).toArray), (.int .i64 n12), (.bool is_1)]) h20)) (
∃ cs8 : List Value, row h11 b3 0 5 = some cs8 ∧
∃ n13 : Int, cell h11 b3 10 = some (.int .i64 n13) ∧
(((cs8)).length = 5 ∧ wrs h11 b2 0 5 ∧ ∀ u ∈ ((cs8) : List Value), u.oneCell' = true) ∧ ∀ h21 : Heap, h21 = setr h11 b2 0 (cs8) →
cell h21 b3 10 = some (.int .i64 n13) ∧
∃ cs9 : List Value, row h21 b2 0 5 = some cs9 ∧
Post (.tuple #[(.agg (cs9).toArray), (.int .i64 n13), (.bool is_1)]) h21))) (
bcase t2 (
wr h6 b3 10 ∧ ∀ h22 : Heap, h22 = setc h6 b3 10 (.int .i64 (1 : Int)) →
Runs Tryd.prog 84 #[(.pointer (some ⟨b3, 0, none⟩))] h22 fun r6 h23 =>
∃ t7 : Bool,
∃ t8 : Bool,
r6 = (.tuple #[(.bool t7), (.bool t8)]) ∧
wr h23 b3 4 ∧ ∀ h24 : Heap, h24 = setc h23 b3 4 (.bool true) →
∃ n14 : Int, cell h24 b3 2 = some (.int .u32 n14) ∧
∃ n15 : Int, cell h24 b3 3 = some (.int .u32 n15) ∧
∃ J2 : Int → Heap → Prop, (
bcase (decide ((IntKind.u32.wrap (n14 - n15)) ≤ (1 : Int))) (
J2 (1 : Int) h24) (
∃ n16 : Int, cell h24 b3 5 = some (.int .i64 n16) ∧
∃ n17 : Int, cell h24 b3 1 = some (.int .i64 n17) ∧
fits .i64 (n16 - n17) ∧
∃ n18 : Int, cell h24 b3 7 = some (.int .i64 n18) ∧
fits .i64 ((16 : Int) * n18) ∧
bcase (decide (((16 : Int) * n18) ≤ (n16 - n17))) (
J2 (1 : Int) h24) (
J2 (IntKind.u32.wrap (n14 - n15)) h24))) ∧ ∀ _ : Env,
∀ (n_1 : Int) (h25 : Heap), J2 n_1 h25 →
wr h25 b3 2 ∧ ∀ h26 : Heap, h26 = setc h25 b3 2 (.int .u32 n_1) →
wr h26 b3 3 ∧ ∀ h27 : Heap, h27 = setc h26 b3 3 (.int .u32 n_1) →
∃ n19 : Int, cell h27 b3 5 = some (.int .i64 n19) ∧
∃ n20 : Int, cell h27 b3 7 = some (.int .i64 n20) ∧
Runs Tryd.prog 85 #[(.int .i64 n19), (.int .i64 n20), (.int .u32 n_1)] h27 fun r7 h28 =>
∃ n21 : Int,
r7 = (.int .i64 n21) ∧
wr h28 b3 1 ∧ ∀ h29 : Heap, h29 = setc h28 b3 1 (.int .i64 n21) →
∃ cs10 : List Value, row h29 b3 0 5 = some cs10 ∧
∃ n22 : Int, cell h29 b3 10 = some (.int .i64 n22) ∧
(((cs10)).length = 5 ∧ wrs h29 b2 0 5 ∧ ∀ u ∈ ((cs10) : List Value), u.oneCell' = true) ∧ ∀ h30 : Heap, h30 = setr h29 b2 0 (cs10) →
cell h30 b3 10 = some (.int .i64 n22) ∧
∃ cs11 : List Value, row h30 b2 0 5 = some cs11 ∧
Post (.tuple #[(.agg (cs11).toArray), (.int .i64 n22), (.bool t7)]) h30) (
∃ cs12 : List Value, row h6 b3 0 5 = some cs12 ∧
∃ n23 : Int, cell h6 b3 10 = some (.int .i64 n23) ∧
(((cs12)).length = 5 ∧ wrs h6 b2 0 5 ∧ ∀ u ∈ ((cs12) : List Value), u.oneCell' = true) ∧ ∀ h31 : Heap, h31 = setr h6 b2 0 (cs12) →
cell h31 b3 10 = some (.int .i64 n23) ∧
∃ cs13 : List Value, row h31 b2 0 5 = some cs13 ∧
Post (.tuple #[(.agg (cs13).toArray), (.int .i64 n23), (.bool t1)]) h31)))) :
    Runs Tryd.prog 72 #[(.agg (c).toArray), (.int .i64 now), (.int .i64 target), (.int .i64 interval), (.int .i64 bytes), (.slice l lL lC)] h0 Post :=
  runs_of (args := [(.agg (c).toArray), (.int .i64 now), (.int .i64 target), (.int .i64 interval), (.int .i64 bytes), (.slice l lL lC)]) (fun n => ⟨!memB n [23], false⟩) (fun n => match n with | 0 => [(16, .bool)] | _ => []) (fun n => match n with | 14 => some [] | 26 => some [(18, .int .u32)] | _ => none) (fun _ => []) Tryd.func72 rfl (by rw [Tryd.ntmps72]; simp) (Eq.mp (by kernel_rfl) H)

theorem vc_muezzinref8_pull_look (p : Option Addr) (h0 : Heap) (Post : Value → Heap → Prop) (H :
onAddr p fun b1 o1 =>
∃ n1 : Int, cell h0 b1 (o1 + 10) = some (.int .i64 n1) ∧
onAddr p fun b2 o2 =>
∃ (s1 : Option Addr) (s1l s1c : Nat), cell h0 b2 (o2 + 9) = some (.slice s1 s1l s1c) ∧
bcase (decide (((s1l : Nat) : Int) ≤ n1)) (
onAddr p fun b3 o3 =>
wr h0 b3 o3 ∧ ∀ h1 : Heap, h1 = setc h0 b3 o3 (.int .i64 (0 : Int)) →
Post (.tuple #[(.bool false), (.bool false)]) h1) (
onAddr p fun b4 o4 =>
∃ n2 : Int, cell h0 b4 (o4 + 8) = some (.int .i64 n2) ∧
onAddr p fun b5 o5 =>
∃ (s2 : Option Addr) (s2l s2c : Nat), cell h0 b5 (o5 + 9) = some (.slice s2 s2l s2c) ∧
onAddr p fun b6 o6 =>
∃ n3 : Int, cell h0 b6 (o6 + 10) = some (.int .i64 n3) ∧
(0 ≤ n3 ∧ n3 < ((s2l : Nat) : Int)) ∧
onAddr s2 fun b7 o7 =>
∃ n4 : Int, cell h0 b7 ((o7 + ((n3).toNat * 2)) + 1) = some (.int .i64 n4) ∧
fits .i64 (n2 - (max n4 (0 : Int))) ∧
onAddr p fun b8 o8 =>
wr h0 b8 (o8 + 8) ∧ ∀ h2 : Heap, h2 = setc h0 b8 (o8 + 8) (.int .i64 (n2 - (max n4 (0 : Int)))) →
onAddr p fun b9 o9 =>
∃ n5 : Int, cell h2 b9 (o9 + 5) = some (.int .i64 n5) ∧
onAddr p fun b10 o10 =>
∃ (s3 : Option Addr) (s3l s3c : Nat), cell h2 b10 (o10 + 9) = some (.slice s3 s3l s3c) ∧
onAddr p fun b11 o11 =>
∃ n6 : Int, cell h2 b11 (o11 + 10) = some (.int .i64 n6) ∧
(0 ≤ n6 ∧ n6 < ((s3l : Nat) : Int)) ∧
onAddr s3 fun b12 o12 =>
∃ n7 : Int, cell h2 b12 (o12 + ((n6).toNat * 2)) = some (.int .i64 n7) ∧
fits .i64 (n5 - n7) ∧
onAddr p fun b13 o13 =>
∃ n8 : Int, cell h2 b13 (o13 + 6) = some (.int .i64 n8) ∧
bcase (decide ((n5 - n7) < n8)) (
onAddr p fun b14 o14 =>
wr h2 b14 o14 ∧ ∀ h3 : Heap, h3 = setc h2 b14 o14 (.int .i64 (0 : Int)) →
Post (.tuple #[(.bool true), (.bool false)]) h3) (
onAddr p fun b15 o15 =>
∃ n9 : Int, cell h2 b15 (o15 + 8) = some (.int .i64 n9) ∧
bcase (decide (n9 ≤ (1514 : Int))) (
onAddr p fun b16 o16 =>
wr h2 b16 o16 ∧ ∀ h4 : Heap, h4 = setc h2 b16 o16 (.int .i64 (0 : Int)) →
Post (.tuple #[(.bool true), (.bool false)]) h4) (
onAddr p fun b17 o17 =>
∃ n10 : Int, cell h2 b17 o17 = some (.int .i64 n10) ∧
bcase (decide (n10 = (0 : Int))) (
onAddr p fun b18 o18 =>
∃ n11 : Int, cell h2 b18 (o18 + 5) = some (.int .i64 n11) ∧
onAddr p fun b19 o19 =>
∃ n12 : Int, cell h2 b19 (o19 + 7) = some (.int .i64 n12) ∧
fits .i64 (n11 + n12) ∧
onAddr p fun b20 o20 =>
wr h2 b20 o20 ∧ ∀ h5 : Heap, h5 = setc h2 b20 o20 (.int .i64 (n11 + n12)) →
Post (.tuple #[(.bool true), (.bool false)]) h5) (
onAddr p fun b21 o21 =>
∃ n13 : Int, cell h2 b21 (o21 + 5) = some (.int .i64 n13) ∧
onAddr p fun b22 o22 =>
∃ n14 : Int, cell h2 b22 o22 = some (.int .i64 n14) ∧
Post (.tuple #[(.bool true), (.bool (decide (n14 ≤ n13)))]) h2))))) :
    Runs Tryd.prog 84 #[(.pointer p)] h0 Post :=
  runs_of (args := [(.pointer p)]) (fun n => ⟨true, false⟩) (fun _ => []) (fun _ => none) (fun _ => []) Tryd.func84 rfl (by rw [Tryd.ntmps84]; simp) (Eq.mp (by kernel_rfl) H)
end Go.Proofs.YtpcilleldanfmaaDoor
