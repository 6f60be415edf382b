/- The conditions for calls of functions of the program, in plain form: written by a program (vcgen) off the elaborated code; each is the reckoner's own, by the kernel. -/
import Derived.Test.YthlacliefgliiaaDoorRows
import Derived.Test.YthlacliefgliiaaDoorVc
set_option linter.unusedVariables false
set_option maxRecDepth 100000
namespace Go.Proofs.YthlacliefgliiaaDoor
open Go.Vc
theorem vc_ctl_long (b : Option Addr) (bL bC : Nat) (kind : Int) (n : Int) (h0 : Heap) (Post : Value → Heap → Prop) (H :
bcase (decide ((0 : Int) < ((bL : Nat) : Int))) (
(0 ≤ (0 : Int) ∧ (0 : Int) < ((bL : Nat) : Int)) ∧
onAddr b fun b1 o1 =>
∃ n1 : Int, cell h0 b1 o1 = some (.int .u8 n1) ∧
bcase (!decide (n1 = kind)) (
∃ v1 : Value, cell h0 2 0 = some v1 ∧
Post v1 h0) (
bcase (decide (((bL : Nat) : Int) < n)) (
∃ v2 : Value, cell h0 1 0 = some v2 ∧
Post v2 h0) (
bcase (decide (n < ((bL : Nat) : Int))) (
∃ v3 : Value, cell h0 3 0 = some v3 ∧
Post v3 h0) (
Post .nilIface h0)))) (
bcase (decide (((bL : Nat) : Int) < n)) (
∃ v4 : Value, cell h0 1 0 = some v4 ∧
Post v4 h0) (
bcase (decide (n < ((bL : Nat) : Int))) (
∃ v5 : Value, cell h0 3 0 = some v5 ∧
Post v5 h0) (
Post .nilIface h0)))) :
    Runs Tryd.prog 68 #[(.slice b bL bC), (.int .u8 kind), (.int .i64 n)] h0 Post :=
  runs_of (args := [(.slice b bL bC), (.int .u8 kind), (.int .i64 n)]) (fun n => ⟨true, false⟩) (fun _ => []) (fun _ => none) (fun _ => []) Tryd.func68 rfl (by rw [Tryd.ntmps68]; simp) (Eq.mp (by kernel_rfl) H)

theorem vc_ctl_asked (b : Option Addr) (bL bC : Nat) (h0 : Heap) (Post : Value → Heap → Prop) (H :
∀ (b1 : Nat) (h1 : Heap), b1 = h0.size → h1 = h0.push (.cells ([(.int .u8 (0 : Int)), (.int .u8 (0 : Int)), (.int .u8 (0 : Int)), (.int .u8 (0 : Int)), (.int .u8 (0 : Int)), (.int .u8 (0 : Int)), (.int .u8 (0 : Int)), (.int .u8 (0 : Int)), (.int .u8 (0 : Int)), (.int .u8 (0 : Int)), (.int .u8 (0 : Int)), (.int .u8 (0 : Int)), (.int .i64 (0 : Int)), (.int .i64 (0 : Int))] : List Value).toArray 69) →
(0 ≤ (16 : Int) ∧ (16 : Int) ≤ ((bL : Nat) : Int)) ∧
(0 ≤ (18 : Int) ∧ (18 : Int) ≤ ((bL : Nat) : Int)) ∧
(
Runs Tryd.prog 83 #[(.slice (slcAddr b 16 bC 16) (bL - 16) (bC - 16))] h1 fun r1 h2 =>
∃ n1 : Int,
r1 = (.int .i64 n1) ∧
(0 ≤ n1 ∧ 0 < (4096 : Int) ∧ fits .i64 (n1 / (4096 : Int))) ∧
(
Runs Tryd.prog 83 #[(.slice (slcAddr b 18 bC 18) (bL - 18) (bC - 18))] h2 fun r2 h3 =>
∃ n2 : Int,
r2 = (.int .i64 n2) ∧
(0 ≤ n2 ∧ 0 < (16 : Int) ∧ fits .i64 (n2 / (16 : Int))) ∧
∀ (b2 : Nat) (h4 : Heap), b2 = h3.size → h4 = h3.push (.cells ([(.int .u8 (0 : Int)), (.int .u8 (0 : Int)), (.int .u8 (0 : Int)), (.int .u8 (0 : Int)), (.int .u8 (0 : Int)), (.int .u8 (0 : Int)), (.int .u8 (0 : Int)), (.int .u8 (0 : Int)), (.int .u8 (0 : Int)), (.int .u8 (0 : Int)), (.int .u8 (0 : Int)), (.int .u8 (0 : Int)), (.int .i64 (0 : Int)), (.int .i64 (0 : Int))] : List Value).toArray 69) →
((([(.int .u8 (0 : Int)), (.int .u8 (0 : Int)), (.int .u8 (0 : Int)), (.int .u8 (0 : Int)), (.int .u8 (0 : Int)), (.int .u8 (0 : Int)), (.int .u8 (0 : Int)), (.int .u8 (0 : Int)), (.int .u8 (0 : Int)), (.int .u8 (0 : Int)), (.int .u8 (0 : Int)), (.int .u8 (0 : Int)), (.int .i64 (n1 / (4096 : Int))), (.int .i64 (n2 / (16 : Int)))] : List Value)).length = 14 ∧ wrs h4 b2 0 14 ∧ ∀ u ∈ (([(.int .u8 (0 : Int)), (.int .u8 (0 : Int)), (.int .u8 (0 : Int)), (.int .u8 (0 : Int)), (.int .u8 (0 : Int)), (.int .u8 (0 : Int)), (.int .u8 (0 : Int)), (.int .u8 (0 : Int)), (.int .u8 (0 : Int)), (.int .u8 (0 : Int)), (.int .u8 (0 : Int)), (.int .u8 (0 : Int)), (.int .i64 (n1 / (4096 : Int))), (.int .i64 (n2 / (16 : Int)))] : List Value) : List Value), u.oneCell' = true) ∧ ∀ h5 : Heap, h5 = setr h4 b2 0 ([(.int .u8 (0 : Int)), (.int .u8 (0 : Int)), (.int .u8 (0 : Int)), (.int .u8 (0 : Int)), (.int .u8 (0 : Int)), (.int .u8 (0 : Int)), (.int .u8 (0 : Int)), (.int .u8 (0 : Int)), (.int .u8 (0 : Int)), (.int .u8 (0 : Int)), (.int .u8 (0 : Int)), (.int .u8 (0 : Int)), (.int .i64 (n1 / (4096 : Int))), (.int .i64 (n2 / (16 : Int)))] : List Value) →
(0 ≤ (4 : Int) ∧ (4 : Int) ≤ ((bL : Nat) : Int)) ∧
∃ news1 : List Value, (src h5 (slcAddr b 4 bC 4) ((min (bL - 4) 6) * 1) news1 ∧ ∀ u ∈ news1, u.oneCell' = true) ∧
wrs h5 b2 0 news1.length ∧ ∀ h6 : Heap, h6 = setr h5 b2 0 news1 →
(0 ≤ (10 : Int) ∧ (10 : Int) ≤ ((bL : Nat) : Int)) ∧
∃ news2 : List Value, (src h6 (slcAddr b 10 bC 10) ((min (bL - 10) 6) * 1) news2 ∧ ∀ u ∈ news2, u.oneCell' = true) ∧
wrs h6 b2 6 news2.length ∧ ∀ h7 : Heap, h7 = setr h6 b2 6 news2 →
∃ cs1 : List Value, row h7 b2 0 14 = some cs1 ∧
(((cs1)).length = 14 ∧ wrs h7 b1 0 14 ∧ ∀ u ∈ ((cs1) : List Value), u.oneCell' = true) ∧ ∀ h8 : Heap, h8 = setr h7 b1 0 (cs1) →
∃ cs2 : List Value, row h8 b1 0 14 = some cs2 ∧
Post (.agg (cs2).toArray) h8) ∧
(
∀ (b3 : Nat) (h9 : Heap), b3 = h2.size → h9 = h2.push (.cells ([(.int .u8 (0 : Int)), (.int .u8 (0 : Int)), (.int .u8 (0 : Int)), (.int .u8 (0 : Int)), (.int .u8 (0 : Int)), (.int .u8 (0 : Int)), (.int .u8 (0 : Int)), (.int .u8 (0 : Int)), (.int .u8 (0 : Int)), (.int .u8 (0 : Int)), (.int .u8 (0 : Int)), (.int .u8 (0 : Int)), (.int .i64 (0 : Int)), (.int .i64 (0 : Int))] : List Value).toArray 69) →
Runs Tryd.prog 83 #[(.slice (slcAddr b 18 bC 18) (bL - 18) (bC - 18))] h9 fun r3 h10 =>
∃ n3 : Int,
r3 = (.int .i64 n3) ∧
(0 ≤ n3 ∧ 0 < (16 : Int) ∧ fits .i64 (n3 / (16 : Int))) ∧
((([(.int .u8 (0 : Int)), (.int .u8 (0 : Int)), (.int .u8 (0 : Int)), (.int .u8 (0 : Int)), (.int .u8 (0 : Int)), (.int .u8 (0 : Int)), (.int .u8 (0 : Int)), (.int .u8 (0 : Int)), (.int .u8 (0 : Int)), (.int .u8 (0 : Int)), (.int .u8 (0 : Int)), (.int .u8 (0 : Int)), (.int .i64 (n1 / (4096 : Int))), (.int .i64 (n3 / (16 : Int)))] : List Value)).length = 14 ∧ wrs h10 b3 0 14 ∧ ∀ u ∈ (([(.int .u8 (0 : Int)), (.int .u8 (0 : Int)), (.int .u8 (0 : Int)), (.int .u8 (0 : Int)), (.int .u8 (0 : Int)), (.int .u8 (0 : Int)), (.int .u8 (0 : Int)), (.int .u8 (0 : Int)), (.int .u8 (0 : Int)), (.int .u8 (0 : Int)), (.int .u8 (0 : Int)), (.int .u8 (0 : Int)), (.int .i64 (n1 / (4096 : Int))), (.int .i64 (n3 / (16 : Int)))] : List Value) : List Value), u.oneCell' = true) ∧ ∀ h11 : Heap, h11 = setr h10 b3 0 ([(.int .u8 (0 : Int)), (.int .u8 (0 : Int)), (.int .u8 (0 : Int)), (.int .u8 (0 : Int)), (.int .u8 (0 : Int)), (.int .u8 (0 : Int)), (.int .u8 (0 : Int)), (.int .u8 (0 : Int)), (.int .u8 (0 : Int)), (.int .u8 (0 : Int)), (.int .u8 (0 : Int)), (.int .u8 (0 : Int)), (.int .i64 (n1 / (4096 : Int))), (.int .i64 (n3 / (16 : Int)))] : List Value) →
(0 ≤ (4 : Int) ∧ (4 : Int) ≤ ((bL : Nat) : Int)) ∧
∃ news3 : List Value, (src h11 (slcAddr b 4 bC 4) ((min (bL - 4) 6) * 1) news3 ∧ ∀ u ∈ news3, u.oneCell' = true) ∧
wrs h11 b3 0 news3.length ∧ ∀ h12 : Heap, h12 = setr h11 b3 0 news3 →
(0 ≤ (10 : Int) ∧ (10 : Int) ≤ ((bL : Nat) : Int)) ∧
∃ news4 : List Value, (src h12 (slcAddr b 10 bC 10) ((min (bL - 10) 6) * 1) news4 ∧ ∀ u ∈ news4, u.oneCell' = true) ∧
wrs h12 b3 6 news4.length ∧ ∀ h13 : Heap, h13 = setr h12 b3 6 news4 →
∃ cs3 : List Value, row h13 b3 0 14 = some cs3 ∧
(((cs3)).length = 14 ∧ wrs h13 b1 0 14 ∧ ∀ u ∈ ((cs3) : List Value), u.oneCell' = true) ∧ ∀ h14 : Heap, h14 = setr h13 b1 0 (cs3) →
∃ cs4 : List Value, row h14 b1 0 14 = some cs4 ∧
Post (.agg (cs4).toArray) h14)) ∧
(
∀ (b4 : Nat) (h15 : Heap), b4 = h1.size → h15 = h1.push (.cells ([(.int .u8 (0 : Int)), (.int .u8 (0 : Int)), (.int .u8 (0 : Int)), (.int .u8 (0 : Int)), (.int .u8 (0 : Int)), (.int .u8 (0 : Int)), (.int .u8 (0 : Int)), (.int .u8 (0 : Int)), (.int .u8 (0 : Int)), (.int .u8 (0 : Int)), (.int .u8 (0 : Int)), (.int .u8 (0 : Int)), (.int .i64 (0 : Int)), (.int .i64 (0 : Int))] : List Value).toArray 69) →
Runs Tryd.prog 83 #[(.slice (slcAddr b 16 bC 16) (bL - 16) (bC - 16))] h15 fun r4 h16 =>
∃ n4 : Int,
r4 = (.int .i64 n4) ∧
(0 ≤ n4 ∧ 0 < (4096 : Int) ∧ fits .i64 (n4 / (4096 : Int))) ∧
Runs Tryd.prog 83 #[(.slice (slcAddr b 18 bC 18) (bL - 18) (bC - 18))] h16 fun r5 h17 =>
∃ n5 : Int,
r5 = (.int .i64 n5) ∧
(0 ≤ n5 ∧ 0 < (16 : Int) ∧ fits .i64 (n5 / (16 : Int))) ∧
((([(.int .u8 (0 : Int)), (.int .u8 (0 : Int)), (.int .u8 (0 : Int)), (.int .u8 (0 : Int)), (.int .u8 (0 : Int)), (.int .u8 (0 : Int)), (.int .u8 (0 : Int)), (.int .u8 (0 : Int)), (.int .u8 (0 : Int)), (.int .u8 (0 : Int)), (.int .u8 (0 : Int)), (.int .u8 (0 : Int)), (.int .i64 (n4 / (4096 : Int))), (.int .i64 (n5 / (16 : Int)))] : List Value)).length = 14 ∧ wrs h17 b4 0 14 ∧ ∀ u ∈ (([(.int .u8 (0 : Int)), (.int .u8 (0 : Int)), (.int .u8 (0 : Int)), (.int .u8 (0 : Int)), (.int .u8 (0 : Int)), (.int .u8 (0 : Int)), (.int .u8 (0 : Int)), (.int .u8 (0 : Int)), (.int .u8 (0 : Int)), (.int .u8 (0 : Int)), (.int .u8 (0 : Int)), (.int .u8 (0 : Int)), (.int .i64 (n4 / (4096 : Int))), (.int .i64 (n5 / (16 : Int)))] : List Value) : List Value), u.oneCell' = true) ∧ ∀ h18 : Heap, h18 = setr h17 b4 0 ([(.int .u8 (0 : Int)), (.int .u8 (0 : Int)), (.int .u8 (0 : Int)), (.int .u8 (0 : Int)), (.int .u8 (0 : Int)), (.int .u8 (0 : Int)), (.int .u8 (0 : Int)), (.int .u8 (0 : Int)), (.int .u8 (0 : Int)), (.int .u8 (0 : Int)), (.int .u8 (0 : Int)), (.int .u8 (0 : Int)), (.int .i64 (n4 / (4096 : Int))), (.int .i64 (n5 / (16 : Int)))] : List Value) →
(0 ≤ (4 : Int) ∧ (4 : Int) ≤ ((bL : Nat) : Int)) ∧
∃ news5 : List Value, (src h18 (slcAddr b 4 bC 4) ((min (bL - 4) 6) * 1) news5 ∧ ∀ u ∈ news5, u.oneCell' = true) ∧
wrs h18 b4 0 news5.length ∧ ∀ h19 : Heap, h19 = setr h18 b4 0 news5 →
(0 ≤ (10 : Int) ∧ (10 : Int) ≤ ((bL : Nat) : Int)) ∧
∃ news6 : List Value, (src h19 (slcAddr b 10 bC 10) ((min (bL - 10) 6) * 1) news6 ∧ ∀ u ∈ news6, u.oneCell' = true) ∧
wrs h19 b4 6 news6.length ∧ ∀ h20 : Heap, h20 = setr h19 b4 6 news6 →
∃ cs5 : List Value, row h20 b4 0 14 = some cs5 ∧
(((cs5)).length = 14 ∧ wrs h20 b1 0 14 ∧ ∀ u ∈ ((cs5) : List Value), u.oneCell' = true) ∧ ∀ h21 : Heap, h21 = setr h20 b1 0 (cs5) →
∃ cs6 : List Value, row h21 b1 0 14 = some cs6 ∧
Post (.agg (cs6).toArray) h21)) :
    Runs Tryd.prog 69 #[(.slice b bL bC)] h0 Post :=
  runs_of (args := [(.slice b bL bC)]) (fun n => ⟨true, false⟩) (fun _ => []) (fun _ => none) (fun _ => []) Tryd.func69 rfl (by rw [Tryd.ntmps69]; simp) (Eq.mp (by kernel_rfl) H)

theorem vc_ctl_number (b : Option Addr) (bL bC : Nat) (h0 : Heap) (Post : Value → Heap → Prop) (H :
(0 ≤ (0 : Int) ∧ (0 : Int) < ((bL : Nat) : Int)) ∧
onAddr b fun b1 o1 =>
∃ n1 : Int, cell h0 b1 o1 = some (.int .u8 n1) ∧
fits .i64 n1 ∧
(0 ≤ (1 : Int) ∧ (1 : Int) < ((bL : Nat) : Int)) ∧
onAddr b fun b2 o2 =>
∃ n2 : Int, cell h0 b2 (o2 + 1) = some (.int .u8 n2) ∧
fits .i64 n2 ∧
(0 ≤ (8 : Int) ∧ (8 : Int) ≤ kbits .i64) ∧
fits .i64 (n2 * (256 : Int)) ∧
Post (.int .i64 (bits .or .i64 n1 (n2 * (256 : Int)))) h0) :
    Runs Tryd.prog 83 #[(.slice b bL bC)] h0 Post :=
  runs_of (args := [(.slice b bL bC)]) (fun n => ⟨true, false⟩) (fun _ => []) (fun _ => none) (fun _ => []) Tryd.func83 rfl (by rw [Tryd.ntmps83]; simp) (Eq.mp (by kernel_rfl) H)

theorem vc_ctl_BarBytes (f : List Value) (h0 : Heap) (Post : Value → Heap → Prop) (H :
∀ (b1 : Nat) (h1 : Heap), b1 = h0.size → h1 = h0.push (.cells (f).toArray 69) →
∃ cs1 : List Value, row h1 b1 0 6 = some cs1 ∧
∃ cs2 : List Value, row h1 b1 6 6 = some cs2 ∧
∃ n1 : Int, cell h1 b1 12 = some (.int .i64 n1) ∧
∃ n2 : Int, cell h1 b1 13 = some (.int .i64 n2) ∧
Runs Tryd.prog 80 #[(.int .u8 (132 : Int)), (.agg (cs1).toArray), (.agg (cs2).toArray), (.int .i64 n1), (.int .i64 n2)] h1 fun r1 h2 =>
∃ (s1 : Option Addr) (s1l s1c : Nat),
∃ v1 : Value,
r1 = (.tuple #[(.slice s1 s1l s1c), v1]) ∧
Post (.tuple #[(.slice s1 s1l s1c), v1]) h2) :
    Runs Tryd.prog 70 #[(.agg (f).toArray)] h0 Post :=
  runs_of (args := [(.agg (f).toArray)]) (fun n => ⟨true, false⟩) (fun _ => []) (fun _ => none) (fun _ => []) Tryd.func70 rfl (by rw [Tryd.ntmps70]; simp) (Eq.mp (by kernel_rfl) H)

theorem vc_ctl_ReadBar (b : Option Addr) (bL bC : Nat) (h0 : Heap) (Post : Value → Heap → Prop) (H :
∀ (b1 : Nat) (h1 : Heap), b1 = h0.size → h1 = h0.push (.cells ([(.int .u8 (0 : Int)), (.int .u8 (0 : Int)), (.int .u8 (0 : Int)), (.int .u8 (0 : Int)), (.int .u8 (0 : Int)), (.int .u8 (0 : Int)), (.int .u8 (0 : Int)), (.int .u8 (0 : Int)), (.int .u8 (0 : Int)), (.int .u8 (0 : Int)), (.int .u8 (0 : Int)), (.int .u8 (0 : Int)), (.int .i64 (0 : Int)), (.int .i64 (0 : Int))] : List Value).toArray 69) →
Runs Tryd.prog 68 #[(.slice b bL bC), (.int .u8 (132 : Int)), (.int .i64 (20 : Int))] h1 fun r1 h2 =>
∃ v1 : Value,
r1 = v1 ∧
∃ t1 : Bool, ifeqH Tryd.prog h2 true (v1) (.nilIface) = some t1 ∧
bcase (!t1) (
((([(.int .u8 (0 : Int)), (.int .u8 (0 : Int)), (.int .u8 (0 : Int)), (.int .u8 (0 : Int)), (.int .u8 (0 : Int)), (.int .u8 (0 : Int)), (.int .u8 (0 : Int)), (.int .u8 (0 : Int)), (.int .u8 (0 : Int)), (.int .u8 (0 : Int)), (.int .u8 (0 : Int)), (.int .u8 (0 : Int)), (.int .i64 (0 : Int)), (.int .i64 (0 : Int))] : List Value)).length = 14 ∧ wrs h2 b1 0 14 ∧ ∀ u ∈ (([(.int .u8 (0 : Int)), (.int .u8 (0 : Int)), (.int .u8 (0 : Int)), (.int .u8 (0 : Int)), (.int .u8 (0 : Int)), (.int .u8 (0 : Int)), (.int .u8 (0 : Int)), (.int .u8 (0 : Int)), (.int .u8 (0 : Int)), (.int .u8 (0 : Int)), (.int .u8 (0 : Int)), (.int .u8 (0 : Int)), (.int .i64 (0 : Int)), (.int .i64 (0 : Int))] : List Value) : List Value), u.oneCell' = true) ∧ ∀ h3 : Heap, h3 = setr h2 b1 0 ([(.int .u8 (0 : Int)), (.int .u8 (0 : Int)), (.int .u8 (0 : Int)), (.int .u8 (0 : Int)), (.int .u8 (0 : Int)), (.int .u8 (0 : Int)), (.int .u8 (0 : Int)), (.int .u8 (0 : Int)), (.int .u8 (0 : Int)), (.int .u8 (0 : Int)), (.int .u8 (0 : Int)), (.int .u8 (0 : Int)), (.int .i64 (0 : Int)), (.int .i64 (0 : Int))] : List Value) →
∃ cs1 : List Value, row h3 b1 0 14 = some cs1 ∧
Post (.tuple #[(.agg (cs1).toArray), v1]) h3) (
Runs Tryd.prog 69 #[(.slice b bL bC)] h2 fun r2 h4 =>
∃ cs2 : List Value,
r2 = (.agg (cs2).toArray) ∧
∀ (b2 : Nat) (h5 : Heap), b2 = h4.size → h5 = h4.push (.cells ([(.int .u8 (0 : Int)), (.int .u8 (0 : Int)), (.int .u8 (0 : Int)), (.int .u8 (0 : Int)), (.int .u8 (0 : Int)), (.int .u8 (0 : Int)), (.int .u8 (0 : Int)), (.int .u8 (0 : Int)), (.int .u8 (0 : Int)), (.int .u8 (0 : Int)), (.int .u8 (0 : Int)), (.int .u8 (0 : Int)), (.int .i64 (0 : Int)), (.int .i64 (0 : Int))] : List Value).toArray 69) →
(((cs2)).length = 14 ∧ wrs h5 b2 0 14 ∧ ∀ u ∈ ((cs2) : List Value), u.oneCell' = true) ∧ ∀ h6 : Heap, h6 = setr h5 b2 0 (cs2) →
∃ cs3 : List Value, row h6 b2 0 14 = some cs3 ∧
Runs Tryd.prog 70 #[(.agg (cs3).toArray)] h6 fun r3 h7 =>
∃ (s1 : Option Addr) (s1l s1c : Nat),
∃ v2 : Value,
r3 = (.tuple #[(.slice s1 s1l s1c), v2]) ∧
∃ t2 : Bool, ifeqH Tryd.prog h7 true (v2) (.nilIface) = some t2 ∧
bcase (!t2) (
∃ v3 : Value, cell h7 3 0 = some v3 ∧
((([(.int .u8 (0 : Int)), (.int .u8 (0 : Int)), (.int .u8 (0 : Int)), (.int .u8 (0 : Int)), (.int .u8 (0 : Int)), (.int .u8 (0 : Int)), (.int .u8 (0 : Int)), (.int .u8 (0 : Int)), (.int .u8 (0 : Int)), (.int .u8 (0 : Int)), (.int .u8 (0 : Int)), (.int .u8 (0 : Int)), (.int .i64 (0 : Int)), (.int .i64 (0 : Int))] : List Value)).length = 14 ∧ wrs h7 b1 0 14 ∧ ∀ u ∈ (([(.int .u8 (0 : Int)), (.int .u8 (0 : Int)), (.int .u8 (0 : Int)), (.int .u8 (0 : Int)), (.int .u8 (0 : Int)), (.int .u8 (0 : Int)), (.int .u8 (0 : Int)), (.int .u8 (0 : Int)), (.int .u8 (0 : Int)), (.int .u8 (0 : Int)), (.int .u8 (0 : Int)), (.int .u8 (0 : Int)), (.int .i64 (0 : Int)), (.int .i64 (0 : Int))] : List Value) : List Value), u.oneCell' = true) ∧ ∀ h8 : Heap, h8 = setr h7 b1 0 ([(.int .u8 (0 : Int)), (.int .u8 (0 : Int)), (.int .u8 (0 : Int)), (.int .u8 (0 : Int)), (.int .u8 (0 : Int)), (.int .u8 (0 : Int)), (.int .u8 (0 : Int)), (.int .u8 (0 : Int)), (.int .u8 (0 : Int)), (.int .u8 (0 : Int)), (.int .u8 (0 : Int)), (.int .u8 (0 : Int)), (.int .i64 (0 : Int)), (.int .i64 (0 : Int))] : List Value) →
cell h8 3 0 = some v3 ∧
∃ cs4 : List Value, row h8 b1 0 14 = some cs4 ∧
Post (.tuple #[(.agg (cs4).toArray), v3]) h8) (
Runs Tryd.prog 71 #[(.slice s1 s1l s1c), (.slice b bL bC)] h7 fun r4 h9 =>
∃ t3 : Bool,
r4 = (.bool t3) ∧
bcase (!t3) (
∃ v4 : Value, cell h9 3 0 = some v4 ∧
((([(.int .u8 (0 : Int)), (.int .u8 (0 : Int)), (.int .u8 (0 : Int)), (.int .u8 (0 : Int)), (.int .u8 (0 : Int)), (.int .u8 (0 : Int)), (.int .u8 (0 : Int)), (.int .u8 (0 : Int)), (.int .u8 (0 : Int)), (.int .u8 (0 : Int)), (.int .u8 (0 : Int)), (.int .u8 (0 : Int)), (.int .i64 (0 : Int)), (.int .i64 (0 : Int))] : List Value)).length = 14 ∧ wrs h9 b1 0 14 ∧ ∀ u ∈ (([(.int .u8 (0 : Int)), (.int .u8 (0 : Int)), (.int .u8 (0 : Int)), (.int .u8 (0 : Int)), (.int .u8 (0 : Int)), (.int .u8 (0 : Int)), (.int .u8 (0 : Int)), (.int .u8 (0 : Int)), (.int .u8 (0 : Int)), (.int .u8 (0 : Int)), (.int .u8 (0 : Int)), (.int .u8 (0 : Int)), (.int .i64 (0 : Int)), (.int .i64 (0 : Int))] : List Value) : List Value), u.oneCell' = true) ∧ ∀ h10 : Heap, h10 = setr h9 b1 0 ([(.int .u8 (0 : Int)), (.int .u8 (0 : Int)), (.int .u8 (0 : Int)), (.int .u8 (0 : Int)), (.int .u8 (0 : Int)), (.int .u8 (0 : Int)), (.int .u8 (0 : Int)), (.int .u8 (0 : Int)), (.int .u8 (0 : Int)), (.int .u8 (0 : Int)), (.int .u8 (0 : Int)), (.int .u8 (0 : Int)), (.int .i64 (0 : Int)), (.int .i64 (0 : Int))] : List Value) →
cell h10 3 0 = some v4 ∧
∃ cs5 : List Value, row h10 b1 0 14 = some cs5 ∧
Post (.tuple #[(.agg (cs5).toArray), v4]) h10) (
∃ cs6 : List Value, row h9 b2 0 14 = some cs6 ∧
(((cs6)).length = 14 ∧ wrs h9 b1 0 14 ∧ ∀ u ∈ ((cs6) : List Value), u.oneCell' = true) ∧ ∀ h11 : Heap, h11 = setr h9 b1 0 (cs6) →
∃ cs7 : List Value, row h11 b1 0 14 = some cs7 ∧
Post (.tuple #[(.agg (cs7).toArray), .nilIface]) h11)))) :
    Runs Tryd.prog 50 #[(.slice b bL bC)] h0 Post :=
  runs_of (args := [(.slice b bL bC)]) (fun n => ⟨true, false⟩) (fun _ => []) (fun _ => none) (fun _ => []) Tryd.func50 rfl (by rw [Tryd.ntmps50]; simp) (Eq.mp (by kernel_rfl) H)

theorem vc_act_long (b : Option Addr) (bL bC : Nat) (n : Int) (whats : Option Addr) (whatsL whatsC : Nat) (h0 : Heap) (Post : Value → Heap → Prop) (H :
bcase (decide (((bL : Nat) : Int) < (26 : Int))) (
∃ v1 : Value, cell h0 1 0 = some v1 ∧
Post v1 h0) (
(0 ≤ (0 : Int) ∧ (0 : Int) < ((bL : Nat) : Int)) ∧
onAddr b fun b1 o1 =>
∃ n1 : Int, cell h0 b1 o1 = some (.int .u8 n1) ∧
bcase (!decide (n1 = (208 : Int))) (
∃ v2 : Value, cell h0 2 0 = some v2 ∧
Post v2 h0) (
(0 ≤ (24 : Int) ∧ (24 : Int) < ((bL : Nat) : Int)) ∧
onAddr b fun b2 o2 =>
∃ n2 : Int, cell h0 b2 (o2 + 24) = some (.int .u8 n2) ∧
bcase (!decide (n2 = (3 : Int))) (
∃ v3 : Value, cell h0 2 0 = some v3 ∧
Post v3 h0) (
(0 ≤ (25 : Int) ∧ (25 : Int) < ((bL : Nat) : Int)) ∧
onAddr b fun b3 o3 =>
∃ n3 : Int, cell h0 b3 (o3 + 25) = some (.int .u8 n3) ∧
Runs Tryd.prog 84 #[(.slice whats whatsL whatsC), (.int .u8 n3)] h0 fun r1 h1 =>
∃ n4 : Int,
r1 = (.int .i64 n4) ∧
bcase (decide (n4 < (0 : Int))) (
∃ v4 : Value, cell h1 2 0 = some v4 ∧
Post v4 h1) (
bcase (decide (((bL : Nat) : Int) < n)) (
∃ v5 : Value, cell h1 1 0 = some v5 ∧
Post v5 h1) (
bcase (decide (n < ((bL : Nat) : Int))) (
∃ v6 : Value, cell h1 3 0 = some v6 ∧
Post v6 h1) (
Post .nilIface h1))))))) :
    Runs Tryd.prog 73 #[(.slice b bL bC), (.int .i64 n), (.slice whats whatsL whatsC)] h0 Post :=
  runs_of (args := [(.slice b bL bC), (.int .i64 n), (.slice whats whatsL whatsC)]) (fun n => ⟨true, false⟩) (fun _ => []) (fun _ => none) (fun _ => []) Tryd.func73 rfl (by rw [Tryd.ntmps73]; simp) (Eq.mp (by kernel_rfl) H)

theorem vc_act_addrs (b : Option Addr) (bL bC : Nat) (h0 : Heap) (Post : Value → Heap → Prop) (H :
∀ (b1 : Nat) (h1 : Heap), b1 = h0.size → h1 = h0.push (.cells ([(.int .u8 (0 : Int)), (.int .u8 (0 : Int)), (.int .u8 (0 : Int)), (.int .u8 (0 : Int)), (.int .u8 (0 : Int)), (.int .u8 (0 : Int))] : List Value).toArray 31) →
∀ (b2 : Nat) (h2 : Heap), b2 = h1.size → h2 = h1.push (.cells ([(.int .u8 (0 : Int)), (.int .u8 (0 : Int)), (.int .u8 (0 : Int)), (.int .u8 (0 : Int)), (.int .u8 (0 : Int)), (.int .u8 (0 : Int))] : List Value).toArray 31) →
∀ (b3 : Nat) (h3 : Heap), b3 = h2.size → h3 = h2.push (.cells ([(.int .u8 (0 : Int)), (.int .u8 (0 : Int)), (.int .u8 (0 : Int)), (.int .u8 (0 : Int)), (.int .u8 (0 : Int)), (.int .u8 (0 : Int))] : List Value).toArray 31) →
∀ (b4 : Nat) (h4 : Heap), b4 = h3.size → h4 = h3.push (.cells ([(.int .u8 (0 : Int)), (.int .u8 (0 : Int)), (.int .u8 (0 : Int)), (.int .u8 (0 : Int)), (.int .u8 (0 : Int)), (.int .u8 (0 : Int)), (.int .u8 (0 : Int)), (.int .u8 (0 : Int)), (.int .u8 (0 : Int)), (.int .u8 (0 : Int)), (.int .u8 (0 : Int)), (.int .u8 (0 : Int)), (.int .u8 (0 : Int)), (.int .u8 (0 : Int)), (.int .u8 (0 : Int)), (.int .u8 (0 : Int)), (.int .u8 (0 : Int)), (.int .u8 (0 : Int))] : List Value).toArray 136) →
∃ (I1 : Int → Heap → Prop) (m1 : Int → Heap → Nat), I1 (0 : Int) h4 ∧ ∀ _ : Env,
∀ (x1 : Int) (h5 : Heap), I1 x1 h5 →
bcase (decide (x1 < (3 : Int))) (
(0 ≤ x1 ∧ x1 < ((3 : Nat) : Int)) ∧
fits .i64 (x1 * (6 : Int)) ∧
fits .i64 ((4 : Int) + (x1 * (6 : Int))) ∧
(0 ≤ ((4 : Int) + (x1 * (6 : Int))) ∧ ((4 : Int) + (x1 * (6 : Int))) ≤ ((bL : Nat) : Int)) ∧
∃ news1 : List Value, (src h5 (slcAddr b (((4 : Int) + (x1 * (6 : Int)))).toNat bC ((((4 : Int) + (x1 * (6 : Int)))).toNat * 1)) ((min (bL - (((4 : Int) + (x1 * (6 : Int)))).toNat) 6) * 1) news1 ∧ ∀ u ∈ news1, u.oneCell' = true) ∧
wrs h5 b4 (0 + ((x1).toNat * 6)) news1.length ∧ ∀ h6 : Heap, h6 = setr h5 b4 (0 + ((x1).toNat * 6)) news1 →
fits .i64 (x1 + (1 : Int)) ∧
I1 (x1 + (1 : Int)) h6 ∧ m1 (x1 + (1 : Int)) h6 < m1 x1 h5) (
(0 ≤ (0 : Int) ∧ (0 : Int) < ((3 : Nat) : Int)) ∧
∃ cs1 : List Value, row h5 b4 0 6 = some cs1 ∧
(0 ≤ (1 : Int) ∧ (1 : Int) < ((3 : Nat) : Int)) ∧
∃ cs2 : List Value, row h5 b4 6 6 = some cs2 ∧
(0 ≤ (2 : Int) ∧ (2 : Int) < ((3 : Nat) : Int)) ∧
∃ cs3 : List Value, row h5 b4 12 6 = some cs3 ∧
(((cs1)).length = 6 ∧ wrs h5 b1 0 6 ∧ ∀ u ∈ ((cs1) : List Value), u.oneCell' = true) ∧ ∀ h7 : Heap, h7 = setr h5 b1 0 (cs1) →
row h7 b4 12 6 = some (cs3) ∧
row h7 b4 6 6 = some (cs2) ∧
(((cs2)).length = 6 ∧ wrs h7 b2 0 6 ∧ ∀ u ∈ ((cs2) : List Value), u.oneCell' = true) ∧ ∀ h8 : Heap, h8 = setr h7 b2 0 (cs2) →
row h8 b4 12 6 = some (cs3) ∧
(((cs3)).length = 6 ∧ wrs h8 b3 0 6 ∧ ∀ u ∈ ((cs3) : List Value), u.oneCell' = true) ∧ ∀ h9 : Heap, h9 = setr h8 b3 0 (cs3) →
∃ cs4 : List Value, row h9 b1 0 6 = some cs4 ∧
∃ cs5 : List Value, row h9 b2 0 6 = some cs5 ∧
∃ cs6 : List Value, row h9 b3 0 6 = some cs6 ∧
Post (.tuple #[(.agg (cs4).toArray), (.agg (cs5).toArray), (.agg (cs6).toArray)]) h9)) :
    Runs Tryd.prog 74 #[(.slice b bL bC)] h0 Post :=
  runs_of (args := [(.slice b bL bC)]) (fun n => ⟨true, false⟩) (fun n => match n with | 0 => [(7, .int .i64)] | _ => []) (fun _ => none) (fun _ => []) Tryd.func74 rfl (by rw [Tryd.ntmps74]; simp) (Eq.mp (by kernel_rfl) H)

theorem vc_act_number (b : Option Addr) (bL bC : Nat) (h0 : Heap) (Post : Value → Heap → Prop) (H :
(0 ≤ (0 : Int) ∧ (0 : Int) < ((bL : Nat) : Int)) ∧
onAddr b fun b1 o1 =>
∃ n1 : Int, cell h0 b1 o1 = some (.int .u8 n1) ∧
fits .i64 n1 ∧
(0 ≤ (1 : Int) ∧ (1 : Int) < ((bL : Nat) : Int)) ∧
onAddr b fun b2 o2 =>
∃ n2 : Int, cell h0 b2 (o2 + 1) = some (.int .u8 n2) ∧
fits .i64 n2 ∧
(0 ≤ (8 : Int) ∧ (8 : Int) ≤ kbits .i64) ∧
fits .i64 (n2 * (256 : Int)) ∧
Post (.int .i64 (bits .or .i64 n1 (n2 * (256 : Int)))) h0) :
    Runs Tryd.prog 75 #[(.slice b bL bC)] h0 Post :=
  runs_of (args := [(.slice b bL bC)]) (fun n => ⟨true, false⟩) (fun _ => []) (fun _ => none) (fun _ => []) Tryd.func75 rfl (by rw [Tryd.ntmps75]; simp) (Eq.mp (by kernel_rfl) H)

theorem vc_act_AddBytes (f : List Value) (h0 : Heap) (Post : Value → Heap → Prop) (H :
∀ (b1 : Nat) (h1 : Heap), b1 = h0.size → h1 = h0.push (.cells (f).toArray 65) →
∃ n1 : Int, cell h1 b1 19 = some (.int .i64 n1) ∧
Runs Tryd.prog 85 #[(.int .i64 n1), (.int .i64 (255 : Int))] h1 fun r1 h2 =>
∃ t1 : Bool,
r1 = (.bool t1) ∧
bcase (!t1) (
∃ v1 : Value, cell h2 0 0 = some v1 ∧
Post (.tuple #[(.slice none 0 0), v1]) h2) (
∃ n2 : Int, cell h2 b1 20 = some (.int .i64 n2) ∧
Runs Tryd.prog 85 #[(.int .i64 n2), (.int .i64 (7 : Int))] h2 fun r2 h3 =>
∃ t2 : Bool,
r2 = (.bool t2) ∧
bcase (!t2) (
∃ v2 : Value, cell h3 0 0 = some v2 ∧
Post (.tuple #[(.slice none 0 0), v2]) h3) (
∃ n3 : Int, cell h3 b1 21 = some (.int .i64 n3) ∧
Runs Tryd.prog 85 #[(.int .i64 n3), (.int .i64 (1023 : Int))] h3 fun r3 h4 =>
∃ t3 : Bool,
r3 = (.bool t3) ∧
bcase (!t3) (
∃ v3 : Value, cell h4 0 0 = some v3 ∧
Post (.tuple #[(.slice none 0 0), v3]) h4) (
∃ n4 : Int, cell h4 b1 22 = some (.int .i64 n4) ∧
Runs Tryd.prog 85 #[(.int .i64 n4), (.int .i64 (65535 : Int))] h4 fun r4 h5 =>
∃ t4 : Bool,
r4 = (.bool t4) ∧
bcase (!t4) (
∃ v4 : Value, cell h5 0 0 = some v4 ∧
Post (.tuple #[(.slice none 0 0), v4]) h5) (
∃ n5 : Int, cell h5 b1 24 = some (.int .i64 n5) ∧
Runs Tryd.prog 85 #[(.int .i64 n5), (.int .i64 (65535 : Int))] h5 fun r5 h6 =>
∃ t5 : Bool,
r5 = (.bool t5) ∧
bcase (!t5) (
∃ v5 : Value, cell h6 0 0 = some v5 ∧
Post (.tuple #[(.slice none 0 0), v5]) h6) (
∃ n6 : Int, cell h6 b1 23 = some (.int .i64 n6) ∧
Runs Tryd.prog 85 #[(.int .i64 n6), (.int .i64 (4095 : Int))] h6 fun r6 h7 =>
∃ t6 : Bool,
r6 = (.bool t6) ∧
bcase (!t6) (
∃ v6 : Value, cell h7 0 0 = some v6 ∧
Post (.tuple #[(.slice none 0 0), v6]) h7) (
∃ t7 : Bool, cell h7 b1 18 = some (.bool t7) ∧
bcase (!t7) (
∃ n7 : Int, cell h7 b1 24 = some (.int .i64 n7) ∧
bcase (!decide (n7 = (0 : Int))) (
∃ v7 : Value, cell h7 0 0 = some v7 ∧
Post (.tuple #[(.slice none 0 0), v7]) h7) (
∃ t8 : Bool, cell h7 b1 18 = some (.bool t8) ∧
bcase t8 (
∃ n8 : Int, cell h7 b1 23 = some (.int .i64 n8) ∧
bcase (!decide (n8 = (0 : Int))) (
∃ v8 : Value, cell h7 0 0 = some v8 ∧
Post (.tuple #[(.slice none 0 0), v8]) h7) (
∃ J1 : Int → Heap → Prop, (
J1 (0 : Int) h7) ∧ ∀ _ : Env,
∀ (what_1 : Int) (h8 : Heap), J1 what_1 h8 →
∃ J2 : Int → Heap → Prop, (
∃ t9 : Bool, cell h8 b1 18 = some (.bool t9) ∧
bcase t9 (
J2 (1 : Int) h8) (
J2 what_1 h8)) ∧ ∀ _ : Env,
∀ (what_2 : Int) (h9 : Heap), J2 what_2 h9 →
∃ cs1 : List Value, row h9 b1 0 6 = some cs1 ∧
∃ cs2 : List Value, row h9 b1 6 6 = some cs2 ∧
∃ cs3 : List Value, row h9 b1 12 6 = some cs3 ∧
∃ n9 : Int, cell h9 b1 19 = some (.int .i64 n9) ∧
fits .u8 n9 ∧
(
Runs Tryd.prog 86 #[(.agg (cs1).toArray), (.agg (cs2).toArray), (.agg (cs3).toArray), (.int .u8 what_2)] h9 fun r7 h10 =>
∃ (s1 : Option Addr) (s1l s1c : Nat),
r7 = (.slice s1 s1l s1c) ∧
cell h10 b1 19 = some (.int .i64 n9) ∧
∀ (b2 : Nat) (h11 : Heap), b2 = h10.size → h11 = h10.push (.cells ([(.int .u8 n9)] : List Value).toArray 5) →
∃ news1 : List Value, (row h11 b2 0 1 = some news1 ∧ ∀ u ∈ news1, u.oneCell' = true) ∧
appK h11 s1 s1l s1c 1 1 5 1 news1 fun (a1 : Option Addr) (cap1 : Nat) (h12 : Heap) =>
cell h12 b1 19 = some (.int .i64 n9) ∧
∃ J3 : Option Addr → Nat → Nat → Heap → Prop, (
∃ t10 : Bool, cell h12 b1 18 = some (.bool t10) ∧
bcase t10 (
∃ n10 : Int, cell h12 b1 24 = some (.int .i64 n10) ∧
Runs Tryd.prog 87 #[(.int .i64 n10)] h12 fun r8 h13 =>
∃ (s2 : Option Addr) (s2l s2c : Nat),
r8 = (.slice s2 s2l s2c) ∧
∃ news2 : List Value, (src h13 s2 (s2l * 1) news2 ∧ ∀ u ∈ news2, u.oneCell' = true) ∧
appK h13 a1 (s1l + 1) cap1 s2l 1 5 1 news2 fun (a2 : Option Addr) (cap2 : Nat) (h14 : Heap) =>
J3 a2 ((s1l + 1) + s2l) cap2 h14) (
J3 a1 (s1l + 1) cap1 h12)) ∧ ∀ _ : Env,
∀ (b_1 : Option Addr) (b_1l b_1c : Nat) (h15 : Heap), J3 b_1 b_1l b_1c h15 →
∃ n11 : Int, cell h15 b1 20 = some (.int .i64 n11) ∧
fits .i64 (n11 * (4 : Int)) ∧
fits .i64 ((2 : Int) + (n11 * (4 : Int))) ∧
∃ n12 : Int, cell h15 b1 21 = some (.int .i64 n12) ∧
fits .i64 (n12 * (64 : Int)) ∧
fits .i64 (((2 : Int) + (n11 * (4 : Int))) + (n12 * (64 : Int))) ∧
Runs Tryd.prog 87 #[(.int .i64 (((2 : Int) + (n11 * (4 : Int))) + (n12 * (64 : Int))))] h15 fun r9 h16 =>
∃ (s3 : Option Addr) (s3l s3c : Nat),
r9 = (.slice s3 s3l s3c) ∧
∃ news3 : List Value, (src h16 s3 (s3l * 1) news3 ∧ ∀ u ∈ news3, u.oneCell' = true) ∧
appK h16 b_1 b_1l b_1c s3l 1 5 1 news3 fun (a3 : Option Addr) (cap3 : Nat) (h17 : Heap) =>
∃ n13 : Int, cell h17 b1 22 = some (.int .i64 n13) ∧
Runs Tryd.prog 87 #[(.int .i64 n13)] h17 fun r10 h18 =>
∃ (s4 : Option Addr) (s4l s4c : Nat),
r10 = (.slice s4 s4l s4c) ∧
∃ news4 : List Value, (src h18 s4 (s4l * 1) news4 ∧ ∀ u ∈ news4, u.oneCell' = true) ∧
appK h18 a3 (b_1l + s3l) cap3 s4l 1 5 1 news4 fun (a4 : Option Addr) (cap4 : Nat) (h19 : Heap) =>
∃ t11 : Bool, cell h19 b1 18 = some (.bool t11) ∧
bcase (!t11) (
∃ n14 : Int, cell h19 b1 23 = some (.int .i64 n14) ∧
fits .i64 (n14 * (16 : Int)) ∧
Runs Tryd.prog 87 #[(.int .i64 (n14 * (16 : Int)))] h19 fun r11 h20 =>
∃ (s5 : Option Addr) (s5l s5c : Nat),
r11 = (.slice s5 s5l s5c) ∧
∃ news5 : List Value, (src h20 s5 (s5l * 1) news5 ∧ ∀ u ∈ news5, u.oneCell' = true) ∧
appK h20 a4 ((b_1l + s3l) + s4l) cap4 s5l 1 5 1 news5 fun (a5 : Option Addr) (cap5 : Nat) (h21 : Heap) =>
Post (.tuple #[(.slice a5 (((b_1l + s3l) + s4l) + s5l) cap5), .nilIface]) h21) (
Post (.tuple #[(.slice a4 ((b_1l + s3l) + s4l) cap4), .nilIface]) h19)) ∧
(
∀ (b3 : Nat) (h22 : Heap), b3 = h9.size → h22 = h9.push (.cells ([(.int .u8 n9)] : List Value).toArray 5) →
Runs Tryd.prog 86 #[(.agg (cs1).toArray), (.agg (cs2).toArray), (.agg (cs3).toArray), (.int .u8 what_2)] h22 fun r12 h23 =>
∃ (s6 : Option Addr) (s6l s6c : Nat),
r12 = (.slice s6 s6l s6c) ∧
cell h23 b1 19 = some (.int .i64 n9) ∧
∃ news6 : List Value, (row h23 b3 0 1 = some news6 ∧ ∀ u ∈ news6, u.oneCell' = true) ∧
appK h23 s6 s6l s6c 1 1 5 1 news6 fun (a6 : Option Addr) (cap6 : Nat) (h24 : Heap) =>
cell h24 b1 19 = some (.int .i64 n9) ∧
∃ J4 : Option Addr → Nat → Nat → Heap → Prop, (
∃ t12 : Bool, cell h24 b1 18 = some (.bool t12) ∧
bcase t12 (
∃ n15 : Int, cell h24 b1 24 = some (.int .i64 n15) ∧
Runs Tryd.prog 87 #[(.int .i64 n15)] h24 fun r13 h25 =>
∃ (s7 : Option Addr) (s7l s7c : Nat),
r13 = (.slice s7 s7l s7c) ∧
∃ news7 : List Value, (src h25 s7 (s7l * 1) news7 ∧ ∀ u ∈ news7, u.oneCell' = true) ∧
appK h25 a6 (s6l + 1) cap6 s7l 1 5 1 news7 fun (a7 : Option Addr) (cap7 : Nat) (h26 : Heap) =>
J4 a7 ((s6l + 1) + s7l) cap7 h26) (
J4 a6 (s6l + 1) cap6 h24)) ∧ ∀ _ : Env,
∀ (b_2 : Option Addr) (b_2l b_2c : Nat) (h27 : Heap), J4 b_2 b_2l b_2c h27 →
∃ n16 : Int, cell h27 b1 20 = some (.int .i64 n16) ∧
fits .i64 (n16 * (4 : Int)) ∧
fits .i64 ((2 : Int) + (n16 * (4 : Int))) ∧
∃ n17 : Int, cell h27 b1 21 = some (.int .i64 n17) ∧
fits .i64 (n17 * (64 : Int)) ∧
fits .i64 (((2 : Int) + (n16 * (4 : Int))) + (n17 * (64 : Int))) ∧
Runs Tryd.prog 87 #[(.int .i64 (((2 : Int) + (n16 * (4 : Int))) + (n17 * (64 : Int))))] h27 fun r14 h28 =>
∃ (s8 : Option Addr) (s8l s8c : Nat),
r14 = (.slice s8 s8l s8c) ∧
∃ news8 : List Value, (src h28 s8 (s8l * 1) news8 ∧ ∀ u ∈ news8, u.oneCell' = true) ∧
appK h28 b_2 b_2l b_2c s8l 1 5 1 news8 fun (a8 : Option Addr) (cap8 : Nat) (h29 : Heap) =>
∃ n18 : Int, cell h29 b1 22 = some (.int .i64 n18) ∧
Runs Tryd.prog 87 #[(.int .i64 n18)] h29 fun r15 h30 =>
∃ (s9 : Option Addr) (s9l s9c : Nat),
r15 = (.slice s9 s9l s9c) ∧
∃ news9 : List Value, (src h30 s9 (s9l * 1) news9 ∧ ∀ u ∈ news9, u.oneCell' = true) ∧
appK h30 a8 (b_2l + s8l) cap8 s9l 1 5 1 news9 fun (a9 : Option Addr) (cap9 : Nat) (h31 : Heap) =>
∃ t13 : Bool, cell h31 b1 18 = some (.bool t13) ∧
bcase (!t13) (
∃ n19 : Int, cell h31 b1 23 = some (.int .i64 n19) ∧
fits .i64 (n19 * (16 : Int)) ∧
Runs Tryd.prog 87 #[(.int .i64 (n19 * (16 : Int)))] h31 fun r16 h32 =>
∃ (s10 : Option Addr) (s10l s10c : Nat),
r16 = (.slice s10 s10l s10c) ∧
∃ news10 : List Value, (src h32 s10 (s10l * 1) news10 ∧ ∀ u ∈ news10, u.oneCell' = true) ∧
appK h32 a9 ((b_2l + s8l) + s9l) cap9 s10l 1 5 1 news10 fun (a10 : Option Addr) (cap10 : Nat) (h33 : Heap) =>
Post (.tuple #[(.slice a10 (((b_2l + s8l) + s9l) + s10l) cap10), .nilIface]) h33) (
Post (.tuple #[(.slice a9 ((b_2l + s8l) + s9l) cap9), .nilIface]) h31)))) (
∃ J5 : Int → Heap → Prop, (
J5 (0 : Int) h7) ∧ ∀ _ : Env,
∀ (what_3 : Int) (h34 : Heap), J5 what_3 h34 →
∃ J6 : Int → Heap → Prop, (
∃ t14 : Bool, cell h34 b1 18 = some (.bool t14) ∧
bcase t14 (
J6 (1 : Int) h34) (
J6 what_3 h34)) ∧ ∀ _ : Env,
∀ (what_4 : Int) (h35 : Heap), J6 what_4 h35 →
∃ cs4 : List Value, row h35 b1 0 6 = some cs4 ∧
∃ cs5 : List Value, row h35 b1 6 6 = some cs5 ∧
∃ cs6 : List Value, row h35 b1 12 6 = some cs6 ∧
∃ n20 : Int, cell h35 b1 19 = some (.int .i64 n20) ∧
fits .u8 n20 ∧
(
Runs Tryd.prog 86 #[(.agg (cs4).toArray), (.agg (cs5).toArray), (.agg (cs6).toArray), (.int .u8 what_4)] h35 fun r17 h36 =>
∃ (s11 : Option Addr) (s11l s11c : Nat),
r17 = (.slice s11 s11l s11c) ∧
cell h36 b1 19 = some (.int .i64 n20) ∧
∀ (b4 : Nat) (h37 : Heap), b4 = h36.size → h37 = h36.push (.cells ([(.int .u8 n20)] : List Value).toArray 5) →
∃ news11 : List Value, (row h37 b4 0 1 = some news11 ∧ ∀ u ∈ news11, u.oneCell' = true) ∧
appK h37 s11 s11l s11c 1 1 5 1 news11 fun (a11 : Option Addr) (cap11 : Nat) (h38 : Heap) =>
cell h38 b1 19 = some (.int .i64 n20) ∧
∃ J7 : Option Addr → Nat → Nat → Heap → Prop, (
∃ t15 : Bool, cell h38 b1 18 = some (.bool t15) ∧
bcase t15 (
∃ n21 : Int, cell h38 b1 24 = some (.int .i64 n21) ∧
Runs Tryd.prog 87 #[(.int .i64 n21)] h38 fun r18 h39 =>
∃ (s12 : Option Addr) (s12l s12c : Nat),
r18 = (.slice s12 s12l s12c) ∧
∃ news12 : List Value, (src h39 s12 (s12l * 1) news12 ∧ ∀ u ∈ news12, u.oneCell' = true) ∧
appK h39 a11 (s11l + 1) cap11 s12l 1 5 1 news12 fun (a12 : Option Addr) (cap12 : Nat) (h40 : Heap) =>
J7 a12 ((s11l + 1) + s12l) cap12 h40) (
J7 a11 (s11l + 1) cap11 h38)) ∧ ∀ _ : Env,
∀ (b_3 : Option Addr) (b_3l b_3c : Nat) (h41 : Heap), J7 b_3 b_3l b_3c h41 →
∃ n22 : Int, cell h41 b1 20 = some (.int .i64 n22) ∧
fits .i64 (n22 * (4 : Int)) ∧
fits .i64 ((2 : Int) + (n22 * (4 : Int))) ∧
∃ n23 : Int, cell h41 b1 21 = some (.int .i64 n23) ∧
fits .i64 (n23 * (64 : Int)) ∧
fits .i64 (((2 : Int) + (n22 * (4 : Int))) + (n23 * (64 : Int))) ∧
Runs Tryd.prog 87 #[(.int .i64 (((2 : Int) + (n22 * (4 : Int))) + (n23 * (64 : Int))))] h41 fun r19 h42 =>
∃ (s13 : Option Addr) (s13l s13c : Nat),
r19 = (.slice s13 s13l s13c) ∧
∃ news13 : List Value, (src h42 s13 (s13l * 1) news13 ∧ ∀ u ∈ news13, u.oneCell' = true) ∧
appK h42 b_3 b_3l b_3c s13l 1 5 1 news13 fun (a13 : Option Addr) (cap13 : Nat) (h43 : Heap) =>
∃ n24 : Int, cell h43 b1 22 = some (.int .i64 n24) ∧
Runs Tryd.prog 87 #[(.int .i64 n24)] h43 fun r20 h44 =>
∃ (s14 : Option Addr) (s14l s14c : Nat),
r20 = (.slice s14 s14l s14c) ∧
∃ news14 : List Value, (src h44 s14 (s14l * 1) news14 ∧ ∀ u ∈ news14, u.oneCell' = true) ∧
appK h44 a13 (b_3l + s13l) cap13 s14l 1 5 1 news14 fun (a14 : Option Addr) (cap14 : Nat) (h45 : Heap) =>
∃ t16 : Bool, cell h45 b1 18 = some (.bool t16) ∧
bcase (!t16) (
∃ n25 : Int, cell h45 b1 23 = some (.int .i64 n25) ∧
fits .i64 (n25 * (16 : Int)) ∧
Runs Tryd.prog 87 #[(.int .i64 (n25 * (16 : Int)))] h45 fun r21 h46 =>
∃ (s15 : Option Addr) (s15l s15c : Nat),
r21 = (.slice s15 s15l s15c) ∧
∃ news15 : List Value, (src h46 s15 (s15l * 1) news15 ∧ ∀ u ∈ news15, u.oneCell' = true) ∧
appK h46 a14 ((b_3l + s13l) + s14l) cap14 s15l 1 5 1 news15 fun (a15 : Option Addr) (cap15 : Nat) (h47 : Heap) =>
Post (.tuple #[(.slice a15 (((b_3l + s13l) + s14l) + s15l) cap15), .nilIface]) h47) (
Post (.tuple #[(.slice a14 ((b_3l + s13l) + s14l) cap14), .nilIface]) h45)) ∧
(
∀ (b5 : Nat) (h48 : Heap), b5 = h35.size → h48 = h35.push (.cells ([(.int .u8 n20)] : List Value).toArray 5) →
Runs Tryd.prog 86 #[(.agg (cs4).toArray), (.agg (cs5).toArray), (.agg (cs6).toArray), (.int .u8 what_4)] h48 fun r22 h49 =>
∃ (s16 : Option Addr) (s16l s16c : Nat),
r22 = (.slice s16 s16l s16c) ∧
cell h49 b1 19 = some (.int .i64 n20) ∧
∃ news16 : List Value, (row h49 b5 0 1 = some news16 ∧ ∀ u ∈ news16, u.oneCell' = true) ∧
appK h49 s16 s16l s16c 1 1 5 1 news16 fun (a16 : Option Addr) (cap16 : Nat) (h50 : Heap) =>
cell h50 b1 19 = some (.int .i64 n20) ∧
∃ J8 : Option Addr → Nat → Nat → Heap → Prop, (
∃ t17 : Bool, cell h50 b1 18 = some (.bool t17) ∧
bcase t17 (
∃ n26 : Int, cell h50 b1 24 = some (.int .i64 n26) ∧
Runs Tryd.prog 87 #[(.int .i64 n26)] h50 fun r23 h51 =>
∃ (s17 : Option Addr) (s17l s17c : Nat),
r23 = (.slice s17 s17l s17c) ∧
∃ news17 : List Value, (src h51 s17 (s17l * 1) news17 ∧ ∀ u ∈ news17, u.oneCell' = true) ∧
appK h51 a16 (s16l + 1) cap16 s17l 1 5 1 news17 fun (a17 : Option Addr) (cap17 : Nat) (h52 : Heap) =>
J8 a17 ((s16l + 1) + s17l) cap17 h52) (
J8 a16 (s16l + 1) cap16 h50)) ∧ ∀ _ : Env,
∀ (b_4 : Option Addr) (b_4l b_4c : Nat) (h53 : Heap), J8 b_4 b_4l b_4c h53 →
∃ n27 : Int, cell h53 b1 20 = some (.int .i64 n27) ∧
fits .i64 (n27 * (4 : Int)) ∧
fits .i64 ((2 : Int) + (n27 * (4 : Int))) ∧
∃ n28 : Int, cell h53 b1 21 = some (.int .i64 n28) ∧
fits .i64 (n28 * (64 : Int)) ∧
fits .i64 (((2 : Int) + (n27 * (4 : Int))) + (n28 * (64 : Int))) ∧
Runs Tryd.prog 87 #[(.int .i64 (((2 : Int) + (n27 * (4 : Int))) + (n28 * (64 : Int))))] h53 fun r24 h54 =>
∃ (s18 : Option Addr) (s18l s18c : Nat),
r24 = (.slice s18 s18l s18c) ∧
∃ news18 : List Value, (src h54 s18 (s18l * 1) news18 ∧ ∀ u ∈ news18, u.oneCell' = true) ∧
appK h54 b_4 b_4l b_4c s18l 1 5 1 news18 fun (a18 : Option Addr) (cap18 : Nat) (h55 : Heap) =>
∃ n29 : Int, cell h55 b1 22 = some (.int .i64 n29) ∧
Runs Tryd.prog 87 #[(.int .i64 n29)] h55 fun r25 h56 =>
∃ (s19 : Option Addr) (s19l s19c : Nat),
r25 = (.slice s19 s19l s19c) ∧
∃ news19 : List Value, (src h56 s19 (s19l * 1) news19 ∧ ∀ u ∈ news19, u.oneCell' = true) ∧
appK h56 a18 (b_4l + s18l) cap18 s19l 1 5 1 news19 fun (a19 : Option Addr) (cap19 : Nat) (h57 : Heap) =>
∃ t18 : Bool, cell h57 b1 18 = some (.bool t18) ∧
bcase (!t18) (
∃ n30 : Int, cell h57 b1 23 = some (.int .i64 n30) ∧
fits .i64 (n30 * (16 : Int)) ∧
Runs Tryd.prog 87 #[(.int .i64 (n30 * (16 : Int)))] h57 fun r26 h58 =>
∃ (s20 : Option Addr) (s20l s20c : Nat),
r26 = (.slice s20 s20l s20c) ∧
∃ news20 : List Value, (src h58 s20 (s20l * 1) news20 ∧ ∀ u ∈ news20, u.oneCell' = true) ∧
appK h58 a19 ((b_4l + s18l) + s19l) cap19 s20l 1 5 1 news20 fun (a20 : Option Addr) (cap20 : Nat) (h59 : Heap) =>
Post (.tuple #[(.slice a20 (((b_4l + s18l) + s19l) + s20l) cap20), .nilIface]) h59) (
Post (.tuple #[(.slice a19 ((b_4l + s18l) + s19l) cap19), .nilIface]) h57))))) (
∃ t19 : Bool, cell h7 b1 18 = some (.bool t19) ∧
bcase t19 (
∃ n31 : Int, cell h7 b1 23 = some (.int .i64 n31) ∧
bcase (!decide (n31 = (0 : Int))) (
∃ v9 : Value, cell h7 0 0 = some v9 ∧
Post (.tuple #[(.slice none 0 0), v9]) h7) (
∃ J9 : Int → Heap → Prop, (
J9 (0 : Int) h7) ∧ ∀ _ : Env,
∀ (what_5 : Int) (h60 : Heap), J9 what_5 h60 →
∃ J10 : Int → Heap → Prop, (
∃ t20 : Bool, cell h60 b1 18 = some (.bool t20) ∧
bcase t20 (
J10 (1 : Int) h60) (
J10 what_5 h60)) ∧ ∀ _ : Env,
∀ (what_6 : Int) (h61 : Heap), J10 what_6 h61 →
∃ cs7 : List Value, row h61 b1 0 6 = some cs7 ∧
∃ cs8 : List Value, row h61 b1 6 6 = some cs8 ∧
∃ cs9 : List Value, row h61 b1 12 6 = some cs9 ∧
∃ n32 : Int, cell h61 b1 19 = some (.int .i64 n32) ∧
fits .u8 n32 ∧
(
Runs Tryd.prog 86 #[(.agg (cs7).toArray), (.agg (cs8).toArray), (.agg (cs9).toArray), (.int .u8 what_6)] h61 fun r27 h62 =>
∃ (s21 : Option Addr) (s21l s21c : Nat),
r27 = (.slice s21 s21l s21c) ∧
cell h62 b1 19 = some (.int .i64 n32) ∧
∀ (b6 : Nat) (h63 : Heap), b6 = h62.size → h63 = h62.push (.cells ([(.int .u8 n32)] : List Value).toArray 5) →
∃ news21 : List Value, (row h63 b6 0 1 = some news21 ∧ ∀ u ∈ news21, u.oneCell' = true) ∧
appK h63 s21 s21l s21c 1 1 5 1 news21 fun (a21 : Option Addr) (cap21 : Nat) (h64 : Heap) =>
cell h64 b1 19 = some (.int .i64 n32) ∧
∃ J11 : Option Addr → Nat → Nat → Heap → Prop, (
∃ t21 : Bool, cell h64 b1 18 = some (.bool t21) ∧
bcase t21 (
∃ n33 : Int, cell h64 b1 24 = some (.int .i64 n33) ∧
Runs Tryd.prog 87 #[(.int .i64 n33)] h64 fun r28 h65 =>
∃ (s22 : Option Addr) (s22l s22c : Nat),
r28 = (.slice s22 s22l s22c) ∧
∃ news22 : List Value, (src h65 s22 (s22l * 1) news22 ∧ ∀ u ∈ news22, u.oneCell' = true) ∧
appK h65 a21 (s21l + 1) cap21 s22l 1 5 1 news22 fun (a22 : Option Addr) (cap22 : Nat) (h66 : Heap) =>
J11 a22 ((s21l + 1) + s22l) cap22 h66) (
J11 a21 (s21l + 1) cap21 h64)) ∧ ∀ _ : Env,
∀ (b_5 : Option Addr) (b_5l b_5c : Nat) (h67 : Heap), J11 b_5 b_5l b_5c h67 →
∃ n34 : Int, cell h67 b1 20 = some (.int .i64 n34) ∧
fits .i64 (n34 * (4 : Int)) ∧
fits .i64 ((2 : Int) + (n34 * (4 : Int))) ∧
∃ n35 : Int, cell h67 b1 21 = some (.int .i64 n35) ∧
fits .i64 (n35 * (64 : Int)) ∧
fits .i64 (((2 : Int) + (n34 * (4 : Int))) + (n35 * (64 : Int))) ∧
Runs Tryd.prog 87 #[(.int .i64 (((2 : Int) + (n34 * (4 : Int))) + (n35 * (64 : Int))))] h67 fun r29 h68 =>
∃ (s23 : Option Addr) (s23l s23c : Nat),
r29 = (.slice s23 s23l s23c) ∧
∃ news23 : List Value, (src h68 s23 (s23l * 1) news23 ∧ ∀ u ∈ news23, u.oneCell' = true) ∧
appK h68 b_5 b_5l b_5c s23l 1 5 1 news23 fun (a23 : Option Addr) (cap23 : Nat) (h69 : Heap) =>
∃ n36 : Int, cell h69 b1 22 = some (.int .i64 n36) ∧
Runs Tryd.prog 87 #[(.int .i64 n36)] h69 fun r30 h70 =>
∃ (s24 : Option Addr) (s24l s24c : Nat),
r30 = (.slice s24 s24l s24c) ∧
∃ news24 : List Value, (src h70 s24 (s24l * 1) news24 ∧ ∀ u ∈ news24, u.oneCell' = true) ∧
appK h70 a23 (b_5l + s23l) cap23 s24l 1 5 1 news24 fun (a24 : Option Addr) (cap24 : Nat) (h71 : Heap) =>
∃ t22 : Bool, cell h71 b1 18 = some (.bool t22) ∧
bcase (!t22) (
∃ n37 : Int, cell h71 b1 23 = some (.int .i64 n37) ∧
fits .i64 (n37 * (16 : Int)) ∧
Runs Tryd.prog 87 #[(.int .i64 (n37 * (16 : Int)))] h71 fun r31 h72 =>
∃ (s25 : Option Addr) (s25l s25c : Nat),
r31 = (.slice s25 s25l s25c) ∧
∃ news25 : List Value, (src h72 s25 (s25l * 1) news25 ∧ ∀ u ∈ news25, u.oneCell' = true) ∧
appK h72 a24 ((b_5l + s23l) + s24l) cap24 s25l 1 5 1 news25 fun (a25 : Option Addr) (cap25 : Nat) (h73 : Heap) =>
Post (.tuple #[(.slice a25 (((b_5l + s23l) + s24l) + s25l) cap25), .nilIface]) h73) (
Post (.tuple #[(.slice a24 ((b_5l + s23l) + s24l) cap24), .nilIface]) h71)) ∧
(
∀ (b7 : Nat) (h74 : Heap), b7 = h61.size → h74 = h61.push (.cells ([(.int .u8 n32)] : List Value).toArray 5) →
Runs Tryd.prog 86 #[(.agg (cs7).toArray), (.agg (cs8).toArray), (.agg (cs9).toArray), (.int .u8 what_6)] h74 fun r32 h75 =>
∃ (s26 : Option Addr) (s26l s26c : Nat),
r32 = (.slice s26 s26l s26c) ∧
cell h75 b1 19 = some (.int .i64 n32) ∧
∃ news26 : List Value, (row h75 b7 0 1 = some news26 ∧ ∀ u ∈ news26, u.oneCell' = true) ∧
appK h75 s26 s26l s26c 1 1 5 1 news26 fun (a26 : Option Addr) (cap26 : Nat) (h76 : Heap) =>
cell h76 b1 19 = some (.int .i64 n32) ∧
∃ J12 : Option Addr → Nat → Nat → Heap → Prop, (
∃ t23 : Bool, cell h76 b1 18 = some (.bool t23) ∧
bcase t23 (
∃ n38 : Int, cell h76 b1 24 = some (.int .i64 n38) ∧
Runs Tryd.prog 87 #[(.int .i64 n38)] h76 fun r33 h77 =>
∃ (s27 : Option Addr) (s27l s27c : Nat),
r33 = (.slice s27 s27l s27c) ∧
∃ news27 : List Value, (src h77 s27 (s27l * 1) news27 ∧ ∀ u ∈ news27, u.oneCell' = true) ∧
appK h77 a26 (s26l + 1) cap26 s27l 1 5 1 news27 fun (a27 : Option Addr) (cap27 : Nat) (h78 : Heap) =>
J12 a27 ((s26l + 1) + s27l) cap27 h78) (
J12 a26 (s26l + 1) cap26 h76)) ∧ ∀ _ : Env,
∀ (b_6 : Option Addr) (b_6l b_6c : Nat) (h79 : Heap), J12 b_6 b_6l b_6c h79 →
∃ n39 : Int, cell h79 b1 20 = some (.int .i64 n39) ∧
fits .i64 (n39 * (4 : Int)) ∧
fits .i64 ((2 : Int) + (n39 * (4 : Int))) ∧
∃ n40 : Int, cell h79 b1 21 = some (.int .i64 n40) ∧
fits .i64 (n40 * (64 : Int)) ∧
fits .i64 (((2 : Int) + (n39 * (4 : Int))) + (n40 * (64 : Int))) ∧
Runs Tryd.prog 87 #[(.int .i64 (((2 : Int) + (n39 * (4 : Int))) + (n40 * (64 : Int))))] h79 fun r34 h80 =>
∃ (s28 : Option Addr) (s28l s28c : Nat),
r34 = (.slice s28 s28l s28c) ∧
∃ news28 : List Value, (src h80 s28 (s28l * 1) news28 ∧ ∀ u ∈ news28, u.oneCell' = true) ∧
appK h80 b_6 b_6l b_6c s28l 1 5 1 news28 fun (a28 : Option Addr) (cap28 : Nat) (h81 : Heap) =>
∃ n41 : Int, cell h81 b1 22 = some (.int .i64 n41) ∧
Runs Tryd.prog 87 #[(.int .i64 n41)] h81 fun r35 h82 =>
∃ (s29 : Option Addr) (s29l s29c : Nat),
r35 = (.slice s29 s29l s29c) ∧
∃ news29 : List Value, (src h82 s29 (s29l * 1) news29 ∧ ∀ u ∈ news29, u.oneCell' = true) ∧
appK h82 a28 (b_6l + s28l) cap28 s29l 1 5 1 news29 fun (a29 : Option Addr) (cap29 : Nat) (h83 : Heap) =>
∃ t24 : Bool, cell h83 b1 18 = some (.bool t24) ∧
bcase (!t24) (
∃ n42 : Int, cell h83 b1 23 = some (.int .i64 n42) ∧
fits .i64 (n42 * (16 : Int)) ∧
Runs Tryd.prog 87 #[(.int .i64 (n42 * (16 : Int)))] h83 fun r36 h84 =>
∃ (s30 : Option Addr) (s30l s30c : Nat),
r36 = (.slice s30 s30l s30c) ∧
∃ news30 : List Value, (src h84 s30 (s30l * 1) news30 ∧ ∀ u ∈ news30, u.oneCell' = true) ∧
appK h84 a29 ((b_6l + s28l) + s29l) cap29 s30l 1 5 1 news30 fun (a30 : Option Addr) (cap30 : Nat) (h85 : Heap) =>
Post (.tuple #[(.slice a30 (((b_6l + s28l) + s29l) + s30l) cap30), .nilIface]) h85) (
Post (.tuple #[(.slice a29 ((b_6l + s28l) + s29l) cap29), .nilIface]) h83)))) (
∃ J13 : Int → Heap → Prop, (
J13 (0 : Int) h7) ∧ ∀ _ : Env,
∀ (what_7 : Int) (h86 : Heap), J13 what_7 h86 →
∃ J14 : Int → Heap → Prop, (
∃ t25 : Bool, cell h86 b1 18 = some (.bool t25) ∧
bcase t25 (
J14 (1 : Int) h86) (
J14 what_7 h86)) ∧ ∀ _ : Env,
∀ (what_8 : Int) (h87 : Heap), J14 what_8 h87 →
∃ cs10 : List Value, row h87 b1 0 6 = some cs10 ∧
∃ cs11 : List Value, row h87 b1 6 6 = some cs11 ∧
∃ cs12 : List Value, row h87 b1 12 6 = some cs12 ∧
∃ n43 : Int, cell h87 b1 19 = some (.int .i64 n43) ∧
fits .u8 n43 ∧
(
Runs Tryd.prog 86 #[(.agg (cs10).toArray), (.agg (cs11).toArray), (.agg (cs12).toArray), (.int .u8 what_8)] h87 fun r37 h88 =>
∃ (s31 : Option Addr) (s31l s31c : Nat),
r37 = (.slice s31 s31l s31c) ∧
cell h88 b1 19 = some (.int .i64 n43) ∧
∀ (b8 : Nat) (h89 : Heap), b8 = h88.size → h89 = h88.push (.cells ([(.int .u8 n43)] : List Value).toArray 5) →
∃ news31 : List Value, (row h89 b8 0 1 = some news31 ∧ ∀ u ∈ news31, u.oneCell' = true) ∧
appK h89 s31 s31l s31c 1 1 5 1 news31 fun (a31 : Option Addr) (cap31 : Nat) (h90 : Heap) =>
cell h90 b1 19 = some (.int .i64 n43) ∧
∃ J15 : Option Addr → Nat → Nat → Heap → Prop, (
∃ t26 : Bool, cell h90 b1 18 = some (.bool t26) ∧
bcase t26 (
∃ n44 : Int, cell h90 b1 24 = some (.int .i64 n44) ∧
Runs Tryd.prog 87 #[(.int .i64 n44)] h90 fun r38 h91 =>
∃ (s32 : Option Addr) (s32l s32c : Nat),
r38 = (.slice s32 s32l s32c) ∧
∃ news32 : List Value, (src h91 s32 (s32l * 1) news32 ∧ ∀ u ∈ news32, u.oneCell' = true) ∧
appK h91 a31 (s31l + 1) cap31 s32l 1 5 1 news32 fun (a32 : Option Addr) (cap32 : Nat) (h92 : Heap) =>
J15 a32 ((s31l + 1) + s32l) cap32 h92) (
J15 a31 (s31l + 1) cap31 h90)) ∧ ∀ _ : Env,
∀ (b_7 : Option Addr) (b_7l b_7c : Nat) (h93 : Heap), J15 b_7 b_7l b_7c h93 →
∃ n45 : Int, cell h93 b1 20 = some (.int .i64 n45) ∧
fits .i64 (n45 * (4 : Int)) ∧
fits .i64 ((2 : Int) + (n45 * (4 : Int))) ∧
∃ n46 : Int, cell h93 b1 21 = some (.int .i64 n46) ∧
fits .i64 (n46 * (64 : Int)) ∧
fits .i64 (((2 : Int) + (n45 * (4 : Int))) + (n46 * (64 : Int))) ∧
Runs Tryd.prog 87 #[(.int .i64 (((2 : Int) + (n45 * (4 : Int))) + (n46 * (64 : Int))))] h93 fun r39 h94 =>
∃ (s33 : Option Addr) (s33l s33c : Nat),
r39 = (.slice s33 s33l s33c) ∧
∃ news33 : List Value, (src h94 s33 (s33l * 1) news33 ∧ ∀ u ∈ news33, u.oneCell' = true) ∧
appK h94 b_7 b_7l b_7c s33l 1 5 1 news33 fun (a33 : Option Addr) (cap33 : Nat) (h95 : Heap) =>
∃ n47 : Int, cell h95 b1 22 = some (.int .i64 n47) ∧
Runs Tryd.prog 87 #[(.int .i64 n47)] h95 fun r40 h96 =>
∃ (s34 : Option Addr) (s34l s34c : Nat),
r40 = (.slice s34 s34l s34c) ∧
∃ news34 : List Value, (src h96 s34 (s34l * 1) news34 ∧ ∀ u ∈ news34, u.oneCell' = true) ∧
appK h96 a33 (b_7l + s33l) cap33 s34l 1 5 1 news34 fun (a34 : Option Addr) (cap34 : Nat) (h97 : Heap) =>
∃ t27 : Bool, cell h97 b1 18 = some (.bool t27) ∧
bcase (!t27) (
∃ n48 : Int, cell h97 b1 23 = some (.int .i64 n48) ∧
fits .i64 (n48 * (16 : Int)) ∧
Runs Tryd.prog 87 #[(.int .i64 (n48 * (16 : Int)))] h97 fun r41 h98 =>
∃ (s35 : Option Addr) (s35l s35c : Nat),
r41 = (.slice s35 s35l s35c) ∧
∃ news35 : List Value, (src h98 s35 (s35l * 1) news35 ∧ ∀ u ∈ news35, u.oneCell' = true) ∧
appK h98 a34 ((b_7l + s33l) + s34l) cap34 s35l 1 5 1 news35 fun (a35 : Option Addr) (cap35 : Nat) (h99 : Heap) =>
Post (.tuple #[(.slice a35 (((b_7l + s33l) + s34l) + s35l) cap35), .nilIface]) h99) (
Post (.tuple #[(.slice a34 ((b_7l + s33l) + s34l) cap34), .nilIface]) h97)) ∧
(
∀ (b9 : Nat) (h100 : Heap), b9 = h87.size → h100 = h87.push (.cells ([(.int .u8 n43)] : List Value).toArray 5) →
Runs Tryd.prog 86 #[(.agg (cs10).toArray), (.agg (cs11).toArray), (.agg (cs12).toArray), (.int .u8 what_8)] h100 fun r42 h101 =>
∃ (s36 : Option Addr) (s36l s36c : Nat),
r42 = (.slice s36 s36l s36c) ∧
cell h101 b1 19 = some (.int .i64 n43) ∧
∃ news36 : List Value, (row h101 b9 0 1 = some news36 ∧ ∀ u ∈ news36, u.oneCell' = true) ∧
appK h101 s36 s36l s36c 1 1 5 1 news36 fun (a36 : Option Addr) (cap36 : Nat) (h102 : Heap) =>
cell h102 b1 19 = some (.int .i64 n43) ∧
∃ J16 : Option Addr → Nat → Nat → Heap → Prop, (
∃ t28 : Bool, cell h102 b1 18 = some (.bool t28) ∧
bcase t28 (
∃ n49 : Int, cell h102 b1 24 = some (.int .i64 n49) ∧
Runs Tryd.prog 87 #[(.int .i64 n49)] h102 fun r43 h103 =>
∃ (s37 : Option Addr) (s37l s37c : Nat),
r43 = (.slice s37 s37l s37c) ∧
∃ news37 : List Value, (src h103 s37 (s37l * 1) news37 ∧ ∀ u ∈ news37, u.oneCell' = true) ∧
appK h103 a36 (s36l + 1) cap36 s37l 1 5 1 news37 fun (a37 : Option Addr) (cap37 : Nat) (h104 : Heap) =>
J16 a37 ((s36l + 1) + s37l) cap37 h104) (
J16 a36 (s36l + 1) cap36 h102)) ∧ ∀ _ : Env,
∀ (b_8 : Option Addr) (b_8l b_8c : Nat) (h105 : Heap), J16 b_8 b_8l b_8c h105 →
∃ n50 : Int, cell h105 b1 20 = some (.int .i64 n50) ∧
fits .i64 (n50 * (4 : Int)) ∧
fits .i64 ((2 : Int) + (n50 * (4 : Int))) ∧
∃ n51 : Int, cell h105 b1 21 = some (.int .i64 n51) ∧
fits .i64 (n51 * (64 : Int)) ∧
fits .i64 (((2 : Int) + (n50 * (4 : Int))) + (n51 * (64 : Int))) ∧
Runs Tryd.prog 87 #[(.int .i64 (((2 : Int) + (n50 * (4 : Int))) + (n51 * (64 : Int))))] h105 fun r44 h106 =>
∃ (s38 : Option Addr) (s38l s38c : Nat),
r44 = (.slice s38 s38l s38c) ∧
∃ news38 : List Value, (src h106 s38 (s38l * 1) news38 ∧ ∀ u ∈ news38, u.oneCell' = true) ∧
appK h106 b_8 b_8l b_8c s38l 1 5 1 news38 fun (a38 : Option Addr) (cap38 : Nat) (h107 : Heap) =>
∃ n52 : Int, cell h107 b1 22 = some (.int .i64 n52) ∧
Runs Tryd.prog 87 #[(.int .i64 n52)] h107 fun r45 h108 =>
∃ (s39 : Option Addr) (s39l s39c : Nat),
r45 = (.slice s39 s39l s39c) ∧
∃ news39 : List Value, (src h108 s39 (s39l * 1) news39 ∧ ∀ u ∈ news39, u.oneCell' = true) ∧
appK h108 a38 (b_8l + s38l) cap38 s39l 1 5 1 news39 fun (a39 : Option Addr) (cap39 : Nat) (h109 : Heap) =>
∃ t29 : Bool, cell h109 b1 18 = some (.bool t29) ∧
bcase (!t29) (
∃ n53 : Int, cell h109 b1 23 = some (.int .i64 n53) ∧
fits .i64 (n53 * (16 : Int)) ∧
Runs Tryd.prog 87 #[(.int .i64 (n53 * (16 : Int)))] h109 fun r46 h110 =>
∃ (s40 : Option Addr) (s40l s40c : Nat),
r46 = (.slice s40 s40l s40c) ∧
∃ news40 : List Value, (src h110 s40 (s40l * 1) news40 ∧ ∀ u ∈ news40, u.oneCell' = true) ∧
appK h110 a39 ((b_8l + s38l) + s39l) cap39 s40l 1 5 1 news40 fun (a40 : Option Addr) (cap40 : Nat) (h111 : Heap) =>
Post (.tuple #[(.slice a40 (((b_8l + s38l) + s39l) + s40l) cap40), .nilIface]) h111) (
Post (.tuple #[(.slice a39 ((b_8l + s38l) + s39l) cap39), .nilIface]) h109))))))))))) :
    Runs Tryd.prog 76 #[(.agg (f).toArray)] h0 Post :=
  runs_of (args := [(.agg (f).toArray)]) (fun n => ⟨true, false⟩) (fun _ => []) (fun n => match n with | 4 => some [(4, .int .u8)] | 6 => some [(4, .int .u8)] | 9 => some [(5, .slice)] | _ => none) (fun _ => []) Tryd.func76 rfl (by rw [Tryd.ntmps76]; simp) (Eq.mp (by kernel_rfl) H)

theorem vc_act_DelBytes (f : List Value) (h0 : Heap) (Post : Value → Heap → Prop) (H :
∀ (b1 : Nat) (h1 : Heap), b1 = h0.size → h1 = h0.push (.cells (f).toArray 77) →
∃ n1 : Int, cell h1 b1 19 = some (.int .i64 n1) ∧
Runs Tryd.prog 85 #[(.int .i64 n1), (.int .i64 (7 : Int))] h1 fun r1 h2 =>
∃ t1 : Bool,
r1 = (.bool t1) ∧
bcase (!t1) (
∃ v1 : Value, cell h2 0 0 = some v1 ∧
Post (.tuple #[(.slice none 0 0), v1]) h2) (
∃ n2 : Int, cell h2 b1 20 = some (.int .i64 n2) ∧
Runs Tryd.prog 85 #[(.int .i64 n2), (.int .i64 (65535 : Int))] h2 fun r2 h3 =>
∃ t2 : Bool,
r2 = (.bool t2) ∧
bcase (!t2) (
∃ v2 : Value, cell h3 0 0 = some v2 ∧
Post (.tuple #[(.slice none 0 0), v2]) h3) (
∃ n3 : Int, cell h3 b1 19 = some (.int .i64 n3) ∧
fits .i64 (n3 * (4096 : Int)) ∧
∃ t3 : Bool, cell h3 b1 18 = some (.bool t3) ∧
bcase t3 (
fits .i64 ((n3 * (4096 : Int)) + (2048 : Int)) ∧
∃ cs1 : List Value, row h3 b1 0 6 = some cs1 ∧
∃ cs2 : List Value, row h3 b1 6 6 = some cs2 ∧
∃ cs3 : List Value, row h3 b1 12 6 = some cs3 ∧
∃ n4 : Int, cell h3 b1 20 = some (.int .i64 n4) ∧
Runs Tryd.prog 86 #[(.agg (cs1).toArray), (.agg (cs2).toArray), (.agg (cs3).toArray), (.int .u8 (2 : Int))] h3 fun r3 h4 =>
∃ (s1 : Option Addr) (s1l s1c : Nat),
r3 = (.slice s1 s1l s1c) ∧
cell h4 b1 20 = some (.int .i64 n4) ∧
Runs Tryd.prog 87 #[(.int .i64 ((n3 * (4096 : Int)) + (2048 : Int)))] h4 fun r4 h5 =>
∃ (s2 : Option Addr) (s2l s2c : Nat),
r4 = (.slice s2 s2l s2c) ∧
cell h5 b1 20 = some (.int .i64 n4) ∧
∃ news1 : List Value, (src h5 s2 (s2l * 1) news1 ∧ ∀ u ∈ news1, u.oneCell' = true) ∧
appK h5 s1 s1l s1c s2l 1 5 1 news1 fun (a1 : Option Addr) (cap1 : Nat) (h6 : Heap) =>
cell h6 b1 20 = some (.int .i64 n4) ∧
Runs Tryd.prog 87 #[(.int .i64 n4)] h6 fun r5 h7 =>
∃ (s3 : Option Addr) (s3l s3c : Nat),
r5 = (.slice s3 s3l s3c) ∧
∃ news2 : List Value, (src h7 s3 (s3l * 1) news2 ∧ ∀ u ∈ news2, u.oneCell' = true) ∧
appK h7 a1 (s1l + s2l) cap1 s3l 1 5 1 news2 fun (a2 : Option Addr) (cap2 : Nat) (h8 : Heap) =>
Post (.tuple #[(.slice a2 ((s1l + s2l) + s3l) cap2), .nilIface]) h8) (
∃ cs4 : List Value, row h3 b1 0 6 = some cs4 ∧
∃ cs5 : List Value, row h3 b1 6 6 = some cs5 ∧
∃ cs6 : List Value, row h3 b1 12 6 = some cs6 ∧
∃ n5 : Int, cell h3 b1 20 = some (.int .i64 n5) ∧
Runs Tryd.prog 86 #[(.agg (cs4).toArray), (.agg (cs5).toArray), (.agg (cs6).toArray), (.int .u8 (2 : Int))] h3 fun r6 h9 =>
∃ (s4 : Option Addr) (s4l s4c : Nat),
r6 = (.slice s4 s4l s4c) ∧
cell h9 b1 20 = some (.int .i64 n5) ∧
Runs Tryd.prog 87 #[(.int .i64 (n3 * (4096 : Int)))] h9 fun r7 h10 =>
∃ (s5 : Option Addr) (s5l s5c : Nat),
r7 = (.slice s5 s5l s5c) ∧
cell h10 b1 20 = some (.int .i64 n5) ∧
∃ news3 : List Value, (src h10 s5 (s5l * 1) news3 ∧ ∀ u ∈ news3, u.oneCell' = true) ∧
appK h10 s4 s4l s4c s5l 1 5 1 news3 fun (a3 : Option Addr) (cap3 : Nat) (h11 : Heap) =>
cell h11 b1 20 = some (.int .i64 n5) ∧
Runs Tryd.prog 87 #[(.int .i64 n5)] h11 fun r8 h12 =>
∃ (s6 : Option Addr) (s6l s6c : Nat),
r8 = (.slice s6 s6l s6c) ∧
∃ news4 : List Value, (src h12 s6 (s6l * 1) news4 ∧ ∀ u ∈ news4, u.oneCell' = true) ∧
appK h12 a3 (s4l + s5l) cap3 s6l 1 5 1 news4 fun (a4 : Option Addr) (cap4 : Nat) (h13 : Heap) =>
Post (.tuple #[(.slice a4 ((s4l + s5l) + s6l) cap4), .nilIface]) h13)))) :
    Runs Tryd.prog 77 #[(.agg (f).toArray)] h0 Post :=
  runs_of (args := [(.agg (f).toArray)]) (fun n => ⟨true, false⟩) (fun _ => []) (fun _ => none) (fun _ => []) Tryd.func77 rfl (by rw [Tryd.ntmps77]; simp) (Eq.mp (by kernel_rfl) H)

theorem vc_act_ReadAdd (b : Option Addr) (bL bC : Nat) (h0 : Heap) (Post : Value → Heap → Prop) (H :
∀ (b1 : Nat) (h1 : Heap), b1 = h0.size → h1 = h0.push (.cells ([(.int .u8 (0 : Int)), (.int .u8 (0 : Int)), (.int .u8 (0 : Int)), (.int .u8 (0 : Int)), (.int .u8 (0 : Int)), (.int .u8 (0 : Int)), (.int .u8 (0 : Int)), (.int .u8 (0 : Int)), (.int .u8 (0 : Int)), (.int .u8 (0 : Int)), (.int .u8 (0 : Int)), (.int .u8 (0 : Int)), (.int .u8 (0 : Int)), (.int .u8 (0 : Int)), (.int .u8 (0 : Int)), (.int .u8 (0 : Int)), (.int .u8 (0 : Int)), (.int .u8 (0 : Int)), (.bool false), (.int .i64 (0 : Int)), (.int .i64 (0 : Int)), (.int .i64 (0 : Int)), (.int .i64 (0 : Int)), (.int .i64 (0 : Int)), (.int .i64 (0 : Int))] : List Value).toArray 65) →
∀ (b2 : Nat) (h2 : Heap), b2 = h1.size → h2 = h1.push (.cells ([(.int .u8 (0 : Int)), (.int .u8 (1 : Int))] : List Value).toArray 5) →
Runs Tryd.prog 73 #[(.slice b bL bC), (.int .i64 (33 : Int)), (.slice (some ⟨b2, 0, none⟩) 2 2)] h2 fun r1 h3 =>
∃ v1 : Value,
r1 = v1 ∧
∃ t1 : Bool, ifeqH Tryd.prog h3 true (v1) (.nilIface) = some t1 ∧
bcase (!t1) (
((([(.int .u8 (0 : Int)), (.int .u8 (0 : Int)), (.int .u8 (0 : Int)), (.int .u8 (0 : Int)), (.int .u8 (0 : Int)), (.int .u8 (0 : Int)), (.int .u8 (0 : Int)), (.int .u8 (0 : Int)), (.int .u8 (0 : Int)), (.int .u8 (0 : Int)), (.int .u8 (0 : Int)), (.int .u8 (0 : Int)), (.int .u8 (0 : Int)), (.int .u8 (0 : Int)), (.int .u8 (0 : Int)), (.int .u8 (0 : Int)), (.int .u8 (0 : Int)), (.int .u8 (0 : Int)), (.bool false), (.int .i64 (0 : Int)), (.int .i64 (0 : Int)), (.int .i64 (0 : Int)), (.int .i64 (0 : Int)), (.int .i64 (0 : Int)), (.int .i64 (0 : Int))] : List Value)).length = 25 ∧ wrs h3 b1 0 25 ∧ ∀ u ∈ (([(.int .u8 (0 : Int)), (.int .u8 (0 : Int)), (.int .u8 (0 : Int)), (.int .u8 (0 : Int)), (.int .u8 (0 : Int)), (.int .u8 (0 : Int)), (.int .u8 (0 : Int)), (.int .u8 (0 : Int)), (.int .u8 (0 : Int)), (.int .u8 (0 : Int)), (.int .u8 (0 : Int)), (.int .u8 (0 : Int)), (.int .u8 (0 : Int)), (.int .u8 (0 : Int)), (.int .u8 (0 : Int)), (.int .u8 (0 : Int)), (.int .u8 (0 : Int)), (.int .u8 (0 : Int)), (.bool false), (.int .i64 (0 : Int)), (.int .i64 (0 : Int)), (.int .i64 (0 : Int)), (.int .i64 (0 : Int)), (.int .i64 (0 : Int)), (.int .i64 (0 : Int))] : List Value) : List Value), u.oneCell' = true) ∧ ∀ h4 : Heap, h4 = setr h3 b1 0 ([(.int .u8 (0 : Int)), (.int .u8 (0 : Int)), (.int .u8 (0 : Int)), (.int .u8 (0 : Int)), (.int .u8 (0 : Int)), (.int .u8 (0 : Int)), (.int .u8 (0 : Int)), (.int .u8 (0 : Int)), (.int .u8 (0 : Int)), (.int .u8 (0 : Int)), (.int .u8 (0 : Int)), (.int .u8 (0 : Int)), (.int .u8 (0 : Int)), (.int .u8 (0 : Int)), (.int .u8 (0 : Int)), (.int .u8 (0 : Int)), (.int .u8 (0 : Int)), (.int .u8 (0 : Int)), (.bool false), (.int .i64 (0 : Int)), (.int .i64 (0 : Int)), (.int .i64 (0 : Int)), (.int .i64 (0 : Int)), (.int .i64 (0 : Int)), (.int .i64 (0 : Int))] : List Value) →
∃ cs1 : List Value, row h4 b1 0 25 = some cs1 ∧
Post (.tuple #[(.agg (cs1).toArray), v1]) h4) (
(0 ≤ (25 : Int) ∧ (25 : Int) < ((bL : Nat) : Int)) ∧
onAddr b fun b3 o1 =>
∃ n1 : Int, cell h3 b3 (o1 + 25) = some (.int .u8 n1) ∧
(0 ≤ (26 : Int) ∧ (26 : Int) < ((bL : Nat) : Int)) ∧
onAddr b fun b4 o2 =>
∃ n2 : Int, cell h3 b4 (o2 + 26) = some (.int .u8 n2) ∧
fits .i64 n2 ∧
∀ (b5 : Nat) (h5 : Heap), b5 = h3.size → h5 = h3.push (.cells ([(.int .u8 (0 : Int)), (.int .u8 (0 : Int)), (.int .u8 (0 : Int)), (.int .u8 (0 : Int)), (.int .u8 (0 : Int)), (.int .u8 (0 : Int)), (.int .u8 (0 : Int)), (.int .u8 (0 : Int)), (.int .u8 (0 : Int)), (.int .u8 (0 : Int)), (.int .u8 (0 : Int)), (.int .u8 (0 : Int)), (.int .u8 (0 : Int)), (.int .u8 (0 : Int)), (.int .u8 (0 : Int)), (.int .u8 (0 : Int)), (.int .u8 (0 : Int)), (.int .u8 (0 : Int)), (.bool false), (.int .i64 (0 : Int)), (.int .i64 (0 : Int)), (.int .i64 (0 : Int)), (.int .i64 (0 : Int)), (.int .i64 (0 : Int)), (.int .i64 (0 : Int))] : List Value).toArray 65) →
((([(.int .u8 (0 : Int)), (.int .u8 (0 : Int)), (.int .u8 (0 : Int)), (.int .u8 (0 : Int)), (.int .u8 (0 : Int)), (.int .u8 (0 : Int)), (.int .u8 (0 : Int)), (.int .u8 (0 : Int)), (.int .u8 (0 : Int)), (.int .u8 (0 : Int)), (.int .u8 (0 : Int)), (.int .u8 (0 : Int)), (.int .u8 (0 : Int)), (.int .u8 (0 : Int)), (.int .u8 (0 : Int)), (.int .u8 (0 : Int)), (.int .u8 (0 : Int)), (.int .u8 (0 : Int)), (.bool (decide (n1 = (1 : Int)))), (.int .i64 n2), (.int .i64 (0 : Int)), (.int .i64 (0 : Int)), (.int .i64 (0 : Int)), (.int .i64 (0 : Int)), (.int .i64 (0 : Int))] : List Value)).length = 25 ∧ wrs h5 b5 0 25 ∧ ∀ u ∈ (([(.int .u8 (0 : Int)), (.int .u8 (0 : Int)), (.int .u8 (0 : Int)), (.int .u8 (0 : Int)), (.int .u8 (0 : Int)), (.int .u8 (0 : Int)), (.int .u8 (0 : Int)), (.int .u8 (0 : Int)), (.int .u8 (0 : Int)), (.int .u8 (0 : Int)), (.int .u8 (0 : Int)), (.int .u8 (0 : Int)), (.int .u8 (0 : Int)), (.int .u8 (0 : Int)), (.int .u8 (0 : Int)), (.int .u8 (0 : Int)), (.int .u8 (0 : Int)), (.int .u8 (0 : Int)), (.bool (decide (n1 = (1 : Int)))), (.int .i64 n2), (.int .i64 (0 : Int)), (.int .i64 (0 : Int)), (.int .i64 (0 : Int)), (.int .i64 (0 : Int)), (.int .i64 (0 : Int))] : List Value) : List Value), u.oneCell' = true) ∧ ∀ h6 : Heap, h6 = setr h5 b5 0 ([(.int .u8 (0 : Int)), (.int .u8 (0 : Int)), (.int .u8 (0 : Int)), (.int .u8 (0 : Int)), (.int .u8 (0 : Int)), (.int .u8 (0 : Int)), (.int .u8 (0 : Int)), (.int .u8 (0 : Int)), (.int .u8 (0 : Int)), (.int .u8 (0 : Int)), (.int .u8 (0 : Int)), (.int .u8 (0 : Int)), (.int .u8 (0 : Int)), (.int .u8 (0 : Int)), (.int .u8 (0 : Int)), (.int .u8 (0 : Int)), (.int .u8 (0 : Int)), (.int .u8 (0 : Int)), (.bool (decide (n1 = (1 : Int)))), (.int .i64 n2), (.int .i64 (0 : Int)), (.int .i64 (0 : Int)), (.int .i64 (0 : Int)), (.int .i64 (0 : Int)), (.int .i64 (0 : Int))] : List Value) →
Runs Tryd.prog 74 #[(.slice b bL bC)] h6 fun r2 h7 =>
∃ cs2 : List Value,
∃ cs3 : List Value,
∃ cs4 : List Value,
r2 = (.tuple #[(.agg (cs2).toArray), (.agg (cs3).toArray), (.agg (cs4).toArray)]) ∧
(((cs2)).length = 6 ∧ wrs h7 b5 0 6 ∧ ∀ u ∈ ((cs2) : List Value), u.oneCell' = true) ∧ ∀ h8 : Heap, h8 = setr h7 b5 0 (cs2) →
(((cs3)).length = 6 ∧ wrs h8 b5 6 6 ∧ ∀ u ∈ ((cs3) : List Value), u.oneCell' = true) ∧ ∀ h9 : Heap, h9 = setr h8 b5 6 (cs3) →
(((cs4)).length = 6 ∧ wrs h9 b5 12 6 ∧ ∀ u ∈ ((cs4) : List Value), u.oneCell' = true) ∧ ∀ h10 : Heap, h10 = setr h9 b5 12 (cs4) →
(0 ≤ (27 : Int) ∧ (27 : Int) ≤ ((bL : Nat) : Int)) ∧
∃ J1 : Option Addr → Nat → Nat → Heap → Prop, (
∃ t2 : Bool, cell h10 b5 18 = some (.bool t2) ∧
bcase t2 (
Runs Tryd.prog 75 #[(.slice (slcAddr b 27 bC 27) (bL - 27) (bC - 27))] h10 fun r3 h11 =>
∃ n3 : Int,
r3 = (.int .i64 n3) ∧
wr h11 b5 24 ∧ ∀ h12 : Heap, h12 = setc h11 b5 24 (.int .i64 n3) →
(0 ≤ (2 : Int) ∧ (2 : Int) ≤ (((bL - 27) : Nat) : Int)) ∧
J1 (slcAddr (slcAddr b 27 bC 27) 2 (bC - 27) 2) ((bL - 27) - 2) ((bC - 27) - 2) h12) (
J1 (slcAddr b 27 bC 27) (bL - 27) (bC - 27) h10)) ∧ ∀ _ : Env,
∀ (l_1 : Option Addr) (l_1l l_1c : Nat) (h13 : Heap), J1 l_1 l_1l l_1c h13 →
Runs Tryd.prog 75 #[(.slice l_1 l_1l l_1c)] h13 fun r4 h14 =>
∃ n4 : Int,
r4 = (.int .i64 n4) ∧
(0 ≤ n4 ∧ 0 < (64 : Int)) ∧
(0 ≤ (n4 % (64 : Int)) ∧ 0 < (4 : Int) ∧ fits .i64 ((n4 % (64 : Int)) / (4 : Int))) ∧
(0 ≤ n4 ∧ 0 < (64 : Int) ∧ fits .i64 (n4 / (64 : Int))) ∧
(0 ≤ (2 : Int) ∧ (2 : Int) ≤ ((l_1l : Nat) : Int)) ∧
Runs Tryd.prog 75 #[(.slice (slcAddr l_1 2 l_1c 2) (l_1l - 2) (l_1c - 2))] h14 fun r5 h15 =>
∃ n5 : Int,
r5 = (.int .i64 n5) ∧
wr h15 b5 20 ∧ ∀ h16 : Heap, h16 = setc h15 b5 20 (.int .i64 ((n4 % (64 : Int)) / (4 : Int))) →
wr h16 b5 21 ∧ ∀ h17 : Heap, h17 = setc h16 b5 21 (.int .i64 (n4 / (64 : Int))) →
wr h17 b5 22 ∧ ∀ h18 : Heap, h18 = setc h17 b5 22 (.int .i64 n5) →
∃ J2 : Heap → Prop, (
∃ t3 : Bool, cell h18 b5 18 = some (.bool t3) ∧
bcase (!t3) (
(0 ≤ (4 : Int) ∧ (4 : Int) ≤ ((l_1l : Nat) : Int)) ∧
Runs Tryd.prog 75 #[(.slice (slcAddr l_1 4 l_1c 4) (l_1l - 4) (l_1c - 4))] h18 fun r6 h19 =>
∃ n6 : Int,
r6 = (.int .i64 n6) ∧
(0 ≤ n6 ∧ 0 < (16 : Int) ∧ fits .i64 (n6 / (16 : Int))) ∧
wr h19 b5 23 ∧ ∀ h20 : Heap, h20 = setc h19 b5 23 (.int .i64 (n6 / (16 : Int))) →
J2 h20) (
J2 h18)) ∧ ∀ _ : Env,
∀ (h21 : Heap), J2 h21 →
∃ cs5 : List Value, row h21 b5 0 25 = some cs5 ∧
Runs Tryd.prog 76 #[(.agg (cs5).toArray)] h21 fun r7 h22 =>
∃ (s1 : Option Addr) (s1l s1c : Nat),
∃ v2 : Value,
r7 = (.tuple #[(.slice s1 s1l s1c), v2]) ∧
∃ t4 : Bool, ifeqH Tryd.prog h22 true (v2) (.nilIface) = some t4 ∧
bcase (!t4) (
∃ v3 : Value, cell h22 3 0 = some v3 ∧
((([(.int .u8 (0 : Int)), (.int .u8 (0 : Int)), (.int .u8 (0 : Int)), (.int .u8 (0 : Int)), (.int .u8 (0 : Int)), (.int .u8 (0 : Int)), (.int .u8 (0 : Int)), (.int .u8 (0 : Int)), (.int .u8 (0 : Int)), (.int .u8 (0 : Int)), (.int .u8 (0 : Int)), (.int .u8 (0 : Int)), (.int .u8 (0 : Int)), (.int .u8 (0 : Int)), (.int .u8 (0 : Int)), (.int .u8 (0 : Int)), (.int .u8 (0 : Int)), (.int .u8 (0 : Int)), (.bool false), (.int .i64 (0 : Int)), (.int .i64 (0 : Int)), (.int .i64 (0 : Int)), (.int .i64 (0 : Int)), (.int .i64 (0 : Int)), (.int .i64 (0 : Int))] : List Value)).length = 25 ∧ wrs h22 b1 0 25 ∧ ∀ u ∈ (([(.int .u8 (0 : Int)), (.int .u8 (0 : Int)), (.int .u8 (0 : Int)), (.int .u8 (0 : Int)), (.int .u8 (0 : Int)), (.int .u8 (0 : Int)), (.int .u8 (0 : Int)), (.int .u8 (0 : Int)), (.int .u8 (0 : Int)), (.int .u8 (0 : Int)), (.int .u8 (0 : Int)), (.int .u8 (0 : Int)), (.int .u8 (0 : Int)), (.int .u8 (0 : Int)), (.int .u8 (0 : Int)), (.int .u8 (0 : Int)), (.int .u8 (0 : Int)), (.int .u8 (0 : Int)), (.bool false), (.int .i64 (0 : Int)), (.int .i64 (0 : Int)), (.int .i64 (0 : Int)), (.int .i64 (0 : Int)), (.int .i64 (0 : Int)), (.int .i64 (0 : Int))] : List Value) : List Value), u.oneCell' = true) ∧ ∀ h23 : Heap, h23 = setr h22 b1 0 ([(.int .u8 (0 : Int)), (.int .u8 (0 : Int)), (.int .u8 (0 : Int)), (.int .u8 (0 : Int)), (.int .u8 (0 : Int)), (.int .u8 (0 : Int)), (.int .u8 (0 : Int)), (.int .u8 (0 : Int)), (.int .u8 (0 : Int)), (.int .u8 (0 : Int)), (.int .u8 (0 : Int)), (.int .u8 (0 : Int)), (.int .u8 (0 : Int)), (.int .u8 (0 : Int)), (.int .u8 (0 : Int)), (.int .u8 (0 : Int)), (.int .u8 (0 : Int)), (.int .u8 (0 : Int)), (.bool false), (.int .i64 (0 : Int)), (.int .i64 (0 : Int)), (.int .i64 (0 : Int)), (.int .i64 (0 : Int)), (.int .i64 (0 : Int)), (.int .i64 (0 : Int))] : List Value) →
cell h23 3 0 = some v3 ∧
∃ cs6 : List Value, row h23 b1 0 25 = some cs6 ∧
Post (.tuple #[(.agg (cs6).toArray), v3]) h23) (
Runs Tryd.prog 71 #[(.slice s1 s1l s1c), (.slice b bL bC)] h22 fun r8 h24 =>
∃ t5 : Bool,
r8 = (.bool t5) ∧
bcase (!t5) (
∃ v4 : Value, cell h24 3 0 = some v4 ∧
((([(.int .u8 (0 : Int)), (.int .u8 (0 : Int)), (.int .u8 (0 : Int)), (.int .u8 (0 : Int)), (.int .u8 (0 : Int)), (.int .u8 (0 : Int)), (.int .u8 (0 : Int)), (.int .u8 (0 : Int)), (.int .u8 (0 : Int)), (.int .u8 (0 : Int)), (.int .u8 (0 : Int)), (.int .u8 (0 : Int)), (.int .u8 (0 : Int)), (.int .u8 (0 : Int)), (.int .u8 (0 : Int)), (.int .u8 (0 : Int)), (.int .u8 (0 : Int)), (.int .u8 (0 : Int)), (.bool false), (.int .i64 (0 : Int)), (.int .i64 (0 : Int)), (.int .i64 (0 : Int)), (.int .i64 (0 : Int)), (.int .i64 (0 : Int)), (.int .i64 (0 : Int))] : List Value)).length = 25 ∧ wrs h24 b1 0 25 ∧ ∀ u ∈ (([(.int .u8 (0 : Int)), (.int .u8 (0 : Int)), (.int .u8 (0 : Int)), (.int .u8 (0 : Int)), (.int .u8 (0 : Int)), (.int .u8 (0 : Int)), (.int .u8 (0 : Int)), (.int .u8 (0 : Int)), (.int .u8 (0 : Int)), (.int .u8 (0 : Int)), (.int .u8 (0 : Int)), (.int .u8 (0 : Int)), (.int .u8 (0 : Int)), (.int .u8 (0 : Int)), (.int .u8 (0 : Int)), (.int .u8 (0 : Int)), (.int .u8 (0 : Int)), (.int .u8 (0 : Int)), (.bool false), (.int .i64 (0 : Int)), (.int .i64 (0 : Int)), (.int .i64 (0 : Int)), (.int .i64 (0 : Int)), (.int .i64 (0 : Int)), (.int .i64 (0 : Int))] : List Value) : List Value), u.oneCell' = true) ∧ ∀ h25 : Heap, h25 = setr h24 b1 0 ([(.int .u8 (0 : Int)), (.int .u8 (0 : Int)), (.int .u8 (0 : Int)), (.int .u8 (0 : Int)), (.int .u8 (0 : Int)), (.int .u8 (0 : Int)), (.int .u8 (0 : Int)), (.int .u8 (0 : Int)), (.int .u8 (0 : Int)), (.int .u8 (0 : Int)), (.int .u8 (0 : Int)), (.int .u8 (0 : Int)), (.int .u8 (0 : Int)), (.int .u8 (0 : Int)), (.int .u8 (0 : Int)), (.int .u8 (0 : Int)), (.int .u8 (0 : Int)), (.int .u8 (0 : Int)), (.bool false), (.int .i64 (0 : Int)), (.int .i64 (0 : Int)), (.int .i64 (0 : Int)), (.int .i64 (0 : Int)), (.int .i64 (0 : Int)), (.int .i64 (0 : Int))] : List Value) →
cell h25 3 0 = some v4 ∧
∃ cs7 : List Value, row h25 b1 0 25 = some cs7 ∧
Post (.tuple #[(.agg (cs7).toArray), v4]) h25) (
∃ cs8 : List Value, row h24 b5 0 25 = some cs8 ∧
(((cs8)).length = 25 ∧ wrs h24 b1 0 25 ∧ ∀ u ∈ ((cs8) : List Value), u.oneCell' = true) ∧ ∀ h26 : Heap, h26 = setr h24 b1 0 (cs8) →
∃ cs9 : List Value, row h26 b1 0 25 = some cs9 ∧
Post (.tuple #[(.agg (cs9).toArray), .nilIface]) h26)))) :
    Runs Tryd.prog 52 #[(.slice b bL bC)] h0 Post :=
  runs_of (args := [(.slice b bL bC)]) (fun n => ⟨true, false⟩) (fun _ => []) (fun n => match n with | 10 => some [(6, .slice)] | 14 => some [] | _ => none) (fun _ => []) Tryd.func52 rfl (by rw [Tryd.ntmps52]; simp) (Eq.mp (by kernel_rfl) H)

theorem vc_act_ReadDel (b : Option Addr) (bL bC : Nat) (h0 : Heap) (Post : Value → Heap → Prop) (H :
∀ (b1 : Nat) (h1 : Heap), b1 = h0.size → h1 = h0.push (.cells ([(.int .u8 (0 : Int)), (.int .u8 (0 : Int)), (.int .u8 (0 : Int)), (.int .u8 (0 : Int)), (.int .u8 (0 : Int)), (.int .u8 (0 : Int)), (.int .u8 (0 : Int)), (.int .u8 (0 : Int)), (.int .u8 (0 : Int)), (.int .u8 (0 : Int)), (.int .u8 (0 : Int)), (.int .u8 (0 : Int)), (.int .u8 (0 : Int)), (.int .u8 (0 : Int)), (.int .u8 (0 : Int)), (.int .u8 (0 : Int)), (.int .u8 (0 : Int)), (.int .u8 (0 : Int)), (.bool false), (.int .i64 (0 : Int)), (.int .i64 (0 : Int))] : List Value).toArray 77) →
∀ (b2 : Nat) (h2 : Heap), b2 = h1.size → h2 = h1.push (.cells ([(.int .u8 (2 : Int))] : List Value).toArray 5) →
Runs Tryd.prog 73 #[(.slice b bL bC), (.int .i64 (30 : Int)), (.slice (some ⟨b2, 0, none⟩) 1 1)] h2 fun r1 h3 =>
∃ v1 : Value,
r1 = v1 ∧
∃ t1 : Bool, ifeqH Tryd.prog h3 true (v1) (.nilIface) = some t1 ∧
bcase (!t1) (
((([(.int .u8 (0 : Int)), (.int .u8 (0 : Int)), (.int .u8 (0 : Int)), (.int .u8 (0 : Int)), (.int .u8 (0 : Int)), (.int .u8 (0 : Int)), (.int .u8 (0 : Int)), (.int .u8 (0 : Int)), (.int .u8 (0 : Int)), (.int .u8 (0 : Int)), (.int .u8 (0 : Int)), (.int .u8 (0 : Int)), (.int .u8 (0 : Int)), (.int .u8 (0 : Int)), (.int .u8 (0 : Int)), (.int .u8 (0 : Int)), (.int .u8 (0 : Int)), (.int .u8 (0 : Int)), (.bool false), (.int .i64 (0 : Int)), (.int .i64 (0 : Int))] : List Value)).length = 21 ∧ wrs h3 b1 0 21 ∧ ∀ u ∈ (([(.int .u8 (0 : Int)), (.int .u8 (0 : Int)), (.int .u8 (0 : Int)), (.int .u8 (0 : Int)), (.int .u8 (0 : Int)), (.int .u8 (0 : Int)), (.int .u8 (0 : Int)), (.int .u8 (0 : Int)), (.int .u8 (0 : Int)), (.int .u8 (0 : Int)), (.int .u8 (0 : Int)), (.int .u8 (0 : Int)), (.int .u8 (0 : Int)), (.int .u8 (0 : Int)), (.int .u8 (0 : Int)), (.int .u8 (0 : Int)), (.int .u8 (0 : Int)), (.int .u8 (0 : Int)), (.bool false), (.int .i64 (0 : Int)), (.int .i64 (0 : Int))] : List Value) : List Value), u.oneCell' = true) ∧ ∀ h4 : Heap, h4 = setr h3 b1 0 ([(.int .u8 (0 : Int)), (.int .u8 (0 : Int)), (.int .u8 (0 : Int)), (.int .u8 (0 : Int)), (.int .u8 (0 : Int)), (.int .u8 (0 : Int)), (.int .u8 (0 : Int)), (.int .u8 (0 : Int)), (.int .u8 (0 : Int)), (.int .u8 (0 : Int)), (.int .u8 (0 : Int)), (.int .u8 (0 : Int)), (.int .u8 (0 : Int)), (.int .u8 (0 : Int)), (.int .u8 (0 : Int)), (.int .u8 (0 : Int)), (.int .u8 (0 : Int)), (.int .u8 (0 : Int)), (.bool false), (.int .i64 (0 : Int)), (.int .i64 (0 : Int))] : List Value) →
∃ cs1 : List Value, row h4 b1 0 21 = some cs1 ∧
Post (.tuple #[(.agg (cs1).toArray), v1]) h4) (
(0 ≤ (26 : Int) ∧ (26 : Int) ≤ ((bL : Nat) : Int)) ∧
Runs Tryd.prog 75 #[(.slice (slcAddr b 26 bC 26) (bL - 26) (bC - 26))] h3 fun r2 h5 =>
∃ n1 : Int,
r2 = (.int .i64 n1) ∧
(0 ≤ n1 ∧ 0 < (4096 : Int) ∧ fits .i64 (n1 / (4096 : Int))) ∧
(0 ≤ (28 : Int) ∧ (28 : Int) ≤ ((bL : Nat) : Int)) ∧
Runs Tryd.prog 75 #[(.slice (slcAddr b 28 bC 28) (bL - 28) (bC - 28))] h5 fun r3 h6 =>
∃ n2 : Int,
r3 = (.int .i64 n2) ∧
∀ (b3 : Nat) (h7 : Heap), b3 = h6.size → h7 = h6.push (.cells ([(.int .u8 (0 : Int)), (.int .u8 (0 : Int)), (.int .u8 (0 : Int)), (.int .u8 (0 : Int)), (.int .u8 (0 : Int)), (.int .u8 (0 : Int)), (.int .u8 (0 : Int)), (.int .u8 (0 : Int)), (.int .u8 (0 : Int)), (.int .u8 (0 : Int)), (.int .u8 (0 : Int)), (.int .u8 (0 : Int)), (.int .u8 (0 : Int)), (.int .u8 (0 : Int)), (.int .u8 (0 : Int)), (.int .u8 (0 : Int)), (.int .u8 (0 : Int)), (.int .u8 (0 : Int)), (.bool false), (.int .i64 (0 : Int)), (.int .i64 (0 : Int))] : List Value).toArray 77) →
((([(.int .u8 (0 : Int)), (.int .u8 (0 : Int)), (.int .u8 (0 : Int)), (.int .u8 (0 : Int)), (.int .u8 (0 : Int)), (.int .u8 (0 : Int)), (.int .u8 (0 : Int)), (.int .u8 (0 : Int)), (.int .u8 (0 : Int)), (.int .u8 (0 : Int)), (.int .u8 (0 : Int)), (.int .u8 (0 : Int)), (.int .u8 (0 : Int)), (.int .u8 (0 : Int)), (.int .u8 (0 : Int)), (.int .u8 (0 : Int)), (.int .u8 (0 : Int)), (.int .u8 (0 : Int)), (.bool (decide ((0 : Int) < (bits .and .i64 n1 (2048 : Int))))), (.int .i64 (n1 / (4096 : Int))), (.int .i64 n2)] : List Value)).length = 21 ∧ wrs h7 b3 0 21 ∧ ∀ u ∈ (([(.int .u8 (0 : Int)), (.int .u8 (0 : Int)), (.int .u8 (0 : Int)), (.int .u8 (0 : Int)), (.int .u8 (0 : Int)), (.int .u8 (0 : Int)), (.int .u8 (0 : Int)), (.int .u8 (0 : Int)), (.int .u8 (0 : Int)), (.int .u8 (0 : Int)), (.int .u8 (0 : Int)), (.int .u8 (0 : Int)), (.int .u8 (0 : Int)), (.int .u8 (0 : Int)), (.int .u8 (0 : Int)), (.int .u8 (0 : Int)), (.int .u8 (0 : Int)), (.int .u8 (0 : Int)), (.bool (decide ((0 : Int) < (bits .and .i64 n1 (2048 : Int))))), (.int .i64 (n1 / (4096 : Int))), (.int .i64 n2)] : List Value) : List Value), u.oneCell' = true) ∧ ∀ h8 : Heap, h8 = setr h7 b3 0 ([(.int .u8 (0 : Int)), (.int .u8 (0 : Int)), (.int .u8 (0 : Int)), (.int .u8 (0 : Int)), (.int .u8 (0 : Int)), (.int .u8 (0 : Int)), (.int .u8 (0 : Int)), (.int .u8 (0 : Int)), (.int .u8 (0 : Int)), (.int .u8 (0 : Int)), (.int .u8 (0 : Int)), (.int .u8 (0 : Int)), (.int .u8 (0 : Int)), (.int .u8 (0 : Int)), (.int .u8 (0 : Int)), (.int .u8 (0 : Int)), (.int .u8 (0 : Int)), (.int .u8 (0 : Int)), (.bool (decide ((0 : Int) < (bits .and .i64 n1 (2048 : Int))))), (.int .i64 (n1 / (4096 : Int))), (.int .i64 n2)] : List Value) →
Runs Tryd.prog 74 #[(.slice b bL bC)] h8 fun r4 h9 =>
∃ cs2 : List Value,
∃ cs3 : List Value,
∃ cs4 : List Value,
r4 = (.tuple #[(.agg (cs2).toArray), (.agg (cs3).toArray), (.agg (cs4).toArray)]) ∧
(((cs2)).length = 6 ∧ wrs h9 b3 0 6 ∧ ∀ u ∈ ((cs2) : List Value), u.oneCell' = true) ∧ ∀ h10 : Heap, h10 = setr h9 b3 0 (cs2) →
(((cs3)).length = 6 ∧ wrs h10 b3 6 6 ∧ ∀ u ∈ ((cs3) : List Value), u.oneCell' = true) ∧ ∀ h11 : Heap, h11 = setr h10 b3 6 (cs3) →
(((cs4)).length = 6 ∧ wrs h11 b3 12 6 ∧ ∀ u ∈ ((cs4) : List Value), u.oneCell' = true) ∧ ∀ h12 : Heap, h12 = setr h11 b3 12 (cs4) →
∃ cs5 : List Value, row h12 b3 0 21 = some cs5 ∧
Runs Tryd.prog 77 #[(.agg (cs5).toArray)] h12 fun r5 h13 =>
∃ (s1 : Option Addr) (s1l s1c : Nat),
∃ v2 : Value,
r5 = (.tuple #[(.slice s1 s1l s1c), v2]) ∧
∃ t2 : Bool, ifeqH Tryd.prog h13 true (v2) (.nilIface) = some t2 ∧
bcase (!t2) (
∃ v3 : Value, cell h13 3 0 = some v3 ∧
((([(.int .u8 (0 : Int)), (.int .u8 (0 : Int)), (.int .u8 (0 : Int)), (.int .u8 (0 : Int)), (.int .u8 (0 : Int)), (.int .u8 (0 : Int)), (.int .u8 (0 : Int)), (.int .u8 (0 : Int)), (.int .u8 (0 : Int)), (.int .u8 (0 : Int)), (.int .u8 (0 : Int)), (.int .u8 (0 : Int)), (.int .u8 (0 : Int)), (.int .u8 (0 : Int)), (.int .u8 (0 : Int)), (.int .u8 (0 : Int)), (.int .u8 (0 : Int)), (.int .u8 (0 : Int)), (.bool false), (.int .i64 (0 : Int)), (.int .i64 (0 : Int))] : List Value)).length = 21 ∧ wrs h13 b1 0 21 ∧ ∀ u ∈ (([(.int .u8 (0 : Int)), (.int .u8 (0 : Int)), (.int .u8 (0 : Int)), (.int .u8 (0 : Int)), (.int .u8 (0 : Int)), (.int .u8 (0 : Int)), (.int .u8 (0 : Int)), (.int .u8 (0 : Int)), (.int .u8 (0 : Int)), (.int .u8 (0 : Int)), (.int .u8 (0 : Int)), (.int .u8 (0 : Int)), (.int .u8 (0 : Int)), (.int .u8 (0 : Int)), (.int .u8 (0 : Int)), (.int .u8 (0 : Int)), (.int .u8 (0 : Int)), (.int .u8 (0 : Int)), (.bool false), (.int .i64 (0 : Int)), (.int .i64 (0 : Int))] : List Value) : List Value), u.oneCell' = true) ∧ ∀ h14 : Heap, h14 = setr h13 b1 0 ([(.int .u8 (0 : Int)), (.int .u8 (0 : Int)), (.int .u8 (0 : Int)), (.int .u8 (0 : Int)), (.int .u8 (0 : Int)), (.int .u8 (0 : Int)), (.int .u8 (0 : Int)), (.int .u8 (0 : Int)), (.int .u8 (0 : Int)), (.int .u8 (0 : Int)), (.int .u8 (0 : Int)), (.int .u8 (0 : Int)), (.int .u8 (0 : Int)), (.int .u8 (0 : Int)), (.int .u8 (0 : Int)), (.int .u8 (0 : Int)), (.int .u8 (0 : Int)), (.int .u8 (0 : Int)), (.bool false), (.int .i64 (0 : Int)), (.int .i64 (0 : Int))] : List Value) →
cell h14 3 0 = some v3 ∧
∃ cs6 : List Value, row h14 b1 0 21 = some cs6 ∧
Post (.tuple #[(.agg (cs6).toArray), v3]) h14) (
Runs Tryd.prog 71 #[(.slice s1 s1l s1c), (.slice b bL bC)] h13 fun r6 h15 =>
∃ t3 : Bool,
r6 = (.bool t3) ∧
bcase (!t3) (
∃ v4 : Value, cell h15 3 0 = some v4 ∧
((([(.int .u8 (0 : Int)), (.int .u8 (0 : Int)), (.int .u8 (0 : Int)), (.int .u8 (0 : Int)), (.int .u8 (0 : Int)), (.int .u8 (0 : Int)), (.int .u8 (0 : Int)), (.int .u8 (0 : Int)), (.int .u8 (0 : Int)), (.int .u8 (0 : Int)), (.int .u8 (0 : Int)), (.int .u8 (0 : Int)), (.int .u8 (0 : Int)), (.int .u8 (0 : Int)), (.int .u8 (0 : Int)), (.int .u8 (0 : Int)), (.int .u8 (0 : Int)), (.int .u8 (0 : Int)), (.bool false), (.int .i64 (0 : Int)), (.int .i64 (0 : Int))] : List Value)).length = 21 ∧ wrs h15 b1 0 21 ∧ ∀ u ∈ (([(.int .u8 (0 : Int)), (.int .u8 (0 : Int)), (.int .u8 (0 : Int)), (.int .u8 (0 : Int)), (.int .u8 (0 : Int)), (.int .u8 (0 : Int)), (.int .u8 (0 : Int)), (.int .u8 (0 : Int)), (.int .u8 (0 : Int)), (.int .u8 (0 : Int)), (.int .u8 (0 : Int)), (.int .u8 (0 : Int)), (.int .u8 (0 : Int)), (.int .u8 (0 : Int)), (.int .u8 (0 : Int)), (.int .u8 (0 : Int)), (.int .u8 (0 : Int)), (.int .u8 (0 : Int)), (.bool false), (.int .i64 (0 : Int)), (.int .i64 (0 : Int))] : List Value) : List Value), u.oneCell' = true) ∧ ∀ h16 : Heap, h16 = setr h15 b1 0 ([(.int .u8 (0 : Int)), (.int .u8 (0 : Int)), (.int .u8 (0 : Int)), (.int .u8 (0 : Int)), (.int .u8 (0 : Int)), (.int .u8 (0 : Int)), (.int .u8 (0 : Int)), (.int .u8 (0 : Int)), (.int .u8 (0 : Int)), (.int .u8 (0 : Int)), (.int .u8 (0 : Int)), (.int .u8 (0 : Int)), (.int .u8 (0 : Int)), (.int .u8 (0 : Int)), (.int .u8 (0 : Int)), (.int .u8 (0 : Int)), (.int .u8 (0 : Int)), (.int .u8 (0 : Int)), (.bool false), (.int .i64 (0 : Int)), (.int .i64 (0 : Int))] : List Value) →
cell h16 3 0 = some v4 ∧
∃ cs7 : List Value, row h16 b1 0 21 = some cs7 ∧
Post (.tuple #[(.agg (cs7).toArray), v4]) h16) (
∃ cs8 : List Value, row h15 b3 0 21 = some cs8 ∧
(((cs8)).length = 21 ∧ wrs h15 b1 0 21 ∧ ∀ u ∈ ((cs8) : List Value), u.oneCell' = true) ∧ ∀ h17 : Heap, h17 = setr h15 b1 0 (cs8) →
∃ cs9 : List Value, row h17 b1 0 21 = some cs9 ∧
Post (.tuple #[(.agg (cs9).toArray), .nilIface]) h17)))) :
    Runs Tryd.prog 54 #[(.slice b bL bC)] h0 Post :=
  runs_of (args := [(.slice b bL bC)]) (fun n => ⟨true, false⟩) (fun _ => []) (fun _ => none) (fun _ => []) Tryd.func54 rfl (by rw [Tryd.ntmps54]; simp) (Eq.mp (by kernel_rfl) H)

theorem vc_act_top (n : Int) (most : Int) (h0 : Heap) (Post : Value → Heap → Prop) (H :
bcase (decide ((0 : Int) ≤ n)) (
Post (.bool (decide (n ≤ most))) h0) (
Post (.bool false) h0)) :
    Runs Tryd.prog 85 #[(.int .i64 n), (.int .i64 most)] h0 Post :=
  runs_of (args := [(.int .i64 n), (.int .i64 most)]) (fun n => ⟨true, false⟩) (fun _ => []) (fun _ => none) (fun _ => []) Tryd.func85 rfl (by rw [Tryd.ntmps85]; simp) (Eq.mp (by kernel_rfl) H)

theorem vc_act_front (to_ : List Value) (from_ : List Value) (bss : List Value) (what : Int) (h0 : Heap) (Post : Value → Heap → Prop) (H :
∀ (b1 : Nat) (h1 : Heap), b1 = h0.size → h1 = h0.push (.cells (to_).toArray 31) →
∀ (b2 : Nat) (h2 : Heap), b2 = h1.size → h2 = h1.push (.cells (from_).toArray 31) →
∀ (b3 : Nat) (h3 : Heap), b3 = h2.size → h3 = h2.push (.cells (bss).toArray 31) →
∀ (b4 : Nat) (h4 : Heap), b4 = h3.size → h4 = h3.push (.cells ([(.int .u8 (208 : Int)), (.int .u8 (0 : Int)), (.int .u8 (0 : Int)), (.int .u8 (0 : Int))] : List Value).toArray 5) →
∃ cs1 : List Value, row h4 b1 0 6 = some cs1 ∧
∃ cs2 : List Value, row h4 b2 0 6 = some cs2 ∧
∃ cs3 : List Value, row h4 b3 0 6 = some cs3 ∧
(cs1).length = 6 ∧
(cs2).length = 6 ∧
(cs3).length = 6 ∧
∀ (b5 : Nat) (h5 : Heap), b5 = h4.size → h5 = h4.push (.cells (((cs1) ++ ((cs2) ++ ((cs3) ++ [])))).toArray 31) →
∃ (I1 : Option Addr → Nat → Nat → Int → Heap → Prop) (m1 : Option Addr → Nat → Nat → Int → Heap → Nat), I1 (some ⟨b4, 0, none⟩) 4 4 (0 : Int) h5 ∧ ∀ _ : Env,
∀ (b_1 : Option Addr) (b_1l b_1c : Nat) (x2 : Int) (h6 : Heap), I1 b_1 b_1l b_1c x2 h6 →
bcase (decide (x2 < ((3 : Nat) : Int))) (
(0 ≤ x2 ∧ x2 < ((3 : Nat) : Int)) ∧
∃ cs4 : List Value, row h6 b5 (0 + ((x2).toNat * 6)) 6 = some cs4 ∧
∀ (b6 : Nat) (h7 : Heap), b6 = h6.size → h7 = h6.push (.cells ([(.int .u8 (0 : Int)), (.int .u8 (0 : Int)), (.int .u8 (0 : Int)), (.int .u8 (0 : Int)), (.int .u8 (0 : Int)), (.int .u8 (0 : Int))] : List Value).toArray 31) →
(((cs4)).length = 6 ∧ wrs h7 b6 0 6 ∧ ∀ u ∈ ((cs4) : List Value), u.oneCell' = true) ∧ ∀ h8 : Heap, h8 = setr h7 b6 0 (cs4) →
∃ news1 : List Value, (row h8 b6 0 6 = some news1 ∧ ∀ u ∈ news1, u.oneCell' = true) ∧
appK h8 b_1 b_1l b_1c 6 1 5 1 news1 fun (a1 : Option Addr) (cap1 : Nat) (h9 : Heap) =>
fits .i64 (x2 + (1 : Int)) ∧
I1 a1 (b_1l + 6) cap1 (x2 + (1 : Int)) h9 ∧ m1 a1 (b_1l + 6) cap1 (x2 + (1 : Int)) h9 < m1 b_1 b_1l b_1c x2 h6) (
∀ (b7 : Nat) (h10 : Heap), b7 = h6.size → h10 = h6.push (.cells ([(.int .u8 (0 : Int)), (.int .u8 (0 : Int)), (.int .u8 (3 : Int)), (.int .u8 what)] : List Value).toArray 5) →
∃ news2 : List Value, (row h10 b7 0 4 = some news2 ∧ ∀ u ∈ news2, u.oneCell' = true) ∧
appK h10 b_1 b_1l b_1c 4 1 5 1 news2 fun (a2 : Option Addr) (cap2 : Nat) (h11 : Heap) =>
Post (.slice a2 (b_1l + 4) cap2) h11)) :
    Runs Tryd.prog 86 #[(.agg (to_).toArray), (.agg (from_).toArray), (.agg (bss).toArray), (.int .u8 what)] h0 Post :=
  runs_of (args := [(.agg (to_).toArray), (.agg (from_).toArray), (.agg (bss).toArray), (.int .u8 what)]) (fun n => ⟨true, false⟩) (fun n => match n with | 0 => [(9, .slice), (18, .int .i64)] | _ => []) (fun _ => none) (fun _ => []) Tryd.func86 rfl (by rw [Tryd.ntmps86]; simp) (Eq.mp (by kernel_rfl) H)

theorem vc_act_two (n : Int) (h0 : Heap) (Post : Value → Heap → Prop) (H :
(0 ≤ (8 : Int) ∧ (8 : Int) ≤ kbits .i64) ∧
∀ (b1 : Nat) (h1 : Heap), b1 = h0.size → h1 = h0.push (.cells ([(.int .u8 (IntKind.u8.wrap n)), (.int .u8 (IntKind.u8.wrap (n / (256 : Int))))] : List Value).toArray 5) →
Post (.slice (some ⟨b1, 0, none⟩) 2 2) h1) :
    Runs Tryd.prog 87 #[(.int .i64 n)] h0 Post :=
  runs_of (args := [(.int .i64 n)]) (fun n => ⟨false, false⟩) (fun _ => []) (fun _ => none) (fun _ => []) Tryd.func87 rfl (by rw [Tryd.ntmps87]; simp) (Eq.mp (by kernel_rfl) H)

theorem vc_muezzinref1_AddBytes (f : List Value) (h0 : Heap) (Post : Value → Heap → Prop) (H :
∀ (b1 : Nat) (h1 : Heap), b1 = h0.size → h1 = h0.push (.cells (f).toArray 65) →
∃ n1 : Int, cell h1 b1 19 = some (.int .i64 n1) ∧
Runs Tryd.prog 43 #[(.int .i64 n1), (.int .i64 (255 : Int))] h1 fun r1 h2 =>
∃ t1 : Bool,
r1 = (.bool t1) ∧
bcase t1 (
Post (.tuple #[(.slice none 0 0), (.int .i64 (103 : Int))]) h2) (
∃ n2 : Int, cell h2 b1 20 = some (.int .i64 n2) ∧
Runs Tryd.prog 43 #[(.int .i64 n2), (.int .i64 (7 : Int))] h2 fun r2 h3 =>
∃ t2 : Bool,
r2 = (.bool t2) ∧
bcase t2 (
Post (.tuple #[(.slice none 0 0), (.int .i64 (103 : Int))]) h3) (
∃ n3 : Int, cell h3 b1 21 = some (.int .i64 n3) ∧
Runs Tryd.prog 43 #[(.int .i64 n3), (.int .i64 (1023 : Int))] h3 fun r3 h4 =>
∃ t3 : Bool,
r3 = (.bool t3) ∧
bcase t3 (
Post (.tuple #[(.slice none 0 0), (.int .i64 (103 : Int))]) h4) (
∃ n4 : Int, cell h4 b1 22 = some (.int .i64 n4) ∧
Runs Tryd.prog 43 #[(.int .i64 n4), (.int .i64 (65535 : Int))] h4 fun r4 h5 =>
∃ t4 : Bool,
r4 = (.bool t4) ∧
bcase t4 (
Post (.tuple #[(.slice none 0 0), (.int .i64 (103 : Int))]) h5) (
∃ n5 : Int, cell h5 b1 24 = some (.int .i64 n5) ∧
Runs Tryd.prog 43 #[(.int .i64 n5), (.int .i64 (65535 : Int))] h5 fun r5 h6 =>
∃ t5 : Bool,
r5 = (.bool t5) ∧
bcase t5 (
Post (.tuple #[(.slice none 0 0), (.int .i64 (103 : Int))]) h6) (
∃ n6 : Int, cell h6 b1 23 = some (.int .i64 n6) ∧
Runs Tryd.prog 43 #[(.int .i64 n6), (.int .i64 (4095 : Int))] h6 fun r6 h7 =>
∃ t6 : Bool,
r6 = (.bool t6) ∧
bcase t6 (
Post (.tuple #[(.slice none 0 0), (.int .i64 (103 : Int))]) h7) (
∃ t7 : Bool, cell h7 b1 18 = some (.bool t7) ∧
bcase (!t7) (
∃ n7 : Int, cell h7 b1 24 = some (.int .i64 n7) ∧
bcase (!decide (n7 = (0 : Int))) (
Post (.tuple #[(.slice none 0 0), (.int .i64 (103 : Int))]) h7) (
∃ t8 : Bool, cell h7 b1 18 = some (.bool t8) ∧
bcase t8 (
∃ n8 : Int, cell h7 b1 23 = some (.int .i64 n8) ∧
bcase (!decide (n8 = (0 : Int))) (
Post (.tuple #[(.slice none 0 0), (.int .i64 (103 : Int))]) h7) (
∃ cs1 : List Value, row h7 b1 0 6 = some cs1 ∧
∃ cs2 : List Value, row h7 b1 6 6 = some cs2 ∧
∃ cs3 : List Value, row h7 b1 12 6 = some cs3 ∧
Runs Tryd.prog 55 #[(.agg (cs1).toArray), (.agg (cs2).toArray), (.agg (cs3).toArray)] h7 fun r7 h8 =>
∃ (s1 : Option Addr) (s1l s1c : Nat),
r7 = (.slice s1 s1l s1c) ∧
∃ t9 : Bool, cell h8 b1 18 = some (.bool t9) ∧
bcase t9 (
∃ n9 : Int, cell h8 b1 19 = some (.int .i64 n9) ∧
fits .u8 n9 ∧
∃ n10 : Int, cell h8 b1 24 = some (.int .i64 n10) ∧
∃ n11 : Int, cell h8 b1 20 = some (.int .i64 n11) ∧
fits .i64 (n11 * (4 : Int)) ∧
fits .i64 ((2 : Int) + (n11 * (4 : Int))) ∧
∃ n12 : Int, cell h8 b1 21 = some (.int .i64 n12) ∧
fits .i64 (n12 * (64 : Int)) ∧
fits .i64 (((2 : Int) + (n11 * (4 : Int))) + (n12 * (64 : Int))) ∧
∃ n13 : Int, cell h8 b1 22 = some (.int .i64 n13) ∧
∀ (b2 : Nat) (h9 : Heap), b2 = h8.size → h9 = h8.push (.cells ([(.int .u8 (1 : Int)), (.int .u8 n9)] : List Value).toArray 5) →
∃ news1 : List Value, (row h9 b2 0 2 = some news1 ∧ ∀ u ∈ news1, u.oneCell' = true) ∧
appK h9 s1 s1l s1c 2 1 5 1 news1 fun (a1 : Option Addr) (cap1 : Nat) (h10 : Heap) =>
cell h10 b1 22 = some (.int .i64 n13) ∧
cell h10 b1 21 = some (.int .i64 n12) ∧
cell h10 b1 20 = some (.int .i64 n11) ∧
cell h10 b1 24 = some (.int .i64 n10) ∧
cell h10 b1 19 = some (.int .i64 n9) ∧
Runs Tryd.prog 46 #[(.slice a1 (s1l + 2) cap1), (.int .i64 n10)] h10 fun r8 h11 =>
∃ (s2 : Option Addr) (s2l s2c : Nat),
r8 = (.slice s2 s2l s2c) ∧
cell h11 b1 22 = some (.int .i64 n13) ∧
cell h11 b1 21 = some (.int .i64 n12) ∧
cell h11 b1 20 = some (.int .i64 n11) ∧
cell h11 b1 19 = some (.int .i64 n9) ∧
Runs Tryd.prog 46 #[(.slice s2 s2l s2c), (.int .i64 (((2 : Int) + (n11 * (4 : Int))) + (n12 * (64 : Int))))] h11 fun r9 h12 =>
∃ (s3 : Option Addr) (s3l s3c : Nat),
r9 = (.slice s3 s3l s3c) ∧
cell h12 b1 22 = some (.int .i64 n13) ∧
cell h12 b1 21 = some (.int .i64 n12) ∧
cell h12 b1 20 = some (.int .i64 n11) ∧
cell h12 b1 19 = some (.int .i64 n9) ∧
Runs Tryd.prog 46 #[(.slice s3 s3l s3c), (.int .i64 n13)] h12 fun r10 h13 =>
∃ (s4 : Option Addr) (s4l s4c : Nat),
r10 = (.slice s4 s4l s4c) ∧
cell h13 b1 21 = some (.int .i64 n12) ∧
cell h13 b1 20 = some (.int .i64 n11) ∧
cell h13 b1 19 = some (.int .i64 n9) ∧
Post (.tuple #[(.slice s4 s4l s4c), (.int .i64 (0 : Int))]) h13) (
∃ n14 : Int, cell h8 b1 19 = some (.int .i64 n14) ∧
fits .u8 n14 ∧
∃ n15 : Int, cell h8 b1 20 = some (.int .i64 n15) ∧
fits .i64 (n15 * (4 : Int)) ∧
fits .i64 ((2 : Int) + (n15 * (4 : Int))) ∧
∃ n16 : Int, cell h8 b1 21 = some (.int .i64 n16) ∧
fits .i64 (n16 * (64 : Int)) ∧
fits .i64 (((2 : Int) + (n15 * (4 : Int))) + (n16 * (64 : Int))) ∧
∃ n17 : Int, cell h8 b1 22 = some (.int .i64 n17) ∧
∃ n18 : Int, cell h8 b1 23 = some (.int .i64 n18) ∧
fits .i64 (n18 * (16 : Int)) ∧
∀ (b3 : Nat) (h14 : Heap), b3 = h8.size → h14 = h8.push (.cells ([(.int .u8 (0 : Int)), (.int .u8 n14)] : List Value).toArray 5) →
∃ news2 : List Value, (row h14 b3 0 2 = some news2 ∧ ∀ u ∈ news2, u.oneCell' = true) ∧
appK h14 s1 s1l s1c 2 1 5 1 news2 fun (a2 : Option Addr) (cap2 : Nat) (h15 : Heap) =>
cell h15 b1 23 = some (.int .i64 n18) ∧
cell h15 b1 22 = some (.int .i64 n17) ∧
cell h15 b1 21 = some (.int .i64 n16) ∧
cell h15 b1 20 = some (.int .i64 n15) ∧
cell h15 b1 19 = some (.int .i64 n14) ∧
Runs Tryd.prog 46 #[(.slice a2 (s1l + 2) cap2), (.int .i64 (((2 : Int) + (n15 * (4 : Int))) + (n16 * (64 : Int))))] h15 fun r11 h16 =>
∃ (s5 : Option Addr) (s5l s5c : Nat),
r11 = (.slice s5 s5l s5c) ∧
cell h16 b1 23 = some (.int .i64 n18) ∧
cell h16 b1 22 = some (.int .i64 n17) ∧
cell h16 b1 21 = some (.int .i64 n16) ∧
cell h16 b1 20 = some (.int .i64 n15) ∧
cell h16 b1 19 = some (.int .i64 n14) ∧
Runs Tryd.prog 46 #[(.slice s5 s5l s5c), (.int .i64 n17)] h16 fun r12 h17 =>
∃ (s6 : Option Addr) (s6l s6c : Nat),
r12 = (.slice s6 s6l s6c) ∧
cell h17 b1 23 = some (.int .i64 n18) ∧
cell h17 b1 21 = some (.int .i64 n16) ∧
cell h17 b1 20 = some (.int .i64 n15) ∧
cell h17 b1 19 = some (.int .i64 n14) ∧
Runs Tryd.prog 46 #[(.slice s6 s6l s6c), (.int .i64 (n18 * (16 : Int)))] h17 fun r13 h18 =>
∃ (s7 : Option Addr) (s7l s7c : Nat),
r13 = (.slice s7 s7l s7c) ∧
cell h18 b1 23 = some (.int .i64 n18) ∧
cell h18 b1 21 = some (.int .i64 n16) ∧
cell h18 b1 20 = some (.int .i64 n15) ∧
cell h18 b1 19 = some (.int .i64 n14) ∧
Post (.tuple #[(.slice s7 s7l s7c), (.int .i64 (0 : Int))]) h18))) (
∃ cs4 : List Value, row h7 b1 0 6 = some cs4 ∧
∃ cs5 : List Value, row h7 b1 6 6 = some cs5 ∧
∃ cs6 : List Value, row h7 b1 12 6 = some cs6 ∧
Runs Tryd.prog 55 #[(.agg (cs4).toArray), (.agg (cs5).toArray), (.agg (cs6).toArray)] h7 fun r14 h19 =>
∃ (s8 : Option Addr) (s8l s8c : Nat),
r14 = (.slice s8 s8l s8c) ∧
∃ t10 : Bool, cell h19 b1 18 = some (.bool t10) ∧
bcase t10 (
∃ n19 : Int, cell h19 b1 19 = some (.int .i64 n19) ∧
fits .u8 n19 ∧
∃ n20 : Int, cell h19 b1 24 = some (.int .i64 n20) ∧
∃ n21 : Int, cell h19 b1 20 = some (.int .i64 n21) ∧
fits .i64 (n21 * (4 : Int)) ∧
fits .i64 ((2 : Int) + (n21 * (4 : Int))) ∧
∃ n22 : Int, cell h19 b1 21 = some (.int .i64 n22) ∧
fits .i64 (n22 * (64 : Int)) ∧
fits .i64 (((2 : Int) + (n21 * (4 : Int))) + (n22 * (64 : Int))) ∧
∃ n23 : Int, cell h19 b1 22 = some (.int .i64 n23) ∧
∀ (b4 : Nat) (h20 : Heap), b4 = h19.size → h20 = h19.push (.cells ([(.int .u8 (1 : Int)), (.int .u8 n19)] : List Value).toArray 5) →
∃ news3 : List Value, (row h20 b4 0 2 = some news3 ∧ ∀ u ∈ news3, u.oneCell' = true) ∧
appK h20 s8 s8l s8c 2 1 5 1 news3 fun (a3 : Option Addr) (cap3 : Nat) (h21 : Heap) =>
cell h21 b1 22 = some (.int .i64 n23) ∧
cell h21 b1 21 = some (.int .i64 n22) ∧
cell h21 b1 20 = some (.int .i64 n21) ∧
cell h21 b1 24 = some (.int .i64 n20) ∧
cell h21 b1 19 = some (.int .i64 n19) ∧
Runs Tryd.prog 46 #[(.slice a3 (s8l + 2) cap3), (.int .i64 n20)] h21 fun r15 h22 =>
∃ (s9 : Option Addr) (s9l s9c : Nat),
r15 = (.slice s9 s9l s9c) ∧
cell h22 b1 22 = some (.int .i64 n23) ∧
cell h22 b1 21 = some (.int .i64 n22) ∧
cell h22 b1 20 = some (.int .i64 n21) ∧
cell h22 b1 19 = some (.int .i64 n19) ∧
Runs Tryd.prog 46 #[(.slice s9 s9l s9c), (.int .i64 (((2 : Int) + (n21 * (4 : Int))) + (n22 * (64 : Int))))] h22 fun r16 h23 =>
∃ (s10 : Option Addr) (s10l s10c : Nat),
r16 = (.slice s10 s10l s10c) ∧
cell h23 b1 22 = some (.int .i64 n23) ∧
cell h23 b1 21 = some (.int .i64 n22) ∧
cell h23 b1 20 = some (.int .i64 n21) ∧
cell h23 b1 19 = some (.int .i64 n19) ∧
Runs Tryd.prog 46 #[(.slice s10 s10l s10c), (.int .i64 n23)] h23 fun r17 h24 =>
∃ (s11 : Option Addr) (s11l s11c : Nat),
r17 = (.slice s11 s11l s11c) ∧
cell h24 b1 21 = some (.int .i64 n22) ∧
cell h24 b1 20 = some (.int .i64 n21) ∧
cell h24 b1 19 = some (.int .i64 n19) ∧
Post (.tuple #[(.slice s11 s11l s11c), (.int .i64 (0 : Int))]) h24) (
∃ n24 : Int, cell h19 b1 19 = some (.int .i64 n24) ∧
fits .u8 n24 ∧
∃ n25 : Int, cell h19 b1 20 = some (.int .i64 n25) ∧
fits .i64 (n25 * (4 : Int)) ∧
fits .i64 ((2 : Int) + (n25 * (4 : Int))) ∧
∃ n26 : Int, cell h19 b1 21 = some (.int .i64 n26) ∧
fits .i64 (n26 * (64 : Int)) ∧
fits .i64 (((2 : Int) + (n25 * (4 : Int))) + (n26 * (64 : Int))) ∧
∃ n27 : Int, cell h19 b1 22 = some (.int .i64 n27) ∧
∃ n28 : Int, cell h19 b1 23 = some (.int .i64 n28) ∧
fits .i64 (n28 * (16 : Int)) ∧
∀ (b5 : Nat) (h25 : Heap), b5 = h19.size → h25 = h19.push (.cells ([(.int .u8 (0 : Int)), (.int .u8 n24)] : List Value).toArray 5) →
∃ news4 : List Value, (row h25 b5 0 2 = some news4 ∧ ∀ u ∈ news4, u.oneCell' = true) ∧
appK h25 s8 s8l s8c 2 1 5 1 news4 fun (a4 : Option Addr) (cap4 : Nat) (h26 : Heap) =>
cell h26 b1 23 = some (.int .i64 n28) ∧
cell h26 b1 22 = some (.int .i64 n27) ∧
cell h26 b1 21 = some (.int .i64 n26) ∧
cell h26 b1 20 = some (.int .i64 n25) ∧
cell h26 b1 19 = some (.int .i64 n24) ∧
Runs Tryd.prog 46 #[(.slice a4 (s8l + 2) cap4), (.int .i64 (((2 : Int) + (n25 * (4 : Int))) + (n26 * (64 : Int))))] h26 fun r18 h27 =>
∃ (s12 : Option Addr) (s12l s12c : Nat),
r18 = (.slice s12 s12l s12c) ∧
cell h27 b1 23 = some (.int .i64 n28) ∧
cell h27 b1 22 = some (.int .i64 n27) ∧
cell h27 b1 21 = some (.int .i64 n26) ∧
cell h27 b1 20 = some (.int .i64 n25) ∧
cell h27 b1 19 = some (.int .i64 n24) ∧
Runs Tryd.prog 46 #[(.slice s12 s12l s12c), (.int .i64 n27)] h27 fun r19 h28 =>
∃ (s13 : Option Addr) (s13l s13c : Nat),
r19 = (.slice s13 s13l s13c) ∧
cell h28 b1 23 = some (.int .i64 n28) ∧
cell h28 b1 21 = some (.int .i64 n26) ∧
cell h28 b1 20 = some (.int .i64 n25) ∧
cell h28 b1 19 = some (.int .i64 n24) ∧
Runs Tryd.prog 46 #[(.slice s13 s13l s13c), (.int .i64 (n28 * (16 : Int)))] h28 fun r20 h29 =>
∃ (s14 : Option Addr) (s14l s14c : Nat),
r20 = (.slice s14 s14l s14c) ∧
cell h29 b1 23 = some (.int .i64 n28) ∧
cell h29 b1 21 = some (.int .i64 n26) ∧
cell h29 b1 20 = some (.int .i64 n25) ∧
cell h29 b1 19 = some (.int .i64 n24) ∧
Post (.tuple #[(.slice s14 s14l s14c), (.int .i64 (0 : Int))]) h29)))) (
∃ t11 : Bool, cell h7 b1 18 = some (.bool t11) ∧
bcase t11 (
∃ n29 : Int, cell h7 b1 23 = some (.int .i64 n29) ∧
bcase (!decide (n29 = (0 : Int))) (
Post (.tuple #[(.slice none 0 0), (.int .i64 (103 : Int))]) h7) (
∃ cs7 : List Value, row h7 b1 0 6 = some cs7 ∧
∃ cs8 : List Value, row h7 b1 6 6 = some cs8 ∧
∃ cs9 : List Value, row h7 b1 12 6 = some cs9 ∧
Runs Tryd.prog 55 #[(.agg (cs7).toArray), (.agg (cs8).toArray), (.agg (cs9).toArray)] h7 fun r21 h30 =>
∃ (s15 : Option Addr) (s15l s15c : Nat),
r21 = (.slice s15 s15l s15c) ∧
∃ t12 : Bool, cell h30 b1 18 = some (.bool t12) ∧
bcase t12 (
∃ n30 : Int, cell h30 b1 19 = some (.int .i64 n30) ∧
fits .u8 n30 ∧
∃ n31 : Int, cell h30 b1 24 = some (.int .i64 n31) ∧
∃ n32 : Int, cell h30 b1 20 = some (.int .i64 n32) ∧
fits .i64 (n32 * (4 : Int)) ∧
fits .i64 ((2 : Int) + (n32 * (4 : Int))) ∧
∃ n33 : Int, cell h30 b1 21 = some (.int .i64 n33) ∧
fits .i64 (n33 * (64 : Int)) ∧
fits .i64 (((2 : Int) + (n32 * (4 : Int))) + (n33 * (64 : Int))) ∧
∃ n34 : Int, cell h30 b1 22 = some (.int .i64 n34) ∧
∀ (b6 : Nat) (h31 : Heap), b6 = h30.size → h31 = h30.push (.cells ([(.int .u8 (1 : Int)), (.int .u8 n30)] : List Value).toArray 5) →
∃ news5 : List Value, (row h31 b6 0 2 = some news5 ∧ ∀ u ∈ news5, u.oneCell' = true) ∧
appK h31 s15 s15l s15c 2 1 5 1 news5 fun (a5 : Option Addr) (cap5 : Nat) (h32 : Heap) =>
cell h32 b1 22 = some (.int .i64 n34) ∧
cell h32 b1 21 = some (.int .i64 n33) ∧
cell h32 b1 20 = some (.int .i64 n32) ∧
cell h32 b1 24 = some (.int .i64 n31) ∧
cell h32 b1 19 = some (.int .i64 n30) ∧
Runs Tryd.prog 46 #[(.slice a5 (s15l + 2) cap5), (.int .i64 n31)] h32 fun r22 h33 =>
∃ (s16 : Option Addr) (s16l s16c : Nat),
r22 = (.slice s16 s16l s16c) ∧
cell h33 b1 22 = some (.int .i64 n34) ∧
cell h33 b1 21 = some (.int .i64 n33) ∧
cell h33 b1 20 = some (.int .i64 n32) ∧
cell h33 b1 19 = some (.int .i64 n30) ∧
Runs Tryd.prog 46 #[(.slice s16 s16l s16c), (.int .i64 (((2 : Int) + (n32 * (4 : Int))) + (n33 * (64 : Int))))] h33 fun r23 h34 =>
∃ (s17 : Option Addr) (s17l s17c : Nat),
r23 = (.slice s17 s17l s17c) ∧
cell h34 b1 22 = some (.int .i64 n34) ∧
cell h34 b1 21 = some (.int .i64 n33) ∧
cell h34 b1 20 = some (.int .i64 n32) ∧
cell h34 b1 19 = some (.int .i64 n30) ∧
Runs Tryd.prog 46 #[(.slice s17 s17l s17c), (.int .i64 n34)] h34 fun r24 h35 =>
∃ (s18 : Option Addr) (s18l s18c : Nat),
r24 = (.slice s18 s18l s18c) ∧
cell h35 b1 21 = some (.int .i64 n33) ∧
cell h35 b1 20 = some (.int .i64 n32) ∧
cell h35 b1 19 = some (.int .i64 n30) ∧
Post (.tuple #[(.slice s18 s18l s18c), (.int .i64 (0 : Int))]) h35) (
∃ n35 : Int, cell h30 b1 19 = some (.int .i64 n35) ∧
fits .u8 n35 ∧
∃ n36 : Int, cell h30 b1 20 = some (.int .i64 n36) ∧
fits .i64 (n36 * (4 : Int)) ∧
fits .i64 ((2 : Int) + (n36 * (4 : Int))) ∧
∃ n37 : Int, cell h30 b1 21 = some (.int .i64 n37) ∧
fits .i64 (n37 * (64 : Int)) ∧
fits .i64 (((2 : Int) + (n36 * (4 : Int))) + (n37 * (64 : Int))) ∧
∃ n38 : Int, cell h30 b1 22 = some (.int .i64 n38) ∧
∃ n39 : Int, cell h30 b1 23 = some (.int .i64 n39) ∧
fits .i64 (n39 * (16 : Int)) ∧
∀ (b7 : Nat) (h36 : Heap), b7 = h30.size → h36 = h30.push (.cells ([(.int .u8 (0 : Int)), (.int .u8 n35)] : List Value).toArray 5) →
∃ news6 : List Value, (row h36 b7 0 2 = some news6 ∧ ∀ u ∈ news6, u.oneCell' = true) ∧
appK h36 s15 s15l s15c 2 1 5 1 news6 fun (a6 : Option Addr) (cap6 : Nat) (h37 : Heap) =>
cell h37 b1 23 = some (.int .i64 n39) ∧
cell h37 b1 22 = some (.int .i64 n38) ∧
cell h37 b1 21 = some (.int .i64 n37) ∧
cell h37 b1 20 = some (.int .i64 n36) ∧
cell h37 b1 19 = some (.int .i64 n35) ∧
Runs Tryd.prog 46 #[(.slice a6 (s15l + 2) cap6), (.int .i64 (((2 : Int) + (n36 * (4 : Int))) + (n37 * (64 : Int))))] h37 fun r25 h38 =>
∃ (s19 : Option Addr) (s19l s19c : Nat),
r25 = (.slice s19 s19l s19c) ∧
cell h38 b1 23 = some (.int .i64 n39) ∧
cell h38 b1 22 = some (.int .i64 n38) ∧
cell h38 b1 21 = some (.int .i64 n37) ∧
cell h38 b1 20 = some (.int .i64 n36) ∧
cell h38 b1 19 = some (.int .i64 n35) ∧
Runs Tryd.prog 46 #[(.slice s19 s19l s19c), (.int .i64 n38)] h38 fun r26 h39 =>
∃ (s20 : Option Addr) (s20l s20c : Nat),
r26 = (.slice s20 s20l s20c) ∧
cell h39 b1 23 = some (.int .i64 n39) ∧
cell h39 b1 21 = some (.int .i64 n37) ∧
cell h39 b1 20 = some (.int .i64 n36) ∧
cell h39 b1 19 = some (.int .i64 n35) ∧
Runs Tryd.prog 46 #[(.slice s20 s20l s20c), (.int .i64 (n39 * (16 : Int)))] h39 fun r27 h40 =>
∃ (s21 : Option Addr) (s21l s21c : Nat),
r27 = (.slice s21 s21l s21c) ∧
cell h40 b1 23 = some (.int .i64 n39) ∧
cell h40 b1 21 = some (.int .i64 n37) ∧
cell h40 b1 20 = some (.int .i64 n36) ∧
cell h40 b1 19 = some (.int .i64 n35) ∧
Post (.tuple #[(.slice s21 s21l s21c), (.int .i64 (0 : Int))]) h40))) (
∃ cs10 : List Value, row h7 b1 0 6 = some cs10 ∧
∃ cs11 : List Value, row h7 b1 6 6 = some cs11 ∧
∃ cs12 : List Value, row h7 b1 12 6 = some cs12 ∧
Runs Tryd.prog 55 #[(.agg (cs10).toArray), (.agg (cs11).toArray), (.agg (cs12).toArray)] h7 fun r28 h41 =>
∃ (s22 : Option Addr) (s22l s22c : Nat),
r28 = (.slice s22 s22l s22c) ∧
∃ t13 : Bool, cell h41 b1 18 = some (.bool t13) ∧
bcase t13 (
∃ n40 : Int, cell h41 b1 19 = some (.int .i64 n40) ∧
fits .u8 n40 ∧
∃ n41 : Int, cell h41 b1 24 = some (.int .i64 n41) ∧
∃ n42 : Int, cell h41 b1 20 = some (.int .i64 n42) ∧
fits .i64 (n42 * (4 : Int)) ∧
fits .i64 ((2 : Int) + (n42 * (4 : Int))) ∧
∃ n43 : Int, cell h41 b1 21 = some (.int .i64 n43) ∧
fits .i64 (n43 * (64 : Int)) ∧
fits .i64 (((2 : Int) + (n42 * (4 : Int))) + (n43 * (64 : Int))) ∧
∃ n44 : Int, cell h41 b1 22 = some (.int .i64 n44) ∧
∀ (b8 : Nat) (h42 : Heap), b8 = h41.size → h42 = h41.push (.cells ([(.int .u8 (1 : Int)), (.int .u8 n40)] : List Value).toArray 5) →
∃ news7 : List Value, (row h42 b8 0 2 = some news7 ∧ ∀ u ∈ news7, u.oneCell' = true) ∧
appK h42 s22 s22l s22c 2 1 5 1 news7 fun (a7 : Option Addr) (cap7 : Nat) (h43 : Heap) =>
cell h43 b1 22 = some (.int .i64 n44) ∧
cell h43 b1 21 = some (.int .i64 n43) ∧
cell h43 b1 20 = some (.int .i64 n42) ∧
cell h43 b1 24 = some (.int .i64 n41) ∧
cell h43 b1 19 = some (.int .i64 n40) ∧
Runs Tryd.prog 46 #[(.slice a7 (s22l + 2) cap7), (.int .i64 n41)] h43 fun r29 h44 =>
∃ (s23 : Option Addr) (s23l s23c : Nat),
r29 = (.slice s23 s23l s23c) ∧
cell h44 b1 22 = some (.int .i64 n44) ∧
cell h44 b1 21 = some (.int .i64 n43) ∧
cell h44 b1 20 = some (.int .i64 n42) ∧
cell h44 b1 19 = some (.int .i64 n40) ∧
Runs Tryd.prog 46 #[(.slice s23 s23l s23c), (.int .i64 (((2 : Int) + (n42 * (4 : Int))) + (n43 * (64 : Int))))] h44 fun r30 h45 =>
∃ (s24 : Option Addr) (s24l s24c : Nat),
r30 = (.slice s24 s24l s24c) ∧
cell h45 b1 22 = some (.int .i64 n44) ∧
cell h45 b1 21 = some (.int .i64 n43) ∧
cell h45 b1 20 = some (.int .i64 n42) ∧
cell h45 b1 19 = some (.int .i64 n40) ∧
Runs Tryd.prog 46 #[(.slice s24 s24l s24c), (.int .i64 n44)] h45 fun r31 h46 =>
∃ (s25 : Option Addr) (s25l s25c : Nat),
r31 = (.slice s25 s25l s25c) ∧
cell h46 b1 21 = some (.int .i64 n43) ∧
cell h46 b1 20 = some (.int .i64 n42) ∧
cell h46 b1 19 = some (.int .i64 n40) ∧
Post (.tuple #[(.slice s25 s25l s25c), (.int .i64 (0 : Int))]) h46) (
∃ n45 : Int, cell h41 b1 19 = some (.int .i64 n45) ∧
fits .u8 n45 ∧
∃ n46 : Int, cell h41 b1 20 = some (.int .i64 n46) ∧
fits .i64 (n46 * (4 : Int)) ∧
fits .i64 ((2 : Int) + (n46 * (4 : Int))) ∧
∃ n47 : Int, cell h41 b1 21 = some (.int .i64 n47) ∧
fits .i64 (n47 * (64 : Int)) ∧
fits .i64 (((2 : Int) + (n46 * (4 : Int))) + (n47 * (64 : Int))) ∧
∃ n48 : Int, cell h41 b1 22 = some (.int .i64 n48) ∧
∃ n49 : Int, cell h41 b1 23 = some (.int .i64 n49) ∧
fits .i64 (n49 * (16 : Int)) ∧
∀ (b9 : Nat) (h47 : Heap), b9 = h41.size → h47 = h41.push (.cells ([(.int .u8 (0 : Int)), (.int .u8 n45)] : List Value).toArray 5) →
∃ news8 : List Value, (row h47 b9 0 2 = some news8 ∧ ∀ u ∈ news8, u.oneCell' = true) ∧
appK h47 s22 s22l s22c 2 1 5 1 news8 fun (a8 : Option Addr) (cap8 : Nat) (h48 : Heap) =>
cell h48 b1 23 = some (.int .i64 n49) ∧
cell h48 b1 22 = some (.int .i64 n48) ∧
cell h48 b1 21 = some (.int .i64 n47) ∧
cell h48 b1 20 = some (.int .i64 n46) ∧
cell h48 b1 19 = some (.int .i64 n45) ∧
Runs Tryd.prog 46 #[(.slice a8 (s22l + 2) cap8), (.int .i64 (((2 : Int) + (n46 * (4 : Int))) + (n47 * (64 : Int))))] h48 fun r32 h49 =>
∃ (s26 : Option Addr) (s26l s26c : Nat),
r32 = (.slice s26 s26l s26c) ∧
cell h49 b1 23 = some (.int .i64 n49) ∧
cell h49 b1 22 = some (.int .i64 n48) ∧
cell h49 b1 21 = some (.int .i64 n47) ∧
cell h49 b1 20 = some (.int .i64 n46) ∧
cell h49 b1 19 = some (.int .i64 n45) ∧
Runs Tryd.prog 46 #[(.slice s26 s26l s26c), (.int .i64 n48)] h49 fun r33 h50 =>
∃ (s27 : Option Addr) (s27l s27c : Nat),
r33 = (.slice s27 s27l s27c) ∧
cell h50 b1 23 = some (.int .i64 n49) ∧
cell h50 b1 21 = some (.int .i64 n47) ∧
cell h50 b1 20 = some (.int .i64 n46) ∧
cell h50 b1 19 = some (.int .i64 n45) ∧
Runs Tryd.prog 46 #[(.slice s27 s27l s27c), (.int .i64 (n49 * (16 : Int)))] h50 fun r34 h51 =>
∃ (s28 : Option Addr) (s28l s28c : Nat),
r34 = (.slice s28 s28l s28c) ∧
cell h51 b1 23 = some (.int .i64 n49) ∧
cell h51 b1 21 = some (.int .i64 n47) ∧
cell h51 b1 20 = some (.int .i64 n46) ∧
cell h51 b1 19 = some (.int .i64 n45) ∧
Post (.tuple #[(.slice s28 s28l s28c), (.int .i64 (0 : Int))]) h51)))))))))) :
    Runs Tryd.prog 25 #[(.agg (f).toArray)] h0 Post :=
  runs_of (args := [(.agg (f).toArray)]) (fun n => ⟨true, false⟩) (fun _ => []) (fun _ => none) (fun _ => []) Tryd.func25 rfl (by rw [Tryd.ntmps25]; simp) (Eq.mp (by kernel_rfl) H)

theorem vc_muezzinref1_BarBytes (f : List Value) (h0 : Heap) (Post : Value → Heap → Prop) (H :
∀ (b1 : Nat) (h1 : Heap), b1 = h0.size → h1 = h0.push (.cells (f).toArray 69) →
∃ n1 : Int, cell h1 b1 12 = some (.int .i64 n1) ∧
Runs Tryd.prog 43 #[(.int .i64 n1), (.int .i64 (7 : Int))] h1 fun r1 h2 =>
∃ t1 : Bool,
r1 = (.bool t1) ∧
bcase t1 (
Post (.tuple #[(.slice none 0 0), (.int .i64 (103 : Int))]) h2) (
∃ n2 : Int, cell h2 b1 13 = some (.int .i64 n2) ∧
Runs Tryd.prog 43 #[(.int .i64 n2), (.int .i64 (4095 : Int))] h2 fun r2 h3 =>
∃ t2 : Bool,
r2 = (.bool t2) ∧
bcase t2 (
Post (.tuple #[(.slice none 0 0), (.int .i64 (103 : Int))]) h3) (
∃ cs1 : List Value, row h3 b1 0 6 = some cs1 ∧
∃ cs2 : List Value, row h3 b1 6 6 = some cs2 ∧
∃ n3 : Int, cell h3 b1 12 = some (.int .i64 n3) ∧
fits .i64 (n3 * (4096 : Int)) ∧
fits .i64 ((4 : Int) + (n3 * (4096 : Int))) ∧
∃ n4 : Int, cell h3 b1 13 = some (.int .i64 n4) ∧
fits .i64 (n4 * (16 : Int)) ∧
∀ (b2 : Nat) (h4 : Heap), b2 = h3.size → h4 = h3.push (.cells ([(.int .u8 (132 : Int)), (.int .u8 (0 : Int)), (.int .u8 (0 : Int)), (.int .u8 (0 : Int))] : List Value).toArray 5) →
Runs Tryd.prog 45 #[(.slice (some ⟨b2, 0, none⟩) 4 4), (.agg (cs1).toArray)] h4 fun r3 h5 =>
∃ (s1 : Option Addr) (s1l s1c : Nat),
r3 = (.slice s1 s1l s1c) ∧
cell h5 b1 13 = some (.int .i64 n4) ∧
cell h5 b1 12 = some (.int .i64 n3) ∧
row h5 b1 6 6 = some (cs2) ∧
Runs Tryd.prog 45 #[(.slice s1 s1l s1c), (.agg (cs2).toArray)] h5 fun r4 h6 =>
∃ (s2 : Option Addr) (s2l s2c : Nat),
r4 = (.slice s2 s2l s2c) ∧
cell h6 b1 13 = some (.int .i64 n4) ∧
cell h6 b1 12 = some (.int .i64 n3) ∧
Runs Tryd.prog 46 #[(.slice s2 s2l s2c), (.int .i64 ((4 : Int) + (n3 * (4096 : Int))))] h6 fun r5 h7 =>
∃ (s3 : Option Addr) (s3l s3c : Nat),
r5 = (.slice s3 s3l s3c) ∧
cell h7 b1 13 = some (.int .i64 n4) ∧
cell h7 b1 12 = some (.int .i64 n3) ∧
Runs Tryd.prog 46 #[(.slice s3 s3l s3c), (.int .i64 (n4 * (16 : Int)))] h7 fun r6 h8 =>
∃ (s4 : Option Addr) (s4l s4c : Nat),
r6 = (.slice s4 s4l s4c) ∧
cell h8 b1 13 = some (.int .i64 n4) ∧
cell h8 b1 12 = some (.int .i64 n3) ∧
Post (.tuple #[(.slice s4 s4l s4c), (.int .i64 (0 : Int))]) h8))) :
    Runs Tryd.prog 28 #[(.agg (f).toArray)] h0 Post :=
  runs_of (args := [(.agg (f).toArray)]) (fun n => ⟨true, false⟩) (fun _ => []) (fun _ => none) (fun _ => []) Tryd.func28 rfl (by rw [Tryd.ntmps28]; simp) (Eq.mp (by kernel_rfl) H)

theorem vc_muezzinref1_DelBytes (f : List Value) (h0 : Heap) (Post : Value → Heap → Prop) (H :
∀ (b1 : Nat) (h1 : Heap), b1 = h0.size → h1 = h0.push (.cells (f).toArray 77) →
∃ n1 : Int, cell h1 b1 19 = some (.int .i64 n1) ∧
Runs Tryd.prog 43 #[(.int .i64 n1), (.int .i64 (7 : Int))] h1 fun r1 h2 =>
∃ t1 : Bool,
r1 = (.bool t1) ∧
bcase t1 (
Post (.tuple #[(.slice none 0 0), (.int .i64 (103 : Int))]) h2) (
∃ n2 : Int, cell h2 b1 20 = some (.int .i64 n2) ∧
Runs Tryd.prog 43 #[(.int .i64 n2), (.int .i64 (65535 : Int))] h2 fun r2 h3 =>
∃ t2 : Bool,
r2 = (.bool t2) ∧
bcase t2 (
Post (.tuple #[(.slice none 0 0), (.int .i64 (103 : Int))]) h3) (
∃ cs1 : List Value, row h3 b1 0 6 = some cs1 ∧
∃ cs2 : List Value, row h3 b1 6 6 = some cs2 ∧
∃ cs3 : List Value, row h3 b1 12 6 = some cs3 ∧
∃ t3 : Bool, cell h3 b1 18 = some (.bool t3) ∧
∃ n3 : Int, cell h3 b1 19 = some (.int .i64 n3) ∧
fits .i64 (n3 * (4096 : Int)) ∧
∃ n4 : Int, cell h3 b1 20 = some (.int .i64 n4) ∧
(
Runs Tryd.prog 55 #[(.agg (cs1).toArray), (.agg (cs2).toArray), (.agg (cs3).toArray)] h3 fun r3 h4 =>
∃ (s1 : Option Addr) (s1l s1c : Nat),
r3 = (.slice s1 s1l s1c) ∧
cell h4 b1 20 = some (.int .i64 n4) ∧
cell h4 b1 19 = some (.int .i64 n3) ∧
cell h4 b1 18 = some (.bool t3) ∧
∀ (b2 : Nat) (h5 : Heap), b2 = h4.size → h5 = h4.push (.cells ([(.int .u8 (2 : Int))] : List Value).toArray 5) →
∃ news1 : List Value, (row h5 b2 0 1 = some news1 ∧ ∀ u ∈ news1, u.oneCell' = true) ∧
appK h5 s1 s1l s1c 1 1 5 1 news1 fun (a1 : Option Addr) (cap1 : Nat) (h6 : Heap) =>
cell h6 b1 20 = some (.int .i64 n4) ∧
cell h6 b1 19 = some (.int .i64 n3) ∧
cell h6 b1 18 = some (.bool t3) ∧
Runs Tryd.prog 44 #[(.bool t3), (.int .i64 (2048 : Int))] h6 fun r4 h7 =>
∃ n5 : Int,
r4 = (.int .i64 n5) ∧
cell h7 b1 20 = some (.int .i64 n4) ∧
cell h7 b1 19 = some (.int .i64 n3) ∧
fits .i64 (n5 + (n3 * (4096 : Int))) ∧
Runs Tryd.prog 46 #[(.slice a1 (s1l + 1) cap1), (.int .i64 (n5 + (n3 * (4096 : Int))))] h7 fun r5 h8 =>
∃ (s2 : Option Addr) (s2l s2c : Nat),
r5 = (.slice s2 s2l s2c) ∧
cell h8 b1 20 = some (.int .i64 n4) ∧
cell h8 b1 19 = some (.int .i64 n3) ∧
Runs Tryd.prog 46 #[(.slice s2 s2l s2c), (.int .i64 n4)] h8 fun r6 h9 =>
∃ (s3 : Option Addr) (s3l s3c : Nat),
r6 = (.slice s3 s3l s3c) ∧
cell h9 b1 19 = some (.int .i64 n3) ∧
Post (.tuple #[(.slice s3 s3l s3c), (.int .i64 (0 : Int))]) h9) ∧
(
∀ (b3 : Nat) (h10 : Heap), b3 = h3.size → h10 = h3.push (.cells ([(.int .u8 (2 : Int))] : List Value).toArray 5) →
Runs Tryd.prog 55 #[(.agg (cs1).toArray), (.agg (cs2).toArray), (.agg (cs3).toArray)] h10 fun r7 h11 =>
∃ (s4 : Option Addr) (s4l s4c : Nat),
r7 = (.slice s4 s4l s4c) ∧
cell h11 b1 20 = some (.int .i64 n4) ∧
cell h11 b1 19 = some (.int .i64 n3) ∧
cell h11 b1 18 = some (.bool t3) ∧
∃ news2 : List Value, (row h11 b3 0 1 = some news2 ∧ ∀ u ∈ news2, u.oneCell' = true) ∧
appK h11 s4 s4l s4c 1 1 5 1 news2 fun (a2 : Option Addr) (cap2 : Nat) (h12 : Heap) =>
cell h12 b1 20 = some (.int .i64 n4) ∧
cell h12 b1 19 = some (.int .i64 n3) ∧
cell h12 b1 18 = some (.bool t3) ∧
Runs Tryd.prog 44 #[(.bool t3), (.int .i64 (2048 : Int))] h12 fun r8 h13 =>
∃ n6 : Int,
r8 = (.int .i64 n6) ∧
cell h13 b1 20 = some (.int .i64 n4) ∧
cell h13 b1 19 = some (.int .i64 n3) ∧
fits .i64 (n6 + (n3 * (4096 : Int))) ∧
Runs Tryd.prog 46 #[(.slice a2 (s4l + 1) cap2), (.int .i64 (n6 + (n3 * (4096 : Int))))] h13 fun r9 h14 =>
∃ (s5 : Option Addr) (s5l s5c : Nat),
r9 = (.slice s5 s5l s5c) ∧
cell h14 b1 20 = some (.int .i64 n4) ∧
cell h14 b1 19 = some (.int .i64 n3) ∧
Runs Tryd.prog 46 #[(.slice s5 s5l s5c), (.int .i64 n4)] h14 fun r10 h15 =>
∃ (s6 : Option Addr) (s6l s6c : Nat),
r10 = (.slice s6 s6l s6c) ∧
cell h15 b1 19 = some (.int .i64 n3) ∧
Post (.tuple #[(.slice s6 s6l s6c), (.int .i64 (0 : Int))]) h15)))) :
    Runs Tryd.prog 31 #[(.agg (f).toArray)] h0 Post :=
  runs_of (args := [(.agg (f).toArray)]) (fun n => ⟨true, false⟩) (fun _ => []) (fun _ => none) (fun _ => []) Tryd.func31 rfl (by rw [Tryd.ntmps31]; simp) (Eq.mp (by kernel_rfl) H)

theorem vc_muezzinref1_ReadAdd (b : Option Addr) (bL bC : Nat) (h0 : Heap) (Post : Value → Heap → Prop) (H :
∀ (b1 : Nat) (h1 : Heap), b1 = h0.size → h1 = h0.push (.cells ([(.int .u8 (0 : Int)), (.int .u8 (0 : Int)), (.int .u8 (0 : Int)), (.int .u8 (0 : Int)), (.int .u8 (0 : Int)), (.int .u8 (0 : Int)), (.int .u8 (0 : Int)), (.int .u8 (0 : Int)), (.int .u8 (0 : Int)), (.int .u8 (0 : Int)), (.int .u8 (0 : Int)), (.int .u8 (0 : Int)), (.int .u8 (0 : Int)), (.int .u8 (0 : Int)), (.int .u8 (0 : Int)), (.int .u8 (0 : Int)), (.int .u8 (0 : Int)), (.int .u8 (0 : Int)), (.bool false), (.int .i64 (0 : Int)), (.int .i64 (0 : Int)), (.int .i64 (0 : Int)), (.int .i64 (0 : Int)), (.int .i64 (0 : Int)), (.int .i64 (0 : Int))] : List Value).toArray 65) →
Runs Tryd.prog 57 #[(.slice b bL bC), (.int .u8 (0 : Int)), (.int .u8 (1 : Int)), (.int .i64 (33 : Int))] h1 fun r1 h2 =>
∃ n1 : Int,
r1 = (.int .i64 n1) ∧
bcase (!decide (n1 = (0 : Int))) (
((([(.int .u8 (0 : Int)), (.int .u8 (0 : Int)), (.int .u8 (0 : Int)), (.int .u8 (0 : Int)), (.int .u8 (0 : Int)), (.int .u8 (0 : Int)), (.int .u8 (0 : Int)), (.int .u8 (0 : Int)), (.int .u8 (0 : Int)), (.int .u8 (0 : Int)), (.int .u8 (0 : Int)), (.int .u8 (0 : Int)), (.int .u8 (0 : Int)), (.int .u8 (0 : Int)), (.int .u8 (0 : Int)), (.int .u8 (0 : Int)), (.int .u8 (0 : Int)), (.int .u8 (0 : Int)), (.bool false), (.int .i64 (0 : Int)), (.int .i64 (0 : Int)), (.int .i64 (0 : Int)), (.int .i64 (0 : Int)), (.int .i64 (0 : Int)), (.int .i64 (0 : Int))] : List Value)).length = 25 ∧ wrs h2 b1 0 25 ∧ ∀ u ∈ (([(.int .u8 (0 : Int)), (.int .u8 (0 : Int)), (.int .u8 (0 : Int)), (.int .u8 (0 : Int)), (.int .u8 (0 : Int)), (.int .u8 (0 : Int)), (.int .u8 (0 : Int)), (.int .u8 (0 : Int)), (.int .u8 (0 : Int)), (.int .u8 (0 : Int)), (.int .u8 (0 : Int)), (.int .u8 (0 : Int)), (.int .u8 (0 : Int)), (.int .u8 (0 : Int)), (.int .u8 (0 : Int)), (.int .u8 (0 : Int)), (.int .u8 (0 : Int)), (.int .u8 (0 : Int)), (.bool false), (.int .i64 (0 : Int)), (.int .i64 (0 : Int)), (.int .i64 (0 : Int)), (.int .i64 (0 : Int)), (.int .i64 (0 : Int)), (.int .i64 (0 : Int))] : List Value) : List Value), u.oneCell' = true) ∧ ∀ h3 : Heap, h3 = setr h2 b1 0 ([(.int .u8 (0 : Int)), (.int .u8 (0 : Int)), (.int .u8 (0 : Int)), (.int .u8 (0 : Int)), (.int .u8 (0 : Int)), (.int .u8 (0 : Int)), (.int .u8 (0 : Int)), (.int .u8 (0 : Int)), (.int .u8 (0 : Int)), (.int .u8 (0 : Int)), (.int .u8 (0 : Int)), (.int .u8 (0 : Int)), (.int .u8 (0 : Int)), (.int .u8 (0 : Int)), (.int .u8 (0 : Int)), (.int .u8 (0 : Int)), (.int .u8 (0 : Int)), (.int .u8 (0 : Int)), (.bool false), (.int .i64 (0 : Int)), (.int .i64 (0 : Int)), (.int .i64 (0 : Int)), (.int .i64 (0 : Int)), (.int .i64 (0 : Int)), (.int .i64 (0 : Int))] : List Value) →
∃ cs1 : List Value, row h3 b1 0 25 = some cs1 ∧
Post (.tuple #[(.agg (cs1).toArray), (.int .i64 n1)]) h3) (
(0 ≤ (4 : Int) ∧ (4 : Int) ≤ ((bL : Nat) : Int)) ∧
(0 ≤ (10 : Int) ∧ (10 : Int) ≤ ((bL : Nat) : Int)) ∧
(0 ≤ (16 : Int) ∧ (16 : Int) ≤ ((bL : Nat) : Int)) ∧
(0 ≤ (26 : Int) ∧ (26 : Int) < ((bL : Nat) : Int)) ∧
onAddr b fun b2 o1 =>
∃ n2 : Int, cell h2 b2 (o1 + 26) = some (.int .u8 n2) ∧
fits .i64 n2 ∧
(
Runs Tryd.prog 37 #[(.slice (slcAddr b 4 bC 4) (bL - 4) (bC - 4))] h2 fun r2 h4 =>
∃ cs2 : List Value,
r2 = (.agg (cs2).toArray) ∧
cell h4 b2 (o1 + 26) = some (.int .u8 n2) ∧
(
Runs Tryd.prog 37 #[(.slice (slcAddr b 10 bC 10) (bL - 10) (bC - 10))] h4 fun r3 h5 =>
∃ cs3 : List Value,
r3 = (.agg (cs3).toArray) ∧
cell h5 b2 (o1 + 26) = some (.int .u8 n2) ∧
(
Runs Tryd.prog 37 #[(.slice (slcAddr b 16 bC 16) (bL - 16) (bC - 16))] h5 fun r4 h6 =>
∃ cs4 : List Value,
r4 = (.agg (cs4).toArray) ∧
cell h6 b2 (o1 + 26) = some (.int .u8 n2) ∧
(cs2).length = 6 ∧
(cs3).length = 6 ∧
(cs4).length = 6 ∧
∀ (b3 : Nat) (h7 : Heap), b3 = h6.size → h7 = h6.push (.cells ([(.int .u8 (0 : Int)), (.int .u8 (0 : Int)), (.int .u8 (0 : Int)), (.int .u8 (0 : Int)), (.int .u8 (0 : Int)), (.int .u8 (0 : Int)), (.int .u8 (0 : Int)), (.int .u8 (0 : Int)), (.int .u8 (0 : Int)), (.int .u8 (0 : Int)), (.int .u8 (0 : Int)), (.int .u8 (0 : Int)), (.int .u8 (0 : Int)), (.int .u8 (0 : Int)), (.int .u8 (0 : Int)), (.int .u8 (0 : Int)), (.int .u8 (0 : Int)), (.int .u8 (0 : Int)), (.bool false), (.int .i64 (0 : Int)), (.int .i64 (0 : Int)), (.int .i64 (0 : Int)), (.int .i64 (0 : Int)), (.int .i64 (0 : Int)), (.int .i64 (0 : Int))] : List Value).toArray 65) →
(((((cs2) ++ ((cs3) ++ ((cs4) ++ ([(.bool false), (.int .i64 n2), (.int .i64 (0 : Int)), (.int .i64 (0 : Int)), (.int .i64 (0 : Int)), (.int .i64 (0 : Int)), (.int .i64 (0 : Int))] : List Value)))))).length = 25 ∧ wrs h7 b3 0 25 ∧ ∀ u ∈ ((((cs2) ++ ((cs3) ++ ((cs4) ++ ([(.bool false), (.int .i64 n2), (.int .i64 (0 : Int)), (.int .i64 (0 : Int)), (.int .i64 (0 : Int)), (.int .i64 (0 : Int)), (.int .i64 (0 : Int))] : List Value))))) : List Value), u.oneCell' = true) ∧ ∀ h8 : Heap, h8 = setr h7 b3 0 (((cs2) ++ ((cs3) ++ ((cs4) ++ ([(.bool false), (.int .i64 n2), (.int .i64 (0 : Int)), (.int .i64 (0 : Int)), (.int .i64 (0 : Int)), (.int .i64 (0 : Int)), (.int .i64 (0 : Int))] : List Value))))) →
∃ J1 : Int → Heap → Prop, (
(0 ≤ (25 : Int) ∧ (25 : Int) < ((bL : Nat) : Int)) ∧
onAddr b fun b4 o2 =>
∃ n3 : Int, cell h8 b4 (o2 + 25) = some (.int .u8 n3) ∧
bcase (decide (n3 = (1 : Int))) (
wr h8 b3 18 ∧ ∀ h9 : Heap, h9 = setc h8 b3 18 (.bool true) →
(0 ≤ (27 : Int) ∧ (27 : Int) ≤ ((bL : Nat) : Int)) ∧
Runs Tryd.prog 38 #[(.slice (slcAddr b 27 bC 27) (bL - 27) (bC - 27))] h9 fun r5 h10 =>
∃ n4 : Int,
r5 = (.int .i64 n4) ∧
wr h10 b3 24 ∧ ∀ h11 : Heap, h11 = setc h10 b3 24 (.int .i64 n4) →
(0 ≤ (29 : Int) ∧ (29 : Int) ≤ ((bL : Nat) : Int)) ∧
Runs Tryd.prog 38 #[(.slice (slcAddr b 29 bC 29) (bL - 29) (bC - 29))] h11 fun r6 h12 =>
∃ n5 : Int,
r6 = (.int .i64 n5) ∧
(0 ≤ (31 : Int) ∧ (31 : Int) ≤ ((bL : Nat) : Int)) ∧
Runs Tryd.prog 38 #[(.slice (slcAddr b 31 bC 31) (bL - 31) (bC - 31))] h12 fun r7 h13 =>
∃ n6 : Int,
r7 = (.int .i64 n6) ∧
wr h13 b3 22 ∧ ∀ h14 : Heap, h14 = setc h13 b3 22 (.int .i64 n6) →
J1 n5 h14) (
(0 ≤ (27 : Int) ∧ (27 : Int) ≤ ((bL : Nat) : Int)) ∧
Runs Tryd.prog 38 #[(.slice (slcAddr b 27 bC 27) (bL - 27) (bC - 27))] h8 fun r8 h15 =>
∃ n7 : Int,
r8 = (.int .i64 n7) ∧
(0 ≤ (29 : Int) ∧ (29 : Int) ≤ ((bL : Nat) : Int)) ∧
Runs Tryd.prog 38 #[(.slice (slcAddr b 29 bC 29) (bL - 29) (bC - 29))] h15 fun r9 h16 =>
∃ n8 : Int,
r9 = (.int .i64 n8) ∧
wr h16 b3 22 ∧ ∀ h17 : Heap, h17 = setc h16 b3 22 (.int .i64 n8) →
(0 ≤ (31 : Int) ∧ (31 : Int) ≤ ((bL : Nat) : Int)) ∧
Runs Tryd.prog 38 #[(.slice (slcAddr b 31 bC 31) (bL - 31) (bC - 31))] h17 fun r10 h18 =>
∃ n9 : Int,
r10 = (.int .i64 n9) ∧
(0 ≤ n9 ∧ 0 < (16 : Int) ∧ fits .i64 (n9 / (16 : Int))) ∧
wr h18 b3 23 ∧ ∀ h19 : Heap, h19 = setc h18 b3 23 (.int .i64 (n9 / (16 : Int))) →
J1 n7 h19)) ∧ ∀ _ : Env,
∀ (params_1 : Int) (h20 : Heap), J1 params_1 h20 →
(0 ≤ params_1 ∧ 0 < (4 : Int) ∧ fits .i64 (params_1 / (4 : Int))) ∧
(0 ≤ (params_1 / (4 : Int)) ∧ 0 < (16 : Int)) ∧
wr h20 b3 20 ∧ ∀ h21 : Heap, h21 = setc h20 b3 20 (.int .i64 ((params_1 / (4 : Int)) % (16 : Int))) →
(0 ≤ params_1 ∧ 0 < (64 : Int) ∧ fits .i64 (params_1 / (64 : Int))) ∧
wr h21 b3 21 ∧ ∀ h22 : Heap, h22 = setc h21 b3 21 (.int .i64 (params_1 / (64 : Int))) →
∃ cs5 : List Value, row h22 b3 0 25 = some cs5 ∧
Runs Tryd.prog 25 #[(.agg (cs5).toArray)] h22 fun r11 h23 =>
∃ (s1 : Option Addr) (s1l s1c : Nat),
∃ n10 : Int,
r11 = (.tuple #[(.slice s1 s1l s1c), (.int .i64 n10)]) ∧
bcase (!decide (n10 = (0 : Int))) (
((([(.int .u8 (0 : Int)), (.int .u8 (0 : Int)), (.int .u8 (0 : Int)), (.int .u8 (0 : Int)), (.int .u8 (0 : Int)), (.int .u8 (0 : Int)), (.int .u8 (0 : Int)), (.int .u8 (0 : Int)), (.int .u8 (0 : Int)), (.int .u8 (0 : Int)), (.int .u8 (0 : Int)), (.int .u8 (0 : Int)), (.int .u8 (0 : Int)), (.int .u8 (0 : Int)), (.int .u8 (0 : Int)), (.int .u8 (0 : Int)), (.int .u8 (0 : Int)), (.int .u8 (0 : Int)), (.bool false), (.int .i64 (0 : Int)), (.int .i64 (0 : Int)), (.int .i64 (0 : Int)), (.int .i64 (0 : Int)), (.int .i64 (0 : Int)), (.int .i64 (0 : Int))] : List Value)).length = 25 ∧ wrs h23 b1 0 25 ∧ ∀ u ∈ (([(.int .u8 (0 : Int)), (.int .u8 (0 : Int)), (.int .u8 (0 : Int)), (.int .u8 (0 : Int)), (.int .u8 (0 : Int)), (.int .u8 (0 : Int)), (.int .u8 (0 : Int)), (.int .u8 (0 : Int)), (.int .u8 (0 : Int)), (.int .u8 (0 : Int)), (.int .u8 (0 : Int)), (.int .u8 (0 : Int)), (.int .u8 (0 : Int)), (.int .u8 (0 : Int)), (.int .u8 (0 : Int)), (.int .u8 (0 : Int)), (.int .u8 (0 : Int)), (.int .u8 (0 : Int)), (.bool false), (.int .i64 (0 : Int)), (.int .i64 (0 : Int)), (.int .i64 (0 : Int)), (.int .i64 (0 : Int)), (.int .i64 (0 : Int)), (.int .i64 (0 : Int))] : List Value) : List Value), u.oneCell' = true) ∧ ∀ h24 : Heap, h24 = setr h23 b1 0 ([(.int .u8 (0 : Int)), (.int .u8 (0 : Int)), (.int .u8 (0 : Int)), (.int .u8 (0 : Int)), (.int .u8 (0 : Int)), (.int .u8 (0 : Int)), (.int .u8 (0 : Int)), (.int .u8 (0 : Int)), (.int .u8 (0 : Int)), (.int .u8 (0 : Int)), (.int .u8 (0 : Int)), (.int .u8 (0 : Int)), (.int .u8 (0 : Int)), (.int .u8 (0 : Int)), (.int .u8 (0 : Int)), (.int .u8 (0 : Int)), (.int .u8 (0 : Int)), (.int .u8 (0 : Int)), (.bool false), (.int .i64 (0 : Int)), (.int .i64 (0 : Int)), (.int .i64 (0 : Int)), (.int .i64 (0 : Int)), (.int .i64 (0 : Int)), (.int .i64 (0 : Int))] : List Value) →
∃ cs6 : List Value, row h24 b1 0 25 = some cs6 ∧
Post (.tuple #[(.agg (cs6).toArray), (.int .i64 (102 : Int))]) h24) (
Runs Tryd.prog 40 #[(.slice b bL bC), (.slice s1 s1l s1c)] h23 fun r12 h25 =>
∃ t1 : Bool,
r12 = (.bool t1) ∧
bcase (!t1) (
((([(.int .u8 (0 : Int)), (.int .u8 (0 : Int)), (.int .u8 (0 : Int)), (.int .u8 (0 : Int)), (.int .u8 (0 : Int)), (.int .u8 (0 : Int)), (.int .u8 (0 : Int)), (.int .u8 (0 : Int)), (.int .u8 (0 : Int)), (.int .u8 (0 : Int)), (.int .u8 (0 : Int)), (.int .u8 (0 : Int)), (.int .u8 (0 : Int)), (.int .u8 (0 : Int)), (.int .u8 (0 : Int)), (.int .u8 (0 : Int)), (.int .u8 (0 : Int)), (.int .u8 (0 : Int)), (.bool false), (.int .i64 (0 : Int)), (.int .i64 (0 : Int)), (.int .i64 (0 : Int)), (.int .i64 (0 : Int)), (.int .i64 (0 : Int)), (.int .i64 (0 : Int))] : List Value)).length = 25 ∧ wrs h25 b1 0 25 ∧ ∀ u ∈ (([(.int .u8 (0 : Int)), (.int .u8 (0 : Int)), (.int .u8 (0 : Int)), (.int .u8 (0 : Int)), (.int .u8 (0 : Int)), (.int .u8 (0 : Int)), (.int .u8 (0 : Int)), (.int .u8 (0 : Int)), (.int .u8 (0 : Int)), (.int .u8 (0 : Int)), (.int .u8 (0 : Int)), (.int .u8 (0 : Int)), (.int .u8 (0 : Int)), (.int .u8 (0 : Int)), (.int .u8 (0 : Int)), (.int .u8 (0 : Int)), (.int .u8 (0 : Int)), (.int .u8 (0 : Int)), (.bool false), (.int .i64 (0 : Int)), (.int .i64 (0 : Int)), (.int .i64 (0 : Int)), (.int .i64 (0 : Int)), (.int .i64 (0 : Int)), (.int .i64 (0 : Int))] : List Value) : List Value), u.oneCell' = true) ∧ ∀ h26 : Heap, h26 = setr h25 b1 0 ([(.int .u8 (0 : Int)), (.int .u8 (0 : Int)), (.int .u8 (0 : Int)), (.int .u8 (0 : Int)), (.int .u8 (0 : Int)), (.int .u8 (0 : Int)), (.int .u8 (0 : Int)), (.int .u8 (0 : Int)), (.int .u8 (0 : Int)), (.int .u8 (0 : Int)), (.int .u8 (0 : Int)), (.int .u8 (0 : Int)), (.int .u8 (0 : Int)), (.int .u8 (0 : Int)), (.int .u8 (0 : Int)), (.int .u8 (0 : Int)), (.int .u8 (0 : Int)), (.int .u8 (0 : Int)), (.bool false), (.int .i64 (0 : Int)), (.int .i64 (0 : Int)), (.int .i64 (0 : Int)), (.int .i64 (0 : Int)), (.int .i64 (0 : Int)), (.int .i64 (0 : Int))] : List Value) →
∃ cs7 : List Value, row h26 b1 0 25 = some cs7 ∧
Post (.tuple #[(.agg (cs7).toArray), (.int .i64 (102 : Int))]) h26) (
∃ cs8 : List Value, row h25 b3 0 25 = some cs8 ∧
(((cs8)).length = 25 ∧ wrs h25 b1 0 25 ∧ ∀ u ∈ ((cs8) : List Value), u.oneCell' = true) ∧ ∀ h27 : Heap, h27 = setr h25 b1 0 (cs8) →
∃ cs9 : List Value, row h27 b1 0 25 = some cs9 ∧
Post (.tuple #[(.agg (cs9).toArray), (.int .i64 (0 : Int))]) h27))) ∧
(
∀ (b5 : Nat) (h28 : Heap), b5 = h5.size → h28 = h5.push (.cells ([(.int .u8 (0 : Int)), (.int .u8 (0 : Int)), (.int .u8 (0 : Int)), (.int .u8 (0 : Int)), (.int .u8 (0 : Int)), (.int .u8 (0 : Int)), (.int .u8 (0 : Int)), (.int .u8 (0 : Int)), (.int .u8 (0 : Int)), (.int .u8 (0 : Int)), (.int .u8 (0 : Int)), (.int .u8 (0 : Int)), (.int .u8 (0 : Int)), (.int .u8 (0 : Int)), (.int .u8 (0 : Int)), (.int .u8 (0 : Int)), (.int .u8 (0 : Int)), (.int .u8 (0 : Int)), (.bool false), (.int .i64 (0 : Int)), (.int .i64 (0 : Int)), (.int .i64 (0 : Int)), (.int .i64 (0 : Int)), (.int .i64 (0 : Int)), (.int .i64 (0 : Int))] : List Value).toArray 65) →
Runs Tryd.prog 37 #[(.slice (slcAddr b 16 bC 16) (bL - 16) (bC - 16))] h28 fun r13 h29 =>
∃ cs10 : List Value,
r13 = (.agg (cs10).toArray) ∧
cell h29 b2 (o1 + 26) = some (.int .u8 n2) ∧
(cs2).length = 6 ∧
(cs3).length = 6 ∧
(cs10).length = 6 ∧
(((((cs2) ++ ((cs3) ++ ((cs10) ++ ([(.bool false), (.int .i64 n2), (.int .i64 (0 : Int)), (.int .i64 (0 : Int)), (.int .i64 (0 : Int)), (.int .i64 (0 : Int)), (.int .i64 (0 : Int))] : List Value)))))).length = 25 ∧ wrs h29 b5 0 25 ∧ ∀ u ∈ ((((cs2) ++ ((cs3) ++ ((cs10) ++ ([(.bool false), (.int .i64 n2), (.int .i64 (0 : Int)), (.int .i64 (0 : Int)), (.int .i64 (0 : Int)), (.int .i64 (0 : Int)), (.int .i64 (0 : Int))] : List Value))))) : List Value), u.oneCell' = true) ∧ ∀ h30 : Heap, h30 = setr h29 b5 0 (((cs2) ++ ((cs3) ++ ((cs10) ++ ([(.bool false), (.int .i64 n2), (.int .i64 (0 : Int)), (.int .i64 (0 : Int)), (.int .i64 (0 : Int)), (.int .i64 (0 : Int)), (.int .i64 (0 : Int))] : List Value))))) →
∃ J2 : Int → Heap → Prop, (
(0 ≤ (25 : Int) ∧ (25 : Int) < ((bL : Nat) : Int)) ∧
onAddr b fun b6 o3 =>
∃ n11 : Int, cell h30 b6 (o3 + 25) = some (.int .u8 n11) ∧
bcase (decide (n11 = (1 : Int))) (
wr h30 b5 18 ∧ ∀ h31 : Heap, h31 = setc h30 b5 18 (.bool true) →
(0 ≤ (27 : Int) ∧ (27 : Int) ≤ ((bL : Nat) : Int)) ∧
Runs Tryd.prog 38 #[(.slice (slcAddr b 27 bC 27) (bL - 27) (bC - 27))] h31 fun r14 h32 =>
∃ n12 : Int,
r14 = (.int .i64 n12) ∧
wr h32 b5 24 ∧ ∀ h33 : Heap, h33 = setc h32 b5 24 (.int .i64 n12) →
(0 ≤ (29 : Int) ∧ (29 : Int) ≤ ((bL : Nat) : Int)) ∧
Runs Tryd.prog 38 #[(.slice (slcAddr b 29 bC 29) (bL - 29) (bC - 29))] h33 fun r15 h34 =>
∃ n13 : Int,
r15 = (.int .i64 n13) ∧
(0 ≤ (31 : Int) ∧ (31 : Int) ≤ ((bL : Nat) : Int)) ∧
Runs Tryd.prog 38 #[(.slice (slcAddr b 31 bC 31) (bL - 31) (bC - 31))] h34 fun r16 h35 =>
∃ n14 : Int,
r16 = (.int .i64 n14) ∧
wr h35 b5 22 ∧ ∀ h36 : Heap, h36 = setc h35 b5 22 (.int .i64 n14) →
J2 n13 h36) (
(0 ≤ (27 : Int) ∧ (27 : Int) ≤ ((bL : Nat) : Int)) ∧
Runs Tryd.prog 38 #[(.slice (slcAddr b 27 bC 27) (bL - 27) (bC - 27))] h30 fun r17 h37 =>
∃ n15 : Int,
r17 = (.int .i64 n15) ∧
(0 ≤ (29 : Int) ∧ (29 : Int) ≤ ((bL : Nat) : Int)) ∧
Runs Tryd.prog 38 #[(.slice (slcAddr b 29 bC 29) (bL - 29) (bC - 29))] h37 fun r18 h38 =>
∃ n16 : Int,
r18 = (.int .i64 n16) ∧
wr h38 b5 22 ∧ ∀ h39 : Heap, h39 = setc h38 b5 22 (.int .i64 n16) →
(0 ≤ (31 : Int) ∧ (31 : Int) ≤ ((bL : Nat) : Int)) ∧
Runs Tryd.prog 38 #[(.slice (slcAddr b 31 bC 31) (bL - 31) (bC - 31))] h39 fun r19 h40 =>
∃ n17 : Int,
r19 = (.int .i64 n17) ∧
(0 ≤ n17 ∧ 0 < (16 : Int) ∧ fits .i64 (n17 / (16 : Int))) ∧
wr h40 b5 23 ∧ ∀ h41 : Heap, h41 = setc h40 b5 23 (.int .i64 (n17 / (16 : Int))) →
J2 n15 h41)) ∧ ∀ _ : Env,
∀ (params_2 : Int) (h42 : Heap), J2 params_2 h42 →
(0 ≤ params_2 ∧ 0 < (4 : Int) ∧ fits .i64 (params_2 / (4 : Int))) ∧
(0 ≤ (params_2 / (4 : Int)) ∧ 0 < (16 : Int)) ∧
wr h42 b5 20 ∧ ∀ h43 : Heap, h43 = setc h42 b5 20 (.int .i64 ((params_2 / (4 : Int)) % (16 : Int))) →
(0 ≤ params_2 ∧ 0 < (64 : Int) ∧ fits .i64 (params_2 / (64 : Int))) ∧
wr h43 b5 21 ∧ ∀ h44 : Heap, h44 = setc h43 b5 21 (.int .i64 (params_2 / (64 : Int))) →
∃ cs11 : List Value, row h44 b5 0 25 = some cs11 ∧
Runs Tryd.prog 25 #[(.agg (cs11).toArray)] h44 fun r20 h45 =>
∃ (s2 : Option Addr) (s2l s2c : Nat),
∃ n18 : Int,
r20 = (.tuple #[(.slice s2 s2l s2c), (.int .i64 n18)]) ∧
bcase (!decide (n18 = (0 : Int))) (
((([(.int .u8 (0 : Int)), (.int .u8 (0 : Int)), (.int .u8 (0 : Int)), (.int .u8 (0 : Int)), (.int .u8 (0 : Int)), (.int .u8 (0 : Int)), (.int .u8 (0 : Int)), (.int .u8 (0 : Int)), (.int .u8 (0 : Int)), (.int .u8 (0 : Int)), (.int .u8 (0 : Int)), (.int .u8 (0 : Int)), (.int .u8 (0 : Int)), (.int .u8 (0 : Int)), (.int .u8 (0 : Int)), (.int .u8 (0 : Int)), (.int .u8 (0 : Int)), (.int .u8 (0 : Int)), (.bool false), (.int .i64 (0 : Int)), (.int .i64 (0 : Int)), (.int .i64 (0 : Int)), (.int .i64 (0 : Int)), (.int .i64 (0 : Int)), (.int .i64 (0 : Int))] : List Value)).length = 25 ∧ wrs h45 b1 0 25 ∧ ∀ u ∈ (([(.int .u8 (0 : Int)), (.int .u8 (0 : Int)), (.int .u8 (0 : Int)), (.int .u8 (0 : Int)), (.int .u8 (0 : Int)), (.int .u8 (0 : Int)), (.int .u8 (0 : Int)), (.int .u8 (0 : Int)), (.int .u8 (0 : Int)), (.int .u8 (0 : Int)), (.int .u8 (0 : Int)), (.int .u8 (0 : Int)), (.int .u8 (0 : Int)), (.int .u8 (0 : Int)), (.int .u8 (0 : Int)), (.int .u8 (0 : Int)), (.int .u8 (0 : Int)), (.int .u8 (0 : Int)), (.bool false), (.int .i64 (0 : Int)), (.int .i64 (0 : Int)), (.int .i64 (0 : Int)), (.int .i64 (0 : Int)), (.int .i64 (0 : Int)), (.int .i64 (0 : Int))] : List Value) : List Value), u.oneCell' = true) ∧ ∀ h46 : Heap, h46 = setr h45 b1 0 ([(.int .u8 (0 : Int)), (.int .u8 (0 : Int)), (.int .u8 (0 : Int)), (.int .u8 (0 : Int)), (.int .u8 (0 : Int)), (.int .u8 (0 : Int)), (.int .u8 (0 : Int)), (.int .u8 (0 : Int)), (.int .u8 (0 : Int)), (.int .u8 (0 : Int)), (.int .u8 (0 : Int)), (.int .u8 (0 : Int)), (.int .u8 (0 : Int)), (.int .u8 (0 : Int)), (.int .u8 (0 : Int)), (.int .u8 (0 : Int)), (.int .u8 (0 : Int)), (.int .u8 (0 : Int)), (.bool false), (.int .i64 (0 : Int)), (.int .i64 (0 : Int)), (.int .i64 (0 : Int)), (.int .i64 (0 : Int)), (.int .i64 (0 : Int)), (.int .i64 (0 : Int))] : List Value) →
∃ cs12 : List Value, row h46 b1 0 25 = some cs12 ∧
Post (.tuple #[(.agg (cs12).toArray), (.int .i64 (102 : Int))]) h46) (
Runs Tryd.prog 40 #[(.slice b bL bC), (.slice s2 s2l s2c)] h45 fun r21 h47 =>
∃ t2 : Bool,
r21 = (.bool t2) ∧
bcase (!t2) (
((([(.int .u8 (0 : Int)), (.int .u8 (0 : Int)), (.int .u8 (0 : Int)), (.int .u8 (0 : Int)), (.int .u8 (0 : Int)), (.int .u8 (0 : Int)), (.int .u8 (0 : Int)), (.int .u8 (0 : Int)), (.int .u8 (0 : Int)), (.int .u8 (0 : Int)), (.int .u8 (0 : Int)), (.int .u8 (0 : Int)), (.int .u8 (0 : Int)), (.int .u8 (0 : Int)), (.int .u8 (0 : Int)), (.int .u8 (0 : Int)), (.int .u8 (0 : Int)), (.int .u8 (0 : Int)), (.bool false), (.int .i64 (0 : Int)), (.int .i64 (0 : Int)), (.int .i64 (0 : Int)), (.int .i64 (0 : Int)), (.int .i64 (0 : Int)), (.int .i64 (0 : Int))] : List Value)).length = 25 ∧ wrs h47 b1 0 25 ∧ ∀ u ∈ (([(.int .u8 (0 : Int)), (.int .u8 (0 : Int)), (.int .u8 (0 : Int)), (.int .u8 (0 : Int)), (.int .u8 (0 : Int)), (.int .u8 (0 : Int)), (.int .u8 (0 : Int)), (.int .u8 (0 : Int)), (.int .u8 (0 : Int)), (.int .u8 (0 : Int)), (.int .u8 (0 : Int)), (.int .u8 (0 : Int)), (.int .u8 (0 : Int)), (.int .u8 (0 : Int)), (.int .u8 (0 : Int)), (.int .u8 (0 : Int)), (.int .u8 (0 : Int)), (.int .u8 (0 : Int)), (.bool false), (.int .i64 (0 : Int)), (.int .i64 (0 : Int)), (.int .i64 (0 : Int)), (.int .i64 (0 : Int)), (.int .i64 (0 : Int)), (.int .i64 (0 : Int))] : List Value) : List Value), u.oneCell' = true) ∧ ∀ h48 : Heap, h48 = setr h47 b1 0 ([(.int .u8 (0 : Int)), (.int .u8 (0 : Int)), (.int .u8 (0 : Int)), (.int .u8 (0 : Int)), (.int .u8 (0 : Int)), (.int .u8 (0 : Int)), (.int .u8 (0 : Int)), (.int .u8 (0 : Int)), (.int .u8 (0 : Int)), (.int .u8 (0 : Int)), (.int .u8 (0 : Int)), (.int .u8 (0 : Int)), (.int .u8 (0 : Int)), (.int .u8 (0 : Int)), (.int .u8 (0 : Int)), (.int .u8 (0 : Int)), (.int .u8 (0 : Int)), (.int .u8 (0 : Int)), (.bool false), (.int .i64 (0 : Int)), (.int .i64 (0 : Int)), (.int .i64 (0 : Int)), (.int .i64 (0 : Int)), (.int .i64 (0 : Int)), (.int .i64 (0 : Int))] : List Value) →
∃ cs13 : List Value, row h48 b1 0 25 = some cs13 ∧
Post (.tuple #[(.agg (cs13).toArray), (.int .i64 (102 : Int))]) h48) (
∃ cs14 : List Value, row h47 b5 0 25 = some cs14 ∧
(((cs14)).length = 25 ∧ wrs h47 b1 0 25 ∧ ∀ u ∈ ((cs14) : List Value), u.oneCell' = true) ∧ ∀ h49 : Heap, h49 = setr h47 b1 0 (cs14) →
∃ cs15 : List Value, row h49 b1 0 25 = some cs15 ∧
Post (.tuple #[(.agg (cs15).toArray), (.int .i64 (0 : Int))]) h49)))) ∧
(
∀ (b7 : Nat) (h50 : Heap), b7 = h4.size → h50 = h4.push (.cells ([(.int .u8 (0 : Int)), (.int .u8 (0 : Int)), (.int .u8 (0 : Int)), (.int .u8 (0 : Int)), (.int .u8 (0 : Int)), (.int .u8 (0 : Int)), (.int .u8 (0 : Int)), (.int .u8 (0 : Int)), (.int .u8 (0 : Int)), (.int .u8 (0 : Int)), (.int .u8 (0 : Int)), (.int .u8 (0 : Int)), (.int .u8 (0 : Int)), (.int .u8 (0 : Int)), (.int .u8 (0 : Int)), (.int .u8 (0 : Int)), (.int .u8 (0 : Int)), (.int .u8 (0 : Int)), (.bool false), (.int .i64 (0 : Int)), (.int .i64 (0 : Int)), (.int .i64 (0 : Int)), (.int .i64 (0 : Int)), (.int .i64 (0 : Int)), (.int .i64 (0 : Int))] : List Value).toArray 65) →
Runs Tryd.prog 37 #[(.slice (slcAddr b 10 bC 10) (bL - 10) (bC - 10))] h50 fun r22 h51 =>
∃ cs16 : List Value,
r22 = (.agg (cs16).toArray) ∧
cell h51 b2 (o1 + 26) = some (.int .u8 n2) ∧
Runs Tryd.prog 37 #[(.slice (slcAddr b 16 bC 16) (bL - 16) (bC - 16))] h51 fun r23 h52 =>
∃ cs17 : List Value,
r23 = (.agg (cs17).toArray) ∧
cell h52 b2 (o1 + 26) = some (.int .u8 n2) ∧
(cs2).length = 6 ∧
(cs16).length = 6 ∧
(cs17).length = 6 ∧
(((((cs2) ++ ((cs16) ++ ((cs17) ++ ([(.bool false), (.int .i64 n2), (.int .i64 (0 : Int)), (.int .i64 (0 : Int)), (.int .i64 (0 : Int)), (.int .i64 (0 : Int)), (.int .i64 (0 : Int))] : List Value)))))).length = 25 ∧ wrs h52 b7 0 25 ∧ ∀ u ∈ ((((cs2) ++ ((cs16) ++ ((cs17) ++ ([(.bool false), (.int .i64 n2), (.int .i64 (0 : Int)), (.int .i64 (0 : Int)), (.int .i64 (0 : Int)), (.int .i64 (0 : Int)), (.int .i64 (0 : Int))] : List Value))))) : List Value), u.oneCell' = true) ∧ ∀ h53 : Heap, h53 = setr h52 b7 0 (((cs2) ++ ((cs16) ++ ((cs17) ++ ([(.bool false), (.int .i64 n2), (.int .i64 (0 : Int)), (.int .i64 (0 : Int)), (.int .i64 (0 : Int)), (.int .i64 (0 : Int)), (.int .i64 (0 : Int))] : List Value))))) →
∃ J3 : Int → Heap → Prop, (
(0 ≤ (25 : Int) ∧ (25 : Int) < ((bL : Nat) : Int)) ∧
onAddr b fun b8 o4 =>
∃ n19 : Int, cell h53 b8 (o4 + 25) = some (.int .u8 n19) ∧
bcase (decide (n19 = (1 : Int))) (
wr h53 b7 18 ∧ ∀ h54 : Heap, h54 = setc h53 b7 18 (.bool true) →
(0 ≤ (27 : Int) ∧ (27 : Int) ≤ ((bL : Nat) : Int)) ∧
Runs Tryd.prog 38 #[(.slice (slcAddr b 27 bC 27) (bL - 27) (bC - 27))] h54 fun r24 h55 =>
∃ n20 : Int,
r24 = (.int .i64 n20) ∧
wr h55 b7 24 ∧ ∀ h56 : Heap, h56 = setc h55 b7 24 (.int .i64 n20) →
(0 ≤ (29 : Int) ∧ (29 : Int) ≤ ((bL : Nat) : Int)) ∧
Runs Tryd.prog 38 #[(.slice (slcAddr b 29 bC 29) (bL - 29) (bC - 29))] h56 fun r25 h57 =>
∃ n21 : Int,
r25 = (.int .i64 n21) ∧
(0 ≤ (31 : Int) ∧ (31 : Int) ≤ ((bL : Nat) : Int)) ∧
Runs Tryd.prog 38 #[(.slice (slcAddr b 31 bC 31) (bL - 31) (bC - 31))] h57 fun r26 h58 =>
∃ n22 : Int,
r26 = (.int .i64 n22) ∧
wr h58 b7 22 ∧ ∀ h59 : Heap, h59 = setc h58 b7 22 (.int .i64 n22) →
J3 n21 h59) (
(0 ≤ (27 : Int) ∧ (27 : Int) ≤ ((bL : Nat) : Int)) ∧
Runs Tryd.prog 38 #[(.slice (slcAddr b 27 bC 27) (bL - 27) (bC - 27))] h53 fun r27 h60 =>
∃ n23 : Int,
r27 = (.int .i64 n23) ∧
(0 ≤ (29 : Int) ∧ (29 : Int) ≤ ((bL : Nat) : Int)) ∧
Runs Tryd.prog 38 #[(.slice (slcAddr b 29 bC 29) (bL - 29) (bC - 29))] h60 fun r28 h61 =>
∃ n24 : Int,
r28 = (.int .i64 n24) ∧
wr h61 b7 22 ∧ ∀ h62 : Heap, h62 = setc h61 b7 22 (.int .i64 n24) →
(0 ≤ (31 : Int) ∧ (31 : Int) ≤ ((bL : Nat) : Int)) ∧
Runs Tryd.prog 38 #[(.slice (slcAddr b 31 bC 31) (bL - 31) (bC - 31))] h62 fun r29 h63 =>
∃ n25 : Int,
r29 = (.int .i64 n25) ∧
(0 ≤ n25 ∧ 0 < (16 : Int) ∧ fits .i64 (n25 / (16 : Int))) ∧
wr h63 b7 23 ∧ ∀ h64 : Heap, h64 = setc h63 b7 23 (.int .i64 (n25 / (16 : Int))) →
J3 n23 h64)) ∧ ∀ _ : Env,
∀ (params_3 : Int) (h65 : Heap), J3 params_3 h65 →
(0 ≤ params_3 ∧ 0 < (4 : Int) ∧ fits .i64 (params_3 / (4 : Int))) ∧
(0 ≤ (params_3 / (4 : Int)) ∧ 0 < (16 : Int)) ∧
wr h65 b7 20 ∧ ∀ h66 : Heap, h66 = setc h65 b7 20 (.int .i64 ((params_3 / (4 : Int)) % (16 : Int))) →
(0 ≤ params_3 ∧ 0 < (64 : Int) ∧ fits .i64 (params_3 / (64 : Int))) ∧
wr h66 b7 21 ∧ ∀ h67 : Heap, h67 = setc h66 b7 21 (.int .i64 (params_3 / (64 : Int))) →
∃ cs18 : List Value, row h67 b7 0 25 = some cs18 ∧
Runs Tryd.prog 25 #[(.agg (cs18).toArray)] h67 fun r30 h68 =>
∃ (s3 : Option Addr) (s3l s3c : Nat),
∃ n26 : Int,
r30 = (.tuple #[(.slice s3 s3l s3c), (.int .i64 n26)]) ∧
bcase (!decide (n26 = (0 : Int))) (
((([(.int .u8 (0 : Int)), (.int .u8 (0 : Int)), (.int .u8 (0 : Int)), (.int .u8 (0 : Int)), (.int .u8 (0 : Int)), (.int .u8 (0 : Int)), (.int .u8 (0 : Int)), (.int .u8 (0 : Int)), (.int .u8 (0 : Int)), (.int .u8 (0 : Int)), (.int .u8 (0 : Int)), (.int .u8 (0 : Int)), (.int .u8 (0 : Int)), (.int .u8 (0 : Int)), (.int .u8 (0 : Int)), (.int .u8 (0 : Int)), (.int .u8 (0 : Int)), (.int .u8 (0 : Int)), (.bool false), (.int .i64 (0 : Int)), (.int .i64 (0 : Int)), (.int .i64 (0 : Int)), (.int .i64 (0 : Int)), (.int .i64 (0 : Int)), (.int .i64 (0 : Int))] : List Value)).length = 25 ∧ wrs h68 b1 0 25 ∧ ∀ u ∈ (([(.int .u8 (0 : Int)), (.int .u8 (0 : Int)), (.int .u8 (0 : Int)), (.int .u8 (0 : Int)), (.int .u8 (0 : Int)), (.int .u8 (0 : Int)), (.int .u8 (0 : Int)), (.int .u8 (0 : Int)), (.int .u8 (0 : Int)), (.int .u8 (0 : Int)), (.int .u8 (0 : Int)), (.int .u8 (0 : Int)), (.int .u8 (0 : Int)), (.int .u8 (0 : Int)), (.int .u8 (0 : Int)), (.int .u8 (0 : Int)), (.int .u8 (0 : Int)), (.int .u8 (0 : Int)), (.bool false), (.int .i64 (0 : Int)), (.int .i64 (0 : Int)), (.int .i64 (0 : Int)), (.int .i64 (0 : Int)), (.int .i64 (0 : Int)), (.int .i64 (0 : Int))] : List Value) : List Value), u.oneCell' = true) ∧ ∀ h69 : Heap, h69 = setr h68 b1 0 ([(.int .u8 (0 : Int)), (.int .u8 (0 : Int)), (.int .u8 (0 : Int)), (.int .u8 (0 : Int)), (.int .u8 (0 : Int)), (.int .u8 (0 : Int)), (.int .u8 (0 : Int)), (.int .u8 (0 : Int)), (.int .u8 (0 : Int)), (.int .u8 (0 : Int)), (.int .u8 (0 : Int)), (.int .u8 (0 : Int)), (.int .u8 (0 : Int)), (.int .u8 (0 : Int)), (.int .u8 (0 : Int)), (.int .u8 (0 : Int)), (.int .u8 (0 : Int)), (.int .u8 (0 : Int)), (.bool false), (.int .i64 (0 : Int)), (.int .i64 (0 : Int)), (.int .i64 (0 : Int)), (.int .i64 (0 : Int)), (.int .i64 (0 : Int)), (.int .i64 (0 : Int))] : List Value) →
∃ cs19 : List Value, row h69 b1 0 25 = some cs19 ∧
Post (.tuple #[(.agg (cs19).toArray), (.int .i64 (102 : Int))]) h69) (
Runs Tryd.prog 40 #[(.slice b bL bC), (.slice s3 s3l s3c)] h68 fun r31 h70 =>
∃ t3 : Bool,
r31 = (.bool t3) ∧
bcase (!t3) (
((([(.int .u8 (0 : Int)), (.int .u8 (0 : Int)), (.int .u8 (0 : Int)), (.int .u8 (0 : Int)), (.int .u8 (0 : Int)), (.int .u8 (0 : Int)), (.int .u8 (0 : Int)), (.int .u8 (0 : Int)), (.int .u8 (0 : Int)), (.int .u8 (0 : Int)), (.int .u8 (0 : Int)), (.int .u8 (0 : Int)), (.int .u8 (0 : Int)), (.int .u8 (0 : Int)), (.int .u8 (0 : Int)), (.int .u8 (0 : Int)), (.int .u8 (0 : Int)), (.int .u8 (0 : Int)), (.bool false), (.int .i64 (0 : Int)), (.int .i64 (0 : Int)), (.int .i64 (0 : Int)), (.int .i64 (0 : Int)), (.int .i64 (0 : Int)), (.int .i64 (0 : Int))] : List Value)).length = 25 ∧ wrs h70 b1 0 25 ∧ ∀ u ∈ (([(.int .u8 (0 : Int)), (.int .u8 (0 : Int)), (.int .u8 (0 : Int)), (.int .u8 (0 : Int)), (.int .u8 (0 : Int)), (.int .u8 (0 : Int)), (.int .u8 (0 : Int)), (.int .u8 (0 : Int)), (.int .u8 (0 : Int)), (.int .u8 (0 : Int)), (.int .u8 (0 : Int)), (.int .u8 (0 : Int)), (.int .u8 (0 : Int)), (.int .u8 (0 : Int)), (.int .u8 (0 : Int)), (.int .u8 (0 : Int)), (.int .u8 (0 : Int)), (.int .u8 (0 : Int)), (.bool false), (.int .i64 (0 : Int)), (.int .i64 (0 : Int)), (.int .i64 (0 : Int)), (.int .i64 (0 : Int)), (.int .i64 (0 : Int)), (.int .i64 (0 : Int))] : List Value) : List Value), u.oneCell' = true) ∧ ∀ h71 : Heap, h71 = setr h70 b1 0 ([(.int .u8 (0 : Int)), (.int .u8 (0 : Int)), (.int .u8 (0 : Int)), (.int .u8 (0 : Int)), (.int .u8 (0 : Int)), (.int .u8 (0 : Int)), (.int .u8 (0 : Int)), (.int .u8 (0 : Int)), (.int .u8 (0 : Int)), (.int .u8 (0 : Int)), (.int .u8 (0 : Int)), (.int .u8 (0 : Int)), (.int .u8 (0 : Int)), (.int .u8 (0 : Int)), (.int .u8 (0 : Int)), (.int .u8 (0 : Int)), (.int .u8 (0 : Int)), (.int .u8 (0 : Int)), (.bool false), (.int .i64 (0 : Int)), (.int .i64 (0 : Int)), (.int .i64 (0 : Int)), (.int .i64 (0 : Int)), (.int .i64 (0 : Int)), (.int .i64 (0 : Int))] : List Value) →
∃ cs20 : List Value, row h71 b1 0 25 = some cs20 ∧
Post (.tuple #[(.agg (cs20).toArray), (.int .i64 (102 : Int))]) h71) (
∃ cs21 : List Value, row h70 b7 0 25 = some cs21 ∧
(((cs21)).length = 25 ∧ wrs h70 b1 0 25 ∧ ∀ u ∈ ((cs21) : List Value), u.oneCell' = true) ∧ ∀ h72 : Heap, h72 = setr h70 b1 0 (cs21) →
∃ cs22 : List Value, row h72 b1 0 25 = some cs22 ∧
Post (.tuple #[(.agg (cs22).toArray), (.int .i64 (0 : Int))]) h72)))) ∧
(
∀ (b9 : Nat) (h73 : Heap), b9 = h2.size → h73 = h2.push (.cells ([(.int .u8 (0 : Int)), (.int .u8 (0 : Int)), (.int .u8 (0 : Int)), (.int .u8 (0 : Int)), (.int .u8 (0 : Int)), (.int .u8 (0 : Int)), (.int .u8 (0 : Int)), (.int .u8 (0 : Int)), (.int .u8 (0 : Int)), (.int .u8 (0 : Int)), (.int .u8 (0 : Int)), (.int .u8 (0 : Int)), (.int .u8 (0 : Int)), (.int .u8 (0 : Int)), (.int .u8 (0 : Int)), (.int .u8 (0 : Int)), (.int .u8 (0 : Int)), (.int .u8 (0 : Int)), (.bool false), (.int .i64 (0 : Int)), (.int .i64 (0 : Int)), (.int .i64 (0 : Int)), (.int .i64 (0 : Int)), (.int .i64 (0 : Int)), (.int .i64 (0 : Int))] : List Value).toArray 65) →
Runs Tryd.prog 37 #[(.slice (slcAddr b 4 bC 4) (bL - 4) (bC - 4))] h73 fun r32 h74 =>
∃ cs23 : List Value,
r32 = (.agg (cs23).toArray) ∧
cell h74 b2 (o1 + 26) = some (.int .u8 n2) ∧
Runs Tryd.prog 37 #[(.slice (slcAddr b 10 bC 10) (bL - 10) (bC - 10))] h74 fun r33 h75 =>
∃ cs24 : List Value,
r33 = (.agg (cs24).toArray) ∧
cell h75 b2 (o1 + 26) = some (.int .u8 n2) ∧
Runs Tryd.prog 37 #[(.slice (slcAddr b 16 bC 16) (bL - 16) (bC - 16))] h75 fun r34 h76 =>
∃ cs25 : List Value,
r34 = (.agg (cs25).toArray) ∧
cell h76 b2 (o1 + 26) = some (.int .u8 n2) ∧
(cs23).length = 6 ∧
(cs24).length = 6 ∧
(cs25).length = 6 ∧
(((((cs23) ++ ((cs24) ++ ((cs25) ++ ([(.bool false), (.int .i64 n2), (.int .i64 (0 : Int)), (.int .i64 (0 : Int)), (.int .i64 (0 : Int)), (.int .i64 (0 : Int)), (.int .i64 (0 : Int))] : List Value)))))).length = 25 ∧ wrs h76 b9 0 25 ∧ ∀ u ∈ ((((cs23) ++ ((cs24) ++ ((cs25) ++ ([(.bool false), (.int .i64 n2), (.int .i64 (0 : Int)), (.int .i64 (0 : Int)), (.int .i64 (0 : Int)), (.int .i64 (0 : Int)), (.int .i64 (0 : Int))] : List Value))))) : List Value), u.oneCell' = true) ∧ ∀ h77 : Heap, h77 = setr h76 b9 0 (((cs23) ++ ((cs24) ++ ((cs25) ++ ([(.bool false), (.int .i64 n2), (.int .i64 (0 : Int)), (.int .i64 (0 : Int)), (.int .i64 (0 : Int)), (.int .i64 (0 : Int)), (.int .i64 (0 : Int))] : List Value))))) →
∃ J4 : Int → Heap → Prop, (
(0 ≤ (25 : Int) ∧ (25 : Int) < ((bL : Nat) : Int)) ∧
onAddr b fun b10 o5 =>
∃ n27 : Int, cell h77 b10 (o5 + 25) = some (.int .u8 n27) ∧
bcase (decide (n27 = (1 : Int))) (
wr h77 b9 18 ∧ ∀ h78 : Heap, h78 = setc h77 b9 18 (.bool true) →
(0 ≤ (27 : Int) ∧ (27 : Int) ≤ ((bL : Nat) : Int)) ∧
Runs Tryd.prog 38 #[(.slice (slcAddr b 27 bC 27) (bL - 27) (bC - 27))] h78 fun r35 h79 =>
∃ n28 : Int,
r35 = (.int .i64 n28) ∧
wr h79 b9 24 ∧ ∀ h80 : Heap, h80 = setc h79 b9 24 (.int .i64 n28) →
(0 ≤ (29 : Int) ∧ (29 : Int) ≤ ((bL : Nat) : Int)) ∧
Runs Tryd.prog 38 #[(.slice (slcAddr b 29 bC 29) (bL - 29) (bC - 29))] h80 fun r36 h81 =>
∃ n29 : Int,
r36 = (.int .i64 n29) ∧
(0 ≤ (31 : Int) ∧ (31 : Int) ≤ ((bL : Nat) : Int)) ∧
Runs Tryd.prog 38 #[(.slice (slcAddr b 31 bC 31) (bL - 31) (bC - 31))] h81 fun r37 h82 =>
∃ n30 : Int,
r37 = (.int .i64 n30) ∧
wr h82 b9 22 ∧ ∀ h83 : Heap, h83 = setc h82 b9 22 (.int .i64 n30) →
J4 n29 h83) (
(0 ≤ (27 : Int) ∧ (27 : Int) ≤ ((bL : Nat) : Int)) ∧
Runs Tryd.prog 38 #[(.slice (slcAddr b 27 bC 27) (bL - 27) (bC - 27))] h77 fun r38 h84 =>
∃ n31 : Int,
r38 = (.int .i64 n31) ∧
(0 ≤ (29 : Int) ∧ (29 : Int) ≤ ((bL : Nat) : Int)) ∧
Runs Tryd.prog 38 #[(.slice (slcAddr b 29 bC 29) (bL - 29) (bC - 29))] h84 fun r39 h85 =>
∃ n32 : Int,
r39 = (.int .i64 n32) ∧
wr h85 b9 22 ∧ ∀ h86 : Heap, h86 = setc h85 b9 22 (.int .i64 n32) →
(0 ≤ (31 : Int) ∧ (31 : Int) ≤ ((bL : Nat) : Int)) ∧
Runs Tryd.prog 38 #[(.slice (slcAddr b 31 bC 31) (bL - 31) (bC - 31))] h86 fun r40 h87 =>
∃ n33 : Int,
r40 = (.int .i64 n33) ∧
(0 ≤ n33 ∧ 0 < (16 : Int) ∧ fits .i64 (n33 / (16 : Int))) ∧
wr h87 b9 23 ∧ ∀ h88 : Heap, h88 = setc h87 b9 23 (.int .i64 (n33 / (16 : Int))) →
J4 n31 h88)) ∧ ∀ _ : Env,
∀ (params_4 : Int) (h89 : Heap), J4 params_4 h89 →
(0 ≤ params_4 ∧ 0 < (4 : Int) ∧ fits .i64 (params_4 / (4 : Int))) ∧
(0 ≤ (params_4 / (4 : Int)) ∧ 0 < (16 : Int)) ∧
wr h89 b9 20 ∧ ∀ h90 : Heap, h90 = setc h89 b9 20 (.int .i64 ((params_4 / (4 : Int)) % (16 : Int))) →
(0 ≤ params_4 ∧ 0 < (64 : Int) ∧ fits .i64 (params_4 / (64 : Int))) ∧
wr h90 b9 21 ∧ ∀ h91 : Heap, h91 = setc h90 b9 21 (.int .i64 (params_4 / (64 : Int))) →
∃ cs26 : List Value, row h91 b9 0 25 = some cs26 ∧
Runs Tryd.prog 25 #[(.agg (cs26).toArray)] h91 fun r41 h92 =>
∃ (s4 : Option Addr) (s4l s4c : Nat),
∃ n34 : Int,
r41 = (.tuple #[(.slice s4 s4l s4c), (.int .i64 n34)]) ∧
bcase (!decide (n34 = (0 : Int))) (
((([(.int .u8 (0 : Int)), (.int .u8 (0 : Int)), (.int .u8 (0 : Int)), (.int .u8 (0 : Int)), (.int .u8 (0 : Int)), (.int .u8 (0 : Int)), (.int .u8 (0 : Int)), (.int .u8 (0 : Int)), (.int .u8 (0 : Int)), (.int .u8 (0 : Int)), (.int .u8 (0 : Int)), (.int .u8 (0 : Int)), (.int .u8 (0 : Int)), (.int .u8 (0 : Int)), (.int .u8 (0 : Int)), (.int .u8 (0 : Int)), (.int .u8 (0 : Int)), (.int .u8 (0 : Int)), (.bool false), (.int .i64 (0 : Int)), (.int .i64 (0 : Int)), (.int .i64 (0 : Int)), (.int .i64 (0 : Int)), (.int .i64 (0 : Int)), (.int .i64 (0 : Int))] : List Value)).length = 25 ∧ wrs h92 b1 0 25 ∧ ∀ u ∈ (([(.int .u8 (0 : Int)), (.int .u8 (0 : Int)), (.int .u8 (0 : Int)), (.int .u8 (0 : Int)), (.int .u8 (0 : Int)), (.int .u8 (0 : Int)), (.int .u8 (0 : Int)), (.int .u8 (0 : Int)), (.int .u8 (0 : Int)), (.int .u8 (0 : Int)), (.int .u8 (0 : Int)), (.int .u8 (0 : Int)), (.int .u8 (0 : Int)), (.int .u8 (0 : Int)), (.int .u8 (0 : Int)), (.int .u8 (0 : Int)), (.int .u8 (0 : Int)), (.int .u8 (0 : Int)), (.bool false), (.int .i64 (0 : Int)), (.int .i64 (0 : Int)), (.int .i64 (0 : Int)), (.int .i64 (0 : Int)), (.int .i64 (0 : Int)), (.int .i64 (0 : Int))] : List Value) : List Value), u.oneCell' = true) ∧ ∀ h93 : Heap, h93 = setr h92 b1 0 ([(.int .u8 (0 : Int)), (.int .u8 (0 : Int)), (.int .u8 (0 : Int)), (.int .u8 (0 : Int)), (.int .u8 (0 : Int)), (.int .u8 (0 : Int)), (.int .u8 (0 : Int)), (.int .u8 (0 : Int)), (.int .u8 (0 : Int)), (.int .u8 (0 : Int)), (.int .u8 (0 : Int)), (.int .u8 (0 : Int)), (.int .u8 (0 : Int)), (.int .u8 (0 : Int)), (.int .u8 (0 : Int)), (.int .u8 (0 : Int)), (.int .u8 (0 : Int)), (.int .u8 (0 : Int)), (.bool false), (.int .i64 (0 : Int)), (.int .i64 (0 : Int)), (.int .i64 (0 : Int)), (.int .i64 (0 : Int)), (.int .i64 (0 : Int)), (.int .i64 (0 : Int))] : List Value) →
∃ cs27 : List Value, row h93 b1 0 25 = some cs27 ∧
Post (.tuple #[(.agg (cs27).toArray), (.int .i64 (102 : Int))]) h93) (
Runs Tryd.prog 40 #[(.slice b bL bC), (.slice s4 s4l s4c)] h92 fun r42 h94 =>
∃ t4 : Bool,
r42 = (.bool t4) ∧
bcase (!t4) (
((([(.int .u8 (0 : Int)), (.int .u8 (0 : Int)), (.int .u8 (0 : Int)), (.int .u8 (0 : Int)), (.int .u8 (0 : Int)), (.int .u8 (0 : Int)), (.int .u8 (0 : Int)), (.int .u8 (0 : Int)), (.int .u8 (0 : Int)), (.int .u8 (0 : Int)), (.int .u8 (0 : Int)), (.int .u8 (0 : Int)), (.int .u8 (0 : Int)), (.int .u8 (0 : Int)), (.int .u8 (0 : Int)), (.int .u8 (0 : Int)), (.int .u8 (0 : Int)), (.int .u8 (0 : Int)), (.bool false), (.int .i64 (0 : Int)), (.int .i64 (0 : Int)), (.int .i64 (0 : Int)), (.int .i64 (0 : Int)), (.int .i64 (0 : Int)), (.int .i64 (0 : Int))] : List Value)).length = 25 ∧ wrs h94 b1 0 25 ∧ ∀ u ∈ (([(.int .u8 (0 : Int)), (.int .u8 (0 : Int)), (.int .u8 (0 : Int)), (.int .u8 (0 : Int)), (.int .u8 (0 : Int)), (.int .u8 (0 : Int)), (.int .u8 (0 : Int)), (.int .u8 (0 : Int)), (.int .u8 (0 : Int)), (.int .u8 (0 : Int)), (.int .u8 (0 : Int)), (.int .u8 (0 : Int)), (.int .u8 (0 : Int)), (.int .u8 (0 : Int)), (.int .u8 (0 : Int)), (.int .u8 (0 : Int)), (.int .u8 (0 : Int)), (.int .u8 (0 : Int)), (.bool false), (.int .i64 (0 : Int)), (.int .i64 (0 : Int)), (.int .i64 (0 : Int)), (.int .i64 (0 : Int)), (.int .i64 (0 : Int)), (.int .i64 (0 : Int))] : List Value) : List Value), u.oneCell' = true) ∧ ∀ h95 : Heap, h95 = setr h94 b1 0 ([(.int .u8 (0 : Int)), (.int .u8 (0 : Int)), (.int .u8 (0 : Int)), (.int .u8 (0 : Int)), (.int .u8 (0 : Int)), (.int .u8 (0 : Int)), (.int .u8 (0 : Int)), (.int .u8 (0 : Int)), (.int .u8 (0 : Int)), (.int .u8 (0 : Int)), (.int .u8 (0 : Int)), (.int .u8 (0 : Int)), (.int .u8 (0 : Int)), (.int .u8 (0 : Int)), (.int .u8 (0 : Int)), (.int .u8 (0 : Int)), (.int .u8 (0 : Int)), (.int .u8 (0 : Int)), (.bool false), (.int .i64 (0 : Int)), (.int .i64 (0 : Int)), (.int .i64 (0 : Int)), (.int .i64 (0 : Int)), (.int .i64 (0 : Int)), (.int .i64 (0 : Int))] : List Value) →
∃ cs28 : List Value, row h95 b1 0 25 = some cs28 ∧
Post (.tuple #[(.agg (cs28).toArray), (.int .i64 (102 : Int))]) h95) (
∃ cs29 : List Value, row h94 b9 0 25 = some cs29 ∧
(((cs29)).length = 25 ∧ wrs h94 b1 0 25 ∧ ∀ u ∈ ((cs29) : List Value), u.oneCell' = true) ∧ ∀ h96 : Heap, h96 = setr h94 b1 0 (cs29) →
∃ cs30 : List Value, row h96 b1 0 25 = some cs30 ∧
Post (.tuple #[(.agg (cs30).toArray), (.int .i64 (0 : Int))]) h96))))) :
    Runs Tryd.prog 30 #[(.slice b bL bC)] h0 Post :=
  runs_of (args := [(.slice b bL bC)]) (fun n => ⟨true, false⟩) (fun _ => []) (fun n => match n with | 14 => some [(6, .int .i64)] | _ => none) (fun _ => []) Tryd.func30 rfl (by rw [Tryd.ntmps30]; simp) (Eq.mp (by kernel_rfl) H)
end Go.Proofs.YthlacliefgliiaaDoor
