/- The conditions for calls of functions of the program, in plain form: written by a program (vcgen) off the elaborated code; each is the reckoner's own, by the kernel. -/
import Derived.Test.YthlacliefgliiaaDoorRows
import Derived.Test.YthlacliefgliiaaDoorVc
set_option linter.unusedVariables false
set_option maxRecDepth 100000
namespace Go.Proofs.YthlacliefgliiaaDoor
open Go.Vc
theorem vc_recv_New (me : List Value) (bss : List Value) (size : Int) (h0 : Heap) (Post : Value → Heap → Prop) (H :
∀ (b1 : Nat) (h1 : Heap), b1 = h0.size → h1 = h0.push (.cells (me).toArray 31) →
∀ (b2 : Nat) (h2 : Heap), b2 = h1.size → h2 = h1.push (.cells (bss).toArray 31) →
bcase (decide (size < (1 : Int))) (
∃ v1 : Value, cell h2 0 0 = some v1 ∧
Post (.tuple #[(.pointer none), v1]) h2) (
bcase (decide ((64 : Int) < size)) (
∃ v2 : Value, cell h2 0 0 = some v2 ∧
Post (.tuple #[(.pointer none), v2]) h2) (
∃ cs1 : List Value, row h2 b1 0 6 = some cs1 ∧
∃ cs2 : List Value, row h2 b2 0 6 = some cs2 ∧
(cs1).length = 6 ∧
(cs2).length = 6 ∧
∀ (b3 : Nat) (h3 : Heap), b3 = h2.size → h3 = h2.push (.cells (((cs1) ++ ((cs2) ++ ([(.int .i64 size), (.bool false), (.int .i64 (0 : Int)), (.int .i64 (0 : Int)), (.int .i64 (0 : Int)), (.int .u64 (0 : Int)), (.map none), (.bool false), (.int .i64 (0 : Int)), (.bool false), (.int .i64 (0 : Int)), (.int .i64 (0 : Int)), (.int .i64 (0 : Int)), (.int .u64 (0 : Int)), (.map none), (.bool false), (.int .i64 (0 : Int)), (.bool false), (.int .i64 (0 : Int)), (.int .i64 (0 : Int)), (.int .i64 (0 : Int)), (.int .u64 (0 : Int)), (.map none), (.bool false), (.int .i64 (0 : Int)), (.bool false), (.int .i64 (0 : Int)), (.int .i64 (0 : Int)), (.int .i64 (0 : Int)), (.int .u64 (0 : Int)), (.map none), (.bool false), (.int .i64 (0 : Int)), (.bool false), (.int .i64 (0 : Int)), (.int .i64 (0 : Int)), (.int .i64 (0 : Int)), (.int .u64 (0 : Int)), (.map none), (.bool false), (.int .i64 (0 : Int)), (.bool false), (.int .i64 (0 : Int)), (.int .i64 (0 : Int)), (.int .i64 (0 : Int)), (.int .u64 (0 : Int)), (.map none), (.bool false), (.int .i64 (0 : Int)), (.bool false), (.int .i64 (0 : Int)), (.int .i64 (0 : Int)), (.int .i64 (0 : Int)), (.int .u64 (0 : Int)), (.map none), (.bool false), (.int .i64 (0 : Int)), (.bool false), (.int .i64 (0 : Int)), (.int .i64 (0 : Int)), (.int .i64 (0 : Int)), (.int .u64 (0 : Int)), (.map none), (.bool false), (.int .i64 (0 : Int))] : List Value)))).toArray 84) →
Post (.tuple #[(.pointer (some ⟨b3, 0, none⟩)), .nilIface]) h3))) :
    Runs Tryd.prog 10 #[(.agg (me).toArray), (.agg (bss).toArray), (.int .i64 size)] h0 Post :=
  runs_of (args := [(.agg (me).toArray), (.agg (bss).toArray), (.int .i64 size)]) (fun n => ⟨true, false⟩) (fun _ => []) (fun _ => none) (fun _ => []) Tryd.func10 rfl (by rw [Tryd.ntmps10]; simp) (Eq.mp (by kernel_rfl) H)

theorem vc_recv_Station_Data (s : Nat) (agg : Bool) (b : Option Addr) (bL bC : Nat) (h0 : Heap) (Post : Value → Heap → Prop) (H :
∀ (b1 : Nat) (h1 : Heap), b1 = h0.size → h1 = h0.push (.cells ([(.slice b bL bC)] : List Value).toArray 35) →
bcase agg (
Runs Tryd.prog 32 #[(.slice b bL bC)] h1 fun r1 h2 =>
∃ (s1 : Option Addr) (s1l s1c : Nat),
r1 = (.slice s1 s1l s1c) ∧
∃ (I1 : Option Addr → Nat → Nat → Int → Int → Heap → Prop) (m1 : Option Addr → Nat → Nat → Int → Int → Heap → Nat), I1 none 0 0 (-1 : Int) (0 : Int) h2 ∧ ∀ _ : Env,
∀ (out_1 : Option Addr) (out_1l out_1c : Nat) (last_1 : Int) (x3 : Int) (h3 : Heap), I1 out_1 out_1l out_1c last_1 x3 h3 →
bcase (decide (x3 < ((s1l : Nat) : Int))) (
(0 ≤ x3 ∧ x3 < ((s1l : Nat) : Int)) ∧
onAddr s1 fun b2 o1 =>
∃ (s2 : Option Addr) (s2l s2c : Nat), cell h3 b2 (o1 + (x3).toNat) = some (.slice s2 s2l s2c) ∧
Runs Tryd.prog 33 #[(.slice s2 s2l s2c)] h3 fun r2 h4 =>
∃ cs1 : List Value,
∃ v1 : Value,
r2 = (.tuple #[(.agg (cs1).toArray), v1]) ∧
∀ (b3 : Nat) (h5 : Heap), b3 = h4.size → h5 = h4.push (.cells ([(.int .u8 (0 : Int)), (.int .u8 (0 : Int)), (.int .u8 (0 : Int)), (.int .u8 (0 : Int)), (.int .u8 (0 : Int)), (.int .u8 (0 : Int)), (.int .u8 (0 : Int)), (.int .u8 (0 : Int)), (.int .u8 (0 : Int)), (.int .u8 (0 : Int)), (.int .u8 (0 : Int)), (.int .u8 (0 : Int)), (.int .u8 (0 : Int)), (.int .u8 (0 : Int)), (.int .u8 (0 : Int)), (.int .u8 (0 : Int)), (.int .u8 (0 : Int)), (.int .u8 (0 : Int)), (.int .i64 (0 : Int)), (.int .i64 (0 : Int)), (.bool false), (.bool false), (.bool false), (.slice none 0 0)] : List Value).toArray 55) →
(((cs1)).length = 24 ∧ wrs h5 b3 0 24 ∧ ∀ u ∈ ((cs1) : List Value), u.oneCell' = true) ∧ ∀ h6 : Heap, h6 = setr h5 b3 0 (cs1) →
∃ t1 : Bool, ifeq true (v1) (.nilIface) = some t1 ∧
bcase (!t1) (
fits .i64 (x3 + (1 : Int)) ∧
I1 out_1 out_1l out_1c last_1 (x3 + (1 : Int)) h6 ∧ m1 out_1 out_1l out_1c last_1 (x3 + (1 : Int)) h6 < m1 out_1 out_1l out_1c last_1 x3 h3) (
∃ cs2 : List Value, row h6 b3 0 6 = some cs2 ∧
∃ cs3 : List Value, row h6 s 0 6 = some cs3 ∧
∃ l1 l2 : List Int, cs2 = l1.map (Value.int .u8) ∧ cs3 = l2.map (Value.int .u8) ∧ (l1.length = 6 ∧ l2.length = 6) ∧
bcase (!(decide (l1 = l2))) (
fits .i64 (x3 + (1 : Int)) ∧
I1 out_1 out_1l out_1c last_1 (x3 + (1 : Int)) h6 ∧ m1 out_1 out_1l out_1c last_1 (x3 + (1 : Int)) h6 < m1 out_1 out_1l out_1c last_1 x3 h3) (
∃ cs4 : List Value, row h6 b3 6 6 = some cs4 ∧
∃ cs5 : List Value, row h6 s 6 6 = some cs5 ∧
∃ l3 l4 : List Int, cs4 = l3.map (Value.int .u8) ∧ cs5 = l4.map (Value.int .u8) ∧ (l3.length = 6 ∧ l4.length = 6) ∧
bcase (!(decide (l3 = l4))) (
fits .i64 (x3 + (1 : Int)) ∧
I1 out_1 out_1l out_1c last_1 (x3 + (1 : Int)) h6 ∧ m1 out_1 out_1l out_1c last_1 (x3 + (1 : Int)) h6 < m1 out_1 out_1l out_1c last_1 x3 h3) (
∃ n1 : Int, cell h6 b3 18 = some (.int .i64 n1) ∧
(0 ≤ n1 ∧ n1 < ((8 : Nat) : Int)) ∧
∃ cs6 : List Value, row h6 b3 0 24 = some cs6 ∧
Runs Tryd.prog 34 #[(.pointer (some ⟨s, (13 + ((n1).toNat * 8)), none⟩)), (.agg (cs6).toArray)] h6 fun r3 h7 =>
∃ (s3 : Option Addr) (s3l s3c : Nat),
r3 = (.slice s3 s3l s3c) ∧
cell h7 b3 18 = some (.int .i64 n1) ∧
∃ news1 : List Value, (src h7 s3 (s3l * 24) news1 ∧ ∀ u ∈ news1, u.oneCell' = true) ∧
appK h7 out_1 out_1l out_1c s3l 24 55 72 news1 fun (a1 : Option Addr) (cap1 : Nat) (h8 : Heap) =>
cell h8 b3 18 = some (.int .i64 n1) ∧
∃ n2 : Int, cell h8 b3 18 = some (.int .i64 n2) ∧
fits .i64 (x3 + (1 : Int)) ∧
I1 a1 (out_1l + s3l) cap1 n2 (x3 + (1 : Int)) h8 ∧ m1 a1 (out_1l + s3l) cap1 n2 (x3 + (1 : Int)) h8 < m1 out_1 out_1l out_1c last_1 x3 h3)))) (
bcase (decide (last_1 < (0 : Int))) (
Post (.tuple #[(.slice out_1 out_1l out_1c), (.slice none 0 0)]) h3) (
Runs Tryd.prog 35 #[(.pointer (some ⟨s, 0, none⟩)), (.int .i64 last_1)] h3 fun r4 h9 =>
∃ (s4 : Option Addr) (s4l s4c : Nat),
r4 = (.slice s4 s4l s4c) ∧
Post (.tuple #[(.slice out_1 out_1l out_1c), (.slice s4 s4l s4c)]) h9))) (
∃ (I2 : Option Addr → Nat → Nat → Int → Int → Heap → Prop) (m2 : Option Addr → Nat → Nat → Int → Int → Heap → Nat), I2 none 0 0 (-1 : Int) (0 : Int) h1 ∧ ∀ _ : Env,
∀ (out_2 : Option Addr) (out_2l out_2c : Nat) (last_2 : Int) (x6 : Int) (h10 : Heap), I2 out_2 out_2l out_2c last_2 x6 h10 →
bcase (decide (x6 < ((1 : Nat) : Int))) (
(0 ≤ x6 ∧ x6 < ((1 : Nat) : Int)) ∧
∃ (s5 : Option Addr) (s5l s5c : Nat), cell h10 b1 (0 + (x6).toNat) = some (.slice s5 s5l s5c) ∧
Runs Tryd.prog 33 #[(.slice s5 s5l s5c)] h10 fun r5 h11 =>
∃ cs7 : List Value,
∃ v2 : Value,
r5 = (.tuple #[(.agg (cs7).toArray), v2]) ∧
∀ (b4 : Nat) (h12 : Heap), b4 = h11.size → h12 = h11.push (.cells ([(.int .u8 (0 : Int)), (.int .u8 (0 : Int)), (.int .u8 (0 : Int)), (.int .u8 (0 : Int)), (.int .u8 (0 : Int)), (.int .u8 (0 : Int)), (.int .u8 (0 : Int)), (.int .u8 (0 : Int)), (.int .u8 (0 : Int)), (.int .u8 (0 : Int)), (.int .u8 (0 : Int)), (.int .u8 (0 : Int)), (.int .u8 (0 : Int)), (.int .u8 (0 : Int)), (.int .u8 (0 : Int)), (.int .u8 (0 : Int)), (.int .u8 (0 : Int)), (.int .u8 (0 : Int)), (.int .i64 (0 : Int)), (.int .i64 (0 : Int)), (.bool false), (.bool false), (.bool false), (.slice none 0 0)] : List Value).toArray 55) →
(((cs7)).length = 24 ∧ wrs h12 b4 0 24 ∧ ∀ u ∈ ((cs7) : List Value), u.oneCell' = true) ∧ ∀ h13 : Heap, h13 = setr h12 b4 0 (cs7) →
∃ t2 : Bool, ifeq true (v2) (.nilIface) = some t2 ∧
bcase (!t2) (
fits .i64 (x6 + (1 : Int)) ∧
I2 out_2 out_2l out_2c last_2 (x6 + (1 : Int)) h13 ∧ m2 out_2 out_2l out_2c last_2 (x6 + (1 : Int)) h13 < m2 out_2 out_2l out_2c last_2 x6 h10) (
∃ cs8 : List Value, row h13 b4 0 6 = some cs8 ∧
∃ cs9 : List Value, row h13 s 0 6 = some cs9 ∧
∃ l5 l6 : List Int, cs8 = l5.map (Value.int .u8) ∧ cs9 = l6.map (Value.int .u8) ∧ (l5.length = 6 ∧ l6.length = 6) ∧
bcase (!(decide (l5 = l6))) (
fits .i64 (x6 + (1 : Int)) ∧
I2 out_2 out_2l out_2c last_2 (x6 + (1 : Int)) h13 ∧ m2 out_2 out_2l out_2c last_2 (x6 + (1 : Int)) h13 < m2 out_2 out_2l out_2c last_2 x6 h10) (
∃ cs10 : List Value, row h13 b4 6 6 = some cs10 ∧
∃ cs11 : List Value, row h13 s 6 6 = some cs11 ∧
∃ l7 l8 : List Int, cs10 = l7.map (Value.int .u8) ∧ cs11 = l8.map (Value.int .u8) ∧ (l7.length = 6 ∧ l8.length = 6) ∧
bcase (!(decide (l7 = l8))) (
fits .i64 (x6 + (1 : Int)) ∧
I2 out_2 out_2l out_2c last_2 (x6 + (1 : Int)) h13 ∧ m2 out_2 out_2l out_2c last_2 (x6 + (1 : Int)) h13 < m2 out_2 out_2l out_2c last_2 x6 h10) (
∃ n3 : Int, cell h13 b4 18 = some (.int .i64 n3) ∧
(0 ≤ n3 ∧ n3 < ((8 : Nat) : Int)) ∧
∃ cs12 : List Value, row h13 b4 0 24 = some cs12 ∧
Runs Tryd.prog 34 #[(.pointer (some ⟨s, (13 + ((n3).toNat * 8)), none⟩)), (.agg (cs12).toArray)] h13 fun r6 h14 =>
∃ (s6 : Option Addr) (s6l s6c : Nat),
r6 = (.slice s6 s6l s6c) ∧
cell h14 b4 18 = some (.int .i64 n3) ∧
∃ news2 : List Value, (src h14 s6 (s6l * 24) news2 ∧ ∀ u ∈ news2, u.oneCell' = true) ∧
appK h14 out_2 out_2l out_2c s6l 24 55 72 news2 fun (a2 : Option Addr) (cap2 : Nat) (h15 : Heap) =>
cell h15 b4 18 = some (.int .i64 n3) ∧
∃ n4 : Int, cell h15 b4 18 = some (.int .i64 n4) ∧
fits .i64 (x6 + (1 : Int)) ∧
I2 a2 (out_2l + s6l) cap2 n4 (x6 + (1 : Int)) h15 ∧ m2 a2 (out_2l + s6l) cap2 n4 (x6 + (1 : Int)) h15 < m2 out_2 out_2l out_2c last_2 x6 h10)))) (
bcase (decide (last_2 < (0 : Int))) (
Post (.tuple #[(.slice out_2 out_2l out_2c), (.slice none 0 0)]) h10) (
Runs Tryd.prog 35 #[(.pointer (some ⟨s, 0, none⟩)), (.int .i64 last_2)] h10 fun r7 h16 =>
∃ (s7 : Option Addr) (s7l s7c : Nat),
r7 = (.slice s7 s7l s7c) ∧
Post (.tuple #[(.slice out_2 out_2l out_2c), (.slice s7 s7l s7c)]) h16)))) :
    Runs Tryd.prog 14 #[(.pointer (some ⟨s, 0, none⟩)), (.bool agg), (.slice b bL bC)] h0 Post :=
  runs_of (args := [(.pointer (some ⟨s, 0, none⟩)), (.bool agg), (.slice b bL bC)]) (fun n => ⟨true, false⟩) (fun n => match n with | 0 => [(9, .slice), (10, .int .i64), (22, .int .i64)] | _ => []) (fun _ => none) (fun _ => []) Tryd.func14 rfl (by rw [Tryd.ntmps14]; simp) (Eq.mp (by kernel_rfl) H)

theorem vc_recv_Station_Other (s : Nat) (b : Option Addr) (bL bC : Nat) (h0 : Heap) (Post : Value → Heap → Prop) (H :
Runs Tryd.prog 50 #[(.slice b bL bC)] h0 fun r1 h1 =>
∃ cs1 : List Value,
∃ v1 : Value,
r1 = (.tuple #[(.agg (cs1).toArray), v1]) ∧
∀ (b1 : Nat) (h2 : Heap), b1 = h1.size → h2 = h1.push (.cells ([(.int .u8 (0 : Int)), (.int .u8 (0 : Int)), (.int .u8 (0 : Int)), (.int .u8 (0 : Int)), (.int .u8 (0 : Int)), (.int .u8 (0 : Int)), (.int .u8 (0 : Int)), (.int .u8 (0 : Int)), (.int .u8 (0 : Int)), (.int .u8 (0 : Int)), (.int .u8 (0 : Int)), (.int .u8 (0 : Int)), (.int .i64 (0 : Int)), (.int .i64 (0 : Int))] : List Value).toArray 69) →
(((cs1)).length = 14 ∧ wrs h2 b1 0 14 ∧ ∀ u ∈ ((cs1) : List Value), u.oneCell' = true) ∧ ∀ h3 : Heap, h3 = setr h2 b1 0 (cs1) →
∃ t1 : Bool, ifeqH Tryd.prog h3 true (v1) (.nilIface) = some t1 ∧
bcase t1 (
∃ cs2 : List Value, row h3 b1 0 14 = some cs2 ∧
Runs Tryd.prog 51 #[(.pointer (some ⟨s, 0, none⟩)), (.agg (cs2).toArray)] h3 fun r2 h4 =>
∃ (s1 : Option Addr) (s1l s1c : Nat),
∃ (s2 : Option Addr) (s2l s2c : Nat),
r2 = (.tuple #[(.slice s1 s1l s1c), (.slice s2 s2l s2c)]) ∧
Post (.tuple #[(.slice s1 s1l s1c), (.slice s2 s2l s2c)]) h4) (
Runs Tryd.prog 52 #[(.slice b bL bC)] h3 fun r3 h5 =>
∃ cs3 : List Value,
∃ v2 : Value,
r3 = (.tuple #[(.agg (cs3).toArray), v2]) ∧
∀ (b2 : Nat) (h6 : Heap), b2 = h5.size → h6 = h5.push (.cells ([(.int .u8 (0 : Int)), (.int .u8 (0 : Int)), (.int .u8 (0 : Int)), (.int .u8 (0 : Int)), (.int .u8 (0 : Int)), (.int .u8 (0 : Int)), (.int .u8 (0 : Int)), (.int .u8 (0 : Int)), (.int .u8 (0 : Int)), (.int .u8 (0 : Int)), (.int .u8 (0 : Int)), (.int .u8 (0 : Int)), (.int .u8 (0 : Int)), (.int .u8 (0 : Int)), (.int .u8 (0 : Int)), (.int .u8 (0 : Int)), (.int .u8 (0 : Int)), (.int .u8 (0 : Int)), (.bool false), (.int .i64 (0 : Int)), (.int .i64 (0 : Int)), (.int .i64 (0 : Int)), (.int .i64 (0 : Int)), (.int .i64 (0 : Int)), (.int .i64 (0 : Int))] : List Value).toArray 65) →
(((cs3)).length = 25 ∧ wrs h6 b2 0 25 ∧ ∀ u ∈ ((cs3) : List Value), u.oneCell' = true) ∧ ∀ h7 : Heap, h7 = setr h6 b2 0 (cs3) →
∃ t2 : Bool, ifeqH Tryd.prog h7 true (v2) (.nilIface) = some t2 ∧
bcase t2 (
∃ cs4 : List Value, row h7 b2 0 25 = some cs4 ∧
Runs Tryd.prog 53 #[(.pointer (some ⟨s, 0, none⟩)), (.agg (cs4).toArray)] h7 fun r4 h8 =>
∃ (s3 : Option Addr) (s3l s3c : Nat),
∃ (s4 : Option Addr) (s4l s4c : Nat),
r4 = (.tuple #[(.slice s3 s3l s3c), (.slice s4 s4l s4c)]) ∧
Post (.tuple #[(.slice s3 s3l s3c), (.slice s4 s4l s4c)]) h8) (
Runs Tryd.prog 54 #[(.slice b bL bC)] h7 fun r5 h9 =>
∃ cs5 : List Value,
∃ v3 : Value,
r5 = (.tuple #[(.agg (cs5).toArray), v3]) ∧
∀ (b3 : Nat) (h10 : Heap), b3 = h9.size → h10 = h9.push (.cells ([(.int .u8 (0 : Int)), (.int .u8 (0 : Int)), (.int .u8 (0 : Int)), (.int .u8 (0 : Int)), (.int .u8 (0 : Int)), (.int .u8 (0 : Int)), (.int .u8 (0 : Int)), (.int .u8 (0 : Int)), (.int .u8 (0 : Int)), (.int .u8 (0 : Int)), (.int .u8 (0 : Int)), (.int .u8 (0 : Int)), (.int .u8 (0 : Int)), (.int .u8 (0 : Int)), (.int .u8 (0 : Int)), (.int .u8 (0 : Int)), (.int .u8 (0 : Int)), (.int .u8 (0 : Int)), (.bool false), (.int .i64 (0 : Int)), (.int .i64 (0 : Int))] : List Value).toArray 77) →
(((cs5)).length = 21 ∧ wrs h10 b3 0 21 ∧ ∀ u ∈ ((cs5) : List Value), u.oneCell' = true) ∧ ∀ h11 : Heap, h11 = setr h10 b3 0 (cs5) →
∃ t3 : Bool, ifeq true (v3) (.nilIface) = some t3 ∧
bcase t3 (
∃ cs6 : List Value, row h11 b3 0 6 = some cs6 ∧
∃ cs7 : List Value, row h11 s 0 6 = some cs7 ∧
∃ l1 l2 : List Int, cs6 = l1.map (Value.int .u8) ∧ cs7 = l2.map (Value.int .u8) ∧ (l1.length = 6 ∧ l2.length = 6) ∧
bcase (decide (l1 = l2)) (
∃ cs8 : List Value, row h11 b3 12 6 = some cs8 ∧
∃ cs9 : List Value, row h11 s 6 6 = some cs9 ∧
∃ l3 l4 : List Int, cs8 = l3.map (Value.int .u8) ∧ cs9 = l4.map (Value.int .u8) ∧ (l3.length = 6 ∧ l4.length = 6) ∧
bcase (decide (l3 = l4)) (
∃ t4 : Bool, cell h11 b3 18 = some (.bool t4) ∧
bcase t4 (
∃ n1 : Int, cell h11 b3 19 = some (.int .i64 n1) ∧
(0 ≤ n1 ∧ n1 < ((8 : Nat) : Int)) ∧
Runs Tryd.prog 41 #[(.pointer (some ⟨s, (13 + ((n1).toNat * 8)), none⟩))] h11 fun r6 h12 =>
∃ (s5 : Option Addr) (s5l s5c : Nat),
r6 = (.slice s5 s5l s5c) ∧
((([(.bool false), (.int .i64 (0 : Int)), (.int .i64 (0 : Int)), (.int .i64 (0 : Int)), (.int .u64 (0 : Int)), (.map none), (.bool false), (.int .i64 (0 : Int))] : List Value)).length = 8 ∧ wrs h12 s (13 + ((n1).toNat * 8)) 8 ∧ ∀ u ∈ (([(.bool false), (.int .i64 (0 : Int)), (.int .i64 (0 : Int)), (.int .i64 (0 : Int)), (.int .u64 (0 : Int)), (.map none), (.bool false), (.int .i64 (0 : Int))] : List Value) : List Value), u.oneCell' = true) ∧ ∀ h13 : Heap, h13 = setr h12 s (13 + ((n1).toNat * 8)) ([(.bool false), (.int .i64 (0 : Int)), (.int .i64 (0 : Int)), (.int .i64 (0 : Int)), (.int .u64 (0 : Int)), (.map none), (.bool false), (.int .i64 (0 : Int))] : List Value) →
Post (.tuple #[(.slice s5 s5l s5c), (.slice none 0 0)]) h13) (
Post (.tuple #[(.slice none 0 0), (.slice none 0 0)]) h11)) (
Post (.tuple #[(.slice none 0 0), (.slice none 0 0)]) h11)) (
Post (.tuple #[(.slice none 0 0), (.slice none 0 0)]) h11)) (
Post (.tuple #[(.slice none 0 0), (.slice none 0 0)]) h11)))) :
    Runs Tryd.prog 24 #[(.pointer (some ⟨s, 0, none⟩)), (.slice b bL bC)] h0 Post :=
  runs_of (args := [(.pointer (some ⟨s, 0, none⟩)), (.slice b bL bC)]) (fun n => ⟨true, false⟩) (fun _ => []) (fun _ => none) (fun _ => []) Tryd.func24 rfl (by rw [Tryd.ntmps24]; simp) (Eq.mp (by kernel_rfl) H)

theorem vc_recv_Station_bar (s : Nat) (f : List Value) (h0 : Heap) (Post : Value → Heap → Prop) (H :
∀ (b1 : Nat) (h1 : Heap), b1 = h0.size → h1 = h0.push (.cells (f).toArray 69) →
∃ n1 : Int, cell h1 b1 12 = some (.int .i64 n1) ∧
(0 ≤ n1 ∧ n1 < ((8 : Nat) : Int)) ∧
∃ cs1 : List Value, row h1 b1 0 6 = some cs1 ∧
∃ cs2 : List Value, row h1 s 0 6 = some cs2 ∧
∃ l1 l2 : List Int, cs1 = l1.map (Value.int .u8) ∧ cs2 = l2.map (Value.int .u8) ∧ (l1.length = 6 ∧ l2.length = 6) ∧
bcase (!(decide (l1 = l2))) (
Post (.tuple #[(.slice none 0 0), (.slice none 0 0)]) h1) (
∃ cs3 : List Value, row h1 b1 6 6 = some cs3 ∧
∃ cs4 : List Value, row h1 s 6 6 = some cs4 ∧
∃ l3 l4 : List Int, cs3 = l3.map (Value.int .u8) ∧ cs4 = l4.map (Value.int .u8) ∧ (l3.length = 6 ∧ l4.length = 6) ∧
bcase (!(decide (l3 = l4))) (
Post (.tuple #[(.slice none 0 0), (.slice none 0 0)]) h1) (
∃ t1 : Bool, cell h1 s (13 + ((n1).toNat * 8)) = some (.bool t1) ∧
bcase (!t1) (
Post (.tuple #[(.slice none 0 0), (.slice none 0 0)]) h1) (
∃ n2 : Int, cell h1 s ((13 + ((n1).toNat * 8)) + 1) = some (.int .i64 n2) ∧
∃ n3 : Int, cell h1 b1 13 = some (.int .i64 n3) ∧
Runs Tryd.prog 42 #[(.int .i64 n2), (.int .i64 n3)] h1 fun r1 h2 =>
∃ n4 : Int,
r1 = (.int .i64 n4) ∧
bcase (decide (n4 < (2048 : Int))) (
∃ n5 : Int, cell h2 b1 13 = some (.int .i64 n5) ∧
Runs Tryd.prog 62 #[(.pointer (some ⟨s, (13 + ((n1).toNat * 8)), none⟩)), (.int .i64 n5)] h2 fun r2 h3 =>
∃ (s1 : Option Addr) (s1l s1c : Nat),
r2 = (.slice s1 s1l s1c) ∧
Runs Tryd.prog 64 #[(.pointer (some ⟨s, (13 + ((n1).toNat * 8)), none⟩))] h3 fun r3 h4 =>
∃ (s2 : Option Addr) (s2l s2c : Nat),
r3 = (.slice s2 s2l s2c) ∧
∃ news1 : List Value, (src h4 s2 (s2l * 24) news1 ∧ ∀ u ∈ news1, u.oneCell' = true) ∧
appK h4 s1 s1l s1c s2l 24 55 72 news1 fun (a1 : Option Addr) (cap1 : Nat) (h5 : Heap) =>
∃ n6 : Int, cell h5 s ((13 + ((n1).toNat * 8)) + 3) = some (.int .i64 n6) ∧
∃ n7 : Int, cell h5 b1 13 = some (.int .i64 n7) ∧
Runs Tryd.prog 42 #[(.int .i64 n6), (.int .i64 n7)] h5 fun r4 h6 =>
∃ n8 : Int,
r4 = (.int .i64 n8) ∧
bcase (decide (n8 < (2048 : Int))) (
∃ n9 : Int, cell h6 b1 13 = some (.int .i64 n9) ∧
Runs Tryd.prog 72 #[(.pointer (some ⟨s, (13 + ((n1).toNat * 8)), none⟩)), (.int .i64 n9)] h6 fun r5 h7 =>
∃ n10 : Int, cell h7 b1 12 = some (.int .i64 n10) ∧
Runs Tryd.prog 35 #[(.pointer (some ⟨s, 0, none⟩)), (.int .i64 n10)] h7 fun r6 h8 =>
∃ (s3 : Option Addr) (s3l s3c : Nat),
r6 = (.slice s3 s3l s3c) ∧
Post (.tuple #[(.slice a1 (s1l + s2l) cap1), (.slice s3 s3l s3c)]) h8) (
∃ n11 : Int, cell h6 b1 12 = some (.int .i64 n11) ∧
Runs Tryd.prog 35 #[(.pointer (some ⟨s, 0, none⟩)), (.int .i64 n11)] h6 fun r7 h9 =>
∃ (s4 : Option Addr) (s4l s4c : Nat),
r7 = (.slice s4 s4l s4c) ∧
Post (.tuple #[(.slice a1 (s1l + s2l) cap1), (.slice s4 s4l s4c)]) h9)) (
∃ n12 : Int, cell h2 s ((13 + ((n1).toNat * 8)) + 3) = some (.int .i64 n12) ∧
∃ n13 : Int, cell h2 b1 13 = some (.int .i64 n13) ∧
Runs Tryd.prog 42 #[(.int .i64 n12), (.int .i64 n13)] h2 fun r8 h10 =>
∃ n14 : Int,
r8 = (.int .i64 n14) ∧
bcase (decide (n14 < (2048 : Int))) (
∃ n15 : Int, cell h10 b1 13 = some (.int .i64 n15) ∧
Runs Tryd.prog 72 #[(.pointer (some ⟨s, (13 + ((n1).toNat * 8)), none⟩)), (.int .i64 n15)] h10 fun r9 h11 =>
∃ n16 : Int, cell h11 b1 12 = some (.int .i64 n16) ∧
Runs Tryd.prog 35 #[(.pointer (some ⟨s, 0, none⟩)), (.int .i64 n16)] h11 fun r10 h12 =>
∃ (s5 : Option Addr) (s5l s5c : Nat),
r10 = (.slice s5 s5l s5c) ∧
Post (.tuple #[(.slice none 0 0), (.slice s5 s5l s5c)]) h12) (
∃ n17 : Int, cell h10 b1 12 = some (.int .i64 n17) ∧
Runs Tryd.prog 35 #[(.pointer (some ⟨s, 0, none⟩)), (.int .i64 n17)] h10 fun r11 h13 =>
∃ (s6 : Option Addr) (s6l s6c : Nat),
r11 = (.slice s6 s6l s6c) ∧
Post (.tuple #[(.slice none 0 0), (.slice s6 s6l s6c)]) h13)))))) :
    Runs Tryd.prog 51 #[(.pointer (some ⟨s, 0, none⟩)), (.agg (f).toArray)] h0 Post :=
  runs_of (args := [(.pointer (some ⟨s, 0, none⟩)), (.agg (f).toArray)]) (fun n => ⟨true, false⟩) (fun _ => []) (fun _ => none) (fun _ => []) Tryd.func51 rfl (by rw [Tryd.ntmps51]; simp) (Eq.mp (by kernel_rfl) H)

theorem vc_recv_Station_add (s : Nat) (f : List Value) (h0 : Heap) (Post : Value → Heap → Prop) (H :
∀ (b1 : Nat) (h1 : Heap), b1 = h0.size → h1 = h0.push (.cells (f).toArray 65) →
∃ t1 : Bool, cell h1 b1 18 = some (.bool t1) ∧
bcase t1 (
Post (.tuple #[(.slice none 0 0), (.slice none 0 0)]) h1) (
∃ cs1 : List Value, row h1 b1 0 6 = some cs1 ∧
∃ cs2 : List Value, row h1 s 0 6 = some cs2 ∧
∃ l1 l2 : List Int, cs1 = l1.map (Value.int .u8) ∧ cs2 = l2.map (Value.int .u8) ∧ (l1.length = 6 ∧ l2.length = 6) ∧
bcase (!(decide (l1 = l2))) (
Post (.tuple #[(.slice none 0 0), (.slice none 0 0)]) h1) (
∃ cs3 : List Value, row h1 b1 12 6 = some cs3 ∧
∃ cs4 : List Value, row h1 s 6 6 = some cs4 ∧
∃ l3 l4 : List Int, cs3 = l3.map (Value.int .u8) ∧ cs4 = l4.map (Value.int .u8) ∧ (l3.length = 6 ∧ l4.length = 6) ∧
bcase (!(decide (l3 = l4))) (
Post (.tuple #[(.slice none 0 0), (.slice none 0 0)]) h1) (
∃ n1 : Int, cell h1 b1 20 = some (.int .i64 n1) ∧
(0 ≤ n1 ∧ n1 < ((8 : Nat) : Int)) ∧
Runs Tryd.prog 41 #[(.pointer (some ⟨s, (13 + ((n1).toNat * 8)), none⟩))] h1 fun r1 h2 =>
∃ (s1 : Option Addr) (s1l s1c : Nat),
r1 = (.slice s1 s1l s1c) ∧
∃ n2 : Int, cell h2 s 12 = some (.int .i64 n2) ∧
∃ n3 : Int, cell h2 b1 21 = some (.int .i64 n3) ∧
bcase (decide ((0 : Int) < n3)) (
∃ n4 : Int, cell h2 b1 21 = some (.int .i64 n4) ∧
∃ n5 : Int, cell h2 b1 23 = some (.int .i64 n5) ∧
∃ n6 : Int, cell h2 b1 23 = some (.int .i64 n6) ∧
∀ (b2 : Nat) (h3 : Heap), b2 = h2.size → h3 = h2.push (.map #[] 0) →
((([(.bool true), (.int .i64 n5), (.int .i64 (min n2 n4)), (.int .i64 n6), (.int .u64 (0 : Int)), (.map (some b2)), (.bool false), (.int .i64 (0 : Int))] : List Value)).length = 8 ∧ wrs h3 s (13 + ((n1).toNat * 8)) 8 ∧ ∀ u ∈ (([(.bool true), (.int .i64 n5), (.int .i64 (min n2 n4)), (.int .i64 n6), (.int .u64 (0 : Int)), (.map (some b2)), (.bool false), (.int .i64 (0 : Int))] : List Value) : List Value), u.oneCell' = true) ∧ ∀ h4 : Heap, h4 = setr h3 s (13 + ((n1).toNat * 8)) ([(.bool true), (.int .i64 n5), (.int .i64 (min n2 n4)), (.int .i64 n6), (.int .u64 (0 : Int)), (.map (some b2)), (.bool false), (.int .i64 (0 : Int))] : List Value) →
∃ cs5 : List Value, row h4 s 6 6 = some cs5 ∧
∃ cs6 : List Value, row h4 s 0 6 = some cs6 ∧
∃ cs7 : List Value, row h4 s 6 6 = some cs7 ∧
∃ n7 : Int, cell h4 b1 19 = some (.int .i64 n7) ∧
∃ n8 : Int, cell h4 b1 20 = some (.int .i64 n8) ∧
(cs5).length = 6 ∧
(cs6).length = 6 ∧
(cs7).length = 6 ∧
Runs Tryd.prog 76 #[(.agg (((cs5) ++ ((cs6) ++ ((cs7) ++ ([(.bool true), (.int .i64 n7), (.int .i64 n8), (.int .i64 (min n2 n4)), (.int .i64 (0 : Int)), (.int .i64 (0 : Int)), (.int .i64 (0 : Int))] : List Value))))).toArray)] h4 fun r2 h5 =>
∃ (s2 : Option Addr) (s2l s2c : Nat),
∃ v1 : Value,
r2 = (.tuple #[(.slice s2 s2l s2c), v1]) ∧
cell h5 b1 20 = some (.int .i64 n8) ∧
cell h5 b1 19 = some (.int .i64 n7) ∧
row h5 s 6 6 = some (cs7) ∧
row h5 s 0 6 = some (cs6) ∧
row h5 s 6 6 = some (cs5) ∧
∃ t2 : Bool, ifeqH Tryd.prog h5 true (v1) (.nilIface) = some t2 ∧
bcase (!t2) (
Post (.tuple #[(.slice s1 s1l s1c), (.slice none 0 0)]) h5) (
Post (.tuple #[(.slice s1 s1l s1c), (.slice s2 s2l s2c)]) h5)) (
∃ n9 : Int, cell h2 b1 23 = some (.int .i64 n9) ∧
∃ n10 : Int, cell h2 b1 23 = some (.int .i64 n10) ∧
∀ (b3 : Nat) (h6 : Heap), b3 = h2.size → h6 = h2.push (.map #[] 0) →
((([(.bool true), (.int .i64 n9), (.int .i64 n2), (.int .i64 n10), (.int .u64 (0 : Int)), (.map (some b3)), (.bool false), (.int .i64 (0 : Int))] : List Value)).length = 8 ∧ wrs h6 s (13 + ((n1).toNat * 8)) 8 ∧ ∀ u ∈ (([(.bool true), (.int .i64 n9), (.int .i64 n2), (.int .i64 n10), (.int .u64 (0 : Int)), (.map (some b3)), (.bool false), (.int .i64 (0 : Int))] : List Value) : List Value), u.oneCell' = true) ∧ ∀ h7 : Heap, h7 = setr h6 s (13 + ((n1).toNat * 8)) ([(.bool true), (.int .i64 n9), (.int .i64 n2), (.int .i64 n10), (.int .u64 (0 : Int)), (.map (some b3)), (.bool false), (.int .i64 (0 : Int))] : List Value) →
∃ cs8 : List Value, row h7 s 6 6 = some cs8 ∧
∃ cs9 : List Value, row h7 s 0 6 = some cs9 ∧
∃ cs10 : List Value, row h7 s 6 6 = some cs10 ∧
∃ n11 : Int, cell h7 b1 19 = some (.int .i64 n11) ∧
∃ n12 : Int, cell h7 b1 20 = some (.int .i64 n12) ∧
(cs8).length = 6 ∧
(cs9).length = 6 ∧
(cs10).length = 6 ∧
Runs Tryd.prog 76 #[(.agg (((cs8) ++ ((cs9) ++ ((cs10) ++ ([(.bool true), (.int .i64 n11), (.int .i64 n12), (.int .i64 n2), (.int .i64 (0 : Int)), (.int .i64 (0 : Int)), (.int .i64 (0 : Int))] : List Value))))).toArray)] h7 fun r3 h8 =>
∃ (s3 : Option Addr) (s3l s3c : Nat),
∃ v2 : Value,
r3 = (.tuple #[(.slice s3 s3l s3c), v2]) ∧
cell h8 b1 20 = some (.int .i64 n12) ∧
cell h8 b1 19 = some (.int .i64 n11) ∧
row h8 s 6 6 = some (cs10) ∧
row h8 s 0 6 = some (cs9) ∧
row h8 s 6 6 = some (cs8) ∧
∃ t3 : Bool, ifeqH Tryd.prog h8 true (v2) (.nilIface) = some t3 ∧
bcase (!t3) (
Post (.tuple #[(.slice s1 s1l s1c), (.slice none 0 0)]) h8) (
Post (.tuple #[(.slice s1 s1l s1c), (.slice s3 s3l s3c)]) h8)))))) :
    Runs Tryd.prog 53 #[(.pointer (some ⟨s, 0, none⟩)), (.agg (f).toArray)] h0 Post :=
  runs_of (args := [(.pointer (some ⟨s, 0, none⟩)), (.agg (f).toArray)]) (fun n => ⟨true, false⟩) (fun _ => []) (fun _ => none) (fun _ => []) Tryd.func53 rfl (by rw [Tryd.ntmps53]; simp) (Eq.mp (by kernel_rfl) H)

theorem vc_recv_Station_answer (s : Nat) (tid : Int) (h0 : Heap) (Post : Value → Heap → Prop) (H :
(0 ≤ tid ∧ tid < ((8 : Nat) : Int)) ∧
∃ cs1 : List Value, row h0 s 6 6 = some cs1 ∧
∃ cs2 : List Value, row h0 s 0 6 = some cs2 ∧
∃ n1 : Int, cell h0 s ((13 + ((tid).toNat * 8)) + 7) = some (.int .i64 n1) ∧
(cs1).length = 6 ∧
(cs2).length = 6 ∧
∀ (b1 : Nat) (h1 : Heap), b1 = h0.size → h1 = h0.push (.cells ([(.int .u8 (0 : Int)), (.int .u8 (0 : Int)), (.int .u8 (0 : Int)), (.int .u8 (0 : Int)), (.int .u8 (0 : Int)), (.int .u8 (0 : Int)), (.int .u8 (0 : Int)), (.int .u8 (0 : Int)), (.int .u8 (0 : Int)), (.int .u8 (0 : Int)), (.int .u8 (0 : Int)), (.int .u8 (0 : Int)), (.int .i64 (0 : Int)), (.int .i64 (0 : Int)), (.int .u64 (0 : Int))] : List Value).toArray 44) →
(((((cs1) ++ ((cs2) ++ ([(.int .i64 tid), (.int .i64 n1), (.int .u64 (1 : Int))] : List Value))))).length = 15 ∧ wrs h1 b1 0 15 ∧ ∀ u ∈ ((((cs1) ++ ((cs2) ++ ([(.int .i64 tid), (.int .i64 n1), (.int .u64 (1 : Int))] : List Value)))) : List Value), u.oneCell' = true) ∧ ∀ h2 : Heap, h2 = setr h1 b1 0 (((cs1) ++ ((cs2) ++ ([(.int .i64 tid), (.int .i64 n1), (.int .u64 (1 : Int))] : List Value)))) →
∃ t1 : Bool, cell h2 s (13 + ((tid).toNat * 8)) = some (.bool t1) ∧
bcase t1 (
∃ n2 : Int, cell h2 s ((13 + ((tid).toNat * 8)) + 3) = some (.int .i64 n2) ∧
∃ n3 : Int, cell h2 s ((13 + ((tid).toNat * 8)) + 4) = some (.int .u64 n3) ∧
wr h2 b1 13 ∧ ∀ h3 : Heap, h3 = setc h2 b1 13 (.int .i64 n2) →
cell h3 s ((13 + ((tid).toNat * 8)) + 4) = some (.int .u64 n3) ∧
wr h3 b1 14 ∧ ∀ h4 : Heap, h4 = setc h3 b1 14 (.int .u64 n3) →
∃ cs3 : List Value, row h4 b1 0 15 = some cs3 ∧
Runs Tryd.prog 65 #[(.agg (cs3).toArray)] h4 fun r1 h5 =>
∃ (s1 : Option Addr) (s1l s1c : Nat),
∃ v1 : Value,
r1 = (.tuple #[(.slice s1 s1l s1c), v1]) ∧
∃ t2 : Bool, ifeqH Tryd.prog h5 true (v1) (.nilIface) = some t2 ∧
bcase (!t2) (
Post (.slice none 0 0) h5) (
Post (.slice s1 s1l s1c) h5)) (
∃ cs4 : List Value, row h2 b1 0 15 = some cs4 ∧
Runs Tryd.prog 65 #[(.agg (cs4).toArray)] h2 fun r2 h6 =>
∃ (s2 : Option Addr) (s2l s2c : Nat),
∃ v2 : Value,
r2 = (.tuple #[(.slice s2 s2l s2c), v2]) ∧
∃ t3 : Bool, ifeqH Tryd.prog h6 true (v2) (.nilIface) = some t3 ∧
bcase (!t3) (
Post (.slice none 0 0) h6) (
Post (.slice s2 s2l s2c) h6))) :
    Runs Tryd.prog 35 #[(.pointer (some ⟨s, 0, none⟩)), (.int .i64 tid)] h0 Post :=
  runs_of (args := [(.pointer (some ⟨s, 0, none⟩)), (.int .i64 tid)]) (fun n => ⟨true, false⟩) (fun _ => []) (fun _ => none) (fun _ => []) Tryd.func35 rfl (by rw [Tryd.ntmps35]; simp) (Eq.mp (by kernel_rfl) H)

theorem vc_recv_Station_Got (s : Nat) (tid : Int) (n : Int) (h0 : Heap) (Post : Value → Heap → Prop) (H :
bcase (decide (tid < (0 : Int))) (
Post (.bool false) h0) (
bcase (decide ((8 : Int) ≤ tid)) (
Post (.bool false) h0) (
(0 ≤ tid ∧ tid < ((8 : Nat) : Int)) ∧
∃ t1 : Bool, cell h0 s (13 + ((tid).toNat * 8)) = some (.bool t1) ∧
bcase (!t1) (
∃ t2 : Bool, cell h0 s ((13 + ((tid).toNat * 8)) + 6) = some (.bool t2) ∧
bcase t2 (
∃ n1 : Int, cell h0 s ((13 + ((tid).toNat * 8)) + 7) = some (.int .i64 n1) ∧
Post (.bool (decide (n1 = n))) h0) (
Post (.bool false) h0)) (
∃ n2 : Int, cell h0 s ((13 + ((tid).toNat * 8)) + 3) = some (.int .i64 n2) ∧
Runs Tryd.prog 42 #[(.int .i64 n2), (.int .i64 n)] h0 fun r1 h1 =>
∃ n3 : Int,
r1 = (.int .i64 n3) ∧
bcase (decide ((0 : Int) ≤ n)) (
bcase (decide (n < (4096 : Int))) (
bcase (decide (n3 < (64 : Int))) (
∃ n4 : Int, cell h1 s ((13 + ((tid).toNat * 8)) + 4) = some (.int .u64 n4) ∧
(0 ≤ n3 ∧ n3 ≤ kbits .u64) ∧
Post (.bool (decide ((0 : Int) < (bits .and .u64 (n4 / (pow2 n3)) (1 : Int))))) h1) (
Post (.bool false) h1)) (
Post (.bool false) h1)) (
Post (.bool false) h1))))) :
    Runs Tryd.prog 21 #[(.pointer (some ⟨s, 0, none⟩)), (.int .i64 tid), (.int .i64 n)] h0 Post :=
  runs_of (args := [(.pointer (some ⟨s, 0, none⟩)), (.int .i64 tid), (.int .i64 n)]) (fun n => ⟨true, false⟩) (fun _ => []) (fun _ => none) (fun _ => []) Tryd.func21 rfl (by rw [Tryd.ntmps21]; simp) (Eq.mp (by kernel_rfl) H)

theorem vc_recv_Station_Waits (s : Nat) (tid : Int) (h0 : Heap) (Post : Value → Heap → Prop) (H :
bcase (decide (tid < (0 : Int))) (
Post (.int .i64 (0 : Int)) h0) (
bcase (decide ((8 : Int) ≤ tid)) (
Post (.int .i64 (0 : Int)) h0) (
(0 ≤ tid ∧ tid < ((8 : Nat) : Int)) ∧
∃ v1 : Value, cell h0 s ((13 + ((tid).toNat * 8)) + 5) = some v1 ∧
mlen h0 (v1) fun k1 =>
Post (.int .i64 ((k1 : Nat) : Int)) h0))) :
    Runs Tryd.prog 19 #[(.pointer (some ⟨s, 0, none⟩)), (.int .i64 tid)] h0 Post :=
  runs_of (args := [(.pointer (some ⟨s, 0, none⟩)), (.int .i64 tid)]) (fun n => ⟨true, false⟩) (fun _ => []) (fun _ => none) (fun _ => []) Tryd.func19 rfl (by rw [Tryd.ntmps19]; simp) (Eq.mp (by kernel_rfl) H)

theorem vc_recv_Station_Session (s : Nat) (tid : Int) (h0 : Heap) (Post : Value → Heap → Prop) (H :
bcase (decide (tid < (0 : Int))) (
Post (.tuple #[(.int .i64 (0 : Int)), (.int .i64 (0 : Int)), (.bool false)]) h0) (
bcase (decide ((8 : Int) ≤ tid)) (
Post (.tuple #[(.int .i64 (0 : Int)), (.int .i64 (0 : Int)), (.bool false)]) h0) (
(0 ≤ tid ∧ tid < ((8 : Nat) : Int)) ∧
∃ t1 : Bool, cell h0 s (13 + ((tid).toNat * 8)) = some (.bool t1) ∧
bcase (!t1) (
Post (.tuple #[(.int .i64 (0 : Int)), (.int .i64 (0 : Int)), (.bool false)]) h0) (
(0 ≤ tid ∧ tid < ((8 : Nat) : Int)) ∧
∃ n1 : Int, cell h0 s ((13 + ((tid).toNat * 8)) + 1) = some (.int .i64 n1) ∧
(0 ≤ tid ∧ tid < ((8 : Nat) : Int)) ∧
∃ n2 : Int, cell h0 s ((13 + ((tid).toNat * 8)) + 2) = some (.int .i64 n2) ∧
Post (.tuple #[(.int .i64 n1), (.int .i64 n2), (.bool true)]) h0)))) :
    Runs Tryd.prog 18 #[(.pointer (some ⟨s, 0, none⟩)), (.int .i64 tid)] h0 Post :=
  runs_of (args := [(.pointer (some ⟨s, 0, none⟩)), (.int .i64 tid)]) (fun n => ⟨true, false⟩) (fun _ => []) (fun _ => none) (fun _ => []) Tryd.func18 rfl (by rw [Tryd.ntmps18]; simp) (Eq.mp (by kernel_rfl) H)

theorem vc_recv_Station_Leave (s : Nat) (h0 : Heap) (Post : Value → Heap → Prop) (H :
∃ (I1 : Option Addr → Nat → Nat → Int → Heap → Prop) (m1 : Option Addr → Nat → Nat → Int → Heap → Nat), I1 none 0 0 (0 : Int) h0 ∧ ∀ _ : Env,
∀ (out_1 : Option Addr) (out_1l out_1c : Nat) (x2 : Int) (h1 : Heap), I1 out_1 out_1l out_1c x2 h1 →
bcase (decide (x2 < (8 : Int))) (
(0 ≤ x2 ∧ x2 < ((8 : Nat) : Int)) ∧
Runs Tryd.prog 41 #[(.pointer (some ⟨s, (13 + ((x2).toNat * 8)), none⟩))] h1 fun r1 h2 =>
∃ (s1 : Option Addr) (s1l s1c : Nat),
r1 = (.slice s1 s1l s1c) ∧
∃ news1 : List Value, (src h2 s1 (s1l * 24) news1 ∧ ∀ u ∈ news1, u.oneCell' = true) ∧
appK h2 out_1 out_1l out_1c s1l 24 55 72 news1 fun (a1 : Option Addr) (cap1 : Nat) (h3 : Heap) =>
(0 ≤ x2 ∧ x2 < ((8 : Nat) : Int)) ∧
((([(.bool false), (.int .i64 (0 : Int)), (.int .i64 (0 : Int)), (.int .i64 (0 : Int)), (.int .u64 (0 : Int)), (.map none), (.bool false), (.int .i64 (0 : Int))] : List Value)).length = 8 ∧ wrs h3 s (13 + ((x2).toNat * 8)) 8 ∧ ∀ u ∈ (([(.bool false), (.int .i64 (0 : Int)), (.int .i64 (0 : Int)), (.int .i64 (0 : Int)), (.int .u64 (0 : Int)), (.map none), (.bool false), (.int .i64 (0 : Int))] : List Value) : List Value), u.oneCell' = true) ∧ ∀ h4 : Heap, h4 = setr h3 s (13 + ((x2).toNat * 8)) ([(.bool false), (.int .i64 (0 : Int)), (.int .i64 (0 : Int)), (.int .i64 (0 : Int)), (.int .u64 (0 : Int)), (.map none), (.bool false), (.int .i64 (0 : Int))] : List Value) →
fits .i64 (x2 + (1 : Int)) ∧
I1 a1 (out_1l + s1l) cap1 (x2 + (1 : Int)) h4 ∧ m1 a1 (out_1l + s1l) cap1 (x2 + (1 : Int)) h4 < m1 out_1 out_1l out_1c x2 h1) (
Post (.slice out_1 out_1l out_1c) h1)) :
    Runs Tryd.prog 20 #[(.pointer (some ⟨s, 0, none⟩))] h0 Post :=
  runs_of (args := [(.pointer (some ⟨s, 0, none⟩))]) (fun n => ⟨true, false⟩) (fun n => match n with | 0 => [(3, .slice), (5, .int .i64)] | _ => []) (fun _ => none) (fun _ => []) Tryd.func20 rfl (by rw [Tryd.ntmps20]; simp) (Eq.mp (by kernel_rfl) H)

theorem vc_recv_session_up (s : Option Addr) (to_ : Int) (h0 : Heap) (Post : Value → Heap → Prop) (H :
onAddr s fun b1 o1 =>
∃ n1 : Int, cell h0 b1 (o1 + 1) = some (.int .i64 n1) ∧
Runs Tryd.prog 42 #[(.int .i64 n1), (.int .i64 to_)] h0 fun r1 h1 =>
∃ n2 : Int,
r1 = (.int .i64 n2) ∧
∃ (I1 : Option Addr → Nat → Nat → Int → Heap → Prop) (m1 : Option Addr → Nat → Nat → Int → Heap → Nat), I1 none 0 0 (0 : Int) h1 ∧ ∀ _ : Env,
∀ (out_1 : Option Addr) (out_1l out_1c : Nat) (x2 : Int) (h2 : Heap), I1 out_1 out_1l out_1c x2 h2 →
bcase (decide (x2 < n2)) (
onAddr s fun b2 o2 =>
∃ v1 : Value, cell h2 b2 (o2 + 5) = some v1 ∧
mlen h2 (v1) fun k1 =>
bcase (decide (((k1 : Nat) : Int) = (0 : Int))) (
onAddr s fun b3 o3 =>
wr h2 b3 (o3 + 1) ∧ ∀ h3 : Heap, h3 = setc h2 b3 (o3 + 1) (.int .i64 to_) →
Post (.slice out_1 out_1l out_1c) h3) (
onAddr s fun b4 o4 =>
∃ v2 : Value, cell h2 b4 (o4 + 5) = some v2 ∧
onAddr s fun b5 o5 =>
∃ n3 : Int, cell h2 b5 (o5 + 1) = some (.int .i64 n3) ∧
(
∃ cs1 : List Value,
∃ t1 : Bool, lkr Tryd.prog 79 (v2) ((.int .i64 n3)) h2 = some ((.agg (cs1).toArray), t1) ∧
∀ (b6 : Nat) (h4 : Heap), b6 = h2.size → h4 = h2.push (.cells ([(.int .u8 (0 : Int)), (.int .u8 (0 : Int)), (.int .u8 (0 : Int)), (.int .u8 (0 : Int)), (.int .u8 (0 : Int)), (.int .u8 (0 : Int)), (.int .u8 (0 : Int)), (.int .u8 (0 : Int)), (.int .u8 (0 : Int)), (.int .u8 (0 : Int)), (.int .u8 (0 : Int)), (.int .u8 (0 : Int)), (.int .u8 (0 : Int)), (.int .u8 (0 : Int)), (.int .u8 (0 : Int)), (.int .u8 (0 : Int)), (.int .u8 (0 : Int)), (.int .u8 (0 : Int)), (.int .i64 (0 : Int)), (.int .i64 (0 : Int)), (.bool false), (.bool false), (.bool false), (.slice none 0 0)] : List Value).toArray 55) →
(((cs1)).length = 24 ∧ wrs h4 b6 0 24 ∧ ∀ u ∈ ((cs1) : List Value), u.oneCell' = true) ∧ ∀ h5 : Heap, h5 = setr h4 b6 0 (cs1) →
bcase t1 (
∃ cs2 : List Value, row h5 b6 0 24 = some cs2 ∧
(cs2).length = 24 ∧
∀ (b7 : Nat) (h6 : Heap), b7 = h5.size → h6 = h5.push (.cells (((cs2) ++ [])).toArray 55) →
∃ news1 : List Value, (row h6 b7 0 24 = some news1 ∧ ∀ u ∈ news1, u.oneCell' = true) ∧
appK h6 out_1 out_1l out_1c 1 24 55 72 news1 fun (a1 : Option Addr) (cap1 : Nat) (h7 : Heap) =>
onAddr s fun b8 o6 =>
∃ v3 : Value, cell h7 b8 (o6 + 5) = some v3 ∧
onAddr s fun b9 o7 =>
∃ n4 : Int, cell h7 b9 (o7 + 1) = some (.int .i64 n4) ∧
mdelv Tryd.prog 79 (v3) ((.int .i64 n4)) h7 fun h8 =>
onAddr s fun b10 o8 =>
∃ n5 : Int, cell h8 b10 (o8 + 1) = some (.int .i64 n5) ∧
Runs Tryd.prog 63 #[(.int .i64 n5), (.int .i64 (1 : Int))] h8 fun r2 h9 =>
∃ n6 : Int,
r2 = (.int .i64 n6) ∧
onAddr s fun b11 o9 =>
wr h9 b11 (o9 + 1) ∧ ∀ h10 : Heap, h10 = setc h9 b11 (o9 + 1) (.int .i64 n6) →
fits .i64 (x2 + (1 : Int)) ∧
I1 a1 (out_1l + 1) cap1 (x2 + (1 : Int)) h10 ∧ m1 a1 (out_1l + 1) cap1 (x2 + (1 : Int)) h10 < m1 out_1 out_1l out_1c x2 h2) (
onAddr s fun b12 o10 =>
∃ n7 : Int, cell h5 b12 (o10 + 1) = some (.int .i64 n7) ∧
Runs Tryd.prog 63 #[(.int .i64 n7), (.int .i64 (1 : Int))] h5 fun r3 h11 =>
∃ n8 : Int,
r3 = (.int .i64 n8) ∧
onAddr s fun b13 o11 =>
wr h11 b13 (o11 + 1) ∧ ∀ h12 : Heap, h12 = setc h11 b13 (o11 + 1) (.int .i64 n8) →
fits .i64 (x2 + (1 : Int)) ∧
I1 out_1 out_1l out_1c (x2 + (1 : Int)) h12 ∧ m1 out_1 out_1l out_1c (x2 + (1 : Int)) h12 < m1 out_1 out_1l out_1c x2 h2)) ∧
(
∀ (b14 : Nat) (h13 : Heap), b14 = h2.size → h13 = h2.push (.cells ([(.int .u8 (0 : Int)), (.int .u8 (0 : Int)), (.int .u8 (0 : Int)), (.int .u8 (0 : Int)), (.int .u8 (0 : Int)), (.int .u8 (0 : Int)), (.int .u8 (0 : Int)), (.int .u8 (0 : Int)), (.int .u8 (0 : Int)), (.int .u8 (0 : Int)), (.int .u8 (0 : Int)), (.int .u8 (0 : Int)), (.int .u8 (0 : Int)), (.int .u8 (0 : Int)), (.int .u8 (0 : Int)), (.int .u8 (0 : Int)), (.int .u8 (0 : Int)), (.int .u8 (0 : Int)), (.int .i64 (0 : Int)), (.int .i64 (0 : Int)), (.bool false), (.bool false), (.bool false), (.slice none 0 0)] : List Value).toArray 55) →
∃ cs3 : List Value,
∃ t2 : Bool, lkr Tryd.prog 79 (v2) ((.int .i64 n3)) h13 = some ((.agg (cs3).toArray), t2) ∧
(((cs3)).length = 24 ∧ wrs h13 b14 0 24 ∧ ∀ u ∈ ((cs3) : List Value), u.oneCell' = true) ∧ ∀ h14 : Heap, h14 = setr h13 b14 0 (cs3) →
bcase t2 (
∃ cs4 : List Value, row h14 b14 0 24 = some cs4 ∧
(cs4).length = 24 ∧
∀ (b15 : Nat) (h15 : Heap), b15 = h14.size → h15 = h14.push (.cells (((cs4) ++ [])).toArray 55) →
∃ news2 : List Value, (row h15 b15 0 24 = some news2 ∧ ∀ u ∈ news2, u.oneCell' = true) ∧
appK h15 out_1 out_1l out_1c 1 24 55 72 news2 fun (a2 : Option Addr) (cap2 : Nat) (h16 : Heap) =>
onAddr s fun b16 o12 =>
∃ v4 : Value, cell h16 b16 (o12 + 5) = some v4 ∧
onAddr s fun b17 o13 =>
∃ n9 : Int, cell h16 b17 (o13 + 1) = some (.int .i64 n9) ∧
mdelv Tryd.prog 79 (v4) ((.int .i64 n9)) h16 fun h17 =>
onAddr s fun b18 o14 =>
∃ n10 : Int, cell h17 b18 (o14 + 1) = some (.int .i64 n10) ∧
Runs Tryd.prog 63 #[(.int .i64 n10), (.int .i64 (1 : Int))] h17 fun r4 h18 =>
∃ n11 : Int,
r4 = (.int .i64 n11) ∧
onAddr s fun b19 o15 =>
wr h18 b19 (o15 + 1) ∧ ∀ h19 : Heap, h19 = setc h18 b19 (o15 + 1) (.int .i64 n11) →
fits .i64 (x2 + (1 : Int)) ∧
I1 a2 (out_1l + 1) cap2 (x2 + (1 : Int)) h19 ∧ m1 a2 (out_1l + 1) cap2 (x2 + (1 : Int)) h19 < m1 out_1 out_1l out_1c x2 h2) (
onAddr s fun b20 o16 =>
∃ n12 : Int, cell h14 b20 (o16 + 1) = some (.int .i64 n12) ∧
Runs Tryd.prog 63 #[(.int .i64 n12), (.int .i64 (1 : Int))] h14 fun r5 h20 =>
∃ n13 : Int,
r5 = (.int .i64 n13) ∧
onAddr s fun b21 o17 =>
wr h20 b21 (o17 + 1) ∧ ∀ h21 : Heap, h21 = setc h20 b21 (o17 + 1) (.int .i64 n13) →
fits .i64 (x2 + (1 : Int)) ∧
I1 out_1 out_1l out_1c (x2 + (1 : Int)) h21 ∧ m1 out_1 out_1l out_1c (x2 + (1 : Int)) h21 < m1 out_1 out_1l out_1c x2 h2)))) (
onAddr s fun b22 o18 =>
wr h2 b22 (o18 + 1) ∧ ∀ h22 : Heap, h22 = setc h2 b22 (o18 + 1) (.int .i64 to_) →
Post (.slice out_1 out_1l out_1c) h22)) :
    Runs Tryd.prog 62 #[(.pointer s), (.int .i64 to_)] h0 Post :=
  runs_of (args := [(.pointer s), (.int .i64 to_)]) (fun n => ⟨true, false⟩) (fun n => match n with | 0 => [(5, .slice), (14, .int .i64)] | _ => []) (fun _ => none) (fun _ => []) Tryd.func62 rfl (by rw [Tryd.ntmps62]; simp) (Eq.mp (by kernel_rfl) H)

theorem vc_recv_session_run (s : Option Addr) (h0 : Heap) (Post : Value → Heap → Prop) (H :
∃ (I1 : Option Addr → Nat → Nat → Heap → Prop) (m1 : Option Addr → Nat → Nat → Heap → Nat), I1 none 0 0 h0 ∧ ∀ _ : Env,
∀ (out_1 : Option Addr) (out_1l out_1c : Nat) (h1 : Heap), I1 out_1 out_1l out_1c h1 →
onAddr s fun b1 o1 =>
∃ v1 : Value, cell h1 b1 (o1 + 5) = some v1 ∧
onAddr s fun b2 o2 =>
∃ n1 : Int, cell h1 b2 (o2 + 1) = some (.int .i64 n1) ∧
(
∃ cs1 : List Value,
∃ t1 : Bool, lkr Tryd.prog 79 (v1) ((.int .i64 n1)) h1 = some ((.agg (cs1).toArray), t1) ∧
∀ (b3 : Nat) (h2 : Heap), b3 = h1.size → h2 = h1.push (.cells ([(.int .u8 (0 : Int)), (.int .u8 (0 : Int)), (.int .u8 (0 : Int)), (.int .u8 (0 : Int)), (.int .u8 (0 : Int)), (.int .u8 (0 : Int)), (.int .u8 (0 : Int)), (.int .u8 (0 : Int)), (.int .u8 (0 : Int)), (.int .u8 (0 : Int)), (.int .u8 (0 : Int)), (.int .u8 (0 : Int)), (.int .u8 (0 : Int)), (.int .u8 (0 : Int)), (.int .u8 (0 : Int)), (.int .u8 (0 : Int)), (.int .u8 (0 : Int)), (.int .u8 (0 : Int)), (.int .i64 (0 : Int)), (.int .i64 (0 : Int)), (.bool false), (.bool false), (.bool false), (.slice none 0 0)] : List Value).toArray 55) →
(((cs1)).length = 24 ∧ wrs h2 b3 0 24 ∧ ∀ u ∈ ((cs1) : List Value), u.oneCell' = true) ∧ ∀ h3 : Heap, h3 = setr h2 b3 0 (cs1) →
bcase (!t1) (
Post (.slice out_1 out_1l out_1c) h3) (
∃ cs2 : List Value, row h3 b3 0 24 = some cs2 ∧
(cs2).length = 24 ∧
∀ (b4 : Nat) (h4 : Heap), b4 = h3.size → h4 = h3.push (.cells (((cs2) ++ [])).toArray 55) →
∃ news1 : List Value, (row h4 b4 0 24 = some news1 ∧ ∀ u ∈ news1, u.oneCell' = true) ∧
appK h4 out_1 out_1l out_1c 1 24 55 72 news1 fun (a1 : Option Addr) (cap1 : Nat) (h5 : Heap) =>
onAddr s fun b5 o3 =>
∃ v2 : Value, cell h5 b5 (o3 + 5) = some v2 ∧
onAddr s fun b6 o4 =>
∃ n2 : Int, cell h5 b6 (o4 + 1) = some (.int .i64 n2) ∧
mdelv Tryd.prog 79 (v2) ((.int .i64 n2)) h5 fun h6 =>
onAddr s fun b7 o5 =>
∃ n3 : Int, cell h6 b7 (o5 + 1) = some (.int .i64 n3) ∧
Runs Tryd.prog 63 #[(.int .i64 n3), (.int .i64 (1 : Int))] h6 fun r1 h7 =>
∃ n4 : Int,
r1 = (.int .i64 n4) ∧
onAddr s fun b8 o6 =>
wr h7 b8 (o6 + 1) ∧ ∀ h8 : Heap, h8 = setc h7 b8 (o6 + 1) (.int .i64 n4) →
I1 a1 (out_1l + 1) cap1 h8 ∧ m1 a1 (out_1l + 1) cap1 h8 < m1 out_1 out_1l out_1c h1)) ∧
(
∀ (b9 : Nat) (h9 : Heap), b9 = h1.size → h9 = h1.push (.cells ([(.int .u8 (0 : Int)), (.int .u8 (0 : Int)), (.int .u8 (0 : Int)), (.int .u8 (0 : Int)), (.int .u8 (0 : Int)), (.int .u8 (0 : Int)), (.int .u8 (0 : Int)), (.int .u8 (0 : Int)), (.int .u8 (0 : Int)), (.int .u8 (0 : Int)), (.int .u8 (0 : Int)), (.int .u8 (0 : Int)), (.int .u8 (0 : Int)), (.int .u8 (0 : Int)), (.int .u8 (0 : Int)), (.int .u8 (0 : Int)), (.int .u8 (0 : Int)), (.int .u8 (0 : Int)), (.int .i64 (0 : Int)), (.int .i64 (0 : Int)), (.bool false), (.bool false), (.bool false), (.slice none 0 0)] : List Value).toArray 55) →
∃ cs3 : List Value,
∃ t2 : Bool, lkr Tryd.prog 79 (v1) ((.int .i64 n1)) h9 = some ((.agg (cs3).toArray), t2) ∧
(((cs3)).length = 24 ∧ wrs h9 b9 0 24 ∧ ∀ u ∈ ((cs3) : List Value), u.oneCell' = true) ∧ ∀ h10 : Heap, h10 = setr h9 b9 0 (cs3) →
bcase (!t2) (
Post (.slice out_1 out_1l out_1c) h10) (
∃ cs4 : List Value, row h10 b9 0 24 = some cs4 ∧
(cs4).length = 24 ∧
∀ (b10 : Nat) (h11 : Heap), b10 = h10.size → h11 = h10.push (.cells (((cs4) ++ [])).toArray 55) →
∃ news2 : List Value, (row h11 b10 0 24 = some news2 ∧ ∀ u ∈ news2, u.oneCell' = true) ∧
appK h11 out_1 out_1l out_1c 1 24 55 72 news2 fun (a2 : Option Addr) (cap2 : Nat) (h12 : Heap) =>
onAddr s fun b11 o7 =>
∃ v3 : Value, cell h12 b11 (o7 + 5) = some v3 ∧
onAddr s fun b12 o8 =>
∃ n5 : Int, cell h12 b12 (o8 + 1) = some (.int .i64 n5) ∧
mdelv Tryd.prog 79 (v3) ((.int .i64 n5)) h12 fun h13 =>
onAddr s fun b13 o9 =>
∃ n6 : Int, cell h13 b13 (o9 + 1) = some (.int .i64 n6) ∧
Runs Tryd.prog 63 #[(.int .i64 n6), (.int .i64 (1 : Int))] h13 fun r2 h14 =>
∃ n7 : Int,
r2 = (.int .i64 n7) ∧
onAddr s fun b14 o10 =>
wr h14 b14 (o10 + 1) ∧ ∀ h15 : Heap, h15 = setc h14 b14 (o10 + 1) (.int .i64 n7) →
I1 a2 (out_1l + 1) cap2 h15 ∧ m1 a2 (out_1l + 1) cap2 h15 < m1 out_1 out_1l out_1c h1))) :
    Runs Tryd.prog 64 #[(.pointer s)] h0 Post :=
  runs_of (args := [(.pointer s)]) (fun n => ⟨true, false⟩) (fun n => match n with | 0 => [(3, .slice)] | _ => []) (fun _ => none) (fun _ => []) Tryd.func64 rfl (by rw [Tryd.ntmps64]; simp) (Eq.mp (by kernel_rfl) H)

theorem vc_recv_session_all (s : Option Addr) (h0 : Heap) (Post : Value → Heap → Prop) (H :
onAddr s fun b1 o1 =>
∃ v1 : Value, cell h0 b1 (o1 + 5) = some v1 ∧
rngv Tryd.prog 79 (v1) h0 fun b2 h1 =>
∃ (I1 : Option Addr → Nat → Nat → Heap → Prop) (m1 : Option Addr → Nat → Nat → Heap → Nat), I1 none 0 0 h1 ∧ ∀ _ : Env,
∀ (l_1 : Option Addr) (l_1l l_1c : Nat) (h2 : Heap), I1 l_1 l_1l l_1c h2 →
0 = 0 ∧ nxv b2 h2 (
onAddr s fun b3 o2 =>
∃ n1 : Int, cell h2 b3 (o2 + 1) = some (.int .i64 n1) ∧
Runs Tryd.prog 66 #[(.int .i64 n1), (.slice l_1 l_1l l_1c)] h2 fun r1 h4 =>
∃ (s1 : Option Addr) (s1l s1c : Nat),
r1 = (.slice s1 s1l s1c) ∧
∃ (I2 : Option Addr → Nat → Nat → Int → Heap → Prop) (m2 : Option Addr → Nat → Nat → Int → Heap → Nat), I2 none 0 0 (0 : Int) h4 ∧ ∀ _ : Env,
∀ (out_1 : Option Addr) (out_1l out_1c : Nat) (x3 : Int) (h5 : Heap), I2 out_1 out_1l out_1c x3 h5 →
bcase (decide (x3 < ((s1l : Nat) : Int))) (
(0 ≤ x3 ∧ x3 < ((s1l : Nat) : Int)) ∧
onAddr s1 fun b4 o3 =>
∃ n2 : Int, cell h5 b4 (o3 + (x3).toNat) = some (.int .i64 n2) ∧
onAddr s fun b5 o4 =>
∃ v2 : Value, cell h5 b5 (o4 + 5) = some v2 ∧
∃ cs1 : List Value,
∃ t1 : Bool, lkr Tryd.prog 79 (v2) ((.int .i64 n2)) h5 = some ((.agg (cs1).toArray), t1) ∧
(cs1).length = 24 ∧
∀ (b6 : Nat) (h6 : Heap), b6 = h5.size → h6 = h5.push (.cells (((cs1) ++ [])).toArray 55) →
∃ news1 : List Value, (row h6 b6 0 24 = some news1 ∧ ∀ u ∈ news1, u.oneCell' = true) ∧
appK h6 out_1 out_1l out_1c 1 24 55 72 news1 fun (a1 : Option Addr) (cap1 : Nat) (h7 : Heap) =>
fits .i64 (x3 + (1 : Int)) ∧
I2 a1 (out_1l + 1) cap1 (x3 + (1 : Int)) h7 ∧ m2 a1 (out_1l + 1) cap1 (x3 + (1 : Int)) h7 < m2 out_1 out_1l out_1c x3 h5) (
onAddr s fun b7 o5 =>
wr h5 b7 (o5 + 5) ∧ ∀ h8 : Heap, h8 = setc h5 b7 (o5 + 5) (.map none) →
Post (.slice out_1 out_1l out_1c) h8)) fun (e1 : MapEntry) (h3 : Heap) =>
0 = 0 ∧ entv b2 h3 fun v3 v4 =>
partv 1 v3 fun cs2 =>
∀ (b8 : Nat) (h9 : Heap), b8 = h3.size → h9 = h3.push (.cells ((cs2 ++ [])).toArray 3) →
∃ news2 : List Value, (row h9 b8 0 1 = some news2 ∧ ∀ u ∈ news2, u.oneCell' = true) ∧
appK h9 l_1 l_1l l_1c 1 1 3 8 news2 fun (a2 : Option Addr) (cap2 : Nat) (h10 : Heap) =>
I1 a2 (l_1l + 1) cap2 h10 ∧ m1 a2 (l_1l + 1) cap2 h10 < m1 l_1 l_1l l_1c h2) :
    Runs Tryd.prog 41 #[(.pointer s)] h0 Post :=
  runs_of (args := [(.pointer s)]) (fun n => ⟨true, false⟩) (fun n => match n with | 0 => [(3, .slice)] | 2 => [(5, .slice), (28, .int .i64)] | _ => []) (fun _ => none) (fun _ => []) Tryd.func41 rfl (by rw [Tryd.ntmps41]; simp) (Eq.mp (by kernel_rfl) H)

theorem vc_recv_session_move (s : Option Addr) (from_ : Int) (h0 : Heap) (Post : Value → Heap → Prop) (H :
onAddr s fun b1 o1 =>
∃ n1 : Int, cell h0 b1 (o1 + 3) = some (.int .i64 n1) ∧
Runs Tryd.prog 42 #[(.int .i64 n1), (.int .i64 from_)] h0 fun r1 h1 =>
∃ n2 : Int,
r1 = (.int .i64 n2) ∧
onAddr s fun b2 o2 =>
wr h1 b2 (o2 + 3) ∧ ∀ h2 : Heap, h2 = setc h1 b2 (o2 + 3) (.int .i64 from_) →
bcase (decide ((64 : Int) ≤ n2)) (
onAddr s fun b3 o3 =>
wr h2 b3 (o3 + 4) ∧ ∀ h3 : Heap, h3 = setc h2 b3 (o3 + 4) (.int .u64 (0 : Int)) →
Post (.tuple #[]) h3) (
onAddr s fun b4 o4 =>
∃ n3 : Int, cell h2 b4 (o4 + 4) = some (.int .u64 n3) ∧
(0 ≤ n2 ∧ n2 ≤ kbits .u64) ∧
onAddr s fun b5 o5 =>
wr h2 b5 (o5 + 4) ∧ ∀ h4 : Heap, h4 = setc h2 b5 (o5 + 4) (.int .u64 (n3 / (pow2 n2))) →
Post (.tuple #[]) h4)) :
    Runs Tryd.prog 72 #[(.pointer s), (.int .i64 from_)] h0 Post :=
  runs_of (args := [(.pointer s), (.int .i64 from_)]) (fun n => ⟨true, false⟩) (fun _ => []) (fun _ => none) (fun _ => []) Tryd.func72 rfl (by rw [Tryd.ntmps72]; simp) (Eq.mp (by kernel_rfl) H)

theorem vc_recv_session_stand (s : Option Addr) (n : Int) (h0 : Heap) (Post : Value → Heap → Prop) (H :
onAddr s fun b1 o1 =>
∃ n1 : Int, cell h0 b1 (o1 + 3) = some (.int .i64 n1) ∧
Runs Tryd.prog 42 #[(.int .i64 n1), (.int .i64 n)] h0 fun r1 h1 =>
∃ n2 : Int,
r1 = (.int .i64 n2) ∧
bcase (decide ((64 : Int) ≤ n2)) (
bcase (decide (n2 < (2048 : Int))) (
Runs Tryd.prog 63 #[(.int .i64 n), (.int .i64 (-63 : Int))] h1 fun r2 h2 =>
∃ n3 : Int,
r2 = (.int .i64 n3) ∧
Runs Tryd.prog 72 #[(.pointer s), (.int .i64 n3)] h2 fun r3 h3 =>
onAddr s fun b2 o2 =>
∃ n4 : Int, cell h3 b2 (o2 + 3) = some (.int .i64 n4) ∧
Runs Tryd.prog 42 #[(.int .i64 n4), (.int .i64 n)] h3 fun r4 h4 =>
∃ n5 : Int,
r4 = (.int .i64 n5) ∧
bcase (decide (n5 < (64 : Int))) (
onAddr s fun b3 o3 =>
∃ n6 : Int, cell h4 b3 (o3 + 4) = some (.int .u64 n6) ∧
(0 ≤ n5 ∧ n5 ≤ kbits .u64) ∧
fits .u64 ((1 : Int) * (pow2 n5)) ∧
onAddr s fun b4 o4 =>
wr h4 b4 (o4 + 4) ∧ ∀ h5 : Heap, h5 = setc h4 b4 (o4 + 4) (.int .u64 (bits .or .u64 n6 ((1 : Int) * (pow2 n5)))) →
Post (.tuple #[]) h5) (
Post (.tuple #[]) h4)) (
onAddr s fun b5 o5 =>
∃ n7 : Int, cell h1 b5 (o5 + 3) = some (.int .i64 n7) ∧
Runs Tryd.prog 42 #[(.int .i64 n7), (.int .i64 n)] h1 fun r5 h6 =>
∃ n8 : Int,
r5 = (.int .i64 n8) ∧
bcase (decide (n8 < (64 : Int))) (
onAddr s fun b6 o6 =>
∃ n9 : Int, cell h6 b6 (o6 + 4) = some (.int .u64 n9) ∧
(0 ≤ n8 ∧ n8 ≤ kbits .u64) ∧
fits .u64 ((1 : Int) * (pow2 n8)) ∧
onAddr s fun b7 o7 =>
wr h6 b7 (o7 + 4) ∧ ∀ h7 : Heap, h7 = setc h6 b7 (o7 + 4) (.int .u64 (bits .or .u64 n9 ((1 : Int) * (pow2 n8)))) →
Post (.tuple #[]) h7) (
Post (.tuple #[]) h6))) (
onAddr s fun b8 o8 =>
∃ n10 : Int, cell h1 b8 (o8 + 3) = some (.int .i64 n10) ∧
Runs Tryd.prog 42 #[(.int .i64 n10), (.int .i64 n)] h1 fun r6 h8 =>
∃ n11 : Int,
r6 = (.int .i64 n11) ∧
bcase (decide (n11 < (64 : Int))) (
onAddr s fun b9 o9 =>
∃ n12 : Int, cell h8 b9 (o9 + 4) = some (.int .u64 n12) ∧
(0 ≤ n11 ∧ n11 ≤ kbits .u64) ∧
fits .u64 ((1 : Int) * (pow2 n11)) ∧
onAddr s fun b10 o10 =>
wr h8 b10 (o10 + 4) ∧ ∀ h9 : Heap, h9 = setc h8 b10 (o10 + 4) (.int .u64 (bits .or .u64 n12 ((1 : Int) * (pow2 n11)))) →
Post (.tuple #[]) h9) (
Post (.tuple #[]) h8))) :
    Runs Tryd.prog 61 #[(.pointer s), (.int .i64 n)] h0 Post :=
  runs_of (args := [(.pointer s), (.int .i64 n)]) (fun n => ⟨true, false⟩) (fun _ => []) (fun _ => none) (fun _ => []) Tryd.func61 rfl (by rw [Tryd.ntmps61]; simp) (Eq.mp (by kernel_rfl) H)

theorem vc_recv_session_take (s : Option Addr) (f : List Value) (h0 : Heap) (Post : Value → Heap → Prop) (H :
∀ (b1 : Nat) (h1 : Heap), b1 = h0.size → h1 = h0.push (.cells (f).toArray 55) →
onAddr s fun b2 o1 =>
∃ t1 : Bool, cell h1 b2 o1 = some (.bool t1) ∧
bcase (!t1) (
∃ t2 : Bool, cell h1 b1 20 = some (.bool t2) ∧
bcase t2 (
onAddr s fun b3 o2 =>
∃ t3 : Bool, cell h1 b3 (o2 + 6) = some (.bool t3) ∧
bcase t3 (
onAddr s fun b4 o3 =>
∃ n1 : Int, cell h1 b4 (o3 + 7) = some (.int .i64 n1) ∧
∃ n2 : Int, cell h1 b1 19 = some (.int .i64 n2) ∧
∃ n3 : Int, cell h1 b1 19 = some (.int .i64 n3) ∧
onAddr s fun b5 o4 =>
wr h1 b5 (o4 + 6) ∧ ∀ h2 : Heap, h2 = setc h1 b5 (o4 + 6) (.bool true) →
cell h2 b1 19 = some (.int .i64 n3) ∧
onAddr s fun b6 o5 =>
wr h2 b6 (o5 + 7) ∧ ∀ h3 : Heap, h3 = setc h2 b6 (o5 + 7) (.int .i64 n3) →
bcase (decide (n1 = n2)) (
Post (.slice none 0 0) h3) (
∃ cs1 : List Value, row h3 b1 0 24 = some cs1 ∧
(cs1).length = 24 ∧
∀ (b7 : Nat) (h4 : Heap), b7 = h3.size → h4 = h3.push (.cells (((cs1) ++ [])).toArray 55) →
Post (.slice (some ⟨b7, 0, none⟩) 1 1) h4)) (
∃ n4 : Int, cell h1 b1 19 = some (.int .i64 n4) ∧
onAddr s fun b8 o6 =>
wr h1 b8 (o6 + 6) ∧ ∀ h5 : Heap, h5 = setc h1 b8 (o6 + 6) (.bool true) →
cell h5 b1 19 = some (.int .i64 n4) ∧
onAddr s fun b9 o7 =>
wr h5 b9 (o7 + 7) ∧ ∀ h6 : Heap, h6 = setc h5 b9 (o7 + 7) (.int .i64 n4) →
∃ cs2 : List Value, row h6 b1 0 24 = some cs2 ∧
(cs2).length = 24 ∧
∀ (b10 : Nat) (h7 : Heap), b10 = h6.size → h7 = h6.push (.cells (((cs2) ++ [])).toArray 55) →
Post (.slice (some ⟨b10, 0, none⟩) 1 1) h7)) (
∃ n5 : Int, cell h1 b1 19 = some (.int .i64 n5) ∧
onAddr s fun b11 o8 =>
wr h1 b11 (o8 + 6) ∧ ∀ h8 : Heap, h8 = setc h1 b11 (o8 + 6) (.bool true) →
cell h8 b1 19 = some (.int .i64 n5) ∧
onAddr s fun b12 o9 =>
wr h8 b12 (o9 + 7) ∧ ∀ h9 : Heap, h9 = setc h8 b12 (o9 + 7) (.int .i64 n5) →
∃ cs3 : List Value, row h9 b1 0 24 = some cs3 ∧
(cs3).length = 24 ∧
∀ (b13 : Nat) (h10 : Heap), b13 = h9.size → h10 = h9.push (.cells (((cs3) ++ [])).toArray 55) →
Post (.slice (some ⟨b13, 0, none⟩) 1 1) h10)) (
∃ n6 : Int, cell h1 b1 19 = some (.int .i64 n6) ∧
Runs Tryd.prog 61 #[(.pointer s), (.int .i64 n6)] h1 fun r1 h11 =>
onAddr s fun b14 o10 =>
∃ n7 : Int, cell h11 b14 (o10 + 1) = some (.int .i64 n7) ∧
∃ n8 : Int, cell h11 b1 19 = some (.int .i64 n8) ∧
Runs Tryd.prog 42 #[(.int .i64 n7), (.int .i64 n8)] h11 fun r2 h12 =>
∃ n9 : Int,
r2 = (.int .i64 n9) ∧
bcase (decide ((2048 : Int) ≤ n9)) (
Post (.slice none 0 0) h12) (
onAddr s fun b15 o11 =>
∃ n10 : Int, cell h12 b15 (o11 + 2) = some (.int .i64 n10) ∧
bcase (decide (n10 ≤ n9)) (
∃ n11 : Int, cell h12 b1 19 = some (.int .i64 n11) ∧
onAddr s fun b16 o12 =>
∃ n12 : Int, cell h12 b16 (o12 + 2) = some (.int .i64 n12) ∧
fits .i64 ((1 : Int) - n12) ∧
Runs Tryd.prog 63 #[(.int .i64 n11), (.int .i64 ((1 : Int) - n12))] h12 fun r3 h13 =>
∃ n13 : Int,
r3 = (.int .i64 n13) ∧
cell h13 b16 (o12 + 2) = some (.int .i64 n12) ∧
Runs Tryd.prog 62 #[(.pointer s), (.int .i64 n13)] h13 fun r4 h14 =>
∃ (s1 : Option Addr) (s1l s1c : Nat),
r4 = (.slice s1 s1l s1c) ∧
cell h14 b16 (o12 + 2) = some (.int .i64 n12) ∧
onAddr s fun b17 o13 =>
∃ v1 : Value, cell h14 b17 (o13 + 5) = some v1 ∧
∃ n14 : Int, cell h14 b1 19 = some (.int .i64 n14) ∧
(
∃ cs4 : List Value,
∃ t4 : Bool, lkr Tryd.prog 79 (v1) ((.int .i64 n14)) h14 = some ((.agg (cs4).toArray), t4) ∧
∀ (b18 : Nat) (h15 : Heap), b18 = h14.size → h15 = h14.push (.cells ([(.int .u8 (0 : Int)), (.int .u8 (0 : Int)), (.int .u8 (0 : Int)), (.int .u8 (0 : Int)), (.int .u8 (0 : Int)), (.int .u8 (0 : Int)), (.int .u8 (0 : Int)), (.int .u8 (0 : Int)), (.int .u8 (0 : Int)), (.int .u8 (0 : Int)), (.int .u8 (0 : Int)), (.int .u8 (0 : Int)), (.int .u8 (0 : Int)), (.int .u8 (0 : Int)), (.int .u8 (0 : Int)), (.int .u8 (0 : Int)), (.int .u8 (0 : Int)), (.int .u8 (0 : Int)), (.int .i64 (0 : Int)), (.int .i64 (0 : Int)), (.bool false), (.bool false), (.bool false), (.slice none 0 0)] : List Value).toArray 55) →
(((cs4)).length = 24 ∧ wrs h15 b18 0 24 ∧ ∀ u ∈ ((cs4) : List Value), u.oneCell' = true) ∧ ∀ h16 : Heap, h16 = setr h15 b18 0 (cs4) →
bcase (!t4) (
onAddr s fun b19 o14 =>
∃ v2 : Value, cell h16 b19 (o14 + 5) = some v2 ∧
∃ n15 : Int, cell h16 b1 19 = some (.int .i64 n15) ∧
∃ cs5 : List Value, row h16 b1 0 24 = some cs5 ∧
mupv Tryd.prog 79 (v2) ((.int .i64 n15)) ((.agg (cs5).toArray)) h16 fun h17 =>
Runs Tryd.prog 64 #[(.pointer s)] h17 fun r5 h18 =>
∃ (s2 : Option Addr) (s2l s2c : Nat),
r5 = (.slice s2 s2l s2c) ∧
∃ news1 : List Value, (src h18 s2 (s2l * 24) news1 ∧ ∀ u ∈ news1, u.oneCell' = true) ∧
appK h18 s1 s1l s1c s2l 24 55 72 news1 fun (a1 : Option Addr) (cap1 : Nat) (h19 : Heap) =>
Post (.slice a1 (s1l + s2l) cap1) h19) (
Runs Tryd.prog 64 #[(.pointer s)] h16 fun r6 h20 =>
∃ (s3 : Option Addr) (s3l s3c : Nat),
r6 = (.slice s3 s3l s3c) ∧
∃ news2 : List Value, (src h20 s3 (s3l * 24) news2 ∧ ∀ u ∈ news2, u.oneCell' = true) ∧
appK h20 s1 s1l s1c s3l 24 55 72 news2 fun (a2 : Option Addr) (cap2 : Nat) (h21 : Heap) =>
Post (.slice a2 (s1l + s3l) cap2) h21)) ∧
(
∀ (b20 : Nat) (h22 : Heap), b20 = h14.size → h22 = h14.push (.cells ([(.int .u8 (0 : Int)), (.int .u8 (0 : Int)), (.int .u8 (0 : Int)), (.int .u8 (0 : Int)), (.int .u8 (0 : Int)), (.int .u8 (0 : Int)), (.int .u8 (0 : Int)), (.int .u8 (0 : Int)), (.int .u8 (0 : Int)), (.int .u8 (0 : Int)), (.int .u8 (0 : Int)), (.int .u8 (0 : Int)), (.int .u8 (0 : Int)), (.int .u8 (0 : Int)), (.int .u8 (0 : Int)), (.int .u8 (0 : Int)), (.int .u8 (0 : Int)), (.int .u8 (0 : Int)), (.int .i64 (0 : Int)), (.int .i64 (0 : Int)), (.bool false), (.bool false), (.bool false), (.slice none 0 0)] : List Value).toArray 55) →
∃ cs6 : List Value,
∃ t5 : Bool, lkr Tryd.prog 79 (v1) ((.int .i64 n14)) h22 = some ((.agg (cs6).toArray), t5) ∧
(((cs6)).length = 24 ∧ wrs h22 b20 0 24 ∧ ∀ u ∈ ((cs6) : List Value), u.oneCell' = true) ∧ ∀ h23 : Heap, h23 = setr h22 b20 0 (cs6) →
bcase (!t5) (
onAddr s fun b21 o15 =>
∃ v3 : Value, cell h23 b21 (o15 + 5) = some v3 ∧
∃ n16 : Int, cell h23 b1 19 = some (.int .i64 n16) ∧
∃ cs7 : List Value, row h23 b1 0 24 = some cs7 ∧
mupv Tryd.prog 79 (v3) ((.int .i64 n16)) ((.agg (cs7).toArray)) h23 fun h24 =>
Runs Tryd.prog 64 #[(.pointer s)] h24 fun r7 h25 =>
∃ (s4 : Option Addr) (s4l s4c : Nat),
r7 = (.slice s4 s4l s4c) ∧
∃ news3 : List Value, (src h25 s4 (s4l * 24) news3 ∧ ∀ u ∈ news3, u.oneCell' = true) ∧
appK h25 s1 s1l s1c s4l 24 55 72 news3 fun (a3 : Option Addr) (cap3 : Nat) (h26 : Heap) =>
Post (.slice a3 (s1l + s4l) cap3) h26) (
Runs Tryd.prog 64 #[(.pointer s)] h23 fun r8 h27 =>
∃ (s5 : Option Addr) (s5l s5c : Nat),
r8 = (.slice s5 s5l s5c) ∧
∃ news4 : List Value, (src h27 s5 (s5l * 24) news4 ∧ ∀ u ∈ news4, u.oneCell' = true) ∧
appK h27 s1 s1l s1c s5l 24 55 72 news4 fun (a4 : Option Addr) (cap4 : Nat) (h28 : Heap) =>
Post (.slice a4 (s1l + s5l) cap4) h28))) (
onAddr s fun b22 o16 =>
∃ v4 : Value, cell h12 b22 (o16 + 5) = some v4 ∧
∃ n17 : Int, cell h12 b1 19 = some (.int .i64 n17) ∧
(
∃ cs8 : List Value,
∃ t6 : Bool, lkr Tryd.prog 79 (v4) ((.int .i64 n17)) h12 = some ((.agg (cs8).toArray), t6) ∧
∀ (b23 : Nat) (h29 : Heap), b23 = h12.size → h29 = h12.push (.cells ([(.int .u8 (0 : Int)), (.int .u8 (0 : Int)), (.int .u8 (0 : Int)), (.int .u8 (0 : Int)), (.int .u8 (0 : Int)), (.int .u8 (0 : Int)), (.int .u8 (0 : Int)), (.int .u8 (0 : Int)), (.int .u8 (0 : Int)), (.int .u8 (0 : Int)), (.int .u8 (0 : Int)), (.int .u8 (0 : Int)), (.int .u8 (0 : Int)), (.int .u8 (0 : Int)), (.int .u8 (0 : Int)), (.int .u8 (0 : Int)), (.int .u8 (0 : Int)), (.int .u8 (0 : Int)), (.int .i64 (0 : Int)), (.int .i64 (0 : Int)), (.bool false), (.bool false), (.bool false), (.slice none 0 0)] : List Value).toArray 55) →
(((cs8)).length = 24 ∧ wrs h29 b23 0 24 ∧ ∀ u ∈ ((cs8) : List Value), u.oneCell' = true) ∧ ∀ h30 : Heap, h30 = setr h29 b23 0 (cs8) →
bcase (!t6) (
onAddr s fun b24 o17 =>
∃ v5 : Value, cell h30 b24 (o17 + 5) = some v5 ∧
∃ n18 : Int, cell h30 b1 19 = some (.int .i64 n18) ∧
∃ cs9 : List Value, row h30 b1 0 24 = some cs9 ∧
mupv Tryd.prog 79 (v5) ((.int .i64 n18)) ((.agg (cs9).toArray)) h30 fun h31 =>
Runs Tryd.prog 64 #[(.pointer s)] h31 fun r9 h32 =>
∃ (s6 : Option Addr) (s6l s6c : Nat),
r9 = (.slice s6 s6l s6c) ∧
∃ news5 : List Value, (src h32 s6 (s6l * 24) news5 ∧ ∀ u ∈ news5, u.oneCell' = true) ∧
appK h32 none 0 0 s6l 24 55 72 news5 fun (a5 : Option Addr) (cap5 : Nat) (h33 : Heap) =>
Post (.slice a5 (0 + s6l) cap5) h33) (
Runs Tryd.prog 64 #[(.pointer s)] h30 fun r10 h34 =>
∃ (s7 : Option Addr) (s7l s7c : Nat),
r10 = (.slice s7 s7l s7c) ∧
∃ news6 : List Value, (src h34 s7 (s7l * 24) news6 ∧ ∀ u ∈ news6, u.oneCell' = true) ∧
appK h34 none 0 0 s7l 24 55 72 news6 fun (a6 : Option Addr) (cap6 : Nat) (h35 : Heap) =>
Post (.slice a6 (0 + s7l) cap6) h35)) ∧
(
∀ (b25 : Nat) (h36 : Heap), b25 = h12.size → h36 = h12.push (.cells ([(.int .u8 (0 : Int)), (.int .u8 (0 : Int)), (.int .u8 (0 : Int)), (.int .u8 (0 : Int)), (.int .u8 (0 : Int)), (.int .u8 (0 : Int)), (.int .u8 (0 : Int)), (.int .u8 (0 : Int)), (.int .u8 (0 : Int)), (.int .u8 (0 : Int)), (.int .u8 (0 : Int)), (.int .u8 (0 : Int)), (.int .u8 (0 : Int)), (.int .u8 (0 : Int)), (.int .u8 (0 : Int)), (.int .u8 (0 : Int)), (.int .u8 (0 : Int)), (.int .u8 (0 : Int)), (.int .i64 (0 : Int)), (.int .i64 (0 : Int)), (.bool false), (.bool false), (.bool false), (.slice none 0 0)] : List Value).toArray 55) →
∃ cs10 : List Value,
∃ t7 : Bool, lkr Tryd.prog 79 (v4) ((.int .i64 n17)) h36 = some ((.agg (cs10).toArray), t7) ∧
(((cs10)).length = 24 ∧ wrs h36 b25 0 24 ∧ ∀ u ∈ ((cs10) : List Value), u.oneCell' = true) ∧ ∀ h37 : Heap, h37 = setr h36 b25 0 (cs10) →
bcase (!t7) (
onAddr s fun b26 o18 =>
∃ v6 : Value, cell h37 b26 (o18 + 5) = some v6 ∧
∃ n19 : Int, cell h37 b1 19 = some (.int .i64 n19) ∧
∃ cs11 : List Value, row h37 b1 0 24 = some cs11 ∧
mupv Tryd.prog 79 (v6) ((.int .i64 n19)) ((.agg (cs11).toArray)) h37 fun h38 =>
Runs Tryd.prog 64 #[(.pointer s)] h38 fun r11 h39 =>
∃ (s8 : Option Addr) (s8l s8c : Nat),
r11 = (.slice s8 s8l s8c) ∧
∃ news7 : List Value, (src h39 s8 (s8l * 24) news7 ∧ ∀ u ∈ news7, u.oneCell' = true) ∧
appK h39 none 0 0 s8l 24 55 72 news7 fun (a7 : Option Addr) (cap7 : Nat) (h40 : Heap) =>
Post (.slice a7 (0 + s8l) cap7) h40) (
Runs Tryd.prog 64 #[(.pointer s)] h37 fun r12 h41 =>
∃ (s9 : Option Addr) (s9l s9c : Nat),
r12 = (.slice s9 s9l s9c) ∧
∃ news8 : List Value, (src h41 s9 (s9l * 24) news8 ∧ ∀ u ∈ news8, u.oneCell' = true) ∧
appK h41 none 0 0 s9l 24 55 72 news8 fun (a8 : Option Addr) (cap8 : Nat) (h42 : Heap) =>
Post (.slice a8 (0 + s9l) cap8) h42)))))) :
    Runs Tryd.prog 34 #[(.pointer s), (.agg (f).toArray)] h0 Post :=
  runs_of (args := [(.pointer s), (.agg (f).toArray)]) (fun n => ⟨true, false⟩) (fun _ => []) (fun _ => none) (fun _ => []) Tryd.func34 rfl (by rw [Tryd.ntmps34]; simp) (Eq.mp (by kernel_rfl) H)
end Go.Proofs.YthlacliefgliiaaDoor
