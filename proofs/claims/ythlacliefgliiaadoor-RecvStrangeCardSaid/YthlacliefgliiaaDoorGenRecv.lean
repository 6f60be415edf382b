/- The conditions for calls of functions of the program, in plain form: written by a program (vcgen) off the elaborated code; each is the reckoner's own, by the kernel. -/
import Derived.Test.YthlacliefgliiaaDoorRows
import Derived.Test.YthlacliefgliiaaDoorVc
set_option linter.unusedVariables false
set_option maxRecDepth 100000
namespace Go.Proofs.YthlacliefgliiaaDoor
open Go.Vc
theorem vc_recv_New (me : List Value) (bss : List Value) (size : Int) (h0 : Heap) (Post : Value → Heap → Prop) (H :
∀ (b1 : Nat) (h1 : Heap), b1 = h0.size → h1 = h0.push (.cells (me).toArray 31) →
∀ (b2 : Nat) (h2 : Heap), b2 = h1.size → h2 = h1.push (.cells (bss).toArray 31) →
bcase (decide (size < (1 : Int))) (
∃ v1 : Value, cell h2 0 0 = some v1 ∧
Post (.tuple #[(.pointer none), v1]) h2) (
bcase (decide ((64 : Int) < size)) (
∃ v2 : Value, cell h2 0 0 = some v2 ∧
Post (.tuple #[(.pointer none), v2]) h2) (
∃ cs1 : List Value, row h2 b1 0 6 = some cs1 ∧
∃ cs2 : List Value, row h2 b2 0 6 = some cs2 ∧
(cs1).length = 6 ∧
(cs2).length = 6 ∧
∀ (b3 : Nat) (h3 : Heap), b3 = h2.size → h3 = h2.push (.cells (((cs1) ++ ((cs2) ++ ([(.int .i64 size), (.bool false), (.int .i64 (0 : Int)), (.int .i64 (0 : Int)), (.int .i64 (0 : Int)), (.int .u64 (0 : Int)), (.map none), (.bool false), (.int .i64 (0 : Int)), (.bool false), (.int .i64 (0 : Int)), (.int .i64 (0 : Int)), (.int .i64 (0 : Int)), (.int .u64 (0 : Int)), (.map none), (.bool false), (.int .i64 (0 : Int)), (.bool false), (.int .i64 (0 : Int)), (.int .i64 (0 : Int)), (.int .i64 (0 : Int)), (.int .u64 (0 : Int)), (.map none), (.bool false), (.int .i64 (0 : Int)), (.bool false), (.int .i64 (0 : Int)), (.int .i64 (0 : Int)), (.int .i64 (0 : Int)), (.int .u64 (0 : Int)), (.map none), (.bool false), (.int .i64 (0 : Int)), (.bool false), (.int .i64 (0 : Int)), (.int .i64 (0 : Int)), (.int .i64 (0 : Int)), (.int .u64 (0 : Int)), (.map none), (.bool false), (.int .i64 (0 : Int)), (.bool false), (.int .i64 (0 : Int)), (.int .i64 (0 : Int)), (.int .i64 (0 : Int)), (.int .u64 (0 : Int)), (.map none), (.bool false), (.int .i64 (0 : Int)), (.bool false), (.int .i64 (0 : Int)), (.int .i64 (0 : Int)), (.int .i64 (0 : Int)), (.int .u64 (0 : Int)), (.map none), (.bool false), (.int .i64 (0 : Int)), (.bool false), (.int .i64 (0 : Int)), (.int .i64 (0 : Int)), (.int .i64 (0 : Int)), (.int .u64 (0 : Int)), (.map none), (.bool false), (.int .i64 (0 : Int))] : List Value)))).toArray 84) →
Post (.tuple #[(.pointer (some ⟨b3, 0, none⟩)), .nilIface]) h3))) :
    Runs Tryd.prog 10 #[(.agg (me).toArray), (.agg (bss).toArray), (.int .i64 size)] h0 Post :=
  runs_of (args := [(.agg (me).toArray), (.agg (bss).toArray), (.int .i64 size)]) (fun n => ⟨true, false⟩) (fun _ => []) (fun _ => none) (fun _ => []) Tryd.func10 rfl (by rw [Tryd.ntmps10]; simp) (Eq.mp (by kernel_rfl) H)

theorem vc_recv_Station_Data (s : Nat) (agg : Bool) (b : Option Addr) (bL bC : Nat) (h0 : Heap) (Post : Value → Heap → Prop) (H :
∀ (b1 : Nat) (h1 : Heap), b1 = h0.size → h1 = h0.push (.cells ([(.slice b bL bC)] : List Value).toArray 35) →
bcase agg (
Runs Tryd.prog 32 #[(.slice b bL bC)] h1 fun r1 h2 =>
∃ (s1 : Option Addr) (s1l s1c : Nat),
r1 = (.slice s1 s1l s1c) ∧
∃ (I1 : Option Addr → Nat → Nat → Int → Int → Heap → Prop) (m1 : Option Addr → Nat → Nat → Int → Int → Heap → Nat), I1 none 0 0 (-1 : Int) (0 : Int) h2 ∧ ∀ _ : Env,
∀ (out_1 : Option Addr) (out_1l out_1c : Nat) (last_1 : Int) (x3 : Int) (h3 : Heap), I1 out_1 out_1l out_1c last_1 x3 h3 →
bcase (decide (x3 < ((s1l : Nat) : Int))) (
(0 ≤ x3 ∧ x3 < ((s1l : Nat) : Int)) ∧
onAddr s1 fun b2 o1 =>
∃ (s2 : Option Addr) (s2l s2c : Nat), cell h3 b2 (o1 + (x3).toNat) = some (.slice s2 s2l s2c) ∧
Runs Tryd.prog 33 #[(.slice s2 s2l s2c)] h3 fun r2 h4 =>
∃ cs1 : List Value,
∃ v1 : Value,
r2 = (.tuple #[(.agg (cs1).toArray), v1]) ∧
∀ (b3 : Nat) (h5 : Heap), b3 = h4.size → h5 = h4.push (.cells ([(.int .u8 (0 : Int)), (.int .u8 (0 : Int)), (.int .u8 (0 : Int)), (.int .u8 (0 : Int)), (.int .u8 (0 : Int)), (.int .u8 (0 : Int)), (.int .u8 (0 : Int)), (.int .u8 (0 : Int)), (.int .u8 (0 : Int)), (.int .u8 (0 : Int)), (.int .u8 (0 : Int)), (.int .u8 (0 : Int)), (.int .u8 (0 : Int)), (.int .u8 (0 : Int)), (.int .u8 (0 : Int)), (.int .u8 (0 : Int)), (.int .u8 (0 : Int)), (.int .u8 (0 : Int)), (.int .i64 (0 : Int)), (.int .i64 (0 : Int)), (.bool false), (.bool false), (.bool false), (.slice none 0 0)] : List Value).toArray 55) →
(((cs1)).length = 24 ∧ wrs h5 b3 0 24 ∧ ∀ u ∈ ((cs1) : List Value), u.oneCell' = true) ∧ ∀ h6 : Heap, h6 = setr h5 b3 0 (cs1) →
∃ t1 : Bool, ifeq true (v1) (.nilIface) = some t1 ∧
bcase (!t1) (
fits .i64 (x3 + (1 : Int)) ∧
I1 out_1 out_1l out_1c last_1 (x3 + (1 : Int)) h6 ∧ m1 out_1 out_1l out_1c last_1 (x3 + (1 : Int)) h6 < m1 out_1 out_1l out_1c last_1 x3 h3) (
∃ cs2 : List Value, row h6 b3 0 6 = some cs2 ∧
∃ cs3 : List Value, row h6 s 0 6 = some cs3 ∧
∃ l1 l2 : List Int, cs2 = l1.map (Value.int .u8) ∧ cs3 = l2.map (Value.int .u8) ∧ (l1.length = 6 ∧ l2.length = 6) ∧
bcase (!(decide (l1 = l2))) (
fits .i64 (x3 + (1 : Int)) ∧
I1 out_1 out_1l out_1c last_1 (x3 + (1 : Int)) h6 ∧ m1 out_1 out_1l out_1c last_1 (x3 + (1 : Int)) h6 < m1 out_1 out_1l out_1c last_1 x3 h3) (
∃ cs4 : List Value, row h6 b3 6 6 = some cs4 ∧
∃ cs5 : List Value, row h6 s 6 6 = some cs5 ∧
∃ l3 l4 : List Int, cs4 = l3.map (Value.int .u8) ∧ cs5 = l4.map (Value.int .u8) ∧ (l3.length = 6 ∧ l4.length = 6) ∧
bcase (!(decide (l3 = l4))) (
fits .i64 (x3 + (1 : Int)) ∧
I1 out_1 out_1l out_1c last_1 (x3 + (1 : Int)) h6 ∧ m1 out_1 out_1l out_1c last_1 (x3 + (1 : Int)) h6 < m1 out_1 out_1l out_1c last_1 x3 h3) (
∃ n1 : Int, cell h6 b3 18 = some (.int .i64 n1) ∧
(0 ≤ n1 ∧ n1 < ((8 : Nat) : Int)) ∧
∃ cs6 : List Value, row h6 b3 0 24 = some cs6 ∧
Runs Tryd.prog 34 #[(.pointer (some ⟨s, (13 + ((n1).toNat * 8)), none⟩)), (.agg (cs6).toArray)] h6 fun r3 h7 =>
∃ (s3 : Option Addr) (s3l s3c : Nat),
r3 = (.slice s3 s3l s3c) ∧
cell h7 b3 18 = some (.int .i64 n1) ∧
∃ news1 : List Value, (src h7 s3 (s3l * 24) news1 ∧ ∀ u ∈ news1, u.oneCell' = true) ∧
appK h7 out_1 out_1l out_1c s3l 24 55 72 news1 fun (a1 : Option Addr) (cap1 : Nat) (h8 : Heap) =>
cell h8 b3 18 = some (.int .i64 n1) ∧
∃ n2 : Int, cell h8 b3 18 = some (.int .i64 n2) ∧
fits .i64 (x3 + (1 : Int)) ∧
I1 a1 (out_1l + s3l) cap1 n2 (x3 + (1 : Int)) h8 ∧ m1 a1 (out_1l + s3l) cap1 n2 (x3 + (1 : Int)) h8 < m1 out_1 out_1l out_1c last_1 x3 h3)))) (
bcase (decide (last_1 < (0 : Int))) (
Post (.tuple #[(.slice out_1 out_1l out_1c), (.slice none 0 0)]) h3) (
Runs Tryd.prog 35 #[(.pointer (some ⟨s, 0, none⟩)), (.int .i64 last_1)] h3 fun r4 h9 =>
∃ (s4 : Option Addr) (s4l s4c : Nat),
r4 = (.slice s4 s4l s4c) ∧
Post (.tuple #[(.slice out_1 out_1l out_1c), (.slice s4 s4l s4c)]) h9))) (
∃ (I2 : Option Addr → Nat → Nat → Int → Int → Heap → Prop) (m2 : Option Addr → Nat → Nat → Int → Int → Heap → Nat), I2 none 0 0 (-1 : Int) (0 : Int) h1 ∧ ∀ _ : Env,
∀ (out_2 : Option Addr) (out_2l out_2c : Nat) (last_2 : Int) (x6 : Int) (h10 : Heap), I2 out_2 out_2l out_2c last_2 x6 h10 →
bcase (decide (x6 < ((1 : Nat) : Int))) (
(0 ≤ x6 ∧ x6 < ((1 : Nat) : Int)) ∧
∃ (s5 : Option Addr) (s5l s5c : Nat), cell h10 b1 (0 + (x6).toNat) = some (.slice s5 s5l s5c) ∧
Runs Tryd.prog 33 #[(.slice s5 s5l s5c)] h10 fun r5 h11 =>
∃ cs7 : List Value,
∃ v2 : Value,
r5 = (.tuple #[(.agg (cs7).toArray), v2]) ∧
∀ (b4 : Nat) (h12 : Heap), b4 = h11.size → h12 = h11.push (.cells ([(.int .u8 (0 : Int)), (.int .u8 (0 : Int)), (.int .u8 (0 : Int)), (.int .u8 (0 : Int)), (.int .u8 (0 : Int)), (.int .u8 (0 : Int)), (.int .u8 (0 : Int)), (.int .u8 (0 : Int)), (.int .u8 (0 : Int)), (.int .u8 (0 : Int)), (.int .u8 (0 : Int)), (.int .u8 (0 : Int)), (.int .u8 (0 : Int)), (.int .u8 (0 : Int)), (.int .u8 (0 : Int)), (.int .u8 (0 : Int)), (.int .u8 (0 : Int)), (.int .u8 (0 : Int)), (.int .i64 (0 : Int)), (.int .i64 (0 : Int)), (.bool false), (.bool false), (.bool false), (.slice none 0 0)] : List Value).toArray 55) →
(((cs7)).length = 24 ∧ wrs h12 b4 0 24 ∧ ∀ u ∈ ((cs7) : List Value), u.oneCell' = true) ∧ ∀ h13 : Heap, h13 = setr h12 b4 0 (cs7) →
∃ t2 : Bool, ifeq true (v2) (.nilIface) = some t2 ∧
bcase (!t2) (
fits .i64 (x6 + (1 : Int)) ∧
I2 out_2 out_2l out_2c last_2 (x6 + (1 : Int)) h13 ∧ m2 out_2 out_2l out_2c last_2 (x6 + (1 : Int)) h13 < m2 out_2 out_2l out_2c last_2 x6 h10) (
∃ cs8 : List Value, row h13 b4 0 6 = some cs8 ∧
∃ cs9 : List Value, row h13 s 0 6 = some cs9 ∧
∃ l5 l6 : List Int, cs8 = l5.map (Value.int .u8) ∧ cs9 = l6.map (Value.int .u8) ∧ (l5.length = 6 ∧ l6.length = 6) ∧
bcase (!(decide (l5 = l6))) (
fits .i64 (x6 + (1 : Int)) ∧
I2 out_2 out_2l out_2c last_2 (x6 + (1 : Int)) h13 ∧ m2 out_2 out_2l out_2c last_2 (x6 + (1 : Int)) h13 < m2 out_2 out_2l out_2c last_2 x6 h10) (
∃ cs10 : List Value, row h13 b4 6 6 = some cs10 ∧
∃ cs11 : List Value, row h13 s 6 6 = some cs11 ∧
∃ l7 l8 : List Int, cs10 = l7.map (Value.int .u8) ∧ cs11 = l8.map (Value.int .u8) ∧ (l7.length = 6 ∧ l8.length = 6) ∧
bcase (!(decide (l7 = l8))) (
fits .i64 (x6 + (1 : Int)) ∧
I2 out_2 out_2l out_2c last_2 (x6 + (1 : Int)) h13 ∧ m2 out_2 out_2l out_2c last_2 (x6 + (1 : Int)) h13 < m2 out_2 out_2l out_2c last_2 x6 h10) (
∃ n3 : Int, cell h13 b4 18 = some (.int .i64 n3) ∧
(0 ≤ n3 ∧ n3 < ((8 : Nat) : Int)) ∧
∃ cs12 : List Value, row h13 b4 0 24 = some cs12 ∧
Runs Tryd.prog 34 #[(.pointer (some ⟨s, (13 + ((n3).toNat * 8)), none⟩)), (.agg (cs12).toArray)] h13 fun r6 h14 =>
∃ (s6 : Option Addr) (s6l s6c : Nat),
r6 = (.slice s6 s6l s6c) ∧
cell h14 b4 18 = some (.int .i64 n3) ∧
∃ news2 : List Value, (src h14 s6 (s6l * 24) news2 ∧ ∀ u ∈ news2, u.oneCell' = true) ∧
appK h14 out_2 out_2l out_2c s6l 24 55 72 news2 fun (a2 : Option Addr) (cap2 : Nat) (h15 : Heap) =>
cell h15 b4 18 = some (.int .i64 n3) ∧
∃ n4 : Int, cell h15 b4 18 = some (.int .i64 n4) ∧
fits .i64 (x6 + (1 : Int)) ∧
I2 a2 (out_2l + s6l) cap2 n4 (x6 + (1 : Int)) h15 ∧ m2 a2 (out_2l + s6l) cap2 n4 (x6 + (1 : Int)) h15 < m2 out_2 out_2l out_2c last_2 x6 h10)))) (
bcase (decide (last_2 < (0 : Int))) (
Post (.tuple #[(.slice out_2 out_2l out_2c), (.slice none 0 0)]) h10) (
Runs Tryd.prog 35 #[(.pointer (some ⟨s, 0, none⟩)), (.int .i64 last_2)] h10 fun r7 h16 =>
∃ (s7 : Option Addr) (s7l s7c : Nat),
r7 = (.slice s7 s7l s7c) ∧
Post (.tuple #[(.slice out_2 out_2l out_2c), (.slice s7 s7l s7c)]) h16)))) :
    Runs Tryd.prog 14 #[(.pointer (some ⟨s, 0, none⟩)), (.bool agg), (.slice b bL bC)] h0 Post :=
  runs_of (args := [(.pointer (some ⟨s, 0, none⟩)), (.bool agg), (.slice b bL bC)]) (fun n => ⟨true, false⟩) (fun n => match n with | 0 => [(9, .slice), (10, .int .i64), (22, .int .i64)] | _ => []) (fun _ => none) (fun _ => []) Tryd.func14 rfl (by rw [Tryd.ntmps14]; simp) (Eq.mp (by kernel_rfl) H)

theorem vc_recv_Station_Other (s : Nat) (b : Option Addr) (bL bC : Nat) (h0 : Heap) (Post : Value → Heap → Prop) (H :
Runs Tryd.prog 50 #[(.slice b bL bC)] h0 fun r1 h1 =>
∃ cs1 : List Value,
∃ v1 : Value,
r1 = (.tuple #[(.agg (cs1).toArray), v1]) ∧
∀ (b1 : Nat) (h2 : Heap), b1 = h1.size → h2 = h1.push (.cells ([(.int .u8 (0 : Int)), (.int .u8 (0 : Int)), (.int .u8 (0 : Int)), (.int .u8 (0 : Int)), (.int .u8 (0 : Int)), (.int .u8 (0 : Int)), (.int .u8 (0 : Int)), (.int .u8 (0 : Int)), (.int .u8 (0 : Int)), (.int .u8 (0 : Int)), (.int .u8 (0 : Int)), (.int .u8 (0 : Int)), (.int .i64 (0 : Int)), (.int .i64 (0 : Int))] : List Value).toArray 69) →
(((cs1)).length = 14 ∧ wrs h2 b1 0 14 ∧ ∀ u ∈ ((cs1) : List Value), u.oneCell' = true) ∧ ∀ h3 : Heap, h3 = setr h2 b1 0 (cs1) →
∃ t1 : Bool, ifeqH Tryd.prog h3 true (v1) (.nilIface) = some t1 ∧
bcase t1 (
∃ cs2 : List Value, row h3 b1 0 14 = some cs2 ∧
Runs Tryd.prog 51 #[(.pointer (some ⟨s, 0, none⟩)), (.agg (cs2).toArray)] h3 fun r2 h4 =>
∃ (s1 : Option Addr) (s1l s1c : Nat),
∃ (s2 : Option Addr) (s2l s2c : Nat),
r2 = (.tuple #[(.slice s1 s1l s1c), (.slice s2 s2l s2c)]) ∧
Post (.tuple #[(.slice s1 s1l s1c), (.slice s2 s2l s2c)]) h4) (
Runs Tryd.prog 52 #[(.slice b bL bC)] h3 fun r3 h5 =>
∃ cs3 : List Value,
∃ v2 : Value,
r3 = (.tuple #[(.agg (cs3).toArray), v2]) ∧
∀ (b2 : Nat) (h6 : Heap), b2 = h5.size → h6 = h5.push (.cells ([(.int .u8 (0 : Int)), (.int .u8 (0 : Int)), (.int .u8 (0 : Int)), (.int .u8 (0 : Int)), (.int .u8 (0 : Int)), (.int .u8 (0 : Int)), (.int .u8 (0 : Int)), (.int .u8 (0 : Int)), (.int .u8 (0 : Int)), (.int .u8 (0 : Int)), (.int .u8 (0 : Int)), (.int .u8 (0 : Int)), (.int .u8 (0 : Int)), (.int .u8 (0 : Int)), (.int .u8 (0 : Int)), (.int .u8 (0 : Int)), (.int .u8 (0 : Int)), (.int .u8 (0 : Int)), (.bool false), (.int .i64 (0 : Int)), (.int .i64 (0 : Int)), (.int .i64 (0 : Int)), (.int .i64 (0 : Int)), (.int .i64 (0 : Int)), (.int .i64 (0 : Int))] : List Value).toArray 65) →
(((cs3)).length = 25 ∧ wrs h6 b2 0 25 ∧ ∀ u ∈ ((cs3) : List Value), u.oneCell' = true) ∧ ∀ h7 : Heap, h7 = setr h6 b2 0 (cs3) →
∃ t2 : Bool, ifeqH Tryd.prog h7 true (v2) (.nilIface) = some t2 ∧
bcase t2 (
∃ cs4 : List Value, row h7 b2 0 25 = some cs4 ∧
Runs Tryd.prog 53 #[(.pointer (some ⟨s, 0, none⟩)), (.agg (cs4).toArray)] h7 fun r4 h8 =>
∃ (s3 : Option Addr) (s3l s3c : Nat),
∃ (s4 : Option Addr) (s4l s4c : Nat),
r4 = (.tuple #[(.slice s3 s3l s3c), (.slice s4 s4l s4c)]) ∧
Post (.tuple #[(.slice s3 s3l s3c), (.slice s4 s4l s4c)]) h8) (
Runs Tryd.prog 54 #[(.slice b bL bC)] h7 fun r5 h9 =>
∃ cs5 : List Value,
∃ v3 : Value,
r5 = (.tuple #[(.agg (cs5).toArray), v3]) ∧
∀ (b3 : Nat) (h10 : Heap), b3 = h9.size → h10 = h9.push (.cells ([(.int .u8 (0 : Int)), (.int .u8 (0 : Int)), (.int .u8 (0 : Int)), (.int .u8 (0 : Int)), (.int .u8 (0 : Int)), (.int .u8 (0 : Int)), (.int .u8 (0 : Int)), (.int .u8 (0 : Int)), (.int .u8 (0 : Int)), (.int .u8 (0 : Int)), (.int .u8 (0 : Int)), (.int .u8 (0 : Int)), (.int .u8 (0 : Int)), (.int .u8 (0 : Int)), (.int .u8 (0 : Int)), (.int .u8 (0 : Int)), (.int .u8 (0 : Int)), (.int .u8 (0 : Int)), (.bool false), (.int .i64 (0 : Int)), (.int .i64 (0 : Int))] : List Value).toArray 77) →
(((cs5)).length = 21 ∧ wrs h10 b3 0 21 ∧ ∀ u ∈ ((cs5) : List Value), u.oneCell' = true) ∧ ∀ h11 : Heap, h11 = setr h10 b3 0 (cs5) →
∃ t3 : Bool, ifeq true (v3) (.nilIface) = some t3 ∧
bcase t3 (
∃ cs6 : List Value, row h11 b3 0 6 = some cs6 ∧
∃ cs7 : List Value, row h11 s 0 6 = some cs7 ∧
∃ l1 l2 : List Int, cs6 = l1.map (Value.int .u8) ∧ cs7 = l2.map (Value.int .u8) ∧ (l1.length = 6 ∧ l2.length = 6) ∧
bcase (decide (l1 = l2)) (
∃ cs8 : List Value, row h11 b3 12 6 = some cs8 ∧
∃ cs9 : List Value, row h11 s 6 6 = some cs9 ∧
∃ l3 l4 : List Int, cs8 = l3.map (Value.int .u8) ∧ cs9 = l4.map (Value.int .u8) ∧ (l3.length = 6 ∧ l4.length = 6) ∧
bcase (decide (l3 = l4)) (
∃ t4 : Bool, cell h11 b3 18 = some (.bool t4) ∧
bcase t4 (
∃ n1 : Int, cell h11 b3 19 = some (.int .i64 n1) ∧
(0 ≤ n1 ∧ n1 < ((8 : Nat) : Int)) ∧
Runs Tryd.prog 41 #[(.pointer (some ⟨s, (13 + ((n1).toNat * 8)), none⟩))] h11 fun r6 h12 =>
∃ (s5 : Option Addr) (s5l s5c : Nat),
r6 = (.slice s5 s5l s5c) ∧
((([(.bool false), (.int .i64 (0 : Int)), (.int .i64 (0 : Int)), (.int .i64 (0 : Int)), (.int .u64 (0 : Int)), (.map none), (.bool false), (.int .i64 (0 : Int))] : List Value)).length = 8 ∧ wrs h12 s (13 + ((n1).toNat * 8)) 8 ∧ ∀ u ∈ (([(.bool false), (.int .i64 (0 : Int)), (.int .i64 (0 : Int)), (.int .i64 (0 : Int)), (.int .u64 (0 : Int)), (.map none), (.bool false), (.int .i64 (0 : Int))] : List Value) : List Value), u.oneCell' = true) ∧ ∀ h13 : Heap, h13 = setr h12 s (13 + ((n1).toNat * 8)) ([(.bool false), (.int .i64 (0 : Int)), (.int .i64 (0 : Int)), (.int .i64 (0 : Int)), (.int .u64 (0 : Int)), (.map none), (.bool false), (.int .i64 (0 : Int))] : List Value) →
Post (.tuple #[(.slice s5 s5l s5c), (.slice none 0 0)]) h13) (
Post (.tuple #[(.slice none 0 0), (.slice none 0 0)]) h11)) (
Post (.tuple #[(.slice none 0 0), (.slice none 0 0)]) h11)) (
Post (.tuple #[(.slice none 0 0), (.slice none 0 0)]) h11)) (
Post (.tuple #[(.slice none 0 0), (.slice none 0 0)]) h11)))) :
    Runs Tryd.prog 24 #[(.pointer (some ⟨s, 0, none⟩)), (.slice b bL bC)] h0 Post :=
  runs_of (args := [(.pointer (some ⟨s, 0, none⟩)), (.slice b bL bC)]) (fun n => ⟨true, false⟩) (fun _ => []) (fun _ => none) (fun _ => []) Tryd.func24 rfl (by rw [Tryd.ntmps24]; simp) (Eq.mp (by kernel_rfl) H)

theorem vc_recv_Station_bar (s : Nat) (f : List Value) (h0 : Heap) (Post : Value → Heap → Prop) (H :
∀ (b1 : Nat) (h1 : Heap), b1 = h0.size → h1 = h0.push (.cells (f).toArray 69) →
∃ n1 : Int, cell h1 b1 12 = some (.int .i64 n1) ∧
(0 ≤ n1 ∧ n1 < ((8 : Nat) : Int)) ∧
∃ cs1 : List Value, row h1 b1 0 6 = some cs1 ∧
∃ cs2 : List Value, row h1 s 0 6 = some cs2 ∧
∃ l1 l2 : List Int, cs1 = l1.map (Value.int .u8) ∧ cs2 = l2.map (Value.int .u8) ∧ (l1.length = 6 ∧ l2.length = 6) ∧
bcase (!(decide (l1 = l2))) (
Post (.tuple #[(.slice none 0 0), (.slice none 0 0)]) h1) (
∃ cs3 : List Value, row h1 b1 6 6 = some cs3 ∧
∃ cs4 : List Value, row h1 s 6 6 = some cs4 ∧
∃ l3 l4 : List Int, cs3 = l3.map (Value.int .u8) ∧ cs4 = l4.map (Value.int .u8) ∧ (l3.length = 6 ∧ l4.length = 6) ∧
bcase (!(decide (l3 = l4))) (
Post (.tuple #[(.slice none 0 0), (.slice none 0 0)]) h1) (
∃ t1 : Bool, cell h1 s (13 + ((n1).toNat * 8)) = some (.bool t1) ∧
bcase (!t1) (
Post (.tuple #[(.slice none 0 0), (.slice none 0 0)]) h1) (
∃ n2 : Int, cell h1 s ((13 + ((n1).toNat * 8)) + 1) = some (.int .i64 n2) ∧
∃ n3 : Int, cell h1 b1 13 = some (.int .i64 n3) ∧
Runs Tryd.prog 42 #[(.int .i64 n2), (.int .i64 n3)] h1 fun r1 h2 =>
∃ n4 : Int,
r1 = (.int .i64 n4) ∧
bcase (decide (n4 < (2048 : Int))) (
∃ n5 : Int, cell h2 b1 13 = some (.int .i64 n5) ∧
Runs Tryd.prog 62 #[(.pointer (some ⟨s, (13 + ((n1).toNat * 8)), none⟩)), (.int .i64 n5)] h2 fun r2 h3 =>
∃ (s1 : Option Addr) (s1l s1c : Nat),
r2 = (.slice s1 s1l s1c) ∧
Runs Tryd.prog 64 #[(.pointer (some ⟨s, (13 + ((n1).toNat * 8)), none⟩))] h3 fun r3 h4 =>
∃ (s2 : Option Addr) (s2l s2c : Nat),
r3 = (.slice s2 s2l s2c) ∧
∃ news1 : List Value, (src h4 s2 (s2l * 24) news1 ∧ ∀ u ∈ news1, u.oneCell' = true) ∧
appK h4 s1 s1l s1c s2l 24 55 72 news1 fun (a1 : Option Addr) (cap1 : Nat) (h5 : Heap) =>
∃ n6 : Int, cell h5 s ((13 + ((n1).toNat * 8)) + 3) = some (.int .i64 n6) ∧
∃ n7 : Int, cell h5 b1 13 = some (.int .i64 n7) ∧
Runs Tryd.prog 42 #[(.int .i64 n6), (.int .i64 n7)] h5 fun r4 h6 =>
∃ n8 : Int,
r4 = (.int .i64 n8) ∧
bcase (decide (n8 < (2048 : Int))) (
∃ n9 : Int, cell h6 b1 13 = some (.int .i64 n9) ∧
Runs Tryd.prog 72 #[(.pointer (some ⟨s, (13 + ((n1).toNat * 8)), none⟩)), (.int .i64 n9)] h6 fun r5 h7 =>
∃ n10 : Int, cell h7 b1 12 = some (.int .i64 n10) ∧
Runs Tryd.prog 35 #[(.pointer (some ⟨s, 0, none⟩)), (.int .i64 n10)] h7 fun r6 h8 =>
∃ (s3 : Option Addr) (s3l s3c : Nat),
r6 = (.slice s3 s3l s3c) ∧
Post (.tuple #[(.slice a1 (s1l + s2l) cap1), (.slice s3 s3l s3c)]) h8) (
∃ n11 : Int, cell h6 b1 12 = some (.int .i64 n11) ∧
Runs Tryd.prog 35 #[(.pointer (some ⟨s, 0, none⟩)), (.int .i64 n11)] h6 fun r7 h9 =>
∃ (s4 : Option Addr) (s4l s4c : Nat),
r7 = (.slice s4 s4l s4c) ∧
Post (.tuple #[(.slice a1 (s1l + s2l) cap1), (.slice s4 s4l s4c)]) h9)) (
∃ n12 : Int, cell h2 s ((13 + ((n1).toNat * 8)) + 3) = some (.int .i64 n12) ∧
∃ n13 : Int, cell h2 b1 13 = some (.int .i64 n13) ∧
Runs Tryd.prog 42 #[(.int .i64 n12), (.int .i64 n13)] h2 fun r8 h10 =>
∃ n14 : Int,
r8 = (.int .i64 n14) ∧
bcase (decide (n14 < (2048 : Int))) (
∃ n15 : Int, cell h10 b1 13 = some (.int .i64 n15) ∧
Runs Tryd.prog 72 #[(.pointer (some ⟨s, (13 + ((n1).toNat * 8)), none⟩)), (.int .i64 n15)] h10 fun r9 h11 =>
∃ n16 : Int, cell h11 b1 12 = some (.int .i64 n16) ∧
Runs Tryd.prog 35 #[(.pointer (some ⟨s, 0, none⟩)), (.int .i64 n16)] h11 fun r10 h12 =>
∃ (s5 : Option Addr) (s5l s5c : Nat),
r10 = (.slice s5 s5l s5c) ∧
Post (.tuple #[(.slice none 0 0), (.slice s5 s5l s5c)]) h12) (
∃ n17 : Int, cell h10 b1 12 = some (.int .i64 n17) ∧
Runs Tryd.prog 35 #[(.pointer (some ⟨s, 0, none⟩)), (.int .i64 n17)] h10 fun r11 h13 =>
∃ (s6 : Option Addr) (s6l s6c : Nat),
r11 = (.slice s6 s6l s6c) ∧
Post (.tuple #[(.slice none 0 0), (.slice s6 s6l s6c)]) h13)))))) :
    Runs Tryd.prog 51 #[(.pointer (some ⟨s, 0, none⟩)), (.agg (f).toArray)] h0 Post :=
  runs_of (args := [(.pointer (some ⟨s, 0, none⟩)), (.agg (f).toArray)]) (fun n => ⟨true, false⟩) (fun _ => []) (fun _ => none) (fun _ => []) Tryd.func51 rfl (by rw [Tryd.ntmps51]; simp) (Eq.mp (by kernel_rfl) H)

theorem vc_recv_Station_add (s : Nat) (f : List Value) (h0 : Heap) (Post : Value → Heap → Prop) (H :
∀ (b1 : Nat) (h1 : Heap), b1 = h0.size → h1 = h0.push (.cells (f).toArray 65) →
∃ t1 : Bool, cell h1 b1 18 = some (.bool t1) ∧
bcase t1 (
Post (.tuple #[(.slice none 0 0), (.slice none 0 0)]) h1) (
∃ cs1 : List Value, row h1 b1 0 6 = some cs1 ∧
∃ cs2 : List Value, row h1 s 0 6 = some cs2 ∧
∃ l1 l2 : List Int, cs1 = l1.map (Value.int .u8) ∧ cs2 = l2.map (Value.int .u8) ∧ (l1.length = 6 ∧ l2.length = 6) ∧
bcase (!(decide (l1 = l2))) (
Post (.tuple #[(.slice none 0 0), (.slice none 0 0)]) h1) (
∃ cs3 : List Value, row h1 b1 12 6 = some cs3 ∧
∃ cs4 : List Value, row h1 s 6 6 = some cs4 ∧
∃ l3 l4 : List Int, cs3 = l3.map (Value.int .u8) ∧ cs4 = l4.map (Value.int .u8) ∧ (l3.length = 6 ∧ l4.length = 6) ∧
bcase (!(decide (l3 = l4))) (
Post (.tuple #[(.slice none 0 0), (.slice none 0 0)]) h1) (
∃ n1 : Int, cell h1 b1 20 = some (.int .i64 n1) ∧
(0 ≤ n1 ∧ n1 < ((8 : Nat) : Int)) ∧
Runs Tryd.prog 41 #[(.pointer (some ⟨s, (13 + ((n1).toNat * 8)), none⟩))] h1 fun r1 h2 =>
∃ (s1 : Option Addr) (s1l s1c : Nat),
r1 = (.slice s1 s1l s1c) ∧
∃ n2 : Int, cell h2 s 12 = some (.int .i64 n2) ∧
∃ n3 : Int, cell h2 b1 21 = some (.int .i64 n3) ∧
bcase (decide ((0 : Int) < n3)) (
∃ n4 : Int, cell h2 b1 21 = some (.int .i64 n4) ∧
∃ n5 : Int, cell h2 b1 23 = some (.int .i64 n5) ∧
∃ n6 : Int, cell h2 b1 23 = some (.int .i64 n6) ∧
∀ (b2 : Nat) (h3 : Heap), b2 = h2.size → h3 = h2.push (.map #[] 0) →
((([(.bool true), (.int .i64 n5), (.int .i64 (min n2 n4)), (.int .i64 n6), (.int .u64 (0 : Int)), (.map (some b2)), (.bool false), (.int .i64 (0 : Int))] : List Value)).length = 8 ∧ wrs h3 s (13 + ((n1).toNat * 8)) 8 ∧ ∀ u ∈ (([(.bool true), (.int .i64 n5), (.int .i64 (min n2 n4)), (.int .i64 n6), (.int .u64 (0 : Int)), (.map (some b2)), (.bool false), (.int .i64 (0 : Int))] : List Value) : List Value), u.oneCell' = true) ∧ ∀ h4 : Heap, h4 = setr h3 s (13 + ((n1).toNat * 8)) ([(.bool true), (.int .i64 n5), (.int .i64 (min n2 n4)), (.int .i64 n6), (.int .u64 (0 : Int)), (.map (some b2)), (.bool false), (.int .i64 (0 : Int))] : List Value) →
∃ cs5 : List Value, row h4 s 6 6 = some cs5 ∧
∃ cs6 : List Value, row h4 s 0 6 = some cs6 ∧
∃ cs7 : List Value, row h4 s 6 6 = some cs7 ∧
∃ n7 : Int, cell h4 b1 19 = some (.int .i64 n7) ∧
∃ n8 : Int, cell h4 b1 20 = some (.int .i64 n8) ∧
(cs5).length = 6 ∧
(cs6).length = 6 ∧
(cs7).length = 6 ∧
Runs Tryd.prog 76 #[(.agg (((cs5) ++ ((cs6) ++ ((cs7) ++ ([(.bool true), (.int .i64 n7), (.int .i64 n8), (.int .i64 (min n2 n4)), (.int .i64 (0 : Int)), (.int .i64 (0 : Int)), (.int .i64 (0 : Int))] : List Value))))).toArray)] h4 fun r2 h5 =>
∃ (s2 : Option Addr) (s2l s2c : Nat),
∃ v1 : Value,
r2 = (.tuple #[(.slice s2 s2l s2c), v1]) ∧
cell h5 b1 20 = some (.int .i64 n8) ∧
cell h5 b1 19 = some (.int .i64 n7) ∧
row h5 s 6 6 = some (cs7) ∧
row h5 s 0 6 = some (cs6) ∧
row h5 s 6 6 = some (cs5) ∧
∃ t2 : Bool, ifeqH Tryd.prog h5 true (v1) (.nilIface) = some t2 ∧
bcase (!t2) (
Post (.tuple #[(.slice s1 s1l s1c), (.slice none 0 0)]) h5) (
Post (.tuple #[(.slice s1 s1l s1c), (.slice s2 s2l s2c)]) h5)) (
∃ n9 : Int, cell h2 b1 23 = some (.int .i64 n9) ∧
∃ n10 : Int, cell h2 b1 23 = some (.int .i64 n10) ∧
∀ (b3 : Nat) (h6 : Heap), b3 = h2.size → h6 = h2.push (.map #[] 0) →
((([(.bool true), (.int .i64 n9), (.int .i64 n2), (.int .i64 n10), (.int .u64 (0 : Int)), (.map (some b3)), (.bool false), (.int .i64 (0 : Int))] : List Value)).length = 8 ∧ wrs h6 s (13 + ((n1).toNat * 8)) 8 ∧ ∀ u ∈ (([(.bool true), (.int .i64 n9), (.int .i64 n2), (.int .i64 n10), (.int .u64 (0 : Int)), (.map (some b3)), (.bool false), (.int .i64 (0 : Int))] : List Value) : List Value), u.oneCell' = true) ∧ ∀ h7 : Heap, h7 = setr h6 s (13 + ((n1).toNat * 8)) ([(.bool true), (.int .i64 n9), (.int .i64 n2), (.int .i64 n10), (.int .u64 (0 : Int)), (.map (some b3)), (.bool false), (.int .i64 (0 : Int))] : List Value) →
∃ cs8 : List Value, row h7 s 6 6 = some cs8 ∧
∃ cs9 : List Value, row h7 s 0 6 = some cs9 ∧
∃ cs10 : List Value, row h7 s 6 6 = some cs10 ∧
∃ n11 : Int, cell h7 b1 19 = some (.int .i64 n11) ∧
∃ n12 : Int, cell h7 b1 20 = some (.int .i64 n12) ∧
(cs8).length = 6 ∧
(cs9).length = 6 ∧
(cs10).length = 6 ∧
Runs Tryd.prog 76 #[(.agg (((cs8) ++ ((cs9) ++ ((cs10) ++ ([(.bool true), (.int .i64 n11), (.int .i64 n12), (.int .i64 n2), (.int .i64 (0 : Int)), (.int .i64 (0 : Int)), (.int .i64 (0 : Int))] : List Value))))).toArray)] h7 fun r3 h8 =>
∃ (s3 : Option Addr) (s3l s3c : Nat),
∃ v2 : Value,
r3 = (.tuple #[(.slice s3 s3l s3c), v2]) ∧
cell h8 b1 20 = some (.int .i64 n12) ∧
cell h8 b1 19 = some (.int .i64 n11) ∧
row h8 s 6 6 = some (cs10) ∧
row h8 s 0 6 = some (cs9) ∧
row h8 s 6 6 = some (cs8) ∧
∃ t3 : Bool, ifeqH Tryd.prog h8 true (v2) (.nilIface) = some t3 ∧
bcase (!t3) (
Post (.tuple #[(.slice s1 s1l s1c), (.slice none 0 0)]) h8) (
Post (.tuple #[(.slice s1 s1l s1c), (.slice s3 s3l s3c)]) h8)))))) :
    Runs Tryd.prog 53 #[(.pointer (some ⟨s, 0, none⟩)), (.agg (f).toArray)] h0 Post :=
  runs_of (args := [(.pointer (some ⟨s, 0, none⟩)), (.agg (f).toArray)]) (fun n => ⟨true, false⟩) (fun _ => []) (fun _ => none) (fun _ => []) Tryd.func53 rfl (by rw [Tryd.ntmps53]; simp) (Eq.mp (by kernel_rfl) H)

theorem vc_recv_Station_answer (s : Nat) (tid : Int) (h0 : Heap) (Post : Value → Heap → Prop) (H :
(0 ≤ tid ∧ tid < ((8 : Nat) : Int)) ∧
∃ cs1 : List Value, row h0 s 6 6 = some cs1 ∧
∃ cs2 : List Value, row h0 s 0 6 = some cs2 ∧
∃ n1 : Int, cell h0 s ((13 + ((tid).toNat * 8)) + 7) = some (.int .i64 n1) ∧
(cs1).length = 6 ∧
(cs2).length = 6 ∧
∀ (b1 : Nat) (h1 : Heap), b1 = h0.size → h1 = h0.push (.cells ([(.int .u8 (0 : Int)), (.int .u8 (0 : Int)), (.int .u8 (0 : Int)), (.int .u8 (0 : Int)), (.int .u8 (0 : Int)), (.int .u8 (0 : Int)), (.int .u8 (0 : Int)), (.int .u8 (0 : Int)), (.int .u8 (0 : Int)), (.int .u8 (0 : Int)), (.int .u8 (0 : Int)), (.int .u8 (0 : Int)), (.int .i64 (0 : Int)), (.int .i64 (0 : Int)), (.int .u64 (0 : Int))] : List Value).toArray 44) →
(((((cs1) ++ ((cs2) ++ ([(.int .i64 tid), (.int .i64 n1), (.int .u64 (1 : Int))] : List Value))))).length = 15 ∧ wrs h1 b1 0 15 ∧ ∀ u ∈ ((((cs1) ++ ((cs2) ++ ([(.int .i64 tid), (.int .i64 n1), (.int .u64 (1 : Int))] : List Value)))) : List Value), u.oneCell' = true) ∧ ∀ h2 : Heap, h2 = setr h1 b1 0 (((cs1) ++ ((cs2) ++ ([(.int .i64 tid), (.int .i64 n1), (.int .u64 (1 : Int))] : List Value)))) →
∃ t1 : Bool, cell h2 s (13 + ((tid).toNat * 8)) = some (.bool t1) ∧
bcase t1 (
∃ n2 : Int, cell h2 s ((13 + ((tid).toNat * 8)) + 3) = some (.int .i64 n2) ∧
∃ n3 : Int, cell h2 s ((13 + ((tid).toNat * 8)) + 4) = some (.int .u64 n3) ∧
wr h2 b1 13 ∧ ∀ h3 : Heap, h3 = setc h2 b1 13 (.int .i64 n2) →
cell h3 s ((13 + ((tid).toNat * 8)) + 4) = some (.int .u64 n3) ∧
wr h3 b1 14 ∧ ∀ h4 : Heap, h4 = setc h3 b1 14 (.int .u64 n3) →
∃ cs3 : List Value, row h4 b1 0 15 = some cs3 ∧
Runs Tryd.prog 65 #[(.agg (cs3).toArray)] h4 fun r1 h5 =>
∃ (s1 : Option Addr) (s1l s1c : Nat),
∃ v1 : Value,
r1 = (.tuple #[(.slice s1 s1l s1c), v1]) ∧
∃ t2 : Bool, ifeqH Tryd.prog h5 true (v1) (.nilIface) = some t2 ∧
bcase (!t2) (
Post (.slice none 0 0) h5) (
Post (.slice s1 s1l s1c) h5)) (
∃ cs4 : List Value, row h2 b1 0 15 = some cs4 ∧
Runs Tryd.prog 65 #[(.agg (cs4).toArray)] h2 fun r2 h6 =>
∃ (s2 : Option Addr) (s2l s2c : Nat),
∃ v2 : Value,
r2 = (.tuple #[(.slice s2 s2l s2c), v2]) ∧
∃ t3 : Bool, ifeqH Tryd.prog h6 true (v2) (.nilIface) = some t3 ∧
bcase (!t3) (
Post (.slice none 0 0) h6) (
Post (.slice s2 s2l s2c) h6))) :
    Runs Tryd.prog 35 #[(.pointer (some ⟨s, 0, none⟩)), (.int .i64 tid)] h0 Post :=
  runs_of (args := [(.pointer (some ⟨s, 0, none⟩)), (.int .i64 tid)]) (fun n => ⟨true, false⟩) (fun _ => []) (fun _ => none) (fun _ => []) Tryd.func35 rfl (by rw [Tryd.ntmps35]; simp) (Eq.mp (by kernel_rfl) H)

theorem vc_recv_Station_Got (s : Nat) (tid : Int) (n : Int) (h0 : Heap) (Post : Value → Heap → Prop) (H :
bcase (decide (tid < (0 : Int))) (
Post (.bool false) h0) (
bcase (decide ((8 : Int) ≤ tid)) (
Post (.bool false) h0) (
(0 ≤ tid ∧ tid < ((8 : Nat) : Int)) ∧
∃ t1 : Bool, cell h0 s (13 + ((tid).toNat * 8)) = some (.bool t1) ∧
bcase (!t1) (
∃ t2 : Bool, cell h0 s ((13 + ((tid).toNat * 8)) + 6) = some (.bool t2) ∧
bcase t2 (
∃ n1 : Int, cell h0 s ((13 + ((tid).toNat * 8)) + 7) = some (.int .i64 n1) ∧
Post (.bool (decide (n1 = n))) h0) (
Post (.bool false) h0)) (
∃ n2 : Int, cell h0 s ((13 + ((tid).toNat * 8)) + 3) = some (.int .i64 n2) ∧
Runs Tryd.prog 42 #[(.int .i64 n2), (.int .i64 n)] h0 fun r1 h1 =>
∃ n3 : Int,
r1 = (.int .i64 n3) ∧
bcase (decide ((0 : Int) ≤ n)) (
bcase (decide (n < (4096 : Int))) (
bcase (decide (n3 < (64 : Int))) (
∃ n4 : Int, cell h1 s ((13 + ((tid).toNat * 8)) + 4) = some (.int .u64 n4) ∧
(0 ≤ n3 ∧ n3 ≤ kbits .u64) ∧
Post (.bool (decide ((0 : Int) < (bits .and .u64 (n4 / (pow2 n3)) (1 : Int))))) h1) (
Post (.bool false) h1)) (
Post (.bool false) h1)) (
Post (.bool false) h1))))) :
    Runs Tryd.prog 21 #[(.pointer (some ⟨s, 0, none⟩)), (.int .i64 tid), (.int .i64 n)] h0 Post :=
  runs_of (args := [(.pointer (some ⟨s, 0, none⟩)), (.int .i64 tid), (.int .i64 n)]) (fun n => ⟨true, false⟩) (fun _ => []) (fun _ => none) (fun _ => []) Tryd.func21 rfl (by rw [Tryd.ntmps21]; simp) (Eq.mp (by kernel_rfl) H)

theorem vc_recv_Station_Waits (s : Nat) (tid : Int) (h0 : Heap) (Post : Value → Heap → Prop) (H :
bcase (decide (tid < (0 : Int))) (
Post (.int .i64 (0 : Int)) h0) (
bcase (decide ((8 : Int) ≤ tid)) (
Post (.int .i64 (0 : Int)) h0) (
(0 ≤ tid ∧ tid < ((8 : Nat) : Int)) ∧
∃ v1 : Value, cell h0 s ((13 + ((tid).toNat * 8)) + 5) = some v1 ∧
mlen h0 (v1) fun k1 =>
Post (.int .i64 ((k1 : Nat) : Int)) h0))) :
    Runs Tryd.prog 19 #[(.pointer (some ⟨s, 0, none⟩)), (.int .i64 tid)] h0 Post :=
  runs_of (args := [(.pointer (some ⟨s, 0, none⟩)), (.int .i64 tid)]) (fun n => ⟨true, false⟩) (fun _ => []) (fun _ => none) (fun _ => []) Tryd.func19 rfl (by rw [Tryd.ntmps19]; simp) (Eq.mp (by kernel_rfl) H)

theorem vc_recv_Station_Session (s : Nat) (tid : Int) (h0 : Heap) (Post : Value → Heap → Prop) (H :
bcase (decide (tid < (0 : Int))) (
Post (.tuple #[(.int .i64 (0 : Int)), (.int .i64 (0 : Int)), (.bool false)]) h0) (
bcase (decide ((8 : Int) ≤ tid)) (
Post (.tuple #[(.int .i64 (0 : Int)), (.int .i64 (0 : Int)), (.bool false)]) h0) (
(0 ≤ tid ∧ tid < ((8 : Nat) : Int)) ∧
∃ t1 : Bool, cell h0 s (13 + ((tid).toNat * 8)) = some (.bool t1) ∧
bcase (!t1) (
Post (.tuple #[(.int .i64 (0 : Int)), (.int .i64 (0 : Int)), (.bool false)]) h0) (
(0 ≤ tid ∧ tid < ((8 : Nat) : Int)) ∧
∃ n1 : Int, cell h0 s ((13 + ((tid).toNat * 8)) + 1) = some (.int .i64 n1) ∧
(0 ≤ tid ∧ tid < ((8 : Nat) : Int)) ∧
∃ n2 : Int, cell h0 s ((13 + ((tid).toNat * 8)) + 2) = some (.int .i64 n2) ∧
Post (.tuple #[(.int .i64 n1), (.int .i64 n2), (.bool true)]) h0)))) :
    Runs Tryd.prog 18 #[(.pointer (some ⟨s, 0, none⟩)), (.int .i64 tid)] h0 Post :=
  runs_of (args := [(.pointer (some ⟨s, 0, none⟩)), (.int .i64 tid)]) (fun n => ⟨true, false⟩) (fun _ => []) (fun _ => none) (fun _ => []) Tryd.func18 rfl (by rw [Tryd.ntmps18]; simp) (Eq.mp (by kernel_rfl) H)

theorem vc_recv_Station_Leave (s : Nat) (h0 : Heap) (Post : Value → Heap → Prop) (H :
∃ (I1 : Option Addr → Nat → Nat → Int → Heap → Prop) (m1 : Option Addr → Nat → Nat → Int → Heap → Nat), I1 none 0 0 (0 : Int) h0 ∧ ∀ _ : Env,
∀ (out_1 : Option Addr) (out_1l out_1c : Nat) (x2 : Int) (h1 : Heap), I1 out_1 out_1l out_1c x2 h1 →
bcase (decide (x2 < (8 : Int))) (
(0 ≤ x2 ∧ x2 < ((8 : Nat) : Int)) ∧
Runs Tryd.prog 41 #[(.pointer (some ⟨s, (13 + ((x2).toNat * 8)), none⟩))] h1 fun r1 h2 =>
∃ (s1 : Option Addr) (s1l s1c : Nat),
r1 = (.slice s1 s1l s1c) ∧
∃ news1 : List Value, (src h2 s1 (s1l * 24) news1 ∧ ∀ u ∈ news1, u.oneCell' = true) ∧
appK h2 out_1 out_1l out_1c s1l 24 55 72 news1 fun (a1 : Option Addr) (cap1 : Nat) (h3 : Heap) =>
(0 ≤ x2 ∧ x2 < ((8 : Nat) : Int)) ∧
((([(.bool false), (.int .i64 (0 : Int)), (.int .i64 (0 : Int)), (.int .i64 (0 : Int)), (.int .u64 (0 : Int)), (.map none), (.bool false), (.int .i64 (0 : Int))] : List Value)).length = 8 ∧ wrs h3 s (13 + ((x2).toNat * 8)) 8 ∧ ∀ u ∈ (([(.bool false), (.int .i64 (0 : Int)), (.int .i64 (0 : Int)), (.int .i64 (0 : Int)), (.int .u64 (0 : Int)), (.map none), (.bool false), (.int .i64 (0 : Int))] : List Value) : List Value), u.oneCell' = true) ∧ ∀ h4 : Heap, h4 = setr h3 s (13 + ((x2).toNat * 8)) ([(.bool false), (.int .i64 (0 : Int)), (.int .i64 (0 : Int)), (.int .i64 (0 : Int)), (.int .u64 (0 : Int)), (.map none), (.bool false), (.int .i64 (0 : Int))] : List Value) →
fits .i64 (x2 + (1 : Int)) ∧
I1 a1 (out_1l + s1l) cap1 (x2 + (1 : Int)) h4 ∧ m1 a1 (out_1l + s1l) cap1 (x2 + (1 : Int)) h4 < m1 out_1 out_1l out_1c x2 h1) (
Post (.slice out_1 out_1l out_1c) h1)) :
    Runs Tryd.prog 20 #[(.pointer (some ⟨s, 0, none⟩))] h0 Post :=
  runs_of (args := [(.pointer (some ⟨s, 0, none⟩))]) (fun n => ⟨true, false⟩) (fun n => match n with | 0 => [(3, .slice), (5, .int .i64)] | _ => []) (fun _ => none) (fun _ => []) Tryd.func20 rfl (by rw [Tryd.ntmps20]; simp) (Eq.mp (by kernel_rfl) H)

theorem vc_recv_session_up (s : Option Addr) (to_ : Int) (h0 : Heap) (Post : Value → Heap → Prop) (H :
onAddr s fun b1 o1 =>
∃ n1 : Int, cell h0 b1 (o1 + 1) = some (.int .i64 n1) ∧
Runs Tryd.prog 42 #[(.int .i64 n1), (.int .i64 to_)] h0 fun r1 h1 =>
∃ n2 : Int,
r1 = (.int .i64 n2) ∧
∃ (I1 : Option Addr → Nat → Nat → Int → Heap → Prop) (m1 : Option Addr → Nat → Nat → Int → Heap → Nat), I1 none 0 0 (0 : Int) h1 ∧ ∀ _ : Env,
∀ (out_1 : Option Addr) (out_1l out_1c : Nat) (x2 : Int) (h2 : Heap), I1 out_1 out_1l out_1c x2 h2 →
bcase (decide (x2 < n2)) (
onAddr s fun b2 o2 =>
∃ v1 : Value, cell h2 b2 (o2 + 5) = some v1 ∧
mlen h2 (v1) fun k1 =>
bcase (decide (((k1 : Nat) : Int) = (0 : Int))) (
onAddr s fun b3 o3 =>
wr h2 b3 (o3 + 1) ∧ ∀ h3 : Heap, h3 = setc h2 b3 (o3 + 1) (.int .i64 to_) →
Post (.slice out_1 out_1l out_1c) h3) (
onAddr s fun b4 o4 =>
∃ v2 : Value, cell h2 b4 (o4 + 5) = some v2 ∧
onAddr s fun b5 o5 =>
∃ n3 : Int, cell h2 b5 (o5 + 1) = some (.int .i64 n3) ∧
(
∃ cs1 : List Value,
∃ t1 : Bool, lkr Tryd.prog 79 (v2) ((.int .i64 n3)) h2 = some ((.agg (cs1).toArray), t1) ∧
∀ (b6 : Nat) (h4 : Heap), b6 = h2.size → h4 = h2.push (.cells ([(.int .u8 (0 : Int)), (.int .u8 (0 : Int)), (.int .u8 (0 : Int)), (.int .u8 (0 : Int)), (.int .u8 (0 : Int)), (.int .u8 (0 : Int)), (.int .u8 (0 : Int)), (.int .u8 (0 : Int)), (.int .u8 (0 : Int)), (.int .u8 (0 : Int)), (.int .u8 (0 : Int)), (.int .u8 (0 : Int)), (.int .u8 (0 : Int)), (.int .u8 (0 : Int)), (.int .u8 (0 : Int)), (.int .u8 (0 : Int)), (.int .u8 (0 : Int)), (.int .u8 (0 : Int)), (.int .i64 (0 : Int)), (.int .i64 (0 : Int)), (.bool false), (.bool false), (.bool false), (.slice none 0 0)] : List Value).toArray 55) →
(((cs1)).length = 24 ∧ wrs h4 b6 0 24 ∧ ∀ u ∈ ((cs1) : List Value), u.oneCell' = true) ∧ ∀ h5 : Heap, h5 = setr h4 b6 0 (cs1) →
bcase t1 (
∃ cs2 : List Value, row h5 b6 0 24 = some cs2 ∧
(cs2).length = 24 ∧
∀ (b7 : Nat) (h6 : Heap), b7 = h5.size → h6 = h5.push (.cells (((cs2) ++ [])).toArray 55) →
∃ news1 : List Value, (row h6 b7 0 24 = some news1 ∧ ∀ u ∈ news1, u.oneCell' = true) ∧
appK h6 out_1 out_1l out_1c 1 24 55 72 news1 fun (a1 : Option Addr) (cap1 : Nat) (h7 : Heap) =>
onAddr s fun b8 o6 =>
∃ v3 : Value, cell h7 b8 (o6 + 5) = some v3 ∧
onAddr s fun b9 o7 =>
∃ n4 : Int, cell h7 b9 (o7 + 1) = some (.int .i64 n4) ∧
mdelv Tryd.prog 79 (v3) ((.int .i64 n4)) h7 fun h8 =>
onAddr s fun b10 o8 =>
∃ n5 : Int, cell h8 b10 (o8 + 1) = some (.int .i64 n5) ∧
Runs Tryd.prog 63 #[(.int .i64 n5), (.int .i64 (1 : Int))] h8 fun r2 h9 =>
∃ n6 : Int,
r2 = (.int .i64 n6) ∧
onAddr s fun b11 o9 =>
wr h9 b11 (o9 + 1) ∧ ∀ h10 : Heap, h10 = setc h9 b11 (o9 + 1) (.int .i64 n6) →
fits .i64 (x2 + (1 : Int)) ∧
I1 a1 (out_1l + 1) cap1 (x2 + (1 : Int)) h10 ∧ m1 a1 (out_1l + 1) cap1 (x2 + (1 : Int)) h10 < m1 out_1 out_1l out_1c x2 h2) (
onAddr s fun b12 o10 =>
∃ n7 : Int, cell h5 b12 (o10 + 1) = some (.int .i64 n7) ∧
Runs Tryd.prog 63 #[(.int .i64 n7), (.int .i64 (1 : Int))] h5 fun r3 h11 =>
∃ n8 : Int,
r3 = (.int .i64 n8) ∧
onAddr s fun b13 o11 =>
wr h11 b13 (o11 + 1) ∧ ∀ h12 : Heap, h12 = setc h11 b13 (o11 + 1) (.int .i64 n8) →
fits .i64 (x2 + (1 : Int)) ∧
I1 out_1 out_1l out_1c (x2 + (1 : Int)) h12 ∧ m1 out_1 out_1l out_1c (x2 + (1 : Int)) h12 < m1 out_1 out_1l out_1c x2 h2)) ∧
(
∀ (b14 : Nat) (h13 : Heap), b14 = h2.size → h13 = h2.push (.cells ([(.int .u8 (0 : Int)), (.int .u8 (0 : Int)), (.int .u8 (0 : Int)), (.int .u8 (0 : Int)), (.int .u8 (0 : Int)), (.int .u8 (0 : Int)), (.int .u8 (0 : Int)), (.int .u8 (0 : Int)), (.int .u8 (0 : Int)), (.int .u8 (0 : Int)), (.int .u8 (0 : Int)), (.int .u8 (0 : Int)), (.int .u8 (0 : Int)), (.int .u8 (0 : Int)), (.int .u8 (0 : Int)), (.int .u8 (0 : Int)), (.int .u8 (0 : Int)), (.int .u8 (0 : Int)), (.int .i64 (0 : Int)), (.int .i64 (0 : Int)), (.bool false), (.bool false), (.bool false), (.slice none 0 0)] : List Value).toArray 55) →
∃ cs3 : List Value,
∃ t2 : Bool, lkr Tryd.prog 79 (v2) ((.int .i64 n3)) h13 = some ((.agg (cs3).toArray), t2) ∧
(((cs3)).length = 24 ∧ wrs h13 b14 0 24 ∧ ∀ u ∈ ((cs3) : List Value), u.oneCell' = true) ∧ ∀ h14 : Heap, h14 = setr h13 b14 0 (cs3) →
bcase t2 (
∃ cs4 : List Value, row h14 b14 0 24 = some cs4 ∧
(cs4).length = 24 ∧
∀ (b15 : Nat) (h15 : Heap), b15 = h14.size → h15 = h14.push (.cells (((cs4) ++ [])).toArray 55) →
∃ news2 : List Value, (row h15 b15 0 24 = some news2 ∧ ∀ u ∈ news2, u.oneCell' = true) ∧
appK h15 out_1 out_1l out_1c 1 24 55 72 news2 fun (a2 : Option Addr) (cap2 : Nat) (h16 : Heap) =>
onAddr s fun b16 o12 =>
∃ v4 : Value, cell h16 b16 (o12 + 5) = some v4 ∧
onAddr s fun b17 o13 =>
∃ n9 : Int, cell h16 b17 (o13 + 1) = some (.int .i64 n9) ∧
mdelv Tryd.prog 79 (v4) ((.int .i64 n9)) h16 fun h17 =>
onAddr s fun b18 o14 =>
∃ n10 : Int, cell h17 b18 (o14 + 1) = some (.int .i64 n10) ∧
Runs Tryd.prog 63 #[(.int .i64 n10), (.int .i64 (1 : Int))] h17 fun r4 h18 =>
∃ n11 : Int,
r4 = (.int .i64 n11) ∧
onAddr s fun b19 o15 =>
wr h18 b19 (o15 + 1) ∧ ∀ h19 : Heap, h19 = setc h18 b19 (o15 + 1) (.int .i64 n11) →
fits .i64 (x2 + (1 : Int)) ∧
I1 a2 (out_1l + 1) cap2 (x2 + (1 : Int)) h19 ∧ m1 a2 (out_1l + 1) cap2 (x2 + (1 : Int)) h19 < m1 out_1 out_1l out_1c x2 h2) (
onAddr s fun b20 o16 =>
∃ n12 : Int, cell h14 b20 (o16 + 1) = some (.int .i64 n12) ∧
Runs Tryd.prog 63 #[(.int .i64 n12), (.int .i64 (1 : Int))] h14 fun r5 h20 =>
∃ n13 : Int,
r5 = (.int .i64 n13) ∧
onAddr s fun b21 o17 =>
wr h20 b21 (o17 + 1) ∧ ∀ h21 : Heap, h21 = setc h20 b21 (o17 + 1) (.int .i64 n13) →
fits .i64 (x2 + (1 : Int)) ∧
I1 out_1 out_1l out_1c (x2 + (1 : Int)) h21 ∧ m1 out_1 out_1l out_1c (x2 + (1 : Int)) h21 < m1 out_1 out_1l out_1c x2 h2)))) (
onAddr s fun b22 o18 =>
wr h2 b22 (o18 + 1) ∧ ∀ h22 : Heap, h22 = setc h2 b22 (o18 + 1) (.int .i64 to_) →
Post (.slice out_1 out_1l out_1c) h22)) :
    Runs Tryd.prog 62 #[(.pointer s), (.int .i64 to_)] h0 Post :=
  runs_of (args := [(.pointer s), (.int .i64 to_)]) (fun n => ⟨true, false⟩) (fun n => match n with | 0 => [(5, .slice), (14, .int .i64)] | _ => []) (fun _ => none) (fun _ => []) Tryd.func62 rfl (by rw [Tryd.ntmps62]; simp) (Eq.mp (by kernel_rfl) H)

theorem vc_recv_session_run (s : Option Addr) (h0 : Heap) (Post : Value → Heap → Prop) (H :
∃ (I1 : Option Addr → Nat → Nat → Heap → Prop) (m1 : Option Addr → Nat → Nat → Heap → Nat), I1 none 0 0 h0 ∧ ∀ _ : Env,
∀ (out_1 : Option Addr) (out_1l out_1c : Nat) (h1 : Heap), I1 out_1 out_1l out_1c h1 →
onAddr s fun b1 o1 =>
∃ v1 : Value, cell h1 b1 (o1 + 5) = some v1 ∧
onAddr s fun b2 o2 =>
∃ n1 : Int, cell h1 b2 (o2 + 1) = some (.int .i64 n1) ∧
(
∃ cs1 : List Value,
∃ t1 : Bool, lkr Tryd.prog 79 (v1) ((.int .i64 n1)) h1 = some ((.agg (cs1).toArray), t1) ∧
∀ (b3 : Nat) (h2 : Heap), b3 = h1.size → h2 = h1.push (.cells ([(.int .u8 (0 : Int)), (.int .u8 (0 : Int)), (.int .u8 (0 : Int)), (.int .u8 (0 : Int)), (.int .u8 (0 : Int)), (.int .u8 (0 : Int)), (.int .u8 (0 : Int)), (.int .u8 (0 : Int)), (.int .u8 (0 : Int)), (.int .u8 (0 : Int)), (.int .u8 (0 : Int)), (.int .u8 (0 : Int)), (.int .u8 (0 : Int)), (.int .u8 (0 : Int)), (.int .u8 (0 : Int)), (.int .u8 (0 : Int)), (.int .u8 (0 : Int)), (.int .u8 (0 : Int)), (.int .i64 (0 : Int)), (.int .i64 (0 : Int)), (.bool false), (.bool false), (.bool false), (.slice none 0 0)] : List Value).toArray 55) →
(((cs1)).length = 24 ∧ wrs h2 b3 0 24 ∧ ∀ u ∈ ((cs1) : List Value), u.oneCell' = true) ∧ ∀ h3 : Heap, h3 = setr h2 b3 0 (cs1) →
bcase (!t1) (
Post (.slice out_1 out_1l out_1c) h3) (
∃ cs2 : List Value, row h3 b3 0 24 = some cs2 ∧
(cs2).length = 24 ∧
∀ (b4 : Nat) (h4 : Heap), b4 = h3.size → h4 = h3.push (.cells (((cs2) ++ [])).toArray 55) →
∃ news1 : List Value, (row h4 b4 0 24 = some news1 ∧ ∀ u ∈ news1, u.oneCell' = true) ∧
appK h4 out_1 out_1l out_1c 1 24 55 72 news1 fun (a1 : Option Addr) (cap1 : Nat) (h5 : Heap) =>
onAddr s fun b5 o3 =>
∃ v2 : Value, cell h5 b5 (o3 + 5) = some v2 ∧
onAddr s fun b6 o4 =>
∃ n2 : Int, cell h5 b6 (o4 + 1) = some (.int .i64 n2) ∧
mdelv Tryd.prog 79 (v2) ((.int .i64 n2)) h5 fun h6 =>
onAddr s fun b7 o5 =>
∃ n3 : Int, cell h6 b7 (o5 + 1) = some (.int .i64 n3) ∧
Runs Tryd.prog 63 #[(.int .i64 n3), (.int .i64 (1 : Int))] h6 fun r1 h7 =>
∃ n4 : Int,
r1 = (.int .i64 n4) ∧
onAddr s fun b8 o6 =>
wr h7 b8 (o6 + 1) ∧ ∀ h8 : Heap, h8 = setc h7 b8 (o6 + 1) (.int .i64 n4) →
I1 a1 (out_1l + 1) cap1 h8 ∧ m1 a1 (out_1l + 1) cap1 h8 < m1 out_1 out_1l out_1c h1)) ∧
(
∀ (b9 : Nat) (h9 : Heap), b9 = h1.size → h9 = h1.push (.cells ([(.int .u8 (0 : Int)), (.int .u8 (0 : Int)), (.int .u8 (0 : Int)), (.int .u8 (0 : Int)), (.int .u8 (0 : Int)), (.int .u8 (0 : Int)), (.int .u8 (0 : Int)), (.int .u8 (0 : Int)), (.int .u8 (0 : Int)), (.int .u8 (0 : Int)), (.int .u8 (0 : Int)), (.int .u8 (0 : Int)), (.int .u8 (0 : Int)), (.int .u8 (0 : Int)), (.int .u8 (0 : Int)), (.int .u8 (0 : Int)), (.int .u8 (0 : Int)), (.int .u8 (0 : Int)), (.int .i64 (0 : Int)), (.int .i64 (0 : Int)), (.bool false), (.bool false), (.bool false), (.slice none 0 0)] : List Value).toArray 55) →
∃ cs3 : List Value,
∃ t2 : Bool, lkr Tryd.prog 79 (v1) ((.int .i64 n1)) h9 = some ((.agg (cs3).toArray), t2) ∧
(((cs3)).length = 24 ∧ wrs h9 b9 0 24 ∧ ∀ u ∈ ((cs3) : List Value), u.oneCell' = true) ∧ ∀ h10 : Heap, h10 = setr h9 b9 0 (cs3) →
bcase (!t2) (
Post (.slice out_1 out_1l out_1c) h10) (
∃ cs4 : List Value, row h10 b9 0 24 = some cs4 ∧
(cs4).length = 24 ∧
∀ (b10 : Nat) (h11 : Heap), b10 = h10.size → h11 = h10.push (.cells (((cs4) ++ [])).toArray 55) →
∃ news2 : List Value, (row h11 b10 0 24 = some news2 ∧ ∀ u ∈ news2, u.oneCell' = true) ∧
appK h11 out_1 out_1l out_1c 1 24 55 72 news2 fun (a2 : Option Addr) (cap2 : Nat) (h12 : Heap) =>
onAddr s fun b11 o7 =>
∃ v3 : Value, cell h12 b11 (o7 + 5) = some v3 ∧
onAddr s fun b12 o8 =>
∃ n5 : Int, cell h12 b12 (o8 + 1) = some (.int .i64 n5) ∧
mdelv Tryd.prog 79 (v3) ((.int .i64 n5)) h12 fun h13 =>
onAddr s fun b13 o9 =>
∃ n6 : Int, cell h13 b13 (o9 + 1) = some (.int .i64 n6) ∧
Runs Tryd.prog 63 #[(.int .i64 n6), (.int .i64 (1 : Int))] h13 fun r2 h14 =>
∃ n7 : Int,
r2 = (.int .i64 n7) ∧
onAddr s fun b14 o10 =>
wr h14 b14 (o10 + 1) ∧ ∀ h15 : Heap, h15 = setc h14 b14 (o10 + 1) (.int .i64 n7) →
I1 a2 (out_1l + 1) cap2 h15 ∧ m1 a2 (out_1l + 1) cap2 h15 < m1 out_1 out_1l out_1c h1))) :
    Runs Tryd.prog 64 #[(.pointer s)] h0 Post :=
  runs_of (args := [(.pointer s)]) (fun n => ⟨true, false⟩) (fun n => match n with | 0 => [(3, .slice)] | _ => []) (fun _ => none) (fun _ => []) Tryd.func64 rfl (by rw [Tryd.ntmps64]; simp) (Eq.mp (by kernel_rfl) H)

theorem vc_recv_session_all (s : Option Addr) (h0 : Heap) (Post : Value → Heap → Prop) (H :
onAddr s fun b1 o1 =>
∃ v1 : Value, cell h0 b1 (o1 + 5) = some v1 ∧
rngv Tryd.prog 79 (v1) h0 fun b2 h1 =>
∃ (I1 : Option Addr → Nat → Nat → Heap → Prop) (m1 : Option Addr → Nat → Nat → Heap → Nat), I1 none 0 0 h1 ∧ ∀ _ : Env,
∀ (l_1 : Option Addr) (l_1l l_1c : Nat) (h2 : Heap), I1 l_1 l_1l l_1c h2 →
0 = 0 ∧ nxv b2 h2 (
onAddr s fun b3 o2 =>
∃ n1 : Int, cell h2 b3 (o2 + 1) = some (.int .i64 n1) ∧
Runs Tryd.prog 66 #[(.int .i64 n1), (.slice l_1 l_1l l_1c)] h2 fun r1 h4 =>
∃ (s1 : Option Addr) (s1l s1c : Nat),
r1 = (.slice s1 s1l s1c) ∧
∃ (I2 : Option Addr → Nat → Nat → Int → Heap → Prop) (m2 : Option Addr → Nat → Nat → Int → Heap → Nat), I2 none 0 0 (0 : Int) h4 ∧ ∀ _ : Env,
∀ (out_1 : Option Addr) (out_1l out_1c : Nat) (x3 : Int) (h5 : Heap), I2 out_1 out_1l out_1c x3 h5 →
bcase (decide (x3 < ((s1l : Nat) : Int))) (
(0 ≤ x3 ∧ x3 < ((s1l : Nat) : Int)) ∧
onAddr s1 fun b4 o3 =>
∃ n2 : Int, cell h5 b4 (o3 + (x3).toNat) = some (.int .i64 n2) ∧
onAddr s fun b5 o4 =>
∃ v2 : Value, cell h5 b5 (o4 + 5) = some v2 ∧
∃ cs1 : List Value,
∃ t1 : Bool, lkr Tryd.prog 79 (v2) ((.int .i64 n2)) h5 = some ((.agg (cs1).toArray), t1) ∧
(cs1).length = 24 ∧
∀ (b6 : Nat) (h6 : Heap), b6 = h5.size → h6 = h5.push (.cells (((cs1) ++ [])).toArray 55) →
∃ news1 : List Value, (row h6 b6 0 24 = some news1 ∧ ∀ u ∈ news1, u.oneCell' = true) ∧
appK h6 out_1 out_1l out_1c 1 24 55 72 news1 fun (a1 : Option Addr) (cap1 : Nat) (h7 : Heap) =>
fits .i64 (x3 + (1 : Int)) ∧
I2 a1 (out_1l + 1) cap1 (x3 + (1 : Int)) h7 ∧ m2 a1 (out_1l + 1) cap1 (x3 + (1 : Int)) h7 < m2 out_1 out_1l out_1c x3 h5) (
onAddr s fun b7 o5 =>
wr h5 b7 (o5 + 5) ∧ ∀ h8 : Heap, h8 = setc h5 b7 (o5 + 5) (.map none) →
Post (.slice out_1 out_1l out_1c) h8)) fun (e1 : MapEntry) (h3 : Heap) =>
0 = 0 ∧ entv b2 h3 fun v3 v4 =>
partv 1 v3 fun cs2 =>
∀ (b8 : Nat) (h9 : Heap), b8 = h3.size → h9 = h3.push (.cells ((cs2 ++ [])).toArray 3) →
∃ news2 : List Value, (row h9 b8 0 1 = some news2 ∧ ∀ u ∈ news2, u.oneCell' = true) ∧
appK h9 l_1 l_1l l_1c 1 1 3 8 news2 fun (a2 : Option Addr) (cap2 : Nat) (h10 : Heap) =>
I1 a2 (l_1l + 1) cap2 h10 ∧ m1 a2 (l_1l + 1) cap2 h10 < m1 l_1 l_1l l_1c h2) :
    Runs Tryd.prog 41 #[(.pointer s)] h0 Post :=
  runs_of (args := [(.pointer s)]) (fun n => ⟨true, false⟩) (fun n => match n with | 0 => [(3, .slice)] | 2 => [(5, .slice), (28, .int .i64)] | _ => []) (fun _ => none) (fun _ => []) Tryd.func41 rfl (by rw [Tryd.ntmps41]; simp) (Eq.mp (by kernel_rfl) H)

theorem vc_recv_session_move (s : Option Addr) (from_ : Int) (h0 : Heap) (Post : Value → Heap → Prop) (H :
onAddr s fun b1 o1 =>
∃ n1 : Int, cell h0 b1 (o1 + 3) = some (.int .i64 n1) ∧
Runs Tryd.prog 42 #[(.int .i64 n1), (.int .i64 from_)] h0 fun r1 h1 =>
∃ n2 : Int,
r1 = (.int .i64 n2) ∧
onAddr s fun b2 o2 =>
wr h1 b2 (o2 + 3) ∧ ∀ h2 : Heap, h2 = setc h1 b2 (o2 + 3) (.int .i64 from_) →
bcase (decide ((64 : Int) ≤ n2)) (
onAddr s fun b3 o3 =>
wr h2 b3 (o3 + 4) ∧ ∀ h3 : Heap, h3 = setc h2 b3 (o3 + 4) (.int .u64 (0 : Int)) →
Post (.tuple #[]) h3) (
onAddr s fun b4 o4 =>
∃ n3 : Int, cell h2 b4 (o4 + 4) = some (.int .u64 n3) ∧
(0 ≤ n2 ∧ n2 ≤ kbits .u64) ∧
onAddr s fun b5 o5 =>
wr h2 b5 (o5 + 4) ∧ ∀ h4 : Heap, h4 = setc h2 b5 (o5 + 4) (.int .u64 (n3 / (pow2 n2))) →
Post (.tuple #[]) h4)) :
    Runs Tryd.prog 72 #[(.pointer s), (.int .i64 from_)] h0 Post :=
  runs_of (args := [(.pointer s), (.int .i64 from_)]) (fun n => ⟨true, false⟩) (fun _ => []) (fun _ => none) (fun _ => []) Tryd.func72 rfl (by rw [Tryd.ntmps72]; simp) (Eq.mp (by kernel_rfl) H)

theorem vc_recv_session_stand (s : Option Addr) (n : Int) (h0 : Heap) (Post : Value → Heap → Prop) (H :
onAddr s fun b1 o1 =>
∃ n1 : Int, cell h0 b1 (o1 + 3) = some (.int .i64 n1) ∧
Runs Tryd.prog 42 #[(.int .i64 n1), (.int .i64 n)] h0 fun r1 h1 =>
∃ n2 : Int,
r1 = (.int .i64 n2) ∧
bcase (decide ((64 : Int) ≤ n2)) (
bcase (decide (n2 < (2048 : Int))) (
Runs Tryd.prog 63 #[(.int .i64 n), (.int .i64 (-63 : Int))] h1 fun r2 h2 =>
∃ n3 : Int,
r2 = (.int .i64 n3) ∧
Runs Tryd.prog 72 #[(.pointer s), (.int .i64 n3)] h2 fun r3 h3 =>
onAddr s fun b2 o2 =>
∃ n4 : Int, cell h3 b2 (o2 + 3) = some (.int .i64 n4) ∧
Runs Tryd.prog 42 #[(.int .i64 n4), (.int .i64 n)] h3 fun r4 h4 =>
∃ n5 : Int,
r4 = (.int .i64 n5) ∧
bcase (decide (n5 < (64 : Int))) (
onAddr s fun b3 o3 =>
∃ n6 : Int, cell h4 b3 (o3 + 4) = some (.int .u64 n6) ∧
(0 ≤ n5 ∧ n5 ≤ kbits .u64) ∧
fits .u64 ((1 : Int) * (pow2 n5)) ∧
onAddr s fun b4 o4 =>
wr h4 b4 (o4 + 4) ∧ ∀ h5 : Heap, h5 = setc h4 b4 (o4 + 4) (.int .u64 (bits .or .u64 n6 ((1 : Int) * (pow2 n5)))) →
Post (.tuple #[]) h5) (
Post (.tuple #[]) h4)) (
onAddr s fun b5 o5 =>
∃ n7 : Int, cell h1 b5 (o5 + 3) = some (.int .i64 n7) ∧
Runs Tryd.prog 42 #[(.int .i64 n7), (.int .i64 n)] h1 fun r5 h6 =>
∃ n8 : Int,
r5 = (.int .i64 n8) ∧
bcase (decide (n8 < (64 : Int))) (
onAddr s fun b6 o6 =>
∃ n9 : Int, cell h6 b6 (o6 + 4) = some (.int .u64 n9) ∧
(0 ≤ n8 ∧ n8 ≤ kbits .u64) ∧
fits .u64 ((1 : Int) * (pow2 n8)) ∧
onAddr s fun b7 o7 =>
wr h6 b7 (o7 + 4) ∧ ∀ h7 : Heap, h7 = setc h6 b7 (o7 + 4) (.int .u64 (bits .or .u64 n9 ((1 : Int) * (pow2 n8)))) →
Post (.tuple #[]) h7) (
Post (.tuple #[]) h6))) (
onAddr s fun b8 o8 =>
∃ n10 : Int, cell h1 b8 (o8 + 3) = some (.int .i64 n10) ∧
Runs Tryd.prog 42 #[(.int .i64 n10), (.int .i64 n)] h1 fun r6 h8 =>
∃ n11 : Int,
r6 = (.int .i64 n11) ∧
bcase (decide (n11 < (64 : Int))) (
onAddr s fun b9 o9 =>
∃ n12 : Int, cell h8 b9 (o9 + 4) = some (.int .u64 n12) ∧
(0 ≤ n11 ∧ n11 ≤ kbits .u64) ∧
fits .u64 ((1 : Int) * (pow2 n11)) ∧
onAddr s fun b10 o10 =>
wr h8 b10 (o10 + 4) ∧ ∀ h9 : Heap, h9 = setc h8 b10 (o10 + 4) (.int .u64 (bits .or .u64 n12 ((1 : Int) * (pow2 n11)))) →
Post (.tuple #[]) h9) (
Post (.tuple #[]) h8))) :
    Runs Tryd.prog 61 #[(.pointer s), (.int .i64 n)] h0 Post :=
  runs_of (args := [(.pointer s), (.int .i64 n)]) (fun n => ⟨true, false⟩) (fun _ => []) (fun _ => none) (fun _ => []) Tryd.func61 rfl (by rw [Tryd.ntmps61]; simp) (Eq.mp (by kernel_rfl) H)

theorem vc_recv_session_take (s : Option Addr) (f : List Value) (h0 : Heap) (Post : Value → Heap → Prop) (H :
∀ (b1 : Nat) (h1 : Heap), b1 = h0.size → h1 = h0.push (.cells (f).toArray 55) →
onAddr s fun b2 o1 =>
∃ t1 : Bool, cell h1 b2 o1 = some (.bool t1) ∧
bcase (!t1) (
∃ t2 : Bool, cell h1 b1 20 = some (.bool t2) ∧
bcase t2 (
onAddr s fun b3 o2 =>
∃ t3 : Bool, cell h1 b3 (o2 + 6) = some (.bool t3) ∧
bcase t3 (
onAddr s fun b4 o3 =>
∃ n1 : Int, cell h1 b4 (o3 + 7) = some (.int .i64 n1) ∧
∃ n2 : Int, cell h1 b1 19 = some (.int .i64 n2) ∧
∃ n3 : Int, cell h1 b1 19 = some (.int .i64 n3) ∧
onAddr s fun b5 o4 =>
wr h1 b5 (o4 + 6) ∧ ∀ h2 : Heap, h2 = setc h1 b5 (o4 + 6) (.bool true) →
cell h2 b1 19 = some (.int .i64 n3) ∧
onAddr s fun b6 o5 =>
wr h2 b6 (o5 + 7) ∧ ∀ h3 : Heap, h3 = setc h2 b6 (o5 + 7) (.int .i64 n3) →
bcase (decide (n1 = n2)) (
Post (.slice none 0 0) h3) (
∃ cs1 : List Value, row h3 b1 0 24 = some cs1 ∧
(cs1).length = 24 ∧
∀ (b7 : Nat) (h4 : Heap), b7 = h3.size → h4 = h3.push (.cells (((cs1) ++ [])).toArray 55) →
Post (.slice (some ⟨b7, 0, none⟩) 1 1) h4)) (
∃ n4 : Int, cell h1 b1 19 = some (.int .i64 n4) ∧
onAddr s fun b8 o6 =>
wr h1 b8 (o6 + 6) ∧ ∀ h5 : Heap, h5 = setc h1 b8 (o6 + 6) (.bool true) →
cell h5 b1 19 = some (.int .i64 n4) ∧
onAddr s fun b9 o7 =>
wr h5 b9 (o7 + 7) ∧ ∀ h6 : Heap, h6 = setc h5 b9 (o7 + 7) (.int .i64 n4) →
∃ cs2 : List Value, row h6 b1 0 24 = some cs2 ∧
(cs2).length = 24 ∧
∀ (b10 : Nat) (h7 : Heap), b10 = h6.size → h7 = h6.push (.cells (((cs2) ++ [])).toArray 55) →
Post (.slice (some ⟨b10, 0, none⟩) 1 1) h7)) (
∃ n5 : Int, cell h1 b1 19 = some (.int .i64 n5) ∧
onAddr s fun b11 o8 =>
wr h1 b11 (o8 + 6) ∧ ∀ h8 : Heap, h8 = setc h1 b11 (o8 + 6) (.bool true) →
cell h8 b1 19 = some (.int .i64 n5) ∧
onAddr s fun b12 o9 =>
wr h8 b12 (o9 + 7) ∧ ∀ h9 : Heap, h9 = setc h8 b12 (o9 + 7) (.int .i64 n5) →
∃ cs3 : List Value, row h9 b1 0 24 = some cs3 ∧
(cs3).length = 24 ∧
∀ (b13 : Nat) (h10 : Heap), b13 = h9.size → h10 = h9.push (.cells (((cs3) ++ [])).toArray 55) →
Post (.slice (some ⟨b13, 0, none⟩) 1 1) h10)) (
∃ n6 : Int, cell h1 b1 19 = some (.int .i64 n6) ∧
Runs Tryd.prog 61 #[(.pointer s), (.int .i64 n6)] h1 fun r1 h11 =>
onAddr s fun b14 o10 =>
∃ n7 : Int, cell h11 b14 (o10 + 1) = some (.int .i64 n7) ∧
∃ n8 : Int, cell h11 b1 19 = some (.int .i64 n8) ∧
Runs Tryd.prog 42 #[(.int .i64 n7), (.int .i64 n8)] h11 fun r2 h12 =>
∃ n9 : Int,
r2 = (.int .i64 n9) ∧
bcase (decide ((2048 : Int) ≤ n9)) (
Post (.slice none 0 0) h12) (
onAddr s fun b15 o11 =>
∃ n10 : Int, cell h12 b15 (o11 + 2) = some (.int .i64 n10) ∧
bcase (decide (n10 ≤ n9)) (
∃ n11 : Int, cell h12 b1 19 = some (.int .i64 n11) ∧
onAddr s fun b16 o12 =>
∃ n12 : Int, cell h12 b16 (o12 + 2) = some (.int .i64 n12) ∧
fits .i64 ((1 : Int) - n12) ∧
Runs Tryd.prog 63 #[(.int .i64 n11), (.int .i64 ((1 : Int) - n12))] h12 fun r3 h13 =>
∃ n13 : Int,
r3 = (.int .i64 n13) ∧
cell h13 b16 (o12 + 2) = some (.int .i64 n12) ∧
Runs Tryd.prog 62 #[(.pointer s), (.int .i64 n13)] h13 fun r4 h14 =>
∃ (s1 : Option Addr) (s1l s1c : Nat),
r4 = (.slice s1 s1l s1c) ∧
cell h14 b16 (o12 + 2) = some (.int .i64 n12) ∧
onAddr s fun b17 o13 =>
∃ v1 : Value, cell h14 b17 (o13 + 5) = some v1 ∧
∃ n14 : Int, cell h14 b1 19 = some (.int .i64 n14) ∧
(
∃ cs4 : List Value,
∃ t4 : Bool, lkr Tryd.prog 79 (v1) ((.int .i64 n14)) h14 = some ((.agg (cs4).toArray), t4) ∧
∀ (b18 : Nat) (h15 : Heap), b18 = h14.size → h15 = h14.push (.cells ([(.int .u8 (0 : Int)), (.int .u8 (0 : Int)), (.int .u8 (0 : Int)), (.int .u8 (0 : Int)), (.int .u8 (0 : Int)), (.int .u8 (0 : Int)), (.int .u8 (0 : Int)), (.int .u8 (0 : Int)), (.int .u8 (0 : Int)), (.int .u8 (0 : Int)), (.int .u8 (0 : Int)), (.int .u8 (0 : Int)), (.int .u8 (0 : Int)), (.int .u8 (0 : Int)), (.int .u8 (0 : Int)), (.int .u8 (0 : Int)), (.int .u8 (0 : Int)), (.int .u8 (0 : Int)), (.int .i64 (0 : Int)), (.int .i64 (0 : Int)), (.bool false), (.bool false), (.bool false), (.slice none 0 0)] : List Value).toArray 55) →
(((cs4)).length = 24 ∧ wrs h15 b18 0 24 ∧ ∀ u ∈ ((cs4) : List Value), u.oneCell' = true) ∧ ∀ h16 : Heap, h16 = setr h15 b18 0 (cs4) →
bcase (!t4) (
onAddr s fun b19 o14 =>
∃ v2 : Value, cell h16 b19 (o14 + 5) = some v2 ∧
∃ n15 : Int, cell h16 b1 19 = some (.int .i64 n15) ∧
∃ cs5 : List Value, row h16 b1 0 24 = some cs5 ∧
mupv Tryd.prog 79 (v2) ((.int .i64 n15)) ((.agg (cs5).toArray)) h16 fun h17 =>
Runs Tryd.prog 64 #[(.pointer s)] h17 fun r5 h18 =>
∃ (s2 : Option Addr) (s2l s2c : Nat),
r5 = (.slice s2 s2l s2c) ∧
∃ news1 : List Value, (src h18 s2 (s2l * 24) news1 ∧ ∀ u ∈ news1, u.oneCell' = true) ∧
appK h18 s1 s1l s1c s2l 24 55 72 news1 fun (a1 : Option Addr) (cap1 : Nat) (h19 : Heap) =>
Post (.slice a1 (s1l + s2l) cap1) h19) (
Runs Tryd.prog 64 #[(.pointer s)] h16 fun r6 h20 =>
∃ (s3 : Option Addr) (s3l s3c : Nat),
r6 = (.slice s3 s3l s3c) ∧
∃ news2 : List Value, (src h20 s3 (s3l * 24) news2 ∧ ∀ u ∈ news2, u.oneCell' = true) ∧
appK h20 s1 s1l s1c s3l 24 55 72 news2 fun (a2 : Option Addr) (cap2 : Nat) (h21 : Heap) =>
Post (.slice a2 (s1l + s3l) cap2) h21)) ∧
(
∀ (b20 : Nat) (h22 : Heap), b20 = h14.size → h22 = h14.push (.cells ([(.int .u8 (0 : Int)), (.int .u8 (0 : Int)), (.int .u8 (0 : Int)), (.int .u8 (0 : Int)), (.int .u8 (0 : Int)), (.int .u8 (0 : Int)), (.int .u8 (0 : Int)), (.int .u8 (0 : Int)), (.int .u8 (0 : Int)), (.int .u8 (0 : Int)), (.int .u8 (0 : Int)), (.int .u8 (0 : Int)), (.int .u8 (0 : Int)), (.int .u8 (0 : Int)), (.int .u8 (0 : Int)), (.int .u8 (0 : Int)), (.int .u8 (0 : Int)), (.int .u8 (0 : Int)), (.int .i64 (0 : Int)), (.int .i64 (0 : Int)), (.bool false), (.bool false), (.bool false), (.slice none 0 0)] : List Value).toArray 55) →
∃ cs6 : List Value,
∃ t5 : Bool, lkr Tryd.prog 79 (v1) ((.int .i64 n14)) h22 = some ((.agg (cs6).toArray), t5) ∧
(((cs6)).length = 24 ∧ wrs h22 b20 0 24 ∧ ∀ u ∈ ((cs6) : List Value), u.oneCell' = true) ∧ ∀ h23 : Heap, h23 = setr h22 b20 0 (cs6) →
bcase (!t5) (
onAddr s fun b21 o15 =>
∃ v3 : Value, cell h23 b21 (o15 + 5) = some v3 ∧
∃ n16 : Int, cell h23 b1 19 = some (.int .i64 n16) ∧
∃ cs7 : List Value, row h23 b1 0 24 = some cs7 ∧
mupv Tryd.prog 79 (v3) ((.int .i64 n16)) ((.agg (cs7).toArray)) h23 fun h24 =>
Runs Tryd.prog 64 #[(.pointer s)] h24 fun r7 h25 =>
∃ (s4 : Option Addr) (s4l s4c : Nat),
r7 = (.slice s4 s4l s4c) ∧
∃ news3 : List Value, (src h25 s4 (s4l * 24) news3 ∧ ∀ u ∈ news3, u.oneCell' = true) ∧
appK h25 s1 s1l s1c s4l 24 55 72 news3 fun (a3 : Option Addr) (cap3 : Nat) (h26 : Heap) =>
Post (.slice a3 (s1l + s4l) cap3) h26) (
Runs Tryd.prog 64 #[(.pointer s)] h23 fun r8 h27 =>
∃ (s5 : Option Addr) (s5l s5c : Nat),
r8 = (.slice s5 s5l s5c) ∧
∃ news4 : List Value, (src h27 s5 (s5l * 24) news4 ∧ ∀ u ∈ news4, u.oneCell' = true) ∧
appK h27 s1 s1l s1c s5l 24 55 72 news4 fun (a4 : Option Addr) (cap4 : Nat) (h28 : Heap) =>
Post (.slice a4 (s1l + s5l) cap4) h28))) (
onAddr s fun b22 o16 =>
∃ v4 : Value, cell h12 b22 (o16 + 5) = some v4 ∧
∃ n17 : Int, cell h12 b1 19 = some (.int .i64 n17) ∧
(
∃ cs8 : List Value,
∃ t6 : Bool, lkr Tryd.prog 79 (v4) ((.int .i64 n17)) h12 = some ((.agg (cs8).toArray), t6) ∧
∀ (b23 : Nat) (h29 : Heap), b23 = h12.size → h29 = h12.push (.cells ([(.int .u8 (0 : Int)), (.int .u8 (0 : Int)), (.int .u8 (0 : Int)), (.int .u8 (0 : Int)), (.int .u8 (0 : Int)), (.int .u8 (0 : Int)), (.int .u8 (0 : Int)), (.int .u8 (0 : Int)), (.int .u8 (0 : Int)), (.int .u8 (0 : Int)), (.int .u8 (0 : Int)), (.int .u8 (0 : Int)), (.int .u8 (0 : Int)), (.int .u8 (0 : Int)), (.int .u8 (0 : Int)), (.int .u8 (0 : Int)), (.int .u8 (0 : Int)), (.int .u8 (0 : Int)), (.int .i64 (0 : Int)), (.int .i64 (0 : Int)), (.bool false), (.bool false), (.bool false), (.slice none 0 0)] : List Value).toArray 55) →
(((cs8)).length = 24 ∧ wrs h29 b23 0 24 ∧ ∀ u ∈ ((cs8) : List Value), u.oneCell' = true) ∧ ∀ h30 : Heap, h30 = setr h29 b23 0 (cs8) →
bcase (!t6) (
onAddr s fun b24 o17 =>
∃ v5 : Value, cell h30 b24 (o17 + 5) = some v5 ∧
∃ n18 : Int, cell h30 b1 19 = some (.int .i64 n18) ∧
∃ cs9 : List Value, row h30 b1 0 24 = some cs9 ∧
mupv Tryd.prog 79 (v5) ((.int .i64 n18)) ((.agg (cs9).toArray)) h30 fun h31 =>
Runs Tryd.prog 64 #[(.pointer s)] h31 fun r9 h32 =>
∃ (s6 : Option Addr) (s6l s6c : Nat),
r9 = (.slice s6 s6l s6c) ∧
∃ news5 : List Value, (src h32 s6 (s6l * 24) news5 ∧ ∀ u ∈ news5, u.oneCell' = true) ∧
appK h32 none 0 0 s6l 24 55 72 news5 fun (a5 : Option Addr) (cap5 : Nat) (h33 : Heap) =>
Post (.slice a5 (0 + s6l) cap5) h33) (
Runs Tryd.prog 64 #[(.pointer s)] h30 fun r10 h34 =>
∃ (s7 : Option Addr) (s7l s7c : Nat),
r10 = (.slice s7 s7l s7c) ∧
∃ news6 : List Value, (src h34 s7 (s7l * 24) news6 ∧ ∀ u ∈ news6, u.oneCell' = true) ∧
appK h34 none 0 0 s7l 24 55 72 news6 fun (a6 : Option Addr) (cap6 : Nat) (h35 : Heap) =>
Post (.slice a6 (0 + s7l) cap6) h35)) ∧
(
∀ (b25 : Nat) (h36 : Heap), b25 = h12.size → h36 = h12.push (.cells ([(.int .u8 (0 : Int)), (.int .u8 (0 : Int)), (.int .u8 (0 : Int)), (.int .u8 (0 : Int)), (.int .u8 (0 : Int)), (.int .u8 (0 : Int)), (.int .u8 (0 : Int)), (.int .u8 (0 : Int)), (.int .u8 (0 : Int)), (.int .u8 (0 : Int)), (.int .u8 (0 : Int)), (.int .u8 (0 : Int)), (.int .u8 (0 : Int)), (.int .u8 (0 : Int)), (.int .u8 (0 : Int)), (.int .u8 (0 : Int)), (.int .u8 (0 : Int)), (.int .u8 (0 : Int)), (.int .i64 (0 : Int)), (.int .i64 (0 : Int)), (.bool false), (.bool false), (.bool false), (.slice none 0 0)] : List Value).toArray 55) →
∃ cs10 : List Value,
∃ t7 : Bool, lkr Tryd.prog 79 (v4) ((.int .i64 n17)) h36 = some ((.agg (cs10).toArray), t7) ∧
(((cs10)).length = 24 ∧ wrs h36 b25 0 24 ∧ ∀ u ∈ ((cs10) : List Value), u.oneCell' = true) ∧ ∀ h37 : Heap, h37 = setr h36 b25 0 (cs10) →
bcase (!t7) (
onAddr s fun b26 o18 =>
∃ v6 : Value, cell h37 b26 (o18 + 5) = some v6 ∧
∃ n19 : Int, cell h37 b1 19 = some (.int .i64 n19) ∧
∃ cs11 : List Value, row h37 b1 0 24 = some cs11 ∧
mupv Tryd.prog 79 (v6) ((.int .i64 n19)) ((.agg (cs11).toArray)) h37 fun h38 =>
Runs Tryd.prog 64 #[(.pointer s)] h38 fun r11 h39 =>
∃ (s8 : Option Addr) (s8l s8c : Nat),
r11 = (.slice s8 s8l s8c) ∧
∃ news7 : List Value, (src h39 s8 (s8l * 24) news7 ∧ ∀ u ∈ news7, u.oneCell' = true) ∧
appK h39 none 0 0 s8l 24 55 72 news7 fun (a7 : Option Addr) (cap7 : Nat) (h40 : Heap) =>
Post (.slice a7 (0 + s8l) cap7) h40) (
Runs Tryd.prog 64 #[(.pointer s)] h37 fun r12 h41 =>
∃ (s9 : Option Addr) (s9l s9c : Nat),
r12 = (.slice s9 s9l s9c) ∧
∃ news8 : List Value, (src h41 s9 (s9l * 24) news8 ∧ ∀ u ∈ news8, u.oneCell' = true) ∧
appK h41 none 0 0 s9l 24 55 72 news8 fun (a8 : Option Addr) (cap8 : Nat) (h42 : Heap) =>
Post (.slice a8 (0 + s9l) cap8) h42)))))) :
    Runs Tryd.prog 34 #[(.pointer s), (.agg (f).toArray)] h0 Post :=
  runs_of (args := [(.pointer s), (.agg (f).toArray)]) (fun n => ⟨true, false⟩) (fun _ => []) (fun _ => none) (fun _ => []) Tryd.func34 rfl (by rw [Tryd.ntmps34]; simp) (Eq.mp (by kernel_rfl) H)

theorem vc_seq_Sort (start : Int) (l : Option Addr) (lL lC : Nat) (h0 : Heap) (Post : Value → Heap → Prop) (H :
∀ (b1 : Nat) (h1 : Heap), b1 = h0.size → h1 = h0.push (.cells ([(.int .i64 start)] : List Value).toArray 3) →
∃ (I1 : Option Addr → Nat → Nat → Int → Heap → Prop) (m1 : Option Addr → Nat → Nat → Int → Heap → Nat), I1 none 0 0 (0 : Int) h1 ∧ ∀ _ : Env,
∀ (out_1 : Option Addr) (out_1l out_1c : Nat) (x2 : Int) (h2 : Heap), I1 out_1 out_1l out_1c x2 h2 →
bcase (decide (x2 < ((lL : Nat) : Int))) (
(0 ≤ x2 ∧ x2 < ((lL : Nat) : Int)) ∧
onAddr l fun b2 o1 =>
∃ n1 : Int, cell h2 b2 (o1 + (x2).toNat) = some (.int .i64 n1) ∧
Runs Tryd.prog 67 #[(.int .i64 n1)] h2 fun r1 h3 =>
∃ n2 : Int,
r1 = (.int .i64 n2) ∧
∀ (b3 : Nat) (h4 : Heap), b3 = h3.size → h4 = h3.push (.cells ([(.int .i64 n2)] : List Value).toArray 3) →
∃ news1 : List Value, (row h4 b3 0 1 = some news1 ∧ ∀ u ∈ news1, u.oneCell' = true) ∧
appK h4 out_1 out_1l out_1c 1 1 3 8 news1 fun (a1 : Option Addr) (cap1 : Nat) (h5 : Heap) =>
fits .i64 (x2 + (1 : Int)) ∧
I1 a1 (out_1l + 1) cap1 (x2 + (1 : Int)) h5 ∧ m1 a1 (out_1l + 1) cap1 (x2 + (1 : Int)) h5 < m1 out_1 out_1l out_1c x2 h2) (
Runs Tryd.prog 81 #[(.slice out_1 out_1l out_1c), (.func (.func 82) #[] #[(.pointer (some ⟨b1, 0, none⟩))])] h2 fun r2 h6 =>
Post (.slice out_1 out_1l out_1c) h6)) :
    Runs Tryd.prog 66 #[(.int .i64 start), (.slice l lL lC)] h0 Post :=
  runs_of (args := [(.int .i64 start), (.slice l lL lC)]) (fun n => ⟨true, false⟩) (fun n => match n with | 0 => [(5, .slice), (10, .int .i64)] | _ => []) (fun _ => none) (fun _ => []) Tryd.func66 rfl (by rw [Tryd.ntmps66]; simp) (Eq.mp (by kernel_rfl) H)

theorem vc_slices_SortFunc_int (x : Option Addr) (xL xC : Nat) (cmp : Value) (h0 : Heap) (Post : Value → Heap → Prop) (H :
Runs Tryd.prog 91 #[(.int .u64 (IntKind.u64.wrap ((xL : Nat) : Int)))] h0 fun r1 h1 =>
∃ n1 : Int,
r1 = (.int .i64 n1) ∧
Runs Tryd.prog 90 #[(.slice x xL xC), (.int .i64 (0 : Int)), (.int .i64 ((xL : Nat) : Int)), (.int .i64 n1), cmp] h1 fun r2 h2 =>
Post (.tuple #[]) h2) :
    Runs Tryd.prog 81 #[(.slice x xL xC), cmp] h0 Post :=
  runs_of (args := [(.slice x xL xC), cmp]) (fun n => ⟨false, false⟩) (fun _ => []) (fun _ => none) (fun _ => []) Tryd.func81 rfl (by rw [Tryd.ntmps81]; simp) (Eq.mp (by kernel_rfl) H)

theorem vc_slices_pdqsortCmpFunc_int (data : Option Addr) (dataL dataC : Nat) (a : Int) (b : Int) (limit : Int) (cmp : Value) (h0 : Heap) (Post : Value → Heap → Prop) (H :
∃ (I1 : Int → Int → Int → Bool → Bool → Heap → Prop) (m1 : Int → Int → Int → Bool → Bool → Heap → Nat), I1 a b limit true true h0 ∧ ∀ _ : Env,
∀ (a_1 : Int) (b_1 : Int) (limit_1 : Int) (wasBalanced_1 : Bool) (wasPartitioned_1 : Bool) (h1 : Heap), I1 a_1 b_1 limit_1 wasBalanced_1 wasPartitioned_1 h1 →
bcase (decide ((IntKind.i64.wrap (b_1 - a_1)) ≤ (12 : Int))) (
Runs Tryd.prog 94 #[(.slice data dataL dataC), (.int .i64 a_1), (.int .i64 b_1), cmp] h1 fun r1 h2 =>
Post (.tuple #[]) h2) (
bcase (decide (limit_1 = (0 : Int))) (
Runs Tryd.prog 95 #[(.slice data dataL dataC), (.int .i64 a_1), (.int .i64 b_1), cmp] h1 fun r2 h3 =>
Post (.tuple #[]) h3) (
bcase (!wasBalanced_1) (
Runs Tryd.prog 96 #[(.slice data dataL dataC), (.int .i64 a_1), (.int .i64 b_1), cmp] h1 fun r3 h4 =>
Runs Tryd.prog 97 #[(.slice data dataL dataC), (.int .i64 a_1), (.int .i64 b_1), cmp] h4 fun r4 h5 =>
∃ n1 : Int,
∃ n2 : Int,
r4 = (.tuple #[(.int .i64 n1), (.int .i64 n2)]) ∧
bcase (decide (n2 = (2 : Int))) (
Runs Tryd.prog 98 #[(.slice data dataL dataC), (.int .i64 a_1), (.int .i64 b_1), cmp] h5 fun r5 h6 =>
bcase wasBalanced_1 (
bcase wasPartitioned_1 (
bcase (decide ((1 : Int) = (1 : Int))) (
Runs Tryd.prog 99 #[(.slice data dataL dataC), (.int .i64 a_1), (.int .i64 b_1), cmp] h6 fun r6 h7 =>
∃ t1 : Bool,
r6 = (.bool t1) ∧
bcase t1 (
Post (.tuple #[]) h7) (
bcase (decide ((0 : Int) < a_1)) (
(0 ≤ (IntKind.i64.wrap (a_1 - (1 : Int))) ∧ (IntKind.i64.wrap (a_1 - (1 : Int))) < ((dataL : Nat) : Int)) ∧
onAddr data fun b1 o1 =>
∃ n3 : Int, cell h7 b1 (o1 + ((IntKind.i64.wrap (a_1 - (1 : Int)))).toNat) = some (.int .i64 n3) ∧
(0 ≤ (IntKind.i64.wrap ((IntKind.i64.wrap (b_1 - (1 : Int))) - (IntKind.i64.wrap (n1 - a_1)))) ∧ (IntKind.i64.wrap ((IntKind.i64.wrap (b_1 - (1 : Int))) - (IntKind.i64.wrap (n1 - a_1)))) < ((dataL : Nat) : Int)) ∧
onAddr data fun b2 o2 =>
∃ n4 : Int, cell h7 b2 (o2 + ((IntKind.i64.wrap ((IntKind.i64.wrap (b_1 - (1 : Int))) - (IntKind.i64.wrap (n1 - a_1))))).toNat) = some (.int .i64 n4) ∧
callv Tryd.prog cmp [(.int .i64 n3), (.int .i64 n4)] h7 fun r7 h8 =>
∃ n5 : Int,
r7 = (.int .i64 n5) ∧
bcase (!(decide (n5 < (0 : Int)))) (
Runs Tryd.prog 100 #[(.slice data dataL dataC), (.int .i64 a_1), (.int .i64 b_1), (.int .i64 (IntKind.i64.wrap ((IntKind.i64.wrap (b_1 - (1 : Int))) - (IntKind.i64.wrap (n1 - a_1))))), cmp] h8 fun r8 h9 =>
∃ n6 : Int,
r8 = (.int .i64 n6) ∧
I1 n6 b_1 (IntKind.i64.wrap (limit_1 - (1 : Int))) wasBalanced_1 wasPartitioned_1 h9 ∧ m1 n6 b_1 (IntKind.i64.wrap (limit_1 - (1 : Int))) wasBalanced_1 wasPartitioned_1 h9 < m1 a_1 b_1 limit_1 wasBalanced_1 wasPartitioned_1 h1) (
Runs Tryd.prog 101 #[(.slice data dataL dataC), (.int .i64 a_1), (.int .i64 b_1), (.int .i64 (IntKind.i64.wrap ((IntKind.i64.wrap (b_1 - (1 : Int))) - (IntKind.i64.wrap (n1 - a_1))))), cmp] h8 fun r9 h10 =>
∃ n7 : Int,
∃ t2 : Bool,
r9 = (.tuple #[(.int .i64 n7), (.bool t2)]) ∧
(8 : Int) ≠ 0 ∧
bcase (decide ((IntKind.i64.wrap (n7 - a_1)) < (IntKind.i64.wrap (b_1 - n7)))) (
Runs Tryd.prog 90 #[(.slice data dataL dataC), (.int .i64 a_1), (.int .i64 n7), (.int .i64 (IntKind.i64.wrap (limit_1 - (1 : Int)))), cmp] h10 fun r10 h11 =>
I1 (IntKind.i64.wrap (n7 + (1 : Int))) b_1 (IntKind.i64.wrap (limit_1 - (1 : Int))) (decide ((IntKind.i64.wrap (((IntKind.i64.wrap (b_1 - a_1))).tdiv (8 : Int))) ≤ (IntKind.i64.wrap (n7 - a_1)))) t2 h11 ∧ m1 (IntKind.i64.wrap (n7 + (1 : Int))) b_1 (IntKind.i64.wrap (limit_1 - (1 : Int))) (decide ((IntKind.i64.wrap (((IntKind.i64.wrap (b_1 - a_1))).tdiv (8 : Int))) ≤ (IntKind.i64.wrap (n7 - a_1)))) t2 h11 < m1 a_1 b_1 limit_1 wasBalanced_1 wasPartitioned_1 h1) (
Runs Tryd.prog 90 #[(.slice data dataL dataC), (.int .i64 (IntKind.i64.wrap (n7 + (1 : Int)))), (.int .i64 b_1), (.int .i64 (IntKind.i64.wrap (limit_1 - (1 : Int)))), cmp] h10 fun r11 h12 =>
I1 a_1 n7 (IntKind.i64.wrap (limit_1 - (1 : Int))) (decide ((IntKind.i64.wrap (((IntKind.i64.wrap (b_1 - a_1))).tdiv (8 : Int))) ≤ (IntKind.i64.wrap (b_1 - n7)))) t2 h12 ∧ m1 a_1 n7 (IntKind.i64.wrap (limit_1 - (1 : Int))) (decide ((IntKind.i64.wrap (((IntKind.i64.wrap (b_1 - a_1))).tdiv (8 : Int))) ≤ (IntKind.i64.wrap (b_1 - n7)))) t2 h12 < m1 a_1 b_1 limit_1 wasBalanced_1 wasPartitioned_1 h1))) (
Runs Tryd.prog 101 #[(.slice data dataL dataC), (.int .i64 a_1), (.int .i64 b_1), (.int .i64 (IntKind.i64.wrap ((IntKind.i64.wrap (b_1 - (1 : Int))) - (IntKind.i64.wrap (n1 - a_1))))), cmp] h7 fun r12 h13 =>
∃ n8 : Int,
∃ t3 : Bool,
r12 = (.tuple #[(.int .i64 n8), (.bool t3)]) ∧
(8 : Int) ≠ 0 ∧
bcase (decide ((IntKind.i64.wrap (n8 - a_1)) < (IntKind.i64.wrap (b_1 - n8)))) (
Runs Tryd.prog 90 #[(.slice data dataL dataC), (.int .i64 a_1), (.int .i64 n8), (.int .i64 (IntKind.i64.wrap (limit_1 - (1 : Int)))), cmp] h13 fun r13 h14 =>
I1 (IntKind.i64.wrap (n8 + (1 : Int))) b_1 (IntKind.i64.wrap (limit_1 - (1 : Int))) (decide ((IntKind.i64.wrap (((IntKind.i64.wrap (b_1 - a_1))).tdiv (8 : Int))) ≤ (IntKind.i64.wrap (n8 - a_1)))) t3 h14 ∧ m1 (IntKind.i64.wrap (n8 + (1 : Int))) b_1 (IntKind.i64.wrap (limit_1 - (1 : Int))) (decide ((IntKind.i64.wrap (((IntKind.i64.wrap (b_1 - a_1))).tdiv (8 : Int))) ≤ (IntKind.i64.wrap (n8 - a_1)))) t3 h14 < m1 a_1 b_1 limit_1 wasBalanced_1 wasPartitioned_1 h1) (
Runs Tryd.prog 90 #[(.slice data dataL dataC), (.int .i64 (IntKind.i64.wrap (n8 + (1 : Int)))), (.int .i64 b_1), (.int .i64 (IntKind.i64.wrap (limit_1 - (1 : Int)))), cmp] h13 fun r14 h15 =>
I1 a_1 n8 (IntKind.i64.wrap (limit_1 - (1 : Int))) (decide ((IntKind.i64.wrap (((IntKind.i64.wrap (b_1 - a_1))).tdiv (8 : Int))) ≤ (IntKind.i64.wrap (b_1 - n8)))) t3 h15 ∧ m1 a_1 n8 (IntKind.i64.wrap (limit_1 - (1 : Int))) (decide ((IntKind.i64.wrap (((IntKind.i64.wrap (b_1 - a_1))).tdiv (8 : Int))) ≤ (IntKind.i64.wrap (b_1 - n8)))) t3 h15 < m1 a_1 b_1 limit_1 wasBalanced_1 wasPartitioned_1 h1)))) (
bcase (decide ((0 : Int) < a_1)) (
(0 ≤ (IntKind.i64.wrap (a_1 - (1 : Int))) ∧ (IntKind.i64.wrap (a_1 - (1 : Int))) < ((dataL : Nat) : Int)) ∧
onAddr data fun b3 o3 =>
∃ n9 : Int, cell h6 b3 (o3 + ((IntKind.i64.wrap (a_1 - (1 : Int)))).toNat) = some (.int .i64 n9) ∧
(0 ≤ (IntKind.i64.wrap ((IntKind.i64.wrap (b_1 - (1 : Int))) - (IntKind.i64.wrap (n1 - a_1)))) ∧ (IntKind.i64.wrap ((IntKind.i64.wrap (b_1 - (1 : Int))) - (IntKind.i64.wrap (n1 - a_1)))) < ((dataL : Nat) : Int)) ∧
onAddr data fun b4 o4 =>
∃ n10 : Int, cell h6 b4 (o4 + ((IntKind.i64.wrap ((IntKind.i64.wrap (b_1 - (1 : Int))) - (IntKind.i64.wrap (n1 - a_1))))).toNat) = some (.int .i64 n10) ∧
callv Tryd.prog cmp [(.int .i64 n9), (.int .i64 n10)] h6 fun r15 h16 =>
∃ n11 : Int,
r15 = (.int .i64 n11) ∧
bcase (!(decide (n11 < (0 : Int)))) (
Runs Tryd.prog 100 #[(.slice data dataL dataC), (.int .i64 a_1), (.int .i64 b_1), (.int .i64 (IntKind.i64.wrap ((IntKind.i64.wrap (b_1 - (1 : Int))) - (IntKind.i64.wrap (n1 - a_1))))), cmp] h16 fun r16 h17 =>
∃ n12 : Int,
r16 = (.int .i64 n12) ∧
I1 n12 b_1 (IntKind.i64.wrap (limit_1 - (1 : Int))) wasBalanced_1 wasPartitioned_1 h17 ∧ m1 n12 b_1 (IntKind.i64.wrap (limit_1 - (1 : Int))) wasBalanced_1 wasPartitioned_1 h17 < m1 a_1 b_1 limit_1 wasBalanced_1 wasPartitioned_1 h1) (
Runs Tryd.prog 101 #[(.slice data dataL dataC), (.int .i64 a_1), (.int .i64 b_1), (.int .i64 (IntKind.i64.wrap ((IntKind.i64.wrap (b_1 - (1 : Int))) - (IntKind.i64.wrap (n1 - a_1))))), cmp] h16 fun r17 h18 =>
∃ n13 : Int,
∃ t4 : Bool,
r17 = (.tuple #[(.int .i64 n13), (.bool t4)]) ∧
(8 : Int) ≠ 0 ∧
bcase (decide ((IntKind.i64.wrap (n13 - a_1)) < (IntKind.i64.wrap (b_1 - n13)))) (
Runs Tryd.prog 90 #[(.slice data dataL dataC), (.int .i64 a_1), (.int .i64 n13), (.int .i64 (IntKind.i64.wrap (limit_1 - (1 : Int)))), cmp] h18 fun r18 h19 =>
I1 (IntKind.i64.wrap (n13 + (1 : Int))) b_1 (IntKind.i64.wrap (limit_1 - (1 : Int))) (decide ((IntKind.i64.wrap (((IntKind.i64.wrap (b_1 - a_1))).tdiv (8 : Int))) ≤ (IntKind.i64.wrap (n13 - a_1)))) t4 h19 ∧ m1 (IntKind.i64.wrap (n13 + (1 : Int))) b_1 (IntKind.i64.wrap (limit_1 - (1 : Int))) (decide ((IntKind.i64.wrap (((IntKind.i64.wrap (b_1 - a_1))).tdiv (8 : Int))) ≤ (IntKind.i64.wrap (n13 - a_1)))) t4 h19 < m1 a_1 b_1 limit_1 wasBalanced_1 wasPartitioned_1 h1) (
Runs Tryd.prog 90 #[(.slice data dataL dataC), (.int .i64 (IntKind.i64.wrap (n13 + (1 : Int)))), (.int .i64 b_1), (.int .i64 (IntKind.i64.wrap (limit_1 - (1 : Int)))), cmp] h18 fun r19 h20 =>
I1 a_1 n13 (IntKind.i64.wrap (limit_1 - (1 : Int))) (decide ((IntKind.i64.wrap (((IntKind.i64.wrap (b_1 - a_1))).tdiv (8 : Int))) ≤ (IntKind.i64.wrap (b_1 - n13)))) t4 h20 ∧ m1 a_1 n13 (IntKind.i64.wrap (limit_1 - (1 : Int))) (decide ((IntKind.i64.wrap (((IntKind.i64.wrap (b_1 - a_1))).tdiv (8 : Int))) ≤ (IntKind.i64.wrap (b_1 - n13)))) t4 h20 < m1 a_1 b_1 limit_1 wasBalanced_1 wasPartitioned_1 h1))) (
Runs Tryd.prog 101 #[(.slice data dataL dataC), (.int .i64 a_1), (.int .i64 b_1), (.int .i64 (IntKind.i64.wrap ((IntKind.i64.wrap (b_1 - (1 : Int))) - (IntKind.i64.wrap (n1 - a_1))))), cmp] h6 fun r20 h21 =>
∃ n14 : Int,
∃ t5 : Bool,
r20 = (.tuple #[(.int .i64 n14), (.bool t5)]) ∧
(8 : Int) ≠ 0 ∧
bcase (decide ((IntKind.i64.wrap (n14 - a_1)) < (IntKind.i64.wrap (b_1 - n14)))) (
Runs Tryd.prog 90 #[(.slice data dataL dataC), (.int .i64 a_1), (.int .i64 n14), (.int .i64 (IntKind.i64.wrap (limit_1 - (1 : Int)))), cmp] h21 fun r21 h22 =>
I1 (IntKind.i64.wrap (n14 + (1 : Int))) b_1 (IntKind.i64.wrap (limit_1 - (1 : Int))) (decide ((IntKind.i64.wrap (((IntKind.i64.wrap (b_1 - a_1))).tdiv (8 : Int))) ≤ (IntKind.i64.wrap (n14 - a_1)))) t5 h22 ∧ m1 (IntKind.i64.wrap (n14 + (1 : Int))) b_1 (IntKind.i64.wrap (limit_1 - (1 : Int))) (decide ((IntKind.i64.wrap (((IntKind.i64.wrap (b_1 - a_1))).tdiv (8 : Int))) ≤ (IntKind.i64.wrap (n14 - a_1)))) t5 h22 < m1 a_1 b_1 limit_1 wasBalanced_1 wasPartitioned_1 h1) (
Runs Tryd.prog 90 #[(.slice data dataL dataC), (.int .i64 (IntKind.i64.wrap (n14 + (1 : Int)))), (.int .i64 b_1), (.int .i64 (IntKind.i64.wrap (limit_1 - (1 : Int)))), cmp] h21 fun r22 h23 =>
I1 a_1 n14 (IntKind.i64.wrap (limit_1 - (1 : Int))) (decide ((IntKind.i64.wrap (((IntKind.i64.wrap (b_1 - a_1))).tdiv (8 : Int))) ≤ (IntKind.i64.wrap (b_1 - n14)))) t5 h23 ∧ m1 a_1 n14 (IntKind.i64.wrap (limit_1 - (1 : Int))) (decide ((IntKind.i64.wrap (((IntKind.i64.wrap (b_1 - a_1))).tdiv (8 : Int))) ≤ (IntKind.i64.wrap (b_1 - n14)))) t5 h23 < m1 a_1 b_1 limit_1 wasBalanced_1 wasPartitioned_1 h1)))) (
bcase (decide ((0 : Int) < a_1)) (
(0 ≤ (IntKind.i64.wrap (a_1 - (1 : Int))) ∧ (IntKind.i64.wrap (a_1 - (1 : Int))) < ((dataL : Nat) : Int)) ∧
onAddr data fun b5 o5 =>
∃ n15 : Int, cell h6 b5 (o5 + ((IntKind.i64.wrap (a_1 - (1 : Int)))).toNat) = some (.int .i64 n15) ∧
(0 ≤ (IntKind.i64.wrap ((IntKind.i64.wrap (b_1 - (1 : Int))) - (IntKind.i64.wrap (n1 - a_1)))) ∧ (IntKind.i64.wrap ((IntKind.i64.wrap (b_1 - (1 : Int))) - (IntKind.i64.wrap (n1 - a_1)))) < ((dataL : Nat) : Int)) ∧
onAddr data fun b6 o6 =>
∃ n16 : Int, cell h6 b6 (o6 + ((IntKind.i64.wrap ((IntKind.i64.wrap (b_1 - (1 : Int))) - (IntKind.i64.wrap (n1 - a_1))))).toNat) = some (.int .i64 n16) ∧
callv Tryd.prog cmp [(.int .i64 n15), (.int .i64 n16)] h6 fun r23 h24 =>
∃ n17 : Int,
r23 = (.int .i64 n17) ∧
bcase (!(decide (n17 < (0 : Int)))) (
Runs Tryd.prog 100 #[(.slice data dataL dataC), (.int .i64 a_1), (.int .i64 b_1), (.int .i64 (IntKind.i64.wrap ((IntKind.i64.wrap (b_1 - (1 : Int))) - (IntKind.i64.wrap (n1 - a_1))))), cmp] h24 fun r24 h25 =>
∃ n18 : Int,
r24 = (.int .i64 n18) ∧
I1 n18 b_1 (IntKind.i64.wrap (limit_1 - (1 : Int))) wasBalanced_1 wasPartitioned_1 h25 ∧ m1 n18 b_1 (IntKind.i64.wrap (limit_1 - (1 : Int))) wasBalanced_1 wasPartitioned_1 h25 < m1 a_1 b_1 limit_1 wasBalanced_1 wasPartitioned_1 h1) (
Runs Tryd.prog 101 #[(.slice data dataL dataC), (.int .i64 a_1), (.int .i64 b_1), (.int .i64 (IntKind.i64.wrap ((IntKind.i64.wrap (b_1 - (1 : Int))) - (IntKind.i64.wrap (n1 - a_1))))), cmp] h24 fun r25 h26 =>
∃ n19 : Int,
∃ t6 : Bool,
r25 = (.tuple #[(.int .i64 n19), (.bool t6)]) ∧
(8 : Int) ≠ 0 ∧
bcase (decide ((IntKind.i64.wrap (n19 - a_1)) < (IntKind.i64.wrap (b_1 - n19)))) (
Runs Tryd.prog 90 #[(.slice data dataL dataC), (.int .i64 a_1), (.int .i64 n19), (.int .i64 (IntKind.i64.wrap (limit_1 - (1 : Int)))), cmp] h26 fun r26 h27 =>
I1 (IntKind.i64.wrap (n19 + (1 : Int))) b_1 (IntKind.i64.wrap (limit_1 - (1 : Int))) (decide ((IntKind.i64.wrap (((IntKind.i64.wrap (b_1 - a_1))).tdiv (8 : Int))) ≤ (IntKind.i64.wrap (n19 - a_1)))) t6 h27 ∧ m1 (IntKind.i64.wrap (n19 + (1 : Int))) b_1 (IntKind.i64.wrap (limit_1 - (1 : Int))) (decide ((IntKind.i64.wrap (((IntKind.i64.wrap (b_1 - a_1))).tdiv (8 : Int))) ≤ (IntKind.i64.wrap (n19 - a_1)))) t6 h27 < m1 a_1 b_1 limit_1 wasBalanced_1 wasPartitioned_1 h1) (
Runs Tryd.prog 90 #[(.slice data dataL dataC), (.int .i64 (IntKind.i64.wrap (n19 + (1 : Int)))), (.int .i64 b_1), (.int .i64 (IntKind.i64.wrap (limit_1 - (1 : Int)))), cmp] h26 fun r27 h28 =>
I1 a_1 n19 (IntKind.i64.wrap (limit_1 - (1 : Int))) (decide ((IntKind.i64.wrap (((IntKind.i64.wrap (b_1 - a_1))).tdiv (8 : Int))) ≤ (IntKind.i64.wrap (b_1 - n19)))) t6 h28 ∧ m1 a_1 n19 (IntKind.i64.wrap (limit_1 - (1 : Int))) (decide ((IntKind.i64.wrap (((IntKind.i64.wrap (b_1 - a_1))).tdiv (8 : Int))) ≤ (IntKind.i64.wrap (b_1 - n19)))) t6 h28 < m1 a_1 b_1 limit_1 wasBalanced_1 wasPartitioned_1 h1))) (
Runs Tryd.prog 101 #[(.slice data dataL dataC), (.int .i64 a_1), (.int .i64 b_1), (.int .i64 (IntKind.i64.wrap ((IntKind.i64.wrap (b_1 - (1 : Int))) - (IntKind.i64.wrap (n1 - a_1))))), cmp] h6 fun r28 h29 =>
∃ n20 : Int,
∃ t7 : Bool,
r28 = (.tuple #[(.int .i64 n20), (.bool t7)]) ∧
(8 : Int) ≠ 0 ∧
bcase (decide ((IntKind.i64.wrap (n20 - a_1)) < (IntKind.i64.wrap (b_1 - n20)))) (
Runs Tryd.prog 90 #[(.slice data dataL dataC), (.int .i64 a_1), (.int .i64 n20), (.int .i64 (IntKind.i64.wrap (limit_1 - (1 : Int)))), cmp] h29 fun r29 h30 =>
I1 (IntKind.i64.wrap (n20 + (1 : Int))) b_1 (IntKind.i64.wrap (limit_1 - (1 : Int))) (decide ((IntKind.i64.wrap (((IntKind.i64.wrap (b_1 - a_1))).tdiv (8 : Int))) ≤ (IntKind.i64.wrap (n20 - a_1)))) t7 h30 ∧ m1 (IntKind.i64.wrap (n20 + (1 : Int))) b_1 (IntKind.i64.wrap (limit_1 - (1 : Int))) (decide ((IntKind.i64.wrap (((IntKind.i64.wrap (b_1 - a_1))).tdiv (8 : Int))) ≤ (IntKind.i64.wrap (n20 - a_1)))) t7 h30 < m1 a_1 b_1 limit_1 wasBalanced_1 wasPartitioned_1 h1) (
Runs Tryd.prog 90 #[(.slice data dataL dataC), (.int .i64 (IntKind.i64.wrap (n20 + (1 : Int)))), (.int .i64 b_1), (.int .i64 (IntKind.i64.wrap (limit_1 - (1 : Int)))), cmp] h29 fun r30 h31 =>
I1 a_1 n20 (IntKind.i64.wrap (limit_1 - (1 : Int))) (decide ((IntKind.i64.wrap (((IntKind.i64.wrap (b_1 - a_1))).tdiv (8 : Int))) ≤ (IntKind.i64.wrap (b_1 - n20)))) t7 h31 ∧ m1 a_1 n20 (IntKind.i64.wrap (limit_1 - (1 : Int))) (decide ((IntKind.i64.wrap (((IntKind.i64.wrap (b_1 - a_1))).tdiv (8 : Int))) ≤ (IntKind.i64.wrap (b_1 - n20)))) t7 h31 < m1 a_1 b_1 limit_1 wasBalanced_1 wasPartitioned_1 h1)))) (
bcase (decide ((0 : Int) < a_1)) (
(0 ≤ (IntKind.i64.wrap (a_1 - (1 : Int))) ∧ (IntKind.i64.wrap (a_1 - (1 : Int))) < ((dataL : Nat) : Int)) ∧
onAddr data fun b7 o7 =>
∃ n21 : Int, cell h6 b7 (o7 + ((IntKind.i64.wrap (a_1 - (1 : Int)))).toNat) = some (.int .i64 n21) ∧
(0 ≤ (IntKind.i64.wrap ((IntKind.i64.wrap (b_1 - (1 : Int))) - (IntKind.i64.wrap (n1 - a_1)))) ∧ (IntKind.i64.wrap ((IntKind.i64.wrap (b_1 - (1 : Int))) - (IntKind.i64.wrap (n1 - a_1)))) < ((dataL : Nat) : Int)) ∧
onAddr data fun b8 o8 =>
∃ n22 : Int, cell h6 b8 (o8 + ((IntKind.i64.wrap ((IntKind.i64.wrap (b_1 - (1 : Int))) - (IntKind.i64.wrap (n1 - a_1))))).toNat) = some (.int .i64 n22) ∧
callv Tryd.prog cmp [(.int .i64 n21), (.int .i64 n22)] h6 fun r31 h32 =>
∃ n23 : Int,
r31 = (.int .i64 n23) ∧
bcase (!(decide (n23 < (0 : Int)))) (
Runs Tryd.prog 100 #[(.slice data dataL dataC), (.int .i64 a_1), (.int .i64 b_1), (.int .i64 (IntKind.i64.wrap ((IntKind.i64.wrap (b_1 - (1 : Int))) - (IntKind.i64.wrap (n1 - a_1))))), cmp] h32 fun r32 h33 =>
∃ n24 : Int,
r32 = (.int .i64 n24) ∧
I1 n24 b_1 (IntKind.i64.wrap (limit_1 - (1 : Int))) wasBalanced_1 wasPartitioned_1 h33 ∧ m1 n24 b_1 (IntKind.i64.wrap (limit_1 - (1 : Int))) wasBalanced_1 wasPartitioned_1 h33 < m1 a_1 b_1 limit_1 wasBalanced_1 wasPartitioned_1 h1) (
Runs Tryd.prog 101 #[(.slice data dataL dataC), (.int .i64 a_1), (.int .i64 b_1), (.int .i64 (IntKind.i64.wrap ((IntKind.i64.wrap (b_1 - (1 : Int))) - (IntKind.i64.wrap (n1 - a_1))))), cmp] h32 fun r33 h34 =>
∃ n25 : Int,
∃ t8 : Bool,
r33 = (.tuple #[(.int .i64 n25), (.bool t8)]) ∧
(8 : Int) ≠ 0 ∧
bcase (decide ((IntKind.i64.wrap (n25 - a_1)) < (IntKind.i64.wrap (b_1 - n25)))) (
Runs Tryd.prog 90 #[(.slice data dataL dataC), (.int .i64 a_1), (.int .i64 n25), (.int .i64 (IntKind.i64.wrap (limit_1 - (1 : Int)))), cmp] h34 fun r34 h35 =>
I1 (IntKind.i64.wrap (n25 + (1 : Int))) b_1 (IntKind.i64.wrap (limit_1 - (1 : Int))) (decide ((IntKind.i64.wrap (((IntKind.i64.wrap (b_1 - a_1))).tdiv (8 : Int))) ≤ (IntKind.i64.wrap (n25 - a_1)))) t8 h35 ∧ m1 (IntKind.i64.wrap (n25 + (1 : Int))) b_1 (IntKind.i64.wrap (limit_1 - (1 : Int))) (decide ((IntKind.i64.wrap (((IntKind.i64.wrap (b_1 - a_1))).tdiv (8 : Int))) ≤ (IntKind.i64.wrap (n25 - a_1)))) t8 h35 < m1 a_1 b_1 limit_1 wasBalanced_1 wasPartitioned_1 h1) (
Runs Tryd.prog 90 #[(.slice data dataL dataC), (.int .i64 (IntKind.i64.wrap (n25 + (1 : Int)))), (.int .i64 b_1), (.int .i64 (IntKind.i64.wrap (limit_1 - (1 : Int)))), cmp] h34 fun r35 h36 =>
I1 a_1 n25 (IntKind.i64.wrap (limit_1 - (1 : Int))) (decide ((IntKind.i64.wrap (((IntKind.i64.wrap (b_1 - a_1))).tdiv (8 : Int))) ≤ (IntKind.i64.wrap (b_1 - n25)))) t8 h36 ∧ m1 a_1 n25 (IntKind.i64.wrap (limit_1 - (1 : Int))) (decide ((IntKind.i64.wrap (((IntKind.i64.wrap (b_1 - a_1))).tdiv (8 : Int))) ≤ (IntKind.i64.wrap (b_1 - n25)))) t8 h36 < m1 a_1 b_1 limit_1 wasBalanced_1 wasPartitioned_1 h1))) (
Runs Tryd.prog 101 #[(.slice data dataL dataC), (.int .i64 a_1), (.int .i64 b_1), (.int .i64 (IntKind.i64.wrap ((IntKind.i64.wrap (b_1 - (1 : Int))) - (IntKind.i64.wrap (n1 - a_1))))), cmp] h6 fun r36 h37 =>
∃ n26 : Int,
∃ t9 : Bool,
r36 = (.tuple #[(.int .i64 n26), (.bool t9)]) ∧
(8 : Int) ≠ 0 ∧
bcase (decide ((IntKind.i64.wrap (n26 - a_1)) < (IntKind.i64.wrap (b_1 - n26)))) (
Runs Tryd.prog 90 #[(.slice data dataL dataC), (.int .i64 a_1), (.int .i64 n26), (.int .i64 (IntKind.i64.wrap (limit_1 - (1 : Int)))), cmp] h37 fun r37 h38 =>
I1 (IntKind.i64.wrap (n26 + (1 : Int))) b_1 (IntKind.i64.wrap (limit_1 - (1 : Int))) (decide ((IntKind.i64.wrap (((IntKind.i64.wrap (b_1 - a_1))).tdiv (8 : Int))) ≤ (IntKind.i64.wrap (n26 - a_1)))) t9 h38 ∧ m1 (IntKind.i64.wrap (n26 + (1 : Int))) b_1 (IntKind.i64.wrap (limit_1 - (1 : Int))) (decide ((IntKind.i64.wrap (((IntKind.i64.wrap (b_1 - a_1))).tdiv (8 : Int))) ≤ (IntKind.i64.wrap (n26 - a_1)))) t9 h38 < m1 a_1 b_1 limit_1 wasBalanced_1 wasPartitioned_1 h1) (
Runs Tryd.prog 90 #[(.slice data dataL dataC), (.int .i64 (IntKind.i64.wrap (n26 + (1 : Int)))), (.int .i64 b_1), (.int .i64 (IntKind.i64.wrap (limit_1 - (1 : Int)))), cmp] h37 fun r38 h39 =>
I1 a_1 n26 (IntKind.i64.wrap (limit_1 - (1 : Int))) (decide ((IntKind.i64.wrap (((IntKind.i64.wrap (b_1 - a_1))).tdiv (8 : Int))) ≤ (IntKind.i64.wrap (b_1 - n26)))) t9 h39 ∧ m1 a_1 n26 (IntKind.i64.wrap (limit_1 - (1 : Int))) (decide ((IntKind.i64.wrap (((IntKind.i64.wrap (b_1 - a_1))).tdiv (8 : Int))) ≤ (IntKind.i64.wrap (b_1 - n26)))) t9 h39 < m1 a_1 b_1 limit_1 wasBalanced_1 wasPartitioned_1 h1)))) (
bcase wasBalanced_1 (
bcase wasPartitioned_1 (
bcase (decide (n2 = (1 : Int))) (
Runs Tryd.prog 99 #[(.slice data dataL dataC), (.int .i64 a_1), (.int .i64 b_1), cmp] h5 fun r39 h40 =>
∃ t10 : Bool,
r39 = (.bool t10) ∧
bcase t10 (
Post (.tuple #[]) h40) (
bcase (decide ((0 : Int) < a_1)) (
(0 ≤ (IntKind.i64.wrap (a_1 - (1 : Int))) ∧ (IntKind.i64.wrap (a_1 - (1 : Int))) < ((dataL : Nat) : Int)) ∧
onAddr data fun b9 o9 =>
∃ n27 : Int, cell h40 b9 (o9 + ((IntKind.i64.wrap (a_1 - (1 : Int)))).toNat) = some (.int .i64 n27) ∧
(0 ≤ n1 ∧ n1 < ((dataL : Nat) : Int)) ∧
onAddr data fun b10 o10 =>
∃ n28 : Int, cell h40 b10 (o10 + (n1).toNat) = some (.int .i64 n28) ∧
callv Tryd.prog cmp [(.int .i64 n27), (.int .i64 n28)] h40 fun r40 h41 =>
∃ n29 : Int,
r40 = (.int .i64 n29) ∧
bcase (!(decide (n29 < (0 : Int)))) (
Runs Tryd.prog 100 #[(.slice data dataL dataC), (.int .i64 a_1), (.int .i64 b_1), (.int .i64 n1), cmp] h41 fun r41 h42 =>
∃ n30 : Int,
r41 = (.int .i64 n30) ∧
I1 n30 b_1 (IntKind.i64.wrap (limit_1 - (1 : Int))) wasBalanced_1 wasPartitioned_1 h42 ∧ m1 n30 b_1 (IntKind.i64.wrap (limit_1 - (1 : Int))) wasBalanced_1 wasPartitioned_1 h42 < m1 a_1 b_1 limit_1 wasBalanced_1 wasPartitioned_1 h1) (
Runs Tryd.prog 101 #[(.slice data dataL dataC), (.int .i64 a_1), (.int .i64 b_1), (.int .i64 n1), cmp] h41 fun r42 h43 =>
∃ n31 : Int,
∃ t11 : Bool,
r42 = (.tuple #[(.int .i64 n31), (.bool t11)]) ∧
(8 : Int) ≠ 0 ∧
bcase (decide ((IntKind.i64.wrap (n31 - a_1)) < (IntKind.i64.wrap (b_1 - n31)))) (
Runs Tryd.prog 90 #[(.slice data dataL dataC), (.int .i64 a_1), (.int .i64 n31), (.int .i64 (IntKind.i64.wrap (limit_1 - (1 : Int)))), cmp] h43 fun r43 h44 =>
I1 (IntKind.i64.wrap (n31 + (1 : Int))) b_1 (IntKind.i64.wrap (limit_1 - (1 : Int))) (decide ((IntKind.i64.wrap (((IntKind.i64.wrap (b_1 - a_1))).tdiv (8 : Int))) ≤ (IntKind.i64.wrap (n31 - a_1)))) t11 h44 ∧ m1 (IntKind.i64.wrap (n31 + (1 : Int))) b_1 (IntKind.i64.wrap (limit_1 - (1 : Int))) (decide ((IntKind.i64.wrap (((IntKind.i64.wrap (b_1 - a_1))).tdiv (8 : Int))) ≤ (IntKind.i64.wrap (n31 - a_1)))) t11 h44 < m1 a_1 b_1 limit_1 wasBalanced_1 wasPartitioned_1 h1) (
Runs Tryd.prog 90 #[(.slice data dataL dataC), (.int .i64 (IntKind.i64.wrap (n31 + (1 : Int)))), (.int .i64 b_1), (.int .i64 (IntKind.i64.wrap (limit_1 - (1 : Int)))), cmp] h43 fun r44 h45 =>
I1 a_1 n31 (IntKind.i64.wrap (limit_1 - (1 : Int))) (decide ((IntKind.i64.wrap (((IntKind.i64.wrap (b_1 - a_1))).tdiv (8 : Int))) ≤ (IntKind.i64.wrap (b_1 - n31)))) t11 h45 ∧ m1 a_1 n31 (IntKind.i64.wrap (limit_1 - (1 : Int))) (decide ((IntKind.i64.wrap (((IntKind.i64.wrap (b_1 - a_1))).tdiv (8 : Int))) ≤ (IntKind.i64.wrap (b_1 - n31)))) t11 h45 < m1 a_1 b_1 limit_1 wasBalanced_1 wasPartitioned_1 h1))) (
Runs Tryd.prog 101 #[(.slice data dataL dataC), (.int .i64 a_1), (.int .i64 b_1), (.int .i64 n1), cmp] h40 fun r45 h46 =>
∃ n32 : Int,
∃ t12 : Bool,
r45 = (.tuple #[(.int .i64 n32), (.bool t12)]) ∧
(8 : Int) ≠ 0 ∧
bcase (decide ((IntKind.i64.wrap (n32 - a_1)) < (IntKind.i64.wrap (b_1 - n32)))) (
Runs Tryd.prog 90 #[(.slice data dataL dataC), (.int .i64 a_1), (.int .i64 n32), (.int .i64 (IntKind.i64.wrap (limit_1 - (1 : Int)))), cmp] h46 fun r46 h47 =>
I1 (IntKind.i64.wrap (n32 + (1 : Int))) b_1 (IntKind.i64.wrap (limit_1 - (1 : Int))) (decide ((IntKind.i64.wrap (((IntKind.i64.wrap (b_1 - a_1))).tdiv (8 : Int))) ≤ (IntKind.i64.wrap (n32 - a_1)))) t12 h47 ∧ m1 (IntKind.i64.wrap (n32 + (1 : Int))) b_1 (IntKind.i64.wrap (limit_1 - (1 : Int))) (decide ((IntKind.i64.wrap (((IntKind.i64.wrap (b_1 - a_1))).tdiv (8 : Int))) ≤ (IntKind.i64.wrap (n32 - a_1)))) t12 h47 < m1 a_1 b_1 limit_1 wasBalanced_1 wasPartitioned_1 h1) (
Runs Tryd.prog 90 #[(.slice data dataL dataC), (.int .i64 (IntKind.i64.wrap (n32 + (1 : Int)))), (.int .i64 b_1), (.int .i64 (IntKind.i64.wrap (limit_1 - (1 : Int)))), cmp] h46 fun r47 h48 =>
I1 a_1 n32 (IntKind.i64.wrap (limit_1 - (1 : Int))) (decide ((IntKind.i64.wrap (((IntKind.i64.wrap (b_1 - a_1))).tdiv (8 : Int))) ≤ (IntKind.i64.wrap (b_1 - n32)))) t12 h48 ∧ m1 a_1 n32 (IntKind.i64.wrap (limit_1 - (1 : Int))) (decide ((IntKind.i64.wrap (((IntKind.i64.wrap (b_1 - a_1))).tdiv (8 : Int))) ≤ (IntKind.i64.wrap (b_1 - n32)))) t12 h48 < m1 a_1 b_1 limit_1 wasBalanced_1 wasPartitioned_1 h1)))) (
bcase (decide ((0 : Int) < a_1)) (
(0 ≤ (IntKind.i64.wrap (a_1 - (1 : Int))) ∧ (IntKind.i64.wrap (a_1 - (1 : Int))) < ((dataL : Nat) : Int)) ∧
onAddr data fun b11 o11 =>
∃ n33 : Int, cell h5 b11 (o11 + ((IntKind.i64.wrap (a_1 - (1 : Int)))).toNat) = some (.int .i64 n33) ∧
(0 ≤ n1 ∧ n1 < ((dataL : Nat) : Int)) ∧
onAddr data fun b12 o12 =>
∃ n34 : Int, cell h5 b12 (o12 + (n1).toNat) = some (.int .i64 n34) ∧
callv Tryd.prog cmp [(.int .i64 n33), (.int .i64 n34)] h5 fun r48 h49 =>
∃ n35 : Int,
r48 = (.int .i64 n35) ∧
bcase (!(decide (n35 < (0 : Int)))) (
Runs Tryd.prog 100 #[(.slice data dataL dataC), (.int .i64 a_1), (.int .i64 b_1), (.int .i64 n1), cmp] h49 fun r49 h50 =>
∃ n36 : Int,
r49 = (.int .i64 n36) ∧
I1 n36 b_1 (IntKind.i64.wrap (limit_1 - (1 : Int))) wasBalanced_1 wasPartitioned_1 h50 ∧ m1 n36 b_1 (IntKind.i64.wrap (limit_1 - (1 : Int))) wasBalanced_1 wasPartitioned_1 h50 < m1 a_1 b_1 limit_1 wasBalanced_1 wasPartitioned_1 h1) (
Runs Tryd.prog 101 #[(.slice data dataL dataC), (.int .i64 a_1), (.int .i64 b_1), (.int .i64 n1), cmp] h49 fun r50 h51 =>
∃ n37 : Int,
∃ t13 : Bool,
r50 = (.tuple #[(.int .i64 n37), (.bool t13)]) ∧
(8 : Int) ≠ 0 ∧
bcase (decide ((IntKind.i64.wrap (n37 - a_1)) < (IntKind.i64.wrap (b_1 - n37)))) (
Runs Tryd.prog 90 #[(.slice data dataL dataC), (.int .i64 a_1), (.int .i64 n37), (.int .i64 (IntKind.i64.wrap (limit_1 - (1 : Int)))), cmp] h51 fun r51 h52 =>
I1 (IntKind.i64.wrap (n37 + (1 : Int))) b_1 (IntKind.i64.wrap (limit_1 - (1 : Int))) (decide ((IntKind.i64.wrap (((IntKind.i64.wrap (b_1 - a_1))).tdiv (8 : Int))) ≤ (IntKind.i64.wrap (n37 - a_1)))) t13 h52 ∧ m1 (IntKind.i64.wrap (n37 + (1 : Int))) b_1 (IntKind.i64.wrap (limit_1 - (1 : Int))) (decide ((IntKind.i64.wrap (((IntKind.i64.wrap (b_1 - a_1))).tdiv (8 : Int))) ≤ (IntKind.i64.wrap (n37 - a_1)))) t13 h52 < m1 a_1 b_1 limit_1 wasBalanced_1 wasPartitioned_1 h1) (
Runs Tryd.prog 90 #[(.slice data dataL dataC), (.int .i64 (IntKind.i64.wrap (n37 + (1 : Int)))), (.int .i64 b_1), (.int .i64 (IntKind.i64.wrap (limit_1 - (1 : Int)))), cmp] h51 fun r52 h53 =>
I1 a_1 n37 (IntKind.i64.wrap (limit_1 - (1 : Int))) (decide ((IntKind.i64.wrap (((IntKind.i64.wrap (b_1 - a_1))).tdiv (8 : Int))) ≤ (IntKind.i64.wrap (b_1 - n37)))) t13 h53 ∧ m1 a_1 n37 (IntKind.i64.wrap (limit_1 - (1 : Int))) (decide ((IntKind.i64.wrap (((IntKind.i64.wrap (b_1 - a_1))).tdiv (8 : Int))) ≤ (IntKind.i64.wrap (b_1 - n37)))) t13 h53 < m1 a_1 b_1 limit_1 wasBalanced_1 wasPartitioned_1 h1))) (
Runs Tryd.prog 101 #[(.slice data dataL dataC), (.int .i64 a_1), (.int .i64 b_1), (.int .i64 n1), cmp] h5 fun r53 h54 =>
∃ n38 : Int,
∃ t14 : Bool,
r53 = (.tuple #[(.int .i64 n38), (.bool t14)]) ∧
(8 : Int) ≠ 0 ∧
bcase (decide ((IntKind.i64.wrap (n38 - a_1)) < (IntKind.i64.wrap (b_1 - n38)))) (
Runs Tryd.prog 90 #[(.slice data dataL dataC), (.int .i64 a_1), (.int .i64 n38), (.int .i64 (IntKind.i64.wrap (limit_1 - (1 : Int)))), cmp] h54 fun r54 h55 =>
I1 (IntKind.i64.wrap (n38 + (1 : Int))) b_1 (IntKind.i64.wrap (limit_1 - (1 : Int))) (decide ((IntKind.i64.wrap (((IntKind.i64.wrap (b_1 - a_1))).tdiv (8 : Int))) ≤ (IntKind.i64.wrap (n38 - a_1)))) t14 h55 ∧ m1 (IntKind.i64.wrap (n38 + (1 : Int))) b_1 (IntKind.i64.wrap (limit_1 - (1 : Int))) (decide ((IntKind.i64.wrap (((IntKind.i64.wrap (b_1 - a_1))).tdiv (8 : Int))) ≤ (IntKind.i64.wrap (n38 - a_1)))) t14 h55 < m1 a_1 b_1 limit_1 wasBalanced_1 wasPartitioned_1 h1) (
Runs Tryd.prog 90 #[(.slice data dataL dataC), (.int .i64 (IntKind.i64.wrap (n38 + (1 : Int)))), (.int .i64 b_1), (.int .i64 (IntKind.i64.wrap (limit_1 - (1 : Int)))), cmp] h54 fun r55 h56 =>
I1 a_1 n38 (IntKind.i64.wrap (limit_1 - (1 : Int))) (decide ((IntKind.i64.wrap (((IntKind.i64.wrap (b_1 - a_1))).tdiv (8 : Int))) ≤ (IntKind.i64.wrap (b_1 - n38)))) t14 h56 ∧ m1 a_1 n38 (IntKind.i64.wrap (limit_1 - (1 : Int))) (decide ((IntKind.i64.wrap (((IntKind.i64.wrap (b_1 - a_1))).tdiv (8 : Int))) ≤ (IntKind.i64.wrap (b_1 - n38)))) t14 h56 < m1 a_1 b_1 limit_1 wasBalanced_1 wasPartitioned_1 h1)))) (
bcase (decide ((0 : Int) < a_1)) (
(0 ≤ (IntKind.i64.wrap (a_1 - (1 : Int))) ∧ (IntKind.i64.wrap (a_1 - (1 : Int))) < ((dataL : Nat) : Int)) ∧
onAddr data fun b13 o13 =>
∃ n39 : Int, cell h5 b13 (o13 + ((IntKind.i64.wrap (a_1 - (1 : Int)))).toNat) = some (.int .i64 n39) ∧
(0 ≤ n1 ∧ n1 < ((dataL : Nat) : Int)) ∧
onAddr data fun b14 o14 =>
∃ n40 : Int, cell h5 b14 (o14 + (n1).toNat) = some (.int .i64 n40) ∧
callv Tryd.prog cmp [(.int .i64 n39), (.int .i64 n40)] h5 fun r56 h57 =>
∃ n41 : Int,
r56 = (.int .i64 n41) ∧
bcase (!(decide (n41 < (0 : Int)))) (
Runs Tryd.prog 100 #[(.slice data dataL dataC), (.int .i64 a_1), (.int .i64 b_1), (.int .i64 n1), cmp] h57 fun r57 h58 =>
∃ n42 : Int,
r57 = (.int .i64 n42) ∧
I1 n42 b_1 (IntKind.i64.wrap (limit_1 - (1 : Int))) wasBalanced_1 wasPartitioned_1 h58 ∧ m1 n42 b_1 (IntKind.i64.wrap (limit_1 - (1 : Int))) wasBalanced_1 wasPartitioned_1 h58 < m1 a_1 b_1 limit_1 wasBalanced_1 wasPartitioned_1 h1) (
Runs Tryd.prog 101 #[(.slice data dataL dataC), (.int .i64 a_1), (.int .i64 b_1), (.int .i64 n1), cmp] h57 fun r58 h59 =>
∃ n43 : Int,
∃ t15 : Bool,
r58 = (.tuple #[(.int .i64 n43), (.bool t15)]) ∧
(8 : Int) ≠ 0 ∧
bcase (decide ((IntKind.i64.wrap (n43 - a_1)) < (IntKind.i64.wrap (b_1 - n43)))) (
Runs Tryd.prog 90 #[(.slice data dataL dataC), (.int .i64 a_1), (.int .i64 n43), (.int .i64 (IntKind.i64.wrap (limit_1 - (1 : Int)))), cmp] h59 fun r59 h60 =>
I1 (IntKind.i64.wrap (n43 + (1 : Int))) b_1 (IntKind.i64.wrap (limit_1 - (1 : Int))) (decide ((IntKind.i64.wrap (((IntKind.i64.wrap (b_1 - a_1))).tdiv (8 : Int))) ≤ (IntKind.i64.wrap (n43 - a_1)))) t15 h60 ∧ m1 (IntKind.i64.wrap (n43 + (1 : Int))) b_1 (IntKind.i64.wrap (limit_1 - (1 : Int))) (decide ((IntKind.i64.wrap (((IntKind.i64.wrap (b_1 - a_1))).tdiv (8 : Int))) ≤ (IntKind.i64.wrap (n43 - a_1)))) t15 h60 < m1 a_1 b_1 limit_1 wasBalanced_1 wasPartitioned_1 h1) (
Runs Tryd.prog 90 #[(.slice data dataL dataC), (.int .i64 (IntKind.i64.wrap (n43 + (1 : Int)))), (.int .i64 b_1), (.int .i64 (IntKind.i64.wrap (limit_1 - (1 : Int)))), cmp] h59 fun r60 h61 =>
I1 a_1 n43 (IntKind.i64.wrap (limit_1 - (1 : Int))) (decide ((IntKind.i64.wrap (((IntKind.i64.wrap (b_1 - a_1))).tdiv (8 : Int))) ≤ (IntKind.i64.wrap (b_1 - n43)))) t15 h61 ∧ m1 a_1 n43 (IntKind.i64.wrap (limit_1 - (1 : Int))) (decide ((IntKind.i64.wrap (((IntKind.i64.wrap (b_1 - a_1))).tdiv (8 : Int))) ≤ (IntKind.i64.wrap (b_1 - n43)))) t15 h61 < m1 a_1 b_1 limit_1 wasBalanced_1 wasPartitioned_1 h1))) (
Runs Tryd.prog 101 #[(.slice data dataL dataC), (.int .i64 a_1), (.int .i64 b_1), (.int .i64 n1), cmp] h5 fun r61 h62 =>
∃ n44 : Int,
∃ t16 : Bool,
r61 = (.tuple #[(.int .i64 n44), (.bool t16)]) ∧
(8 : Int) ≠ 0 ∧
bcase (decide ((IntKind.i64.wrap (n44 - a_1)) < (IntKind.i64.wrap (b_1 - n44)))) (
Runs Tryd.prog 90 #[(.slice data dataL dataC), (.int .i64 a_1), (.int .i64 n44), (.int .i64 (IntKind.i64.wrap (limit_1 - (1 : Int)))), cmp] h62 fun r62 h63 =>
I1 (IntKind.i64.wrap (n44 + (1 : Int))) b_1 (IntKind.i64.wrap (limit_1 - (1 : Int))) (decide ((IntKind.i64.wrap (((IntKind.i64.wrap (b_1 - a_1))).tdiv (8 : Int))) ≤ (IntKind.i64.wrap (n44 - a_1)))) t16 h63 ∧ m1 (IntKind.i64.wrap (n44 + (1 : Int))) b_1 (IntKind.i64.wrap (limit_1 - (1 : Int))) (decide ((IntKind.i64.wrap (((IntKind.i64.wrap (b_1 - a_1))).tdiv (8 : Int))) ≤ (IntKind.i64.wrap (n44 - a_1)))) t16 h63 < m1 a_1 b_1 limit_1 wasBalanced_1 wasPartitioned_1 h1) (
Runs Tryd.prog 90 #[(.slice data dataL dataC), (.int .i64 (IntKind.i64.wrap (n44 + (1 : Int)))), (.int .i64 b_1), (.int .i64 (IntKind.i64.wrap (limit_1 - (1 : Int)))), cmp] h62 fun r63 h64 =>
I1 a_1 n44 (IntKind.i64.wrap (limit_1 - (1 : Int))) (decide ((IntKind.i64.wrap (((IntKind.i64.wrap (b_1 - a_1))).tdiv (8 : Int))) ≤ (IntKind.i64.wrap (b_1 - n44)))) t16 h64 ∧ m1 a_1 n44 (IntKind.i64.wrap (limit_1 - (1 : Int))) (decide ((IntKind.i64.wrap (((IntKind.i64.wrap (b_1 - a_1))).tdiv (8 : Int))) ≤ (IntKind.i64.wrap (b_1 - n44)))) t16 h64 < m1 a_1 b_1 limit_1 wasBalanced_1 wasPartitioned_1 h1)))) (
bcase (decide ((0 : Int) < a_1)) (
(0 ≤ (IntKind.i64.wrap (a_1 - (1 : Int))) ∧ (IntKind.i64.wrap (a_1 - (1 : Int))) < ((dataL : Nat) : Int)) ∧
onAddr data fun b15 o15 =>
∃ n45 : Int, cell h5 b15 (o15 + ((IntKind.i64.wrap (a_1 - (1 : Int)))).toNat) = some (.int .i64 n45) ∧
(0 ≤ n1 ∧ n1 < ((dataL : Nat) : Int)) ∧
onAddr data fun b16 o16 =>
∃ n46 : Int, cell h5 b16 (o16 + (n1).toNat) = some (.int .i64 n46) ∧
callv Tryd.prog cmp [(.int .i64 n45), (.int .i64 n46)] h5 fun r64 h65 =>
∃ n47 : Int,
r64 = (.int .i64 n47) ∧
bcase (!(decide (n47 < (0 : Int)))) (
Runs Tryd.prog 100 #[(.slice data dataL dataC), (.int .i64 a_1), (.int .i64 b_1), (.int .i64 n1), cmp] h65 fun r65 h66 =>
∃ n48 : Int,
r65 = (.int .i64 n48) ∧
I1 n48 b_1 (IntKind.i64.wrap (limit_1 - (1 : Int))) wasBalanced_1 wasPartitioned_1 h66 ∧ m1 n48 b_1 (IntKind.i64.wrap (limit_1 - (1 : Int))) wasBalanced_1 wasPartitioned_1 h66 < m1 a_1 b_1 limit_1 wasBalanced_1 wasPartitioned_1 h1) (
Runs Tryd.prog 101 #[(.slice data dataL dataC), (.int .i64 a_1), (.int .i64 b_1), (.int .i64 n1), cmp] h65 fun r66 h67 =>
∃ n49 : Int,
∃ t17 : Bool,
r66 = (.tuple #[(.int .i64 n49), (.bool t17)]) ∧
(8 : Int) ≠ 0 ∧
bcase (decide ((IntKind.i64.wrap (n49 - a_1)) < (IntKind.i64.wrap (b_1 - n49)))) (
Runs Tryd.prog 90 #[(.slice data dataL dataC), (.int .i64 a_1), (.int .i64 n49), (.int .i64 (IntKind.i64.wrap (limit_1 - (1 : Int)))), cmp] h67 fun r67 h68 =>
I1 (IntKind.i64.wrap (n49 + (1 : Int))) b_1 (IntKind.i64.wrap (limit_1 - (1 : Int))) (decide ((IntKind.i64.wrap (((IntKind.i64.wrap (b_1 - a_1))).tdiv (8 : Int))) ≤ (IntKind.i64.wrap (n49 - a_1)))) t17 h68 ∧ m1 (IntKind.i64.wrap (n49 + (1 : Int))) b_1 (IntKind.i64.wrap (limit_1 - (1 : Int))) (decide ((IntKind.i64.wrap (((IntKind.i64.wrap (b_1 - a_1))).tdiv (8 : Int))) ≤ (IntKind.i64.wrap (n49 - a_1)))) t17 h68 < m1 a_1 b_1 limit_1 wasBalanced_1 wasPartitioned_1 h1) (
Runs Tryd.prog 90 #[(.slice data dataL dataC), (.int .i64 (IntKind.i64.wrap (n49 + (1 : Int)))), (.int .i64 b_1), (.int .i64 (IntKind.i64.wrap (limit_1 - (1 : Int)))), cmp] h67 fun r68 h69 =>
I1 a_1 n49 (IntKind.i64.wrap (limit_1 - (1 : Int))) (decide ((IntKind.i64.wrap (((IntKind.i64.wrap (b_1 - a_1))).tdiv (8 : Int))) ≤ (IntKind.i64.wrap (b_1 - n49)))) t17 h69 ∧ m1 a_1 n49 (IntKind.i64.wrap (limit_1 - (1 : Int))) (decide ((IntKind.i64.wrap (((IntKind.i64.wrap (b_1 - a_1))).tdiv (8 : Int))) ≤ (IntKind.i64.wrap (b_1 - n49)))) t17 h69 < m1 a_1 b_1 limit_1 wasBalanced_1 wasPartitioned_1 h1))) (
Runs Tryd.prog 101 #[(.slice data dataL dataC), (.int .i64 a_1), (.int .i64 b_1), (.int .i64 n1), cmp] h5 fun r69 h70 =>
∃ n50 : Int,
∃ t18 : Bool,
r69 = (.tuple #[(.int .i64 n50), (.bool t18)]) ∧
(8 : Int) ≠ 0 ∧
bcase (decide ((IntKind.i64.wrap (n50 - a_1)) < (IntKind.i64.wrap (b_1 - n50)))) (
Runs Tryd.prog 90 #[(.slice data dataL dataC), (.int .i64 a_1), (.int .i64 n50), (.int .i64 (IntKind.i64.wrap (limit_1 - (1 : Int)))), cmp] h70 fun r70 h71 =>
I1 (IntKind.i64.wrap (n50 + (1 : Int))) b_1 (IntKind.i64.wrap (limit_1 - (1 : Int))) (decide ((IntKind.i64.wrap (((IntKind.i64.wrap (b_1 - a_1))).tdiv (8 : Int))) ≤ (IntKind.i64.wrap (n50 - a_1)))) t18 h71 ∧ m1 (IntKind.i64.wrap (n50 + (1 : Int))) b_1 (IntKind.i64.wrap (limit_1 - (1 : Int))) (decide ((IntKind.i64.wrap (((IntKind.i64.wrap (b_1 - a_1))).tdiv (8 : Int))) ≤ (IntKind.i64.wrap (n50 - a_1)))) t18 h71 < m1 a_1 b_1 limit_1 wasBalanced_1 wasPartitioned_1 h1) (
Runs Tryd.prog 90 #[(.slice data dataL dataC), (.int .i64 (IntKind.i64.wrap (n50 + (1 : Int)))), (.int .i64 b_1), (.int .i64 (IntKind.i64.wrap (limit_1 - (1 : Int)))), cmp] h70 fun r71 h72 =>
I1 a_1 n50 (IntKind.i64.wrap (limit_1 - (1 : Int))) (decide ((IntKind.i64.wrap (((IntKind.i64.wrap (b_1 - a_1))).tdiv (8 : Int))) ≤ (IntKind.i64.wrap (b_1 - n50)))) t18 h72 ∧ m1 a_1 n50 (IntKind.i64.wrap (limit_1 - (1 : Int))) (decide ((IntKind.i64.wrap (((IntKind.i64.wrap (b_1 - a_1))).tdiv (8 : Int))) ≤ (IntKind.i64.wrap (b_1 - n50)))) t18 h72 < m1 a_1 b_1 limit_1 wasBalanced_1 wasPartitioned_1 h1))))) (
Runs Tryd.prog 97 #[(.slice data dataL dataC), (.int .i64 a_1), (.int .i64 b_1), cmp] h1 fun r72 h73 =>
∃ n51 : Int,
∃ n52 : Int,
r72 = (.tuple #[(.int .i64 n51), (.int .i64 n52)]) ∧
bcase (decide (n52 = (2 : Int))) (
Runs Tryd.prog 98 #[(.slice data dataL dataC), (.int .i64 a_1), (.int .i64 b_1), cmp] h73 fun r73 h74 =>
bcase wasBalanced_1 (
bcase wasPartitioned_1 (
bcase (decide ((1 : Int) = (1 : Int))) (
Runs Tryd.prog 99 #[(.slice data dataL dataC), (.int .i64 a_1), (.int .i64 b_1), cmp] h74 fun r74 h75 =>
∃ t19 : Bool,
r74 = (.bool t19) ∧
bcase t19 (
Post (.tuple #[]) h75) (
bcase (decide ((0 : Int) < a_1)) (
(0 ≤ (IntKind.i64.wrap (a_1 - (1 : Int))) ∧ (IntKind.i64.wrap (a_1 - (1 : Int))) < ((dataL : Nat) : Int)) ∧
onAddr data fun b17 o17 =>
∃ n53 : Int, cell h75 b17 (o17 + ((IntKind.i64.wrap (a_1 - (1 : Int)))).toNat) = some (.int .i64 n53) ∧
(0 ≤ (IntKind.i64.wrap ((IntKind.i64.wrap (b_1 - (1 : Int))) - (IntKind.i64.wrap (n51 - a_1)))) ∧ (IntKind.i64.wrap ((IntKind.i64.wrap (b_1 - (1 : Int))) - (IntKind.i64.wrap (n51 - a_1)))) < ((dataL : Nat) : Int)) ∧
onAddr data fun b18 o18 =>
∃ n54 : Int, cell h75 b18 (o18 + ((IntKind.i64.wrap ((IntKind.i64.wrap (b_1 - (1 : Int))) - (IntKind.i64.wrap (n51 - a_1))))).toNat) = some (.int .i64 n54) ∧
callv Tryd.prog cmp [(.int .i64 n53), (.int .i64 n54)] h75 fun r75 h76 =>
∃ n55 : Int,
r75 = (.int .i64 n55) ∧
bcase (!(decide (n55 < (0 : Int)))) (
Runs Tryd.prog 100 #[(.slice data dataL dataC), (.int .i64 a_1), (.int .i64 b_1), (.int .i64 (IntKind.i64.wrap ((IntKind.i64.wrap (b_1 - (1 : Int))) - (IntKind.i64.wrap (n51 - a_1))))), cmp] h76 fun r76 h77 =>
∃ n56 : Int,
r76 = (.int .i64 n56) ∧
I1 n56 b_1 limit_1 wasBalanced_1 wasPartitioned_1 h77 ∧ m1 n56 b_1 limit_1 wasBalanced_1 wasPartitioned_1 h77 < m1 a_1 b_1 limit_1 wasBalanced_1 wasPartitioned_1 h1) (
Runs Tryd.prog 101 #[(.slice data dataL dataC), (.int .i64 a_1), (.int .i64 b_1), (.int .i64 (IntKind.i64.wrap ((IntKind.i64.wrap (b_1 - (1 : Int))) - (IntKind.i64.wrap (n51 - a_1))))), cmp] h76 fun r77 h78 =>
∃ n57 : Int,
∃ t20 : Bool,
r77 = (.tuple #[(.int .i64 n57), (.bool t20)]) ∧
(8 : Int) ≠ 0 ∧
bcase (decide ((IntKind.i64.wrap (n57 - a_1)) < (IntKind.i64.wrap (b_1 - n57)))) (
Runs Tryd.prog 90 #[(.slice data dataL dataC), (.int .i64 a_1), (.int .i64 n57), (.int .i64 limit_1), cmp] h78 fun r78 h79 =>
I1 (IntKind.i64.wrap (n57 + (1 : Int))) b_1 limit_1 (decide ((IntKind.i64.wrap (((IntKind.i64.wrap (b_1 - a_1))).tdiv (8 : Int))) ≤ (IntKind.i64.wrap (n57 - a_1)))) t20 h79 ∧ m1 (IntKind.i64.wrap (n57 + (1 : Int))) b_1 limit_1 (decide ((IntKind.i64.wrap (((IntKind.i64.wrap (b_1 - a_1))).tdiv (8 : Int))) ≤ (IntKind.i64.wrap (n57 - a_1)))) t20 h79 < m1 a_1 b_1 limit_1 wasBalanced_1 wasPartitioned_1 h1) (
Runs Tryd.prog 90 #[(.slice data dataL dataC), (.int .i64 (IntKind.i64.wrap (n57 + (1 : Int)))), (.int .i64 b_1), (.int .i64 limit_1), cmp] h78 fun r79 h80 =>
I1 a_1 n57 limit_1 (decide ((IntKind.i64.wrap (((IntKind.i64.wrap (b_1 - a_1))).tdiv (8 : Int))) ≤ (IntKind.i64.wrap (b_1 - n57)))) t20 h80 ∧ m1 a_1 n57 limit_1 (decide ((IntKind.i64.wrap (((IntKind.i64.wrap (b_1 - a_1))).tdiv (8 : Int))) ≤ (IntKind.i64.wrap (b_1 - n57)))) t20 h80 < m1 a_1 b_1 limit_1 wasBalanced_1 wasPartitioned_1 h1))) (
Runs Tryd.prog 101 #[(.slice data dataL dataC), (.int .i64 a_1), (.int .i64 b_1), (.int .i64 (IntKind.i64.wrap ((IntKind.i64.wrap (b_1 - (1 : Int))) - (IntKind.i64.wrap (n51 - a_1))))), cmp] h75 fun r80 h81 =>
∃ n58 : Int,
∃ t21 : Bool,
r80 = (.tuple #[(.int .i64 n58), (.bool t21)]) ∧
(8 : Int) ≠ 0 ∧
bcase (decide ((IntKind.i64.wrap (n58 - a_1)) < (IntKind.i64.wrap (b_1 - n58)))) (
Runs Tryd.prog 90 #[(.slice data dataL dataC), (.int .i64 a_1), (.int .i64 n58), (.int .i64 limit_1), cmp] h81 fun r81 h82 =>
I1 (IntKind.i64.wrap (n58 + (1 : Int))) b_1 limit_1 (decide ((IntKind.i64.wrap (((IntKind.i64.wrap (b_1 - a_1))).tdiv (8 : Int))) ≤ (IntKind.i64.wrap (n58 - a_1)))) t21 h82 ∧ m1 (IntKind.i64.wrap (n58 + (1 : Int))) b_1 limit_1 (decide ((IntKind.i64.wrap (((IntKind.i64.wrap (b_1 - a_1))).tdiv (8 : Int))) ≤ (IntKind.i64.wrap (n58 - a_1)))) t21 h82 < m1 a_1 b_1 limit_1 wasBalanced_1 wasPartitioned_1 h1) (
Runs Tryd.prog 90 #[(.slice data dataL dataC), (.int .i64 (IntKind.i64.wrap (n58 + (1 : Int)))), (.int .i64 b_1), (.int .i64 limit_1), cmp] h81 fun r82 h83 =>
I1 a_1 n58 limit_1 (decide ((IntKind.i64.wrap (((IntKind.i64.wrap (b_1 - a_1))).tdiv (8 : Int))) ≤ (IntKind.i64.wrap (b_1 - n58)))) t21 h83 ∧ m1 a_1 n58 limit_1 (decide ((IntKind.i64.wrap (((IntKind.i64.wrap (b_1 - a_1))).tdiv (8 : Int))) ≤ (IntKind.i64.wrap (b_1 - n58)))) t21 h83 < m1 a_1 b_1 limit_1 wasBalanced_1 wasPartitioned_1 h1)))) (
bcase (decide ((0 : Int) < a_1)) (
(0 ≤ (IntKind.i64.wrap (a_1 - (1 : Int))) ∧ (IntKind.i64.wrap (a_1 - (1 : Int))) < ((dataL : Nat) : Int)) ∧
onAddr data fun b19 o19 =>
∃ n59 : Int, cell h74 b19 (o19 + ((IntKind.i64.wrap (a_1 - (1 : Int)))).toNat) = some (.int .i64 n59) ∧
(0 ≤ (IntKind.i64.wrap ((IntKind.i64.wrap (b_1 - (1 : Int))) - (IntKind.i64.wrap (n51 - a_1)))) ∧ (IntKind.i64.wrap ((IntKind.i64.wrap (b_1 - (1 : Int))) - (IntKind.i64.wrap (n51 - a_1)))) < ((dataL : Nat) : Int)) ∧
onAddr data fun b20 o20 =>
∃ n60 : Int, cell h74 b20 (o20 + ((IntKind.i64.wrap ((IntKind.i64.wrap (b_1 - (1 : Int))) - (IntKind.i64.wrap (n51 - a_1))))).toNat) = some (.int .i64 n60) ∧
callv Tryd.prog cmp [(.int .i64 n59), (.int .i64 n60)] h74 fun r83 h84 =>
∃ n61 : Int,
r83 = (.int .i64 n61) ∧
bcase (!(decide (n61 < (0 : Int)))) (
Runs Tryd.prog 100 #[(.slice data dataL dataC), (.int .i64 a_1), (.int .i64 b_1), (.int .i64 (IntKind.i64.wrap ((IntKind.i64.wrap (b_1 - (1 : Int))) - (IntKind.i64.wrap (n51 - a_1))))), cmp] h84 fun r84 h85 =>
∃ n62 : Int,
r84 = (.int .i64 n62) ∧
I1 n62 b_1 limit_1 wasBalanced_1 wasPartitioned_1 h85 ∧ m1 n62 b_1 limit_1 wasBalanced_1 wasPartitioned_1 h85 < m1 a_1 b_1 limit_1 wasBalanced_1 wasPartitioned_1 h1) (
Runs Tryd.prog 101 #[(.slice data dataL dataC), (.int .i64 a_1), (.int .i64 b_1), (.int .i64 (IntKind.i64.wrap ((IntKind.i64.wrap (b_1 - (1 : Int))) - (IntKind.i64.wrap (n51 - a_1))))), cmp] h84 fun r85 h86 =>
∃ n63 : Int,
∃ t22 : Bool,
r85 = (.tuple #[(.int .i64 n63), (.bool t22)]) ∧
(8 : Int) ≠ 0 ∧
bcase (decide ((IntKind.i64.wrap (n63 - a_1)) < (IntKind.i64.wrap (b_1 - n63)))) (
Runs Tryd.prog 90 #[(.slice data dataL dataC), (.int .i64 a_1), (.int .i64 n63), (.int .i64 limit_1), cmp] h86 fun r86 h87 =>
I1 (IntKind.i64.wrap (n63 + (1 : Int))) b_1 limit_1 (decide ((IntKind.i64.wrap (((IntKind.i64.wrap (b_1 - a_1))).tdiv (8 : Int))) ≤ (IntKind.i64.wrap (n63 - a_1)))) t22 h87 ∧ m1 (IntKind.i64.wrap (n63 + (1 : Int))) b_1 limit_1 (decide ((IntKind.i64.wrap (((IntKind.i64.wrap (b_1 - a_1))).tdiv (8 : Int))) ≤ (IntKind.i64.wrap (n63 - a_1)))) t22 h87 < m1 a_1 b_1 limit_1 wasBalanced_1 wasPartitioned_1 h1) (
Runs Tryd.prog 90 #[(.slice data dataL dataC), (.int .i64 (IntKind.i64.wrap (n63 + (1 : Int)))), (.int .i64 b_1), (.int .i64 limit_1), cmp] h86 fun r87 h88 =>
I1 a_1 n63 limit_1 (decide ((IntKind.i64.wrap (((IntKind.i64.wrap (b_1 - a_1))).tdiv (8 : Int))) ≤ (IntKind.i64.wrap (b_1 - n63)))) t22 h88 ∧ m1 a_1 n63 limit_1 (decide ((IntKind.i64.wrap (((IntKind.i64.wrap (b_1 - a_1))).tdiv (8 : Int))) ≤ (IntKind.i64.wrap (b_1 - n63)))) t22 h88 < m1 a_1 b_1 limit_1 wasBalanced_1 wasPartitioned_1 h1))) (
Runs Tryd.prog 101 #[(.slice data dataL dataC), (.int .i64 a_1), (.int .i64 b_1), (.int .i64 (IntKind.i64.wrap ((IntKind.i64.wrap (b_1 - (1 : Int))) - (IntKind.i64.wrap (n51 - a_1))))), cmp] h74 fun r88 h89 =>
∃ n64 : Int,
∃ t23 : Bool,
r88 = (.tuple #[(.int .i64 n64), (.bool t23)]) ∧
(8 : Int) ≠ 0 ∧
bcase (decide ((IntKind.i64.wrap (n64 - a_1)) < (IntKind.i64.wrap (b_1 - n64)))) (
Runs Tryd.prog 90 #[(.slice data dataL dataC), (.int .i64 a_1), (.int .i64 n64), (.int .i64 limit_1), cmp] h89 fun r89 h90 =>
I1 (IntKind.i64.wrap (n64 + (1 : Int))) b_1 limit_1 (decide ((IntKind.i64.wrap (((IntKind.i64.wrap (b_1 - a_1))).tdiv (8 : Int))) ≤ (IntKind.i64.wrap (n64 - a_1)))) t23 h90 ∧ m1 (IntKind.i64.wrap (n64 + (1 : Int))) b_1 limit_1 (decide ((IntKind.i64.wrap (((IntKind.i64.wrap (b_1 - a_1))).tdiv (8 : Int))) ≤ (IntKind.i64.wrap (n64 - a_1)))) t23 h90 < m1 a_1 b_1 limit_1 wasBalanced_1 wasPartitioned_1 h1) (
Runs Tryd.prog 90 #[(.slice data dataL dataC), (.int .i64 (IntKind.i64.wrap (n64 + (1 : Int)))), (.int .i64 b_1), (.int .i64 limit_1), cmp] h89 fun r90 h91 =>
I1 a_1 n64 limit_1 (decide ((IntKind.i64.wrap (((IntKind.i64.wrap (b_1 - a_1))).tdiv (8 : Int))) ≤ (IntKind.i64.wrap (b_1 - n64)))) t23 h91 ∧ m1 a_1 n64 limit_1 (decide ((IntKind.i64.wrap (((IntKind.i64.wrap (b_1 - a_1))).tdiv (8 : Int))) ≤ (IntKind.i64.wrap (b_1 - n64)))) t23 h91 < m1 a_1 b_1 limit_1 wasBalanced_1 wasPartitioned_1 h1)))) (
bcase (decide ((0 : Int) < a_1)) (
(0 ≤ (IntKind.i64.wrap (a_1 - (1 : Int))) ∧ (IntKind.i64.wrap (a_1 - (1 : Int))) < ((dataL : Nat) : Int)) ∧
onAddr data fun b21 o21 =>
∃ n65 : Int, cell h74 b21 (o21 + ((IntKind.i64.wrap (a_1 - (1 : Int)))).toNat) = some (.int .i64 n65) ∧
(0 ≤ (IntKind.i64.wrap ((IntKind.i64.wrap (b_1 - (1 : Int))) - (IntKind.i64.wrap (n51 - a_1)))) ∧ (IntKind.i64.wrap ((IntKind.i64.wrap (b_1 - (1 : Int))) - (IntKind.i64.wrap (n51 - a_1)))) < ((dataL : Nat) : Int)) ∧
onAddr data fun b22 o22 =>
∃ n66 : Int, cell h74 b22 (o22 + ((IntKind.i64.wrap ((IntKind.i64.wrap (b_1 - (1 : Int))) - (IntKind.i64.wrap (n51 - a_1))))).toNat) = some (.int .i64 n66) ∧
callv Tryd.prog cmp [(.int .i64 n65), (.int .i64 n66)] h74 fun r91 h92 =>
∃ n67 : Int,
r91 = (.int .i64 n67) ∧
bcase (!(decide (n67 < (0 : Int)))) (
Runs Tryd.prog 100 #[(.slice data dataL dataC), (.int .i64 a_1), (.int .i64 b_1), (.int .i64 (IntKind.i64.wrap ((IntKind.i64.wrap (b_1 - (1 : Int))) - (IntKind.i64.wrap (n51 - a_1))))), cmp] h92 fun r92 h93 =>
∃ n68 : Int,
r92 = (.int .i64 n68) ∧
I1 n68 b_1 limit_1 wasBalanced_1 wasPartitioned_1 h93 ∧ m1 n68 b_1 limit_1 wasBalanced_1 wasPartitioned_1 h93 < m1 a_1 b_1 limit_1 wasBalanced_1 wasPartitioned_1 h1) (
Runs Tryd.prog 101 #[(.slice data dataL dataC), (.int .i64 a_1), (.int .i64 b_1), (.int .i64 (IntKind.i64.wrap ((IntKind.i64.wrap (b_1 - (1 : Int))) - (IntKind.i64.wrap (n51 - a_1))))), cmp] h92 fun r93 h94 =>
∃ n69 : Int,
∃ t24 : Bool,
r93 = (.tuple #[(.int .i64 n69), (.bool t24)]) ∧
(8 : Int) ≠ 0 ∧
bcase (decide ((IntKind.i64.wrap (n69 - a_1)) < (IntKind.i64.wrap (b_1 - n69)))) (
Runs Tryd.prog 90 #[(.slice data dataL dataC), (.int .i64 a_1), (.int .i64 n69), (.int .i64 limit_1), cmp] h94 fun r94 h95 =>
I1 (IntKind.i64.wrap (n69 + (1 : Int))) b_1 limit_1 (decide ((IntKind.i64.wrap (((IntKind.i64.wrap (b_1 - a_1))).tdiv (8 : Int))) ≤ (IntKind.i64.wrap (n69 - a_1)))) t24 h95 ∧ m1 (IntKind.i64.wrap (n69 + (1 : Int))) b_1 limit_1 (decide ((IntKind.i64.wrap (((IntKind.i64.wrap (b_1 - a_1))).tdiv (8 : Int))) ≤ (IntKind.i64.wrap (n69 - a_1)))) t24 h95 < m1 a_1 b_1 limit_1 wasBalanced_1 wasPartitioned_1 h1) (
Runs Tryd.prog 90 #[(.slice data dataL dataC), (.int .i64 (IntKind.i64.wrap (n69 + (1 : Int)))), (.int .i64 b_1), (.int .i64 limit_1), cmp] h94 fun r95 h96 =>
I1 a_1 n69 limit_1 (decide ((IntKind.i64.wrap (((IntKind.i64.wrap (b_1 - a_1))).tdiv (8 : Int))) ≤ (IntKind.i64.wrap (b_1 - n69)))) t24 h96 ∧ m1 a_1 n69 limit_1 (decide ((IntKind.i64.wrap (((IntKind.i64.wrap (b_1 - a_1))).tdiv (8 : Int))) ≤ (IntKind.i64.wrap (b_1 - n69)))) t24 h96 < m1 a_1 b_1 limit_1 wasBalanced_1 wasPartitioned_1 h1))) (
Runs Tryd.prog 101 #[(.slice data dataL dataC), (.int .i64 a_1), (.int .i64 b_1), (.int .i64 (IntKind.i64.wrap ((IntKind.i64.wrap (b_1 - (1 : Int))) - (IntKind.i64.wrap (n51 - a_1))))), cmp] h74 fun r96 h97 =>
∃ n70 : Int,
∃ t25 : Bool,
r96 = (.tuple #[(.int .i64 n70), (.bool t25)]) ∧
(8 : Int) ≠ 0 ∧
bcase (decide ((IntKind.i64.wrap (n70 - a_1)) < (IntKind.i64.wrap (b_1 - n70)))) (
Runs Tryd.prog 90 #[(.slice data dataL dataC), (.int .i64 a_1), (.int .i64 n70), (.int .i64 limit_1), cmp] h97 fun r97 h98 =>
I1 (IntKind.i64.wrap (n70 + (1 : Int))) b_1 limit_1 (decide ((IntKind.i64.wrap (((IntKind.i64.wrap (b_1 - a_1))).tdiv (8 : Int))) ≤ (IntKind.i64.wrap (n70 - a_1)))) t25 h98 ∧ m1 (IntKind.i64.wrap (n70 + (1 : Int))) b_1 limit_1 (decide ((IntKind.i64.wrap (((IntKind.i64.wrap (b_1 - a_1))).tdiv (8 : Int))) ≤ (IntKind.i64.wrap (n70 - a_1)))) t25 h98 < m1 a_1 b_1 limit_1 wasBalanced_1 wasPartitioned_1 h1) (
Runs Tryd.prog 90 #[(.slice data dataL dataC), (.int .i64 (IntKind.i64.wrap (n70 + (1 : Int)))), (.int .i64 b_1), (.int .i64 limit_1), cmp] h97 fun r98 h99 =>
I1 a_1 n70 limit_1 (decide ((IntKind.i64.wrap (((IntKind.i64.wrap (b_1 - a_1))).tdiv (8 : Int))) ≤ (IntKind.i64.wrap (b_1 - n70)))) t25 h99 ∧ m1 a_1 n70 limit_1 (decide ((IntKind.i64.wrap (((IntKind.i64.wrap (b_1 - a_1))).tdiv (8 : Int))) ≤ (IntKind.i64.wrap (b_1 - n70)))) t25 h99 < m1 a_1 b_1 limit_1 wasBalanced_1 wasPartitioned_1 h1)))) (
bcase (decide ((0 : Int) < a_1)) (
(0 ≤ (IntKind.i64.wrap (a_1 - (1 : Int))) ∧ (IntKind.i64.wrap (a_1 - (1 : Int))) < ((dataL : Nat) : Int)) ∧
onAddr data fun b23 o23 =>
∃ n71 : Int, cell h74 b23 (o23 + ((IntKind.i64.wrap (a_1 - (1 : Int)))).toNat) = some (.int .i64 n71) ∧
(0 ≤ (IntKind.i64.wrap ((IntKind.i64.wrap (b_1 - (1 : Int))) - (IntKind.i64.wrap (n51 - a_1)))) ∧ (IntKind.i64.wrap ((IntKind.i64.wrap (b_1 - (1 : Int))) - (IntKind.i64.wrap (n51 - a_1)))) < ((dataL : Nat) : Int)) ∧
onAddr data fun b24 o24 =>
∃ n72 : Int, cell h74 b24 (o24 + ((IntKind.i64.wrap ((IntKind.i64.wrap (b_1 - (1 : Int))) - (IntKind.i64.wrap (n51 - a_1))))).toNat) = some (.int .i64 n72) ∧
callv Tryd.prog cmp [(.int .i64 n71), (.int .i64 n72)] h74 fun r99 h100 =>
∃ n73 : Int,
r99 = (.int .i64 n73) ∧
bcase (!(decide (n73 < (0 : Int)))) (
Runs Tryd.prog 100 #[(.slice data dataL dataC), (.int .i64 a_1), (.int .i64 b_1), (.int .i64 (IntKind.i64.wrap ((IntKind.i64.wrap (b_1 - (1 : Int))) - (IntKind.i64.wrap (n51 - a_1))))), cmp] h100 fun r100 h101 =>
∃ n74 : Int,
r100 = (.int .i64 n74) ∧
I1 n74 b_1 limit_1 wasBalanced_1 wasPartitioned_1 h101 ∧ m1 n74 b_1 limit_1 wasBalanced_1 wasPartitioned_1 h101 < m1 a_1 b_1 limit_1 wasBalanced_1 wasPartitioned_1 h1) (
Runs Tryd.prog 101 #[(.slice data dataL dataC), (.int .i64 a_1), (.int .i64 b_1), (.int .i64 (IntKind.i64.wrap ((IntKind.i64.wrap (b_1 - (1 : Int))) - (IntKind.i64.wrap (n51 - a_1))))), cmp] h100 fun r101 h102 =>
∃ n75 : Int,
∃ t26 : Bool,
r101 = (.tuple #[(.int .i64 n75), (.bool t26)]) ∧
(8 : Int) ≠ 0 ∧
bcase (decide ((IntKind.i64.wrap (n75 - a_1)) < (IntKind.i64.wrap (b_1 - n75)))) (
Runs Tryd.prog 90 #[(.slice data dataL dataC), (.int .i64 a_1), (.int .i64 n75), (.int .i64 limit_1), cmp] h102 fun r102 h103 =>
I1 (IntKind.i64.wrap (n75 + (1 : Int))) b_1 limit_1 (decide ((IntKind.i64.wrap (((IntKind.i64.wrap (b_1 - a_1))).tdiv (8 : Int))) ≤ (IntKind.i64.wrap (n75 - a_1)))) t26 h103 ∧ m1 (IntKind.i64.wrap (n75 + (1 : Int))) b_1 limit_1 (decide ((IntKind.i64.wrap (((IntKind.i64.wrap (b_1 - a_1))).tdiv (8 : Int))) ≤ (IntKind.i64.wrap (n75 - a_1)))) t26 h103 < m1 a_1 b_1 limit_1 wasBalanced_1 wasPartitioned_1 h1) (
Runs Tryd.prog 90 #[(.slice data dataL dataC), (.int .i64 (IntKind.i64.wrap (n75 + (1 : Int)))), (.int .i64 b_1), (.int .i64 limit_1), cmp] h102 fun r103 h104 =>
I1 a_1 n75 limit_1 (decide ((IntKind.i64.wrap (((IntKind.i64.wrap (b_1 - a_1))).tdiv (8 : Int))) ≤ (IntKind.i64.wrap (b_1 - n75)))) t26 h104 ∧ m1 a_1 n75 limit_1 (decide ((IntKind.i64.wrap (((IntKind.i64.wrap (b_1 - a_1))).tdiv (8 : Int))) ≤ (IntKind.i64.wrap (b_1 - n75)))) t26 h104 < m1 a_1 b_1 limit_1 wasBalanced_1 wasPartitioned_1 h1))) (
Runs Tryd.prog 101 #[(.slice data dataL dataC), (.int .i64 a_1), (.int .i64 b_1), (.int .i64 (IntKind.i64.wrap ((IntKind.i64.wrap (b_1 - (1 : Int))) - (IntKind.i64.wrap (n51 - a_1))))), cmp] h74 fun r104 h105 =>
∃ n76 : Int,
∃ t27 : Bool,
r104 = (.tuple #[(.int .i64 n76), (.bool t27)]) ∧
(8 : Int) ≠ 0 ∧
bcase (decide ((IntKind.i64.wrap (n76 - a_1)) < (IntKind.i64.wrap (b_1 - n76)))) (
Runs Tryd.prog 90 #[(.slice data dataL dataC), (.int .i64 a_1), (.int .i64 n76), (.int .i64 limit_1), cmp] h105 fun r105 h106 =>
I1 (IntKind.i64.wrap (n76 + (1 : Int))) b_1 limit_1 (decide ((IntKind.i64.wrap (((IntKind.i64.wrap (b_1 - a_1))).tdiv (8 : Int))) ≤ (IntKind.i64.wrap (n76 - a_1)))) t27 h106 ∧ m1 (IntKind.i64.wrap (n76 + (1 : Int))) b_1 limit_1 (decide ((IntKind.i64.wrap (((IntKind.i64.wrap (b_1 - a_1))).tdiv (8 : Int))) ≤ (IntKind.i64.wrap (n76 - a_1)))) t27 h106 < m1 a_1 b_1 limit_1 wasBalanced_1 wasPartitioned_1 h1) (
Runs Tryd.prog 90 #[(.slice data dataL dataC), (.int .i64 (IntKind.i64.wrap (n76 + (1 : Int)))), (.int .i64 b_1), (.int .i64 limit_1), cmp] h105 fun r106 h107 =>
I1 a_1 n76 limit_1 (decide ((IntKind.i64.wrap (((IntKind.i64.wrap (b_1 - a_1))).tdiv (8 : Int))) ≤ (IntKind.i64.wrap (b_1 - n76)))) t27 h107 ∧ m1 a_1 n76 limit_1 (decide ((IntKind.i64.wrap (((IntKind.i64.wrap (b_1 - a_1))).tdiv (8 : Int))) ≤ (IntKind.i64.wrap (b_1 - n76)))) t27 h107 < m1 a_1 b_1 limit_1 wasBalanced_1 wasPartitioned_1 h1)))) (
bcase wasBalanced_1 (
bcase wasPartitioned_1 (
bcase (decide (n52 = (1 : Int))) (
Runs Tryd.prog 99 #[(.slice data dataL dataC), (.int .i64 a_1), (.int .i64 b_1), cmp] h73 fun r107 h108 =>
∃ t28 : Bool,
r107 = (.bool t28) ∧
bcase t28 (
Post (.tuple #[]) h108) (
bcase (decide ((0 : Int) < a_1)) (
(0 ≤ (IntKind.i64.wrap (a_1 - (1 : Int))) ∧ (IntKind.i64.wrap (a_1 - (1 : Int))) < ((dataL : Nat) : Int)) ∧
onAddr data fun b25 o25 =>
∃ n77 : Int, cell h108 b25 (o25 + ((IntKind.i64.wrap (a_1 - (1 : Int)))).toNat) = some (.int .i64 n77) ∧
(0 ≤ n51 ∧ n51 < ((dataL : Nat) : Int)) ∧
onAddr data fun b26 o26 =>
∃ n78 : Int, cell h108 b26 (o26 + (n51).toNat) = some (.int .i64 n78) ∧
callv Tryd.prog cmp [(.int .i64 n77), (.int .i64 n78)] h108 fun r108 h109 =>
∃ n79 : Int,
r108 = (.int .i64 n79) ∧
bcase (!(decide (n79 < (0 : Int)))) (
Runs Tryd.prog 100 #[(.slice data dataL dataC), (.int .i64 a_1), (.int .i64 b_1), (.int .i64 n51), cmp] h109 fun r109 h110 =>
∃ n80 : Int,
r109 = (.int .i64 n80) ∧
I1 n80 b_1 limit_1 wasBalanced_1 wasPartitioned_1 h110 ∧ m1 n80 b_1 limit_1 wasBalanced_1 wasPartitioned_1 h110 < m1 a_1 b_1 limit_1 wasBalanced_1 wasPartitioned_1 h1) (
Runs Tryd.prog 101 #[(.slice data dataL dataC), (.int .i64 a_1), (.int .i64 b_1), (.int .i64 n51), cmp] h109 fun r110 h111 =>
∃ n81 : Int,
∃ t29 : Bool,
r110 = (.tuple #[(.int .i64 n81), (.bool t29)]) ∧
(8 : Int) ≠ 0 ∧
bcase (decide ((IntKind.i64.wrap (n81 - a_1)) < (IntKind.i64.wrap (b_1 - n81)))) (
Runs Tryd.prog 90 #[(.slice data dataL dataC), (.int .i64 a_1), (.int .i64 n81), (.int .i64 limit_1), cmp] h111 fun r111 h112 =>
I1 (IntKind.i64.wrap (n81 + (1 : Int))) b_1 limit_1 (decide ((IntKind.i64.wrap (((IntKind.i64.wrap (b_1 - a_1))).tdiv (8 : Int))) ≤ (IntKind.i64.wrap (n81 - a_1)))) t29 h112 ∧ m1 (IntKind.i64.wrap (n81 + (1 : Int))) b_1 limit_1 (decide ((IntKind.i64.wrap (((IntKind.i64.wrap (b_1 - a_1))).tdiv (8 : Int))) ≤ (IntKind.i64.wrap (n81 - a_1)))) t29 h112 < m1 a_1 b_1 limit_1 wasBalanced_1 wasPartitioned_1 h1) (
Runs Tryd.prog 90 #[(.slice data dataL dataC), (.int .i64 (IntKind.i64.wrap (n81 + (1 : Int)))), (.int .i64 b_1), (.int .i64 limit_1), cmp] h111 fun r112 h113 =>
I1 a_1 n81 limit_1 (decide ((IntKind.i64.wrap (((IntKind.i64.wrap (b_1 - a_1))).tdiv (8 : Int))) ≤ (IntKind.i64.wrap (b_1 - n81)))) t29 h113 ∧ m1 a_1 n81 limit_1 (decide ((IntKind.i64.wrap (((IntKind.i64.wrap (b_1 - a_1))).tdiv (8 : Int))) ≤ (IntKind.i64.wrap (b_1 - n81)))) t29 h113 < m1 a_1 b_1 limit_1 wasBalanced_1 wasPartitioned_1 h1))) (
Runs Tryd.prog 101 #[(.slice data dataL dataC), (.int .i64 a_1), (.int .i64 b_1), (.int .i64 n51), cmp] h108 fun r113 h114 =>
∃ n82 : Int,
∃ t30 : Bool,
r113 = (.tuple #[(.int .i64 n82), (.bool t30)]) ∧
(8 : Int) ≠ 0 ∧
bcase (decide ((IntKind.i64.wrap (n82 - a_1)) < (IntKind.i64.wrap (b_1 - n82)))) (
Runs Tryd.prog 90 #[(.slice data dataL dataC), (.int .i64 a_1), (.int .i64 n82), (.int .i64 limit_1), cmp] h114 fun r114 h115 =>
I1 (IntKind.i64.wrap (n82 + (1 : Int))) b_1 limit_1 (decide ((IntKind.i64.wrap (((IntKind.i64.wrap (b_1 - a_1))).tdiv (8 : Int))) ≤ (IntKind.i64.wrap (n82 - a_1)))) t30 h115 ∧ m1 (IntKind.i64.wrap (n82 + (1 : Int))) b_1 limit_1 (decide ((IntKind.i64.wrap (((IntKind.i64.wrap (b_1 - a_1))).tdiv (8 : Int))) ≤ (IntKind.i64.wrap (n82 - a_1)))) t30 h115 < m1 a_1 b_1 limit_1 wasBalanced_1 wasPartitioned_1 h1) (
Runs Tryd.prog 90 #[(.slice data dataL dataC), (.int .i64 (IntKind.i64.wrap (n82 + (1 : Int)))), (.int .i64 b_1), (.int .i64 limit_1), cmp] h114 fun r115 h116 =>
I1 a_1 n82 limit_1 (decide ((IntKind.i64.wrap (((IntKind.i64.wrap (b_1 - a_1))).tdiv (8 : Int))) ≤ (IntKind.i64.wrap (b_1 - n82)))) t30 h116 ∧ m1 a_1 n82 limit_1 (decide ((IntKind.i64.wrap (((IntKind.i64.wrap (b_1 - a_1))).tdiv (8 : Int))) ≤ (IntKind.i64.wrap (b_1 - n82)))) t30 h116 < m1 a_1 b_1 limit_1 wasBalanced_1 wasPartitioned_1 h1)))) (
bcase (decide ((0 : Int) < a_1)) (
(0 ≤ (IntKind.i64.wrap (a_1 - (1 : Int))) ∧ (IntKind.i64.wrap (a_1 - (1 : Int))) < ((dataL : Nat) : Int)) ∧
onAddr data fun b27 o27 =>
∃ n83 : Int, cell h73 b27 (o27 + ((IntKind.i64.wrap (a_1 - (1 : Int)))).toNat) = some (.int .i64 n83) ∧
(0 ≤ n51 ∧ n51 < ((dataL : Nat) : Int)) ∧
onAddr data fun b28 o28 =>
∃ n84 : Int, cell h73 b28 (o28 + (n51).toNat) = some (.int .i64 n84) ∧
callv Tryd.prog cmp [(.int .i64 n83), (.int .i64 n84)] h73 fun r116 h117 =>
∃ n85 : Int,
r116 = (.int .i64 n85) ∧
bcase (!(decide (n85 < (0 : Int)))) (
Runs Tryd.prog 100 #[(.slice data dataL dataC), (.int .i64 a_1), (.int .i64 b_1), (.int .i64 n51), cmp] h117 fun r117 h118 =>
∃ n86 : Int,
r117 = (.int .i64 n86) ∧
I1 n86 b_1 limit_1 wasBalanced_1 wasPartitioned_1 h118 ∧ m1 n86 b_1 limit_1 wasBalanced_1 wasPartitioned_1 h118 < m1 a_1 b_1 limit_1 wasBalanced_1 wasPartitioned_1 h1) (
Runs Tryd.prog 101 #[(.slice data dataL dataC), (.int .i64 a_1), (.int .i64 b_1), (.int .i64 n51), cmp] h117 fun r118 h119 =>
∃ n87 : Int,
∃ t31 : Bool,
r118 = (.tuple #[(.int .i64 n87), (.bool t31)]) ∧
(8 : Int) ≠ 0 ∧
bcase (decide ((IntKind.i64.wrap (n87 - a_1)) < (IntKind.i64.wrap (b_1 - n87)))) (
Runs Tryd.prog 90 #[(.slice data dataL dataC), (.int .i64 a_1), (.int .i64 n87), (.int .i64 limit_1), cmp] h119 fun r119 h120 =>
I1 (IntKind.i64.wrap (n87 + (1 : Int))) b_1 limit_1 (decide ((IntKind.i64.wrap (((IntKind.i64.wrap (b_1 - a_1))).tdiv (8 : Int))) ≤ (IntKind.i64.wrap (n87 - a_1)))) t31 h120 ∧ m1 (IntKind.i64.wrap (n87 + (1 : Int))) b_1 limit_1 (decide ((IntKind.i64.wrap (((IntKind.i64.wrap (b_1 - a_1))).tdiv (8 : Int))) ≤ (IntKind.i64.wrap (n87 - a_1)))) t31 h120 < m1 a_1 b_1 limit_1 wasBalanced_1 wasPartitioned_1 h1) (
Runs Tryd.prog 90 #[(.slice data dataL dataC), (.int .i64 (IntKind.i64.wrap (n87 + (1 : Int)))), (.int .i64 b_1), (.int .i64 limit_1), cmp] h119 fun r120 h121 =>
I1 a_1 n87 limit_1 (decide ((IntKind.i64.wrap (((IntKind.i64.wrap (b_1 - a_1))).tdiv (8 : Int))) ≤ (IntKind.i64.wrap (b_1 - n87)))) t31 h121 ∧ m1 a_1 n87 limit_1 (decide ((IntKind.i64.wrap (((IntKind.i64.wrap (b_1 - a_1))).tdiv (8 : Int))) ≤ (IntKind.i64.wrap (b_1 - n87)))) t31 h121 < m1 a_1 b_1 limit_1 wasBalanced_1 wasPartitioned_1 h1))) (
Runs Tryd.prog 101 #[(.slice data dataL dataC), (.int .i64 a_1), (.int .i64 b_1), (.int .i64 n51), cmp] h73 fun r121 h122 =>
∃ n88 : Int,
∃ t32 : Bool,
r121 = (.tuple #[(.int .i64 n88), (.bool t32)]) ∧
(8 : Int) ≠ 0 ∧
bcase (decide ((IntKind.i64.wrap (n88 - a_1)) < (IntKind.i64.wrap (b_1 - n88)))) (
Runs Tryd.prog 90 #[(.slice data dataL dataC), (.int .i64 a_1), (.int .i64 n88), (.int .i64 limit_1), cmp] h122 fun r122 h123 =>
I1 (IntKind.i64.wrap (n88 + (1 : Int))) b_1 limit_1 (decide ((IntKind.i64.wrap (((IntKind.i64.wrap (b_1 - a_1))).tdiv (8 : Int))) ≤ (IntKind.i64.wrap (n88 - a_1)))) t32 h123 ∧ m1 (IntKind.i64.wrap (n88 + (1 : Int))) b_1 limit_1 (decide ((IntKind.i64.wrap (((IntKind.i64.wrap (b_1 - a_1))).tdiv (8 : Int))) ≤ (IntKind.i64.wrap (n88 - a_1)))) t32 h123 < m1 a_1 b_1 limit_1 wasBalanced_1 wasPartitioned_1 h1) (
Runs Tryd.prog 90 #[(.slice data dataL dataC), (.int .i64 (IntKind.i64.wrap (n88 + (1 : Int)))), (.int .i64 b_1), (.int .i64 limit_1), cmp] h122 fun r123 h124 =>
I1 a_1 n88 limit_1 (decide ((IntKind.i64.wrap (((IntKind.i64.wrap (b_1 - a_1))).tdiv (8 : Int))) ≤ (IntKind.i64.wrap (b_1 - n88)))) t32 h124 ∧ m1 a_1 n88 limit_1 (decide ((IntKind.i64.wrap (((IntKind.i64.wrap (b_1 - a_1))).tdiv (8 : Int))) ≤ (IntKind.i64.wrap (b_1 - n88)))) t32 h124 < m1 a_1 b_1 limit_1 wasBalanced_1 wasPartitioned_1 h1)))) (
bcase (decide ((0 : Int) < a_1)) (
(0 ≤ (IntKind.i64.wrap (a_1 - (1 : Int))) ∧ (IntKind.i64.wrap (a_1 - (1 : Int))) < ((dataL : Nat) : Int)) ∧
onAddr data fun b29 o29 =>
∃ n89 : Int, cell h73 b29 (o29 + ((IntKind.i64.wrap (a_1 - (1 : Int)))).toNat) = some (.int .i64 n89) ∧
(0 ≤ n51 ∧ n51 < ((dataL : Nat) : Int)) ∧
onAddr data fun b30 o30 =>
∃ n90 : Int, cell h73 b30 (o30 + (n51).toNat) = some (.int .i64 n90) ∧
callv Tryd.prog cmp [(.int .i64 n89), (.int .i64 n90)] h73 fun r124 h125 =>
∃ n91 : Int,
r124 = (.int .i64 n91) ∧
bcase (!(decide (n91 < (0 : Int)))) (
Runs Tryd.prog 100 #[(.slice data dataL dataC), (.int .i64 a_1), (.int .i64 b_1), (.int .i64 n51), cmp] h125 fun r125 h126 =>
∃ n92 : Int,
r125 = (.int .i64 n92) ∧
I1 n92 b_1 limit_1 wasBalanced_1 wasPartitioned_1 h126 ∧ m1 n92 b_1 limit_1 wasBalanced_1 wasPartitioned_1 h126 < m1 a_1 b_1 limit_1 wasBalanced_1 wasPartitioned_1 h1) (
Runs Tryd.prog 101 #[(.slice data dataL dataC), (.int .i64 a_1), (.int .i64 b_1), (.int .i64 n51), cmp] h125 fun r126 h127 =>
∃ n93 : Int,
∃ t33 : Bool,
r126 = (.tuple #[(.int .i64 n93), (.bool t33)]) ∧
(8 : Int) ≠ 0 ∧
bcase (decide ((IntKind.i64.wrap (n93 - a_1)) < (IntKind.i64.wrap (b_1 - n93)))) (
Runs Tryd.prog 90 #[(.slice data dataL dataC), (.int .i64 a_1), (.int .i64 n93), (.int .i64 limit_1), cmp] h127 fun r127 h128 =>
I1 (IntKind.i64.wrap (n93 + (1 : Int))) b_1 limit_1 (decide ((IntKind.i64.wrap (((IntKind.i64.wrap (b_1 - a_1))).tdiv (8 : Int))) ≤ (IntKind.i64.wrap (n93 - a_1)))) t33 h128 ∧ m1 (IntKind.i64.wrap (n93 + (1 : Int))) b_1 limit_1 (decide ((IntKind.i64.wrap (((IntKind.i64.wrap (b_1 - a_1))).tdiv (8 : Int))) ≤ (IntKind.i64.wrap (n93 - a_1)))) t33 h128 < m1 a_1 b_1 limit_1 wasBalanced_1 wasPartitioned_1 h1) (
Runs Tryd.prog 90 #[(.slice data dataL dataC), (.int .i64 (IntKind.i64.wrap (n93 + (1 : Int)))), (.int .i64 b_1), (.int .i64 limit_1), cmp] h127 fun r128 h129 =>
I1 a_1 n93 limit_1 (decide ((IntKind.i64.wrap (((IntKind.i64.wrap (b_1 - a_1))).tdiv (8 : Int))) ≤ (IntKind.i64.wrap (b_1 - n93)))) t33 h129 ∧ m1 a_1 n93 limit_1 (decide ((IntKind.i64.wrap (((IntKind.i64.wrap (b_1 - a_1))).tdiv (8 : Int))) ≤ (IntKind.i64.wrap (b_1 - n93)))) t33 h129 < m1 a_1 b_1 limit_1 wasBalanced_1 wasPartitioned_1 h1))) (
Runs Tryd.prog 101 #[(.slice data dataL dataC), (.int .i64 a_1), (.int .i64 b_1), (.int .i64 n51), cmp] h73 fun r129 h130 =>
∃ n94 : Int,
∃ t34 : Bool,
r129 = (.tuple #[(.int .i64 n94), (.bool t34)]) ∧
(8 : Int) ≠ 0 ∧
bcase (decide ((IntKind.i64.wrap (n94 - a_1)) < (IntKind.i64.wrap (b_1 - n94)))) (
Runs Tryd.prog 90 #[(.slice data dataL dataC), (.int .i64 a_1), (.int .i64 n94), (.int .i64 limit_1), cmp] h130 fun r130 h131 =>
I1 (IntKind.i64.wrap (n94 + (1 : Int))) b_1 limit_1 (decide ((IntKind.i64.wrap (((IntKind.i64.wrap (b_1 - a_1))).tdiv (8 : Int))) ≤ (IntKind.i64.wrap (n94 - a_1)))) t34 h131 ∧ m1 (IntKind.i64.wrap (n94 + (1 : Int))) b_1 limit_1 (decide ((IntKind.i64.wrap (((IntKind.i64.wrap (b_1 - a_1))).tdiv (8 : Int))) ≤ (IntKind.i64.wrap (n94 - a_1)))) t34 h131 < m1 a_1 b_1 limit_1 wasBalanced_1 wasPartitioned_1 h1) (
Runs Tryd.prog 90 #[(.slice data dataL dataC), (.int .i64 (IntKind.i64.wrap (n94 + (1 : Int)))), (.int .i64 b_1), (.int .i64 limit_1), cmp] h130 fun r131 h132 =>
I1 a_1 n94 limit_1 (decide ((IntKind.i64.wrap (((IntKind.i64.wrap (b_1 - a_1))).tdiv (8 : Int))) ≤ (IntKind.i64.wrap (b_1 - n94)))) t34 h132 ∧ m1 a_1 n94 limit_1 (decide ((IntKind.i64.wrap (((IntKind.i64.wrap (b_1 - a_1))).tdiv (8 : Int))) ≤ (IntKind.i64.wrap (b_1 - n94)))) t34 h132 < m1 a_1 b_1 limit_1 wasBalanced_1 wasPartitioned_1 h1)))) (
bcase (decide ((0 : Int) < a_1)) (
(0 ≤ (IntKind.i64.wrap (a_1 - (1 : Int))) ∧ (IntKind.i64.wrap (a_1 - (1 : Int))) < ((dataL : Nat) : Int)) ∧
onAddr data fun b31 o31 =>
∃ n95 : Int, cell h73 b31 (o31 + ((IntKind.i64.wrap (a_1 - (1 : Int)))).toNat) = some (.int .i64 n95) ∧
(0 ≤ n51 ∧ n51 < ((dataL : Nat) : Int)) ∧
onAddr data fun b32 o32 =>
∃ n96 : Int, cell h73 b32 (o32 + (n51).toNat) = some (.int .i64 n96) ∧
callv Tryd.prog cmp [(.int .i64 n95), (.int .i64 n96)] h73 fun r132 h133 =>
∃ n97 : Int,
r132 = (.int .i64 n97) ∧
bcase (!(decide (n97 < (0 : Int)))) (
Runs Tryd.prog 100 #[(.slice data dataL dataC), (.int .i64 a_1), (.int .i64 b_1), (.int .i64 n51), cmp] h133 fun r133 h134 =>
∃ n98 : Int,
r133 = (.int .i64 n98) ∧
I1 n98 b_1 limit_1 wasBalanced_1 wasPartitioned_1 h134 ∧ m1 n98 b_1 limit_1 wasBalanced_1 wasPartitioned_1 h134 < m1 a_1 b_1 limit_1 wasBalanced_1 wasPartitioned_1 h1) (
Runs Tryd.prog 101 #[(.slice data dataL dataC), (.int .i64 a_1), (.int .i64 b_1), (.int .i64 n51), cmp] h133 fun r134 h135 =>
∃ n99 : Int,
∃ t35 : Bool,
r134 = (.tuple #[(.int .i64 n99), (.bool t35)]) ∧
(8 : Int) ≠ 0 ∧
bcase (decide ((IntKind.i64.wrap (n99 - a_1)) < (IntKind.i64.wrap (b_1 - n99)))) (
Runs Tryd.prog 90 #[(.slice data dataL dataC), (.int .i64 a_1), (.int .i64 n99), (.int .i64 limit_1), cmp] h135 fun r135 h136 =>
I1 (IntKind.i64.wrap (n99 + (1 : Int))) b_1 limit_1 (decide ((IntKind.i64.wrap (((IntKind.i64.wrap (b_1 - a_1))).tdiv (8 : Int))) ≤ (IntKind.i64.wrap (n99 - a_1)))) t35 h136 ∧ m1 (IntKind.i64.wrap (n99 + (1 : Int))) b_1 limit_1 (decide ((IntKind.i64.wrap (((IntKind.i64.wrap (b_1 - a_1))).tdiv (8 : Int))) ≤ (IntKind.i64.wrap (n99 - a_1)))) t35 h136 < m1 a_1 b_1 limit_1 wasBalanced_1 wasPartitioned_1 h1) (
Runs Tryd.prog 90 #[(.slice data dataL dataC), (.int .i64 (IntKind.i64.wrap (n99 + (1 : Int)))), (.int .i64 b_1), (.int .i64 limit_1), cmp] h135 fun r136 h137 =>
I1 a_1 n99 limit_1 (decide ((IntKind.i64.wrap (((IntKind.i64.wrap (b_1 - a_1))).tdiv (8 : Int))) ≤ (IntKind.i64.wrap (b_1 - n99)))) t35 h137 ∧ m1 a_1 n99 limit_1 (decide ((IntKind.i64.wrap (((IntKind.i64.wrap (b_1 - a_1))).tdiv (8 : Int))) ≤ (IntKind.i64.wrap (b_1 - n99)))) t35 h137 < m1 a_1 b_1 limit_1 wasBalanced_1 wasPartitioned_1 h1))) (
Runs Tryd.prog 101 #[(.slice data dataL dataC), (.int .i64 a_1), (.int .i64 b_1), (.int .i64 n51), cmp] h73 fun r137 h138 =>
∃ n100 : Int,
∃ t36 : Bool,
r137 = (.tuple #[(.int .i64 n100), (.bool t36)]) ∧
(8 : Int) ≠ 0 ∧
bcase (decide ((IntKind.i64.wrap (n100 - a_1)) < (IntKind.i64.wrap (b_1 - n100)))) (
Runs Tryd.prog 90 #[(.slice data dataL dataC), (.int .i64 a_1), (.int .i64 n100), (.int .i64 limit_1), cmp] h138 fun r138 h139 =>
I1 (IntKind.i64.wrap (n100 + (1 : Int))) b_1 limit_1 (decide ((IntKind.i64.wrap (((IntKind.i64.wrap (b_1 - a_1))).tdiv (8 : Int))) ≤ (IntKind.i64.wrap (n100 - a_1)))) t36 h139 ∧ m1 (IntKind.i64.wrap (n100 + (1 : Int))) b_1 limit_1 (decide ((IntKind.i64.wrap (((IntKind.i64.wrap (b_1 - a_1))).tdiv (8 : Int))) ≤ (IntKind.i64.wrap (n100 - a_1)))) t36 h139 < m1 a_1 b_1 limit_1 wasBalanced_1 wasPartitioned_1 h1) (
Runs Tryd.prog 90 #[(.slice data dataL dataC), (.int .i64 (IntKind.i64.wrap (n100 + (1 : Int)))), (.int .i64 b_1), (.int .i64 limit_1), cmp] h138 fun r139 h140 =>
I1 a_1 n100 limit_1 (decide ((IntKind.i64.wrap (((IntKind.i64.wrap (b_1 - a_1))).tdiv (8 : Int))) ≤ (IntKind.i64.wrap (b_1 - n100)))) t36 h140 ∧ m1 a_1 n100 limit_1 (decide ((IntKind.i64.wrap (((IntKind.i64.wrap (b_1 - a_1))).tdiv (8 : Int))) ≤ (IntKind.i64.wrap (b_1 - n100)))) t36 h140 < m1 a_1 b_1 limit_1 wasBalanced_1 wasPartitioned_1 h1)))))))) :
    Runs Tryd.prog 90 #[(.slice data dataL dataC), (.int .i64 a), (.int .i64 b), (.int .i64 limit), cmp] h0 Post :=
  runs_of (args := [(.slice data dataL dataC), (.int .i64 a), (.int .i64 b), (.int .i64 limit), cmp]) (fun n => ⟨false, false⟩) (fun n => match n with | 0 => [(1, .int .i64), (2, .int .i64), (3, .int .i64), (10, .bool), (11, .bool)] | _ => []) (fun _ => none) (fun _ => []) Tryd.func90 rfl (by rw [Tryd.ntmps90]; simp) (Eq.mp (by kernel_rfl) H)

theorem vc_slices_insertionSortCmpFunc_int (data : Option Addr) (dataL dataC : Nat) (a : Int) (b : Int) (cmp : Value) (h0 : Heap) (Post : Value → Heap → Prop) (H :
∃ (I1 : Int → Heap → Prop) (m1 : Int → Heap → Nat), I1 (IntKind.i64.wrap (a + (1 : Int))) h0 ∧ ∀ _ : Env,
∀ (i_1 : Int) (h1 : Heap), I1 i_1 h1 →
bcase (decide (i_1 < b)) (
∃ (I2 : Int → Heap → Prop) (m2 : Int → Heap → Nat), I2 i_1 h1 ∧ ∀ _ : Env,
∀ (j_1 : Int) (h2 : Heap), I2 j_1 h2 →
bcase (decide (a < j_1)) (
(0 ≤ j_1 ∧ j_1 < ((dataL : Nat) : Int)) ∧
onAddr data fun b1 o1 =>
∃ n1 : Int, cell h2 b1 (o1 + (j_1).toNat) = some (.int .i64 n1) ∧
(0 ≤ (IntKind.i64.wrap (j_1 - (1 : Int))) ∧ (IntKind.i64.wrap (j_1 - (1 : Int))) < ((dataL : Nat) : Int)) ∧
onAddr data fun b2 o2 =>
∃ n2 : Int, cell h2 b2 (o2 + ((IntKind.i64.wrap (j_1 - (1 : Int)))).toNat) = some (.int .i64 n2) ∧
callv Tryd.prog cmp [(.int .i64 n1), (.int .i64 n2)] h2 fun r1 h3 =>
∃ n3 : Int,
r1 = (.int .i64 n3) ∧
bcase (decide (n3 < (0 : Int))) (
(0 ≤ (IntKind.i64.wrap (j_1 - (1 : Int))) ∧ (IntKind.i64.wrap (j_1 - (1 : Int))) < ((dataL : Nat) : Int)) ∧
onAddr data fun b3 o3 =>
∃ n4 : Int, cell h3 b3 (o3 + ((IntKind.i64.wrap (j_1 - (1 : Int)))).toNat) = some (.int .i64 n4) ∧
(0 ≤ j_1 ∧ j_1 < ((dataL : Nat) : Int)) ∧
onAddr data fun b4 o4 =>
∃ n5 : Int, cell h3 b4 (o4 + (j_1).toNat) = some (.int .i64 n5) ∧
(0 ≤ j_1 ∧ j_1 < ((dataL : Nat) : Int)) ∧
onAddr data fun b5 o5 =>
wr h3 b5 (o5 + (j_1).toNat) ∧ ∀ h4 : Heap, h4 = setc h3 b5 (o5 + (j_1).toNat) (.int .i64 n4) →
(0 ≤ (IntKind.i64.wrap (j_1 - (1 : Int))) ∧ (IntKind.i64.wrap (j_1 - (1 : Int))) < ((dataL : Nat) : Int)) ∧
onAddr data fun b6 o6 =>
wr h4 b6 (o6 + ((IntKind.i64.wrap (j_1 - (1 : Int)))).toNat) ∧ ∀ h5 : Heap, h5 = setc h4 b6 (o6 + ((IntKind.i64.wrap (j_1 - (1 : Int)))).toNat) (.int .i64 n5) →
I2 (IntKind.i64.wrap (j_1 - (1 : Int))) h5 ∧ m2 (IntKind.i64.wrap (j_1 - (1 : Int))) h5 < m2 j_1 h2) (
I1 (IntKind.i64.wrap (i_1 + (1 : Int))) h3 ∧ m1 (IntKind.i64.wrap (i_1 + (1 : Int))) h3 < m1 i_1 h1)) (
I1 (IntKind.i64.wrap (i_1 + (1 : Int))) h2 ∧ m1 (IntKind.i64.wrap (i_1 + (1 : Int))) h2 < m1 i_1 h1)) (
Post (.tuple #[]) h1)) :
    Runs Tryd.prog 94 #[(.slice data dataL dataC), (.int .i64 a), (.int .i64 b), cmp] h0 Post :=
  runs_of (args := [(.slice data dataL dataC), (.int .i64 a), (.int .i64 b), cmp]) (fun n => ⟨false, false⟩) (fun n => match n with | 0 => [(8, .int .i64)] | 2 => [(9, .int .i64)] | _ => []) (fun _ => none) (fun _ => []) Tryd.func94 rfl (by rw [Tryd.ntmps94]; simp) (Eq.mp (by kernel_rfl) H)

theorem vc_math_bits_Len (x : Int) (h0 : Heap) (Post : Value → Heap → Prop) (H :
Runs Tryd.prog 103 #[(.int .u64 x)] h0 fun r1 h1 =>
∃ n1 : Int,
r1 = (.int .i64 n1) ∧
Post (.int .i64 n1) h1) :
    Runs Tryd.prog 91 #[(.int .u64 x)] h0 Post :=
  runs_of (args := [(.int .u64 x)]) (fun n => ⟨false, false⟩) (fun _ => []) (fun _ => none) (fun _ => []) Tryd.func91 rfl (by rw [Tryd.ntmps91]; simp) (Eq.mp (by kernel_rfl) H)

theorem vc_math_bits_Len64 (x : Int) (h0 : Heap) (Post : Value → Heap → Prop) (H :
bcase (decide ((4294967296 : Int) ≤ x)) (
(0 ≤ (32 : Int) ∧ (32 : Int) ≤ kbits .u64) ∧
bcase (decide ((65536 : Int) ≤ (x / (4294967296 : Int)))) (
(0 ≤ (16 : Int) ∧ (16 : Int) ≤ kbits .u64) ∧
bcase (decide ((256 : Int) ≤ ((x / (4294967296 : Int)) / (65536 : Int)))) (
(0 ≤ (8 : Int) ∧ (8 : Int) ≤ kbits .u64) ∧
(0 ≤ (IntKind.u8.wrap (((x / (4294967296 : Int)) / (65536 : Int)) / (256 : Int))) ∧ (IntKind.u8.wrap (((x / (4294967296 : Int)) / (65536 : Int)) / (256 : Int))) < (((⟨#[0, 1, 2, 2, 3, 3, 3, 3, 4, 4, 4, 4, 4, 4, 4, 4, 5, 5, 5, 5, 5, 5, 5, 5, 5, 5, 5, 5, 5, 5, 5, 5, 6, 6, 6, 6, 6, 6, 6, 6, 6, 6, 6, 6, 6, 6, 6, 6, 6, 6, 6, 6, 6, 6, 6, 6, 6, 6, 6, 6, 6, 6, 6, 6, 7, 7, 7, 7, 7, 7, 7, 7, 7, 7, 7, 7, 7, 7, 7, 7, 7, 7, 7, 7, 7, 7, 7, 7, 7, 7, 7, 7, 7, 7, 7, 7, 7, 7, 7, 7, 7, 7, 7, 7, 7, 7, 7, 7, 7, 7, 7, 7, 7, 7, 7, 7, 7, 7, 7, 7, 7, 7, 7, 7, 7, 7, 7, 7, 8, 8, 8, 8, 8, 8, 8, 8, 8, 8, 8, 8, 8, 8, 8, 8, 8, 8, 8, 8, 8, 8, 8, 8, 8, 8, 8, 8, 8, 8, 8, 8, 8, 8, 8, 8, 8, 8, 8, 8, 8, 8, 8, 8, 8, 8, 8, 8, 8, 8, 8, 8, 8, 8, 8, 8, 8, 8, 8, 8, 8, 8, 8, 8, 8, 8, 8, 8, 8, 8, 8, 8, 8, 8, 8, 8, 8, 8, 8, 8, 8, 8, 8, 8, 8, 8, 8, 8, 8, 8, 8, 8, 8, 8, 8, 8, 8, 8, 8, 8, 8, 8, 8, 8, 8, 8, 8, 8, 8, 8, 8, 8, 8, 8, 8, 8, 8, 8, 8, 8, 8, 8, 8, 8, 8, 8, 8, 8]⟩ : ByteArray).size : Nat) : Int)) ∧
Post (.int .i64 (IntKind.i64.wrap ((IntKind.i64.wrap ((IntKind.i64.wrap ((32 : Int) + (16 : Int))) + (8 : Int))) + (IntKind.i64.wrap (strAt ⟨#[0, 1, 2, 2, 3, 3, 3, 3, 4, 4, 4, 4, 4, 4, 4, 4, 5, 5, 5, 5, 5, 5, 5, 5, 5, 5, 5, 5, 5, 5, 5, 5, 6, 6, 6, 6, 6, 6, 6, 6, 6, 6, 6, 6, 6, 6, 6, 6, 6, 6, 6, 6, 6, 6, 6, 6, 6, 6, 6, 6, 6, 6, 6, 6, 7, 7, 7, 7, 7, 7, 7, 7, 7, 7, 7, 7, 7, 7, 7, 7, 7, 7, 7, 7, 7, 7, 7, 7, 7, 7, 7, 7, 7, 7, 7, 7, 7, 7, 7, 7, 7, 7, 7, 7, 7, 7, 7, 7, 7, 7, 7, 7, 7, 7, 7, 7, 7, 7, 7, 7, 7, 7, 7, 7, 7, 7, 7, 7, 8, 8, 8, 8, 8, 8, 8, 8, 8, 8, 8, 8, 8, 8, 8, 8, 8, 8, 8, 8, 8, 8, 8, 8, 8, 8, 8, 8, 8, 8, 8, 8, 8, 8, 8, 8, 8, 8, 8, 8, 8, 8, 8, 8, 8, 8, 8, 8, 8, 8, 8, 8, 8, 8, 8, 8, 8, 8, 8, 8, 8, 8, 8, 8, 8, 8, 8, 8, 8, 8, 8, 8, 8, 8, 8, 8, 8, 8, 8, 8, 8, 8, 8, 8, 8, 8, 8, 8, 8, 8, 8, 8, 8, 8, 8, 8, 8, 8, 8, 8, 8, 8, 8, 8, 8, 8, 8, 8, 8, 8, 8, 8, 8, 8, 8, 8, 8, 8, 8, 8, 8, 8, 8, 8, 8, 8, 8, 8]⟩ ((IntKind.u8.wrap (((x / (4294967296 : Int)) / (65536 : Int)) / (256 : Int)))).toNat))))) h0) (
(0 ≤ (IntKind.u8.wrap ((x / (4294967296 : Int)) / (65536 : Int))) ∧ (IntKind.u8.wrap ((x / (4294967296 : Int)) / (65536 : Int))) < (((⟨#[0, 1, 2, 2, 3, 3, 3, 3, 4, 4, 4, 4, 4, 4, 4, 4, 5, 5, 5, 5, 5, 5, 5, 5, 5, 5, 5, 5, 5, 5, 5, 5, 6, 6, 6, 6, 6, 6, 6, 6, 6, 6, 6, 6, 6, 6, 6, 6, 6, 6, 6, 6, 6, 6, 6, 6, 6, 6, 6, 6, 6, 6, 6, 6, 7, 7, 7, 7, 7, 7, 7, 7, 7, 7, 7, 7, 7, 7, 7, 7, 7, 7, 7, 7, 7, 7, 7, 7, 7, 7, 7, 7, 7, 7, 7, 7, 7, 7, 7, 7, 7, 7, 7, 7, 7, 7, 7, 7, 7, 7, 7, 7, 7, 7, 7, 7, 7, 7, 7, 7, 7, 7, 7, 7, 7, 7, 7, 7, 8, 8, 8, 8, 8, 8, 8, 8, 8, 8, 8, 8, 8, 8, 8, 8, 8, 8, 8, 8, 8, 8, 8, 8, 8, 8, 8, 8, 8, 8, 8, 8, 8, 8, 8, 8, 8, 8, 8, 8, 8, 8, 8, 8, 8, 8, 8, 8, 8, 8, 8, 8, 8, 8, 8, 8, 8, 8, 8, 8, 8, 8, 8, 8, 8, 8, 8, 8, 8, 8, 8, 8, 8, 8, 8, 8, 8, 8, 8, 8, 8, 8, 8, 8, 8, 8, 8, 8, 8, 8, 8, 8, 8, 8, 8, 8, 8, 8, 8, 8, 8, 8, 8, 8, 8, 8, 8, 8, 8, 8, 8, 8, 8, 8, 8, 8, 8, 8, 8, 8, 8, 8, 8, 8, 8, 8, 8, 8]⟩ : ByteArray).size : Nat) : Int)) ∧
Post (.int .i64 (IntKind.i64.wrap ((IntKind.i64.wrap ((32 : Int) + (16 : Int))) + (IntKind.i64.wrap (strAt ⟨#[0, 1, 2, 2, 3, 3, 3, 3, 4, 4, 4, 4, 4, 4, 4, 4, 5, 5, 5, 5, 5, 5, 5, 5, 5, 5, 5, 5, 5, 5, 5, 5, 6, 6, 6, 6, 6, 6, 6, 6, 6, 6, 6, 6, 6, 6, 6, 6, 6, 6, 6, 6, 6, 6, 6, 6, 6, 6, 6, 6, 6, 6, 6, 6, 7, 7, 7, 7, 7, 7, 7, 7, 7, 7, 7, 7, 7, 7, 7, 7, 7, 7, 7, 7, 7, 7, 7, 7, 7, 7, 7, 7, 7, 7, 7, 7, 7, 7, 7, 7, 7, 7, 7, 7, 7, 7, 7, 7, 7, 7, 7, 7, 7, 7, 7, 7, 7, 7, 7, 7, 7, 7, 7, 7, 7, 7, 7, 7, 8, 8, 8, 8, 8, 8, 8, 8, 8, 8, 8, 8, 8, 8, 8, 8, 8, 8, 8, 8, 8, 8, 8, 8, 8, 8, 8, 8, 8, 8, 8, 8, 8, 8, 8, 8, 8, 8, 8, 8, 8, 8, 8, 8, 8, 8, 8, 8, 8, 8, 8, 8, 8, 8, 8, 8, 8, 8, 8, 8, 8, 8, 8, 8, 8, 8, 8, 8, 8, 8, 8, 8, 8, 8, 8, 8, 8, 8, 8, 8, 8, 8, 8, 8, 8, 8, 8, 8, 8, 8, 8, 8, 8, 8, 8, 8, 8, 8, 8, 8, 8, 8, 8, 8, 8, 8, 8, 8, 8, 8, 8, 8, 8, 8, 8, 8, 8, 8, 8, 8, 8, 8, 8, 8, 8, 8, 8, 8]⟩ ((IntKind.u8.wrap ((x / (4294967296 : Int)) / (65536 : Int)))).toNat))))) h0)) (
bcase (decide ((256 : Int) ≤ (x / (4294967296 : Int)))) (
(0 ≤ (8 : Int) ∧ (8 : Int) ≤ kbits .u64) ∧
(0 ≤ (IntKind.u8.wrap ((x / (4294967296 : Int)) / (256 : Int))) ∧ (IntKind.u8.wrap ((x / (4294967296 : Int)) / (256 : Int))) < (((⟨#[0, 1, 2, 2, 3, 3, 3, 3, 4, 4, 4, 4, 4, 4, 4, 4, 5, 5, 5, 5, 5, 5, 5, 5, 5, 5, 5, 5, 5, 5, 5, 5, 6, 6, 6, 6, 6, 6, 6, 6, 6, 6, 6, 6, 6, 6, 6, 6, 6, 6, 6, 6, 6, 6, 6, 6, 6, 6, 6, 6, 6, 6, 6, 6, 7, 7, 7, 7, 7, 7, 7, 7, 7, 7, 7, 7, 7, 7, 7, 7, 7, 7, 7, 7, 7, 7, 7, 7, 7, 7, 7, 7, 7, 7, 7, 7, 7, 7, 7, 7, 7, 7, 7, 7, 7, 7, 7, 7, 7, 7, 7, 7, 7, 7, 7, 7, 7, 7, 7, 7, 7, 7, 7, 7, 7, 7, 7, 7, 8, 8, 8, 8, 8, 8, 8, 8, 8, 8, 8, 8, 8, 8, 8, 8, 8, 8, 8, 8, 8, 8, 8, 8, 8, 8, 8, 8, 8, 8, 8, 8, 8, 8, 8, 8, 8, 8, 8, 8, 8, 8, 8, 8, 8, 8, 8, 8, 8, 8, 8, 8, 8, 8, 8, 8, 8, 8, 8, 8, 8, 8, 8, 8, 8, 8, 8, 8, 8, 8, 8, 8, 8, 8, 8, 8, 8, 8, 8, 8, 8, 8, 8, 8, 8, 8, 8, 8, 8, 8, 8, 8, 8, 8, 8, 8, 8, 8, 8, 8, 8, 8, 8, 8, 8, 8, 8, 8, 8, 8, 8, 8, 8, 8, 8, 8, 8, 8, 8, 8, 8, 8, 8, 8, 8, 8, 8, 8]⟩ : ByteArray).size : Nat) : Int)) ∧
Post (.int .i64 (IntKind.i64.wrap ((IntKind.i64.wrap ((32 : Int) + (8 : Int))) + (IntKind.i64.wrap (strAt ⟨#[0, 1, 2, 2, 3, 3, 3, 3, 4, 4, 4, 4, 4, 4, 4, 4, 5, 5, 5, 5, 5, 5, 5, 5, 5, 5, 5, 5, 5, 5, 5, 5, 6, 6, 6, 6, 6, 6, 6, 6, 6, 6, 6, 6, 6, 6, 6, 6, 6, 6, 6, 6, 6, 6, 6, 6, 6, 6, 6, 6, 6, 6, 6, 6, 7, 7, 7, 7, 7, 7, 7, 7, 7, 7, 7, 7, 7, 7, 7, 7, 7, 7, 7, 7, 7, 7, 7, 7, 7, 7, 7, 7, 7, 7, 7, 7, 7, 7, 7, 7, 7, 7, 7, 7, 7, 7, 7, 7, 7, 7, 7, 7, 7, 7, 7, 7, 7, 7, 7, 7, 7, 7, 7, 7, 7, 7, 7, 7, 8, 8, 8, 8, 8, 8, 8, 8, 8, 8, 8, 8, 8, 8, 8, 8, 8, 8, 8, 8, 8, 8, 8, 8, 8, 8, 8, 8, 8, 8, 8, 8, 8, 8, 8, 8, 8, 8, 8, 8, 8, 8, 8, 8, 8, 8, 8, 8, 8, 8, 8, 8, 8, 8, 8, 8, 8, 8, 8, 8, 8, 8, 8, 8, 8, 8, 8, 8, 8, 8, 8, 8, 8, 8, 8, 8, 8, 8, 8, 8, 8, 8, 8, 8, 8, 8, 8, 8, 8, 8, 8, 8, 8, 8, 8, 8, 8, 8, 8, 8, 8, 8, 8, 8, 8, 8, 8, 8, 8, 8, 8, 8, 8, 8, 8, 8, 8, 8, 8, 8, 8, 8, 8, 8, 8, 8, 8, 8]⟩ ((IntKind.u8.wrap ((x / (4294967296 : Int)) / (256 : Int)))).toNat))))) h0) (
(0 ≤ (IntKind.u8.wrap (x / (4294967296 : Int))) ∧ (IntKind.u8.wrap (x / (4294967296 : Int))) < (((⟨#[0, 1, 2, 2, 3, 3, 3, 3, 4, 4, 4, 4, 4, 4, 4, 4, 5, 5, 5, 5, 5, 5, 5, 5, 5, 5, 5, 5, 5, 5, 5, 5, 6, 6, 6, 6, 6, 6, 6, 6, 6, 6, 6, 6, 6, 6, 6, 6, 6, 6, 6, 6, 6, 6, 6, 6, 6, 6, 6, 6, 6, 6, 6, 6, 7, 7, 7, 7, 7, 7, 7, 7, 7, 7, 7, 7, 7, 7, 7, 7, 7, 7, 7, 7, 7, 7, 7, 7, 7, 7, 7, 7, 7, 7, 7, 7, 7, 7, 7, 7, 7, 7, 7, 7, 7, 7, 7, 7, 7, 7, 7, 7, 7, 7, 7, 7, 7, 7, 7, 7, 7, 7, 7, 7, 7, 7, 7, 7, 8, 8, 8, 8, 8, 8, 8, 8, 8, 8, 8, 8, 8, 8, 8, 8, 8, 8, 8, 8, 8, 8, 8, 8, 8, 8, 8, 8, 8, 8, 8, 8, 8, 8, 8, 8, 8, 8, 8, 8, 8, 8, 8, 8, 8, 8, 8, 8, 8, 8, 8, 8, 8, 8, 8, 8, 8, 8, 8, 8, 8, 8, 8, 8, 8, 8, 8, 8, 8, 8, 8, 8, 8, 8, 8, 8, 8, 8, 8, 8, 8, 8, 8, 8, 8, 8, 8, 8, 8, 8, 8, 8, 8, 8, 8, 8, 8, 8, 8, 8, 8, 8, 8, 8, 8, 8, 8, 8, 8, 8, 8, 8, 8, 8, 8, 8, 8, 8, 8, 8, 8, 8, 8, 8, 8, 8, 8, 8]⟩ : ByteArray).size : Nat) : Int)) ∧
Post (.int .i64 (IntKind.i64.wrap ((32 : Int) + (IntKind.i64.wrap (strAt ⟨#[0, 1, 2, 2, 3, 3, 3, 3, 4, 4, 4, 4, 4, 4, 4, 4, 5, 5, 5, 5, 5, 5, 5, 5, 5, 5, 5, 5, 5, 5, 5, 5, 6, 6, 6, 6, 6, 6, 6, 6, 6, 6, 6, 6, 6, 6, 6, 6, 6, 6, 6, 6, 6, 6, 6, 6, 6, 6, 6, 6, 6, 6, 6, 6, 7, 7, 7, 7, 7, 7, 7, 7, 7, 7, 7, 7, 7, 7, 7, 7, 7, 7, 7, 7, 7, 7, 7, 7, 7, 7, 7, 7, 7, 7, 7, 7, 7, 7, 7, 7, 7, 7, 7, 7, 7, 7, 7, 7, 7, 7, 7, 7, 7, 7, 7, 7, 7, 7, 7, 7, 7, 7, 7, 7, 7, 7, 7, 7, 8, 8, 8, 8, 8, 8, 8, 8, 8, 8, 8, 8, 8, 8, 8, 8, 8, 8, 8, 8, 8, 8, 8, 8, 8, 8, 8, 8, 8, 8, 8, 8, 8, 8, 8, 8, 8, 8, 8, 8, 8, 8, 8, 8, 8, 8, 8, 8, 8, 8, 8, 8, 8, 8, 8, 8, 8, 8, 8, 8, 8, 8, 8, 8, 8, 8, 8, 8, 8, 8, 8, 8, 8, 8, 8, 8, 8, 8, 8, 8, 8, 8, 8, 8, 8, 8, 8, 8, 8, 8, 8, 8, 8, 8, 8, 8, 8, 8, 8, 8, 8, 8, 8, 8, 8, 8, 8, 8, 8, 8, 8, 8, 8, 8, 8, 8, 8, 8, 8, 8, 8, 8, 8, 8, 8, 8, 8, 8]⟩ ((IntKind.u8.wrap (x / (4294967296 : Int)))).toNat))))) h0))) (
bcase (decide ((65536 : Int) ≤ x)) (
(0 ≤ (16 : Int) ∧ (16 : Int) ≤ kbits .u64) ∧
bcase (decide ((256 : Int) ≤ (x / (65536 : Int)))) (
(0 ≤ (8 : Int) ∧ (8 : Int) ≤ kbits .u64) ∧
(0 ≤ (IntKind.u8.wrap ((x / (65536 : Int)) / (256 : Int))) ∧ (IntKind.u8.wrap ((x / (65536 : Int)) / (256 : Int))) < (((⟨#[0, 1, 2, 2, 3, 3, 3, 3, 4, 4, 4, 4, 4, 4, 4, 4, 5, 5, 5, 5, 5, 5, 5, 5, 5, 5, 5, 5, 5, 5, 5, 5, 6, 6, 6, 6, 6, 6, 6, 6, 6, 6, 6, 6, 6, 6, 6, 6, 6, 6, 6, 6, 6, 6, 6, 6, 6, 6, 6, 6, 6, 6, 6, 6, 7, 7, 7, 7, 7, 7, 7, 7, 7, 7, 7, 7, 7, 7, 7, 7, 7, 7, 7, 7, 7, 7, 7, 7, 7, 7, 7, 7, 7, 7, 7, 7, 7, 7, 7, 7, 7, 7, 7, 7, 7, 7, 7, 7, 7, 7, 7, 7, 7, 7, 7, 7, 7, 7, 7, 7, 7, 7, 7, 7, 7, 7, 7, 7, 8, 8, 8, 8, 8, 8, 8, 8, 8, 8, 8, 8, 8, 8, 8, 8, 8, 8, 8, 8, 8, 8, 8, 8, 8, 8, 8, 8, 8, 8, 8, 8, 8, 8, 8, 8, 8, 8, 8, 8, 8, 8, 8, 8, 8, 8, 8, 8, 8, 8, 8, 8, 8, 8, 8, 8, 8, 8, 8, 8, 8, 8, 8, 8, 8, 8, 8, 8, 8, 8, 8, 8, 8, 8, 8, 8, 8, 8, 8, 8, 8, 8, 8, 8, 8, 8, 8, 8, 8, 8, 8, 8, 8, 8, 8, 8, 8, 8, 8, 8, 8, 8, 8, 8, 8, 8, 8, 8, 8, 8, 8, 8, 8, 8, 8, 8, 8, 8, 8, 8, 8, 8, 8, 8, 8, 8, 8, 8]⟩ : ByteArray).size : Nat) : Int)) ∧
Post (.int .i64 (IntKind.i64.wrap ((IntKind.i64.wrap ((IntKind.i64.wrap ((0 : Int) + (16 : Int))) + (8 : Int))) + (IntKind.i64.wrap (strAt ⟨#[0, 1, 2, 2, 3, 3, 3, 3, 4, 4, 4, 4, 4, 4, 4, 4, 5, 5, 5, 5, 5, 5, 5, 5, 5, 5, 5, 5, 5, 5, 5, 5, 6, 6, 6, 6, 6, 6, 6, 6, 6, 6, 6, 6, 6, 6, 6, 6, 6, 6, 6, 6, 6, 6, 6, 6, 6, 6, 6, 6, 6, 6, 6, 6, 7, 7, 7, 7, 7, 7, 7, 7, 7, 7, 7, 7, 7, 7, 7, 7, 7, 7, 7, 7, 7, 7, 7, 7, 7, 7, 7, 7, 7, 7, 7, 7, 7, 7, 7, 7, 7, 7, 7, 7, 7, 7, 7, 7, 7, 7, 7, 7, 7, 7, 7, 7, 7, 7, 7, 7, 7, 7, 7, 7, 7, 7, 7, 7, 8, 8, 8, 8, 8, 8, 8, 8, 8, 8, 8, 8, 8, 8, 8, 8, 8, 8, 8, 8, 8, 8, 8, 8, 8, 8, 8, 8, 8, 8, 8, 8, 8, 8, 8, 8, 8, 8, 8, 8, 8, 8, 8, 8, 8, 8, 8, 8, 8, 8, 8, 8, 8, 8, 8, 8, 8, 8, 8, 8, 8, 8, 8, 8, 8, 8, 8, 8, 8, 8, 8, 8, 8, 8, 8, 8, 8, 8, 8, 8, 8, 8, 8, 8, 8, 8, 8, 8, 8, 8, 8, 8, 8, 8, 8, 8, 8, 8, 8, 8, 8, 8, 8, 8, 8, 8, 8, 8, 8, 8, 8, 8, 8, 8, 8, 8, 8, 8, 8, 8, 8, 8, 8, 8, 8, 8, 8, 8]⟩ ((IntKind.u8.wrap ((x / (65536 : Int)) / (256 : Int)))).toNat))))) h0) (
(0 ≤ (IntKind.u8.wrap (x / (65536 : Int))) ∧ (IntKind.u8.wrap (x / (65536 : Int))) < (((⟨#[0, 1, 2, 2, 3, 3, 3, 3, 4, 4, 4, 4, 4, 4, 4, 4, 5, 5, 5, 5, 5, 5, 5, 5, 5, 5, 5, 5, 5, 5, 5, 5, 6, 6, 6, 6, 6, 6, 6, 6, 6, 6, 6, 6, 6, 6, 6, 6, 6, 6, 6, 6, 6, 6, 6, 6, 6, 6, 6, 6, 6, 6, 6, 6, 7, 7, 7, 7, 7, 7, 7, 7, 7, 7, 7, 7, 7, 7, 7, 7, 7, 7, 7, 7, 7, 7, 7, 7, 7, 7, 7, 7, 7, 7, 7, 7, 7, 7, 7, 7, 7, 7, 7, 7, 7, 7, 7, 7, 7, 7, 7, 7, 7, 7, 7, 7, 7, 7, 7, 7, 7, 7, 7, 7, 7, 7, 7, 7, 8, 8, 8, 8, 8, 8, 8, 8, 8, 8, 8, 8, 8, 8, 8, 8, 8, 8, 8, 8, 8, 8, 8, 8, 8, 8, 8, 8, 8, 8, 8, 8, 8, 8, 8, 8, 8, 8, 8, 8, 8, 8, 8, 8, 8, 8, 8, 8, 8, 8, 8, 8, 8, 8, 8, 8, 8, 8, 8, 8, 8, 8, 8, 8, 8, 8, 8, 8, 8, 8, 8, 8, 8, 8, 8, 8, 8, 8, 8, 8, 8, 8, 8, 8, 8, 8, 8, 8, 8, 8, 8, 8, 8, 8, 8, 8, 8, 8, 8, 8, 8, 8, 8, 8, 8, 8, 8, 8, 8, 8, 8, 8, 8, 8, 8, 8, 8, 8, 8, 8, 8, 8, 8, 8, 8, 8, 8, 8]⟩ : ByteArray).size : Nat) : Int)) ∧
Post (.int .i64 (IntKind.i64.wrap ((IntKind.i64.wrap ((0 : Int) + (16 : Int))) + (IntKind.i64.wrap (strAt ⟨#[0, 1, 2, 2, 3, 3, 3, 3, 4, 4, 4, 4, 4, 4, 4, 4, 5, 5, 5, 5, 5, 5, 5, 5, 5, 5, 5, 5, 5, 5, 5, 5, 6, 6, 6, 6, 6, 6, 6, 6, 6, 6, 6, 6, 6, 6, 6, 6, 6, 6, 6, 6, 6, 6, 6, 6, 6, 6, 6, 6, 6, 6, 6, 6, 7, 7, 7, 7, 7, 7, 7, 7, 7, 7, 7, 7, 7, 7, 7, 7, 7, 7, 7, 7, 7, 7, 7, 7, 7, 7, 7, 7, 7, 7, 7, 7, 7, 7, 7, 7, 7, 7, 7, 7, 7, 7, 7, 7, 7, 7, 7, 7, 7, 7, 7, 7, 7, 7, 7, 7, 7, 7, 7, 7, 7, 7, 7, 7, 8, 8, 8, 8, 8, 8, 8, 8, 8, 8, 8, 8, 8, 8, 8, 8, 8, 8, 8, 8, 8, 8, 8, 8, 8, 8, 8, 8, 8, 8, 8, 8, 8, 8, 8, 8, 8, 8, 8, 8, 8, 8, 8, 8, 8, 8, 8, 8, 8, 8, 8, 8, 8, 8, 8, 8, 8, 8, 8, 8, 8, 8, 8, 8, 8, 8, 8, 8, 8, 8, 8, 8, 8, 8, 8, 8, 8, 8, 8, 8, 8, 8, 8, 8, 8, 8, 8, 8, 8, 8, 8, 8, 8, 8, 8, 8, 8, 8, 8, 8, 8, 8, 8, 8, 8, 8, 8, 8, 8, 8, 8, 8, 8, 8, 8, 8, 8, 8, 8, 8, 8, 8, 8, 8, 8, 8, 8, 8]⟩ ((IntKind.u8.wrap (x / (65536 : Int)))).toNat))))) h0)) (
bcase (decide ((256 : Int) ≤ x)) (
(0 ≤ (8 : Int) ∧ (8 : Int) ≤ kbits .u64) ∧
(0 ≤ (IntKind.u8.wrap (x / (256 : Int))) ∧ (IntKind.u8.wrap (x / (256 : Int))) < (((⟨#[0, 1, 2, 2, 3, 3, 3, 3, 4, 4, 4, 4, 4, 4, 4, 4, 5, 5, 5, 5, 5, 5, 5, 5, 5, 5, 5, 5, 5, 5, 5, 5, 6, 6, 6, 6, 6, 6, 6, 6, 6, 6, 6, 6, 6, 6, 6, 6, 6, 6, 6, 6, 6, 6, 6, 6, 6, 6, 6, 6, 6, 6, 6, 6, 7, 7, 7, 7, 7, 7, 7, 7, 7, 7, 7, 7, 7, 7, 7, 7, 7, 7, 7, 7, 7, 7, 7, 7, 7, 7, 7, 7, 7, 7, 7, 7, 7, 7, 7, 7, 7, 7, 7, 7, 7, 7, 7, 7, 7, 7, 7, 7, 7, 7, 7, 7, 7, 7, 7, 7, 7, 7, 7, 7, 7, 7, 7, 7, 8, 8, 8, 8, 8, 8, 8, 8, 8, 8, 8, 8, 8, 8, 8, 8, 8, 8, 8, 8, 8, 8, 8, 8, 8, 8, 8, 8, 8, 8, 8, 8, 8, 8, 8, 8, 8, 8, 8, 8, 8, 8, 8, 8, 8, 8, 8, 8, 8, 8, 8, 8, 8, 8, 8, 8, 8, 8, 8, 8, 8, 8, 8, 8, 8, 8, 8, 8, 8, 8, 8, 8, 8, 8, 8, 8, 8, 8, 8, 8, 8, 8, 8, 8, 8, 8, 8, 8, 8, 8, 8, 8, 8, 8, 8, 8, 8, 8, 8, 8, 8, 8, 8, 8, 8, 8, 8, 8, 8, 8, 8, 8, 8, 8, 8, 8, 8, 8, 8, 8, 8, 8, 8, 8, 8, 8, 8, 8]⟩ : ByteArray).size : Nat) : Int)) ∧
Post (.int .i64 (IntKind.i64.wrap ((IntKind.i64.wrap ((0 : Int) + (8 : Int))) + (IntKind.i64.wrap (strAt ⟨#[0, 1, 2, 2, 3, 3, 3, 3, 4, 4, 4, 4, 4, 4, 4, 4, 5, 5, 5, 5, 5, 5, 5, 5, 5, 5, 5, 5, 5, 5, 5, 5, 6, 6, 6, 6, 6, 6, 6, 6, 6, 6, 6, 6, 6, 6, 6, 6, 6, 6, 6, 6, 6, 6, 6, 6, 6, 6, 6, 6, 6, 6, 6, 6, 7, 7, 7, 7, 7, 7, 7, 7, 7, 7, 7, 7, 7, 7, 7, 7, 7, 7, 7, 7, 7, 7, 7, 7, 7, 7, 7, 7, 7, 7, 7, 7, 7, 7, 7, 7, 7, 7, 7, 7, 7, 7, 7, 7, 7, 7, 7, 7, 7, 7, 7, 7, 7, 7, 7, 7, 7, 7, 7, 7, 7, 7, 7, 7, 8, 8, 8, 8, 8, 8, 8, 8, 8, 8, 8, 8, 8, 8, 8, 8, 8, 8, 8, 8, 8, 8, 8, 8, 8, 8, 8, 8, 8, 8, 8, 8, 8, 8, 8, 8, 8, 8, 8, 8, 8, 8, 8, 8, 8, 8, 8, 8, 8, 8, 8, 8, 8, 8, 8, 8, 8, 8, 8, 8, 8, 8, 8, 8, 8, 8, 8, 8, 8, 8, 8, 8, 8, 8, 8, 8, 8, 8, 8, 8, 8, 8, 8, 8, 8, 8, 8, 8, 8, 8, 8, 8, 8, 8, 8, 8, 8, 8, 8, 8, 8, 8, 8, 8, 8, 8, 8, 8, 8, 8, 8, 8, 8, 8, 8, 8, 8, 8, 8, 8, 8, 8, 8, 8, 8, 8, 8, 8]⟩ ((IntKind.u8.wrap (x / (256 : Int)))).toNat))))) h0) (
(0 ≤ (IntKind.u8.wrap x) ∧ (IntKind.u8.wrap x) < (((⟨#[0, 1, 2, 2, 3, 3, 3, 3, 4, 4, 4, 4, 4, 4, 4, 4, 5, 5, 5, 5, 5, 5, 5, 5, 5, 5, 5, 5, 5, 5, 5, 5, 6, 6, 6, 6, 6, 6, 6, 6, 6, 6, 6, 6, 6, 6, 6, 6, 6, 6, 6, 6, 6, 6, 6, 6, 6, 6, 6, 6, 6, 6, 6, 6, 7, 7, 7, 7, 7, 7, 7, 7, 7, 7, 7, 7, 7, 7, 7, 7, 7, 7, 7, 7, 7, 7, 7, 7, 7, 7, 7, 7, 7, 7, 7, 7, 7, 7, 7, 7, 7, 7, 7, 7, 7, 7, 7, 7, 7, 7, 7, 7, 7, 7, 7, 7, 7, 7, 7, 7, 7, 7, 7, 7, 7, 7, 7, 7, 8, 8, 8, 8, 8, 8, 8, 8, 8, 8, 8, 8, 8, 8, 8, 8, 8, 8, 8, 8, 8, 8, 8, 8, 8, 8, 8, 8, 8, 8, 8, 8, 8, 8, 8, 8, 8, 8, 8, 8, 8, 8, 8, 8, 8, 8, 8, 8, 8, 8, 8, 8, 8, 8, 8, 8, 8, 8, 8, 8, 8, 8, 8, 8, 8, 8, 8, 8, 8, 8, 8, 8, 8, 8, 8, 8, 8, 8, 8, 8, 8, 8, 8, 8, 8, 8, 8, 8, 8, 8, 8, 8, 8, 8, 8, 8, 8, 8, 8, 8, 8, 8, 8, 8, 8, 8, 8, 8, 8, 8, 8, 8, 8, 8, 8, 8, 8, 8, 8, 8, 8, 8, 8, 8, 8, 8, 8, 8]⟩ : ByteArray).size : Nat) : Int)) ∧
Post (.int .i64 (IntKind.i64.wrap ((0 : Int) + (IntKind.i64.wrap (strAt ⟨#[0, 1, 2, 2, 3, 3, 3, 3, 4, 4, 4, 4, 4, 4, 4, 4, 5, 5, 5, 5, 5, 5, 5, 5, 5, 5, 5, 5, 5, 5, 5, 5, 6, 6, 6, 6, 6, 6, 6, 6, 6, 6, 6, 6, 6, 6, 6, 6, 6, 6, 6, 6, 6, 6, 6, 6, 6, 6, 6, 6, 6, 6, 6, 6, 7, 7, 7, 7, 7, 7, 7, 7, 7, 7, 7, 7, 7, 7, 7, 7, 7, 7, 7, 7, 7, 7, 7, 7, 7, 7, 7, 7, 7, 7, 7, 7, 7, 7, 7, 7, 7, 7, 7, 7, 7, 7, 7, 7, 7, 7, 7, 7, 7, 7, 7, 7, 7, 7, 7, 7, 7, 7, 7, 7, 7, 7, 7, 7, 8, 8, 8, 8, 8, 8, 8, 8, 8, 8, 8, 8, 8, 8, 8, 8, 8, 8, 8, 8, 8, 8, 8, 8, 8, 8, 8, 8, 8, 8, 8, 8, 8, 8, 8, 8, 8, 8, 8, 8, 8, 8, 8, 8, 8, 8, 8, 8, 8, 8, 8, 8, 8, 8, 8, 8, 8, 8, 8, 8, 8, 8, 8, 8, 8, 8, 8, 8, 8, 8, 8, 8, 8, 8, 8, 8, 8, 8, 8, 8, 8, 8, 8, 8, 8, 8, 8, 8, 8, 8, 8, 8, 8, 8, 8, 8, 8, 8, 8, 8, 8, 8, 8, 8, 8, 8, 8, 8, 8, 8, 8, 8, 8, 8, 8, 8, 8, 8, 8, 8, 8, 8, 8, 8, 8, 8, 8, 8]⟩ ((IntKind.u8.wrap x)).toNat))))) h0)))) :
    Runs Tryd.prog 103 #[(.int .u64 x)] h0 Post :=
  runs_of (args := [(.int .u64 x)]) (fun n => ⟨false, false⟩) (fun _ => []) (fun _ => none) (fun _ => []) Tryd.func103 rfl (by rw [Tryd.ntmps103]; simp) (Eq.mp (by kernel_rfl) H)

theorem vc_muezzinlaw24_first  (h0 : Heap) (Post : Value → Heap → Prop) (H :
Runs Tryd.prog 11 #[] h0 fun r1 h1 =>
∃ cs1 : List Value,
r1 = (.agg (cs1).toArray) ∧
Runs Tryd.prog 12 #[] h1 fun r2 h2 =>
∃ cs2 : List Value,
r2 = (.agg (cs2).toArray) ∧
Runs Tryd.prog 10 #[(.agg (cs1).toArray), (.agg (cs2).toArray), (.int .i64 (8 : Int))] h2 fun r3 h3 =>
∃ p1 : Option Addr,
∃ v1 : Value,
r3 = (.tuple #[(.pointer p1), v1]) ∧
bcase (isNilAddr p1) (
Post (.bool false) h3) (
∃ t1 : Bool, ifeqH Tryd.prog h3 true (v1) (.nilIface) = some t1 ∧
bcase (!t1) (
Post (.bool false) h3) (
Runs Tryd.prog 14 #[(.pointer p1), (.bool false), (.slice none 0 0)] h3 fun r4 h4 =>
∃ (s1 : Option Addr) (s1l s1c : Nat),
∃ (s2 : Option Addr) (s2l s2c : Nat),
r4 = (.tuple #[(.slice s1 s1l s1c), (.slice s2 s2l s2c)]) ∧
∀ (b1 : Nat) (h5 : Heap), b1 = h4.size → h5 = h4.push (.cells ([(.int .u8 (7 : Int))] : List Value).toArray 5) →
Runs Tryd.prog 15 #[(.agg #[(.int .i64 (0 : Int)), (.int .i64 (0 : Int)), (.int .i64 (0 : Int)), (.int .i64 (0 : Int)), (.bool false), (.bool false), (.int .u32 (0 : Int)), (.slice (some ⟨b1, 0, none⟩) 1 1)]), (.int .i64 (3 : Int))] h5 fun r5 h6 =>
∃ (s3 : Option Addr) (s3l s3c : Nat),
r5 = (.slice s3 s3l s3c) ∧
Runs Tryd.prog 14 #[(.pointer p1), (.bool false), (.slice s3 s3l s3c)] h6 fun r6 h7 =>
∃ (s4 : Option Addr) (s4l s4c : Nat),
∃ (s5 : Option Addr) (s5l s5c : Nat),
r6 = (.tuple #[(.slice s4 s4l s4c), (.slice s5 s5l s5c)]) ∧
bcase (decide (((s1l : Nat) : Int) = (0 : Int))) (
bcase (decide (((s2l : Nat) : Int) = (0 : Int))) (
bcase (decide (((s4l : Nat) : Int) = (1 : Int))) (
bcase (decide (((s5l : Nat) : Int) = (28 : Int))) (
Runs Tryd.prog 21 #[(.pointer p1), (.int .i64 (0 : Int)), (.int .i64 (3 : Int))] h7 fun r7 h8 =>
∃ t2 : Bool,
r7 = (.bool t2) ∧
Post (.bool t2) h8) (
Post (.bool false) h7)) (
Post (.bool false) h7)) (
Post (.bool false) h7)) (
Post (.bool false) h7)))) :
    Runs Tryd.prog 9 #[] h0 Post :=
  runs_of (args := []) (fun n => ⟨true, false⟩) (fun _ => []) (fun _ => none) (fun _ => []) Tryd.func9 rfl (by rw [Tryd.ntmps9]; simp) (Eq.mp (by kernel_rfl) H)
end Go.Proofs.YthlacliefgliiaaDoor
