/- The conditions for calls of functions of the program, in plain form: written by a program (vcgen) off the elaborated code; each is the reckoner's own, by the kernel. -/
import Derived.Test.YthlacliefgliiaaDoorRows
import Derived.Test.YthlacliefgliiaaDoorVc
set_option linter.unusedVariables false
set_option maxRecDepth 100000
namespace Go.Proofs.YthlacliefgliiaaDoor
open Go.Vc
theorem vc_muezzinref1_QoSBytes (f : List Value) (h0 : Heap) (Post : Value → Heap → Prop) (H :
∀ (b1 : Nat) (h1 : Heap), b1 = h0.size → h1 = h0.push (.cells (f).toArray 55) →
∃ n1 : Int, cell h1 b1 18 = some (.int .i64 n1) ∧
Runs Tryd.prog 43 #[(.int .i64 n1), (.int .i64 (7 : Int))] h1 fun r1 h2 =>
∃ t1 : Bool,
r1 = (.bool t1) ∧
bcase t1 (
Post (.tuple #[(.slice none 0 0), (.int .i64 (103 : Int))]) h2) (
∃ n2 : Int, cell h2 b1 19 = some (.int .i64 n2) ∧
Runs Tryd.prog 43 #[(.int .i64 n2), (.int .i64 (4095 : Int))] h2 fun r2 h3 =>
∃ t2 : Bool,
r2 = (.bool t2) ∧
bcase t2 (
Post (.tuple #[(.slice none 0 0), (.int .i64 (103 : Int))]) h3) (
∃ (s1 : Option Addr) (s1l s1c : Nat), cell h3 b1 23 = some (.slice s1 s1l s1c) ∧
bcase (decide ((1500 : Int) < ((s1l : Nat) : Int))) (
Post (.tuple #[(.slice none 0 0), (.int .i64 (103 : Int))]) h3) (
∃ t3 : Bool, cell h3 b1 20 = some (.bool t3) ∧
∃ t4 : Bool, cell h3 b1 21 = some (.bool t4) ∧
Runs Tryd.prog 44 #[(.bool t3), (.int .i64 (8 : Int))] h3 fun r3 h4 =>
∃ n3 : Int,
r3 = (.int .i64 n3) ∧
cell h4 b1 21 = some (.bool t4) ∧
fits .i64 ((2 : Int) + n3) ∧
Runs Tryd.prog 44 #[(.bool t4), (.int .i64 (32 : Int))] h4 fun r4 h5 =>
∃ n4 : Int,
r4 = (.int .i64 n4) ∧
fits .i64 (((2 : Int) + n3) + n4) ∧
fits .u8 (((2 : Int) + n3) + n4) ∧
∀ (b2 : Nat) (h6 : Heap), b2 = h5.size → h6 = h5.push (.cells ([(.int .u8 (136 : Int)), (.int .u8 (((2 : Int) + n3) + n4)), (.int .u8 (0 : Int)), (.int .u8 (0 : Int))] : List Value).toArray 5) →
∃ cs1 : List Value, row h6 b1 0 6 = some cs1 ∧
∃ cs2 : List Value, row h6 b1 6 6 = some cs2 ∧
∃ cs3 : List Value, row h6 b1 12 6 = some cs3 ∧
Runs Tryd.prog 45 #[(.slice (some ⟨b2, 0, none⟩) 4 4), (.agg (cs1).toArray)] h6 fun r5 h7 =>
∃ (s2 : Option Addr) (s2l s2c : Nat),
r5 = (.slice s2 s2l s2c) ∧
row h7 b1 12 6 = some (cs3) ∧
row h7 b1 6 6 = some (cs2) ∧
Runs Tryd.prog 45 #[(.slice s2 s2l s2c), (.agg (cs2).toArray)] h7 fun r6 h8 =>
∃ (s3 : Option Addr) (s3l s3c : Nat),
r6 = (.slice s3 s3l s3c) ∧
row h8 b1 12 6 = some (cs3) ∧
Runs Tryd.prog 45 #[(.slice s3 s3l s3c), (.agg (cs3).toArray)] h8 fun r7 h9 =>
∃ (s4 : Option Addr) (s4l s4c : Nat),
r7 = (.slice s4 s4l s4c) ∧
∃ n5 : Int, cell h9 b1 19 = some (.int .i64 n5) ∧
fits .i64 (n5 * (16 : Int)) ∧
Runs Tryd.prog 46 #[(.slice s4 s4l s4c), (.int .i64 (n5 * (16 : Int)))] h9 fun r8 h10 =>
∃ (s5 : Option Addr) (s5l s5c : Nat),
r8 = (.slice s5 s5l s5c) ∧
∃ n6 : Int, cell h10 b1 18 = some (.int .i64 n6) ∧
∃ t5 : Bool, cell h10 b1 22 = some (.bool t5) ∧
Runs Tryd.prog 44 #[(.bool t5), (.int .i64 (16 : Int))] h10 fun r9 h11 =>
∃ n7 : Int,
r9 = (.int .i64 n7) ∧
cell h11 b1 18 = some (.int .i64 n6) ∧
fits .i64 (n6 + n7) ∧
fits .u8 (n6 + n7) ∧
∀ (b3 : Nat) (h12 : Heap), b3 = h11.size → h12 = h11.push (.cells ([(.int .u8 (n6 + n7)), (.int .u8 (0 : Int))] : List Value).toArray 5) →
∃ news1 : List Value, (row h12 b3 0 2 = some news1 ∧ ∀ u ∈ news1, u.oneCell' = true) ∧
appK h12 s5 s5l s5c 2 1 5 1 news1 fun (a1 : Option Addr) (cap1 : Nat) (h13 : Heap) =>
cell h13 b1 18 = some (.int .i64 n6) ∧
∃ (s6 : Option Addr) (s6l s6c : Nat), cell h13 b1 23 = some (.slice s6 s6l s6c) ∧
∃ news2 : List Value, (src h13 s6 (s6l * 1) news2 ∧ ∀ u ∈ news2, u.oneCell' = true) ∧
appK h13 a1 (s5l + 2) cap1 s6l 1 5 1 news2 fun (a2 : Option Addr) (cap2 : Nat) (h14 : Heap) =>
Post (.tuple #[(.slice a2 ((s5l + 2) + s6l) cap2), (.int .i64 (0 : Int))]) h14)))) :
    Runs Tryd.prog 22 #[(.agg (f).toArray)] h0 Post :=
  runs_of (args := [(.agg (f).toArray)]) (fun n => ⟨true, false⟩) (fun _ => []) (fun _ => none) (fun _ => []) Tryd.func22 rfl (by rw [Tryd.ntmps22]; simp) (Eq.mp (by kernel_rfl) H)

theorem vc_muezzinref1_kind (b : Option Addr) (bL bC : Nat) (first : Int) (n : Int) (h0 : Heap) (Post : Value → Heap → Prop) (H :
bcase (decide ((0 : Int) < ((bL : Nat) : Int))) (
(0 ≤ (0 : Int) ∧ (0 : Int) < ((bL : Nat) : Int)) ∧
onAddr b fun b1 o1 =>
∃ n1 : Int, cell h0 b1 o1 = some (.int .u8 n1) ∧
bcase (!decide (n1 = first)) (
Post (.int .i64 (105 : Int)) h0) (
bcase (decide (((bL : Nat) : Int) < n)) (
Post (.int .i64 (101 : Int)) h0) (
bcase (decide (n < ((bL : Nat) : Int))) (
Post (.int .i64 (102 : Int)) h0) (
Post (.int .i64 (0 : Int)) h0)))) (
bcase (decide (((bL : Nat) : Int) < n)) (
Post (.int .i64 (101 : Int)) h0) (
bcase (decide (n < ((bL : Nat) : Int))) (
Post (.int .i64 (102 : Int)) h0) (
Post (.int .i64 (0 : Int)) h0)))) :
    Runs Tryd.prog 36 #[(.slice b bL bC), (.int .u8 first), (.int .i64 n)] h0 Post :=
  runs_of (args := [(.slice b bL bC), (.int .u8 first), (.int .i64 n)]) (fun n => ⟨true, false⟩) (fun _ => []) (fun _ => none) (fun _ => []) Tryd.func36 rfl (by rw [Tryd.ntmps36]; simp) (Eq.mp (by kernel_rfl) H)

theorem vc_muezzinref1_six (b : Option Addr) (bL bC : Nat) (h0 : Heap) (Post : Value → Heap → Prop) (H :
∀ (b1 : Nat) (h1 : Heap), b1 = h0.size → h1 = h0.push (.cells ([(.int .u8 (0 : Int)), (.int .u8 (0 : Int)), (.int .u8 (0 : Int)), (.int .u8 (0 : Int)), (.int .u8 (0 : Int)), (.int .u8 (0 : Int))] : List Value).toArray 31) →
∀ (b2 : Nat) (h2 : Heap), b2 = h1.size → h2 = h1.push (.cells ([(.int .u8 (0 : Int)), (.int .u8 (0 : Int)), (.int .u8 (0 : Int)), (.int .u8 (0 : Int)), (.int .u8 (0 : Int)), (.int .u8 (0 : Int))] : List Value).toArray 31) →
∃ (I1 : Int → Heap → Prop) (m1 : Int → Heap → Nat), I1 (0 : Int) h2 ∧ ∀ _ : Env,
∀ (i_1 : Int) (h3 : Heap), I1 i_1 h3 →
bcase (decide (i_1 < (6 : Int))) (
(0 ≤ i_1 ∧ i_1 < ((bL : Nat) : Int)) ∧
onAddr b fun b3 o1 =>
∃ n1 : Int, cell h3 b3 (o1 + (i_1).toNat) = some (.int .u8 n1) ∧
(0 ≤ i_1 ∧ i_1 < ((6 : Nat) : Int)) ∧
wr h3 b2 (0 + (i_1).toNat) ∧ ∀ h4 : Heap, h4 = setc h3 b2 (0 + (i_1).toNat) (.int .u8 n1) →
fits .i64 (i_1 + (1 : Int)) ∧
I1 (i_1 + (1 : Int)) h4 ∧ m1 (i_1 + (1 : Int)) h4 < m1 i_1 h3) (
∃ cs1 : List Value, row h3 b2 0 6 = some cs1 ∧
(((cs1)).length = 6 ∧ wrs h3 b1 0 6 ∧ ∀ u ∈ ((cs1) : List Value), u.oneCell' = true) ∧ ∀ h5 : Heap, h5 = setr h3 b1 0 (cs1) →
∃ cs2 : List Value, row h5 b1 0 6 = some cs2 ∧
Post (.agg (cs2).toArray) h5)) :
    Runs Tryd.prog 37 #[(.slice b bL bC)] h0 Post :=
  runs_of (args := [(.slice b bL bC)]) (fun n => ⟨true, false⟩) (fun n => match n with | 0 => [(4, .int .i64)] | _ => []) (fun _ => none) (fun _ => []) Tryd.func37 rfl (by rw [Tryd.ntmps37]; simp) (Eq.mp (by kernel_rfl) H)

theorem vc_muezzinref1_num (b : Option Addr) (bL bC : Nat) (h0 : Heap) (Post : Value → Heap → Prop) (H :
(0 ≤ (0 : Int) ∧ (0 : Int) < ((bL : Nat) : Int)) ∧
onAddr b fun b1 o1 =>
∃ n1 : Int, cell h0 b1 o1 = some (.int .u8 n1) ∧
fits .i64 n1 ∧
(0 ≤ (1 : Int) ∧ (1 : Int) < ((bL : Nat) : Int)) ∧
onAddr b fun b2 o2 =>
∃ n2 : Int, cell h0 b2 (o2 + 1) = some (.int .u8 n2) ∧
fits .i64 n2 ∧
(0 ≤ (8 : Int) ∧ (8 : Int) ≤ kbits .i64) ∧
fits .i64 (n2 * (256 : Int)) ∧
Post (.int .i64 (bits .or .i64 n1 (n2 * (256 : Int)))) h0) :
    Runs Tryd.prog 38 #[(.slice b bL bC)] h0 Post :=
  runs_of (args := [(.slice b bL bC)]) (fun n => ⟨true, false⟩) (fun _ => []) (fun _ => none) (fun _ => []) Tryd.func38 rfl (by rw [Tryd.ntmps38]; simp) (Eq.mp (by kernel_rfl) H)

theorem vc_muezzinref1_out (n : Int) (most : Int) (h0 : Heap) (Post : Value → Heap → Prop) (H :
bcase (decide (n < (0 : Int))) (
Post (.bool true) h0) (
Post (.bool (decide (most < n))) h0)) :
    Runs Tryd.prog 43 #[(.int .i64 n), (.int .i64 most)] h0 Post :=
  runs_of (args := [(.int .i64 n), (.int .i64 most)]) (fun n => ⟨true, false⟩) (fun _ => []) (fun _ => none) (fun _ => []) Tryd.func43 rfl (by rw [Tryd.ntmps43]; simp) (Eq.mp (by kernel_rfl) H)

theorem vc_muezzinref1_flag (is_ : Bool) (n : Int) (h0 : Heap) (Post : Value → Heap → Prop) (H :
bcase is_ (
Post (.int .i64 n) h0) (
Post (.int .i64 (0 : Int)) h0)) :
    Runs Tryd.prog 44 #[(.bool is_), (.int .i64 n)] h0 Post :=
  runs_of (args := [(.bool is_), (.int .i64 n)]) (fun n => ⟨true, false⟩) (fun _ => []) (fun _ => none) (fun _ => []) Tryd.func44 rfl (by rw [Tryd.ntmps44]; simp) (Eq.mp (by kernel_rfl) H)

theorem vc_muezzinref1_addr (b : Option Addr) (bL bC : Nat) (a : List Value) (h0 : Heap) (Post : Value → Heap → Prop) (H :
∀ (b1 : Nat) (h1 : Heap), b1 = h0.size → h1 = h0.push (.cells (a).toArray 31) →
∃ (I1 : Option Addr → Nat → Nat → Int → Heap → Prop) (m1 : Option Addr → Nat → Nat → Int → Heap → Nat), I1 b bL bC (0 : Int) h1 ∧ ∀ _ : Env,
∀ (b_1 : Option Addr) (b_1l b_1c : Nat) (i_1 : Int) (h2 : Heap), I1 b_1 b_1l b_1c i_1 h2 →
bcase (decide (i_1 < (6 : Int))) (
(0 ≤ i_1 ∧ i_1 < ((6 : Nat) : Int)) ∧
∃ n1 : Int, cell h2 b1 (0 + (i_1).toNat) = some (.int .u8 n1) ∧
∀ (b2 : Nat) (h3 : Heap), b2 = h2.size → h3 = h2.push (.cells ([(.int .u8 n1)] : List Value).toArray 5) →
∃ news1 : List Value, (row h3 b2 0 1 = some news1 ∧ ∀ u ∈ news1, u.oneCell' = true) ∧
appK h3 b_1 b_1l b_1c 1 1 5 1 news1 fun (a1 : Option Addr) (cap1 : Nat) (h4 : Heap) =>
fits .i64 (i_1 + (1 : Int)) ∧
I1 a1 (b_1l + 1) cap1 (i_1 + (1 : Int)) h4 ∧ m1 a1 (b_1l + 1) cap1 (i_1 + (1 : Int)) h4 < m1 b_1 b_1l b_1c i_1 h2) (
Post (.slice b_1 b_1l b_1c) h2)) :
    Runs Tryd.prog 45 #[(.slice b bL bC), (.agg (a).toArray)] h0 Post :=
  runs_of (args := [(.slice b bL bC), (.agg (a).toArray)]) (fun n => ⟨true, false⟩) (fun n => match n with | 0 => [(0, .slice), (5, .int .i64)] | _ => []) (fun _ => none) (fun _ => []) Tryd.func45 rfl (by rw [Tryd.ntmps45]; simp) (Eq.mp (by kernel_rfl) H)

theorem vc_muezzinref1_two (b : Option Addr) (bL bC : Nat) (n : Int) (h0 : Heap) (Post : Value → Heap → Prop) (H :
(0 ≤ (8 : Int) ∧ (8 : Int) ≤ kbits .i64) ∧
∀ (b1 : Nat) (h1 : Heap), b1 = h0.size → h1 = h0.push (.cells ([(.int .u8 (IntKind.u8.wrap n)), (.int .u8 (IntKind.u8.wrap (n / (256 : Int))))] : List Value).toArray 5) →
∃ news1 : List Value, (row h1 b1 0 2 = some news1 ∧ ∀ u ∈ news1, u.oneCell' = true) ∧
appK h1 b bL bC 2 1 5 1 news1 fun (a1 : Option Addr) (cap1 : Nat) (h2 : Heap) =>
Post (.slice a1 (bL + 2) cap1) h2) :
    Runs Tryd.prog 46 #[(.slice b bL bC), (.int .i64 n)] h0 Post :=
  runs_of (args := [(.slice b bL bC), (.int .i64 n)]) (fun n => ⟨false, false⟩) (fun _ => []) (fun _ => none) (fun _ => []) Tryd.func46 rfl (by rw [Tryd.ntmps46]; simp) (Eq.mp (by kernel_rfl) H)

theorem vc_muezzinref1_ReadAck (b : Option Addr) (bL bC : Nat) (h0 : Heap) (Post : Value → Heap → Prop) (H :
∀ (b1 : Nat) (h1 : Heap), b1 = h0.size → h1 = h0.push (.cells ([(.int .u8 (0 : Int)), (.int .u8 (0 : Int)), (.int .u8 (0 : Int)), (.int .u8 (0 : Int)), (.int .u8 (0 : Int)), (.int .u8 (0 : Int)), (.int .u8 (0 : Int)), (.int .u8 (0 : Int)), (.int .u8 (0 : Int)), (.int .u8 (0 : Int)), (.int .u8 (0 : Int)), (.int .u8 (0 : Int)), (.int .i64 (0 : Int)), (.int .i64 (0 : Int)), (.int .u64 (0 : Int))] : List Value).toArray 44) →
Runs Tryd.prog 36 #[(.slice b bL bC), (.int .u8 (148 : Int)), (.int .i64 (28 : Int))] h1 fun r1 h2 =>
∃ n1 : Int,
r1 = (.int .i64 n1) ∧
bcase (!decide (n1 = (0 : Int))) (
((([(.int .u8 (0 : Int)), (.int .u8 (0 : Int)), (.int .u8 (0 : Int)), (.int .u8 (0 : Int)), (.int .u8 (0 : Int)), (.int .u8 (0 : Int)), (.int .u8 (0 : Int)), (.int .u8 (0 : Int)), (.int .u8 (0 : Int)), (.int .u8 (0 : Int)), (.int .u8 (0 : Int)), (.int .u8 (0 : Int)), (.int .i64 (0 : Int)), (.int .i64 (0 : Int)), (.int .u64 (0 : Int))] : List Value)).length = 15 ∧ wrs h2 b1 0 15 ∧ ∀ u ∈ (([(.int .u8 (0 : Int)), (.int .u8 (0 : Int)), (.int .u8 (0 : Int)), (.int .u8 (0 : Int)), (.int .u8 (0 : Int)), (.int .u8 (0 : Int)), (.int .u8 (0 : Int)), (.int .u8 (0 : Int)), (.int .u8 (0 : Int)), (.int .u8 (0 : Int)), (.int .u8 (0 : Int)), (.int .u8 (0 : Int)), (.int .i64 (0 : Int)), (.int .i64 (0 : Int)), (.int .u64 (0 : Int))] : List Value) : List Value), u.oneCell' = true) ∧ ∀ h3 : Heap, h3 = setr h2 b1 0 ([(.int .u8 (0 : Int)), (.int .u8 (0 : Int)), (.int .u8 (0 : Int)), (.int .u8 (0 : Int)), (.int .u8 (0 : Int)), (.int .u8 (0 : Int)), (.int .u8 (0 : Int)), (.int .u8 (0 : Int)), (.int .u8 (0 : Int)), (.int .u8 (0 : Int)), (.int .u8 (0 : Int)), (.int .u8 (0 : Int)), (.int .i64 (0 : Int)), (.int .i64 (0 : Int)), (.int .u64 (0 : Int))] : List Value) →
∃ cs1 : List Value, row h3 b1 0 15 = some cs1 ∧
Post (.tuple #[(.agg (cs1).toArray), (.int .i64 n1)]) h3) (
(0 ≤ (4 : Int) ∧ (4 : Int) ≤ ((bL : Nat) : Int)) ∧
(0 ≤ (10 : Int) ∧ (10 : Int) ≤ ((bL : Nat) : Int)) ∧
(0 ≤ (16 : Int) ∧ (16 : Int) ≤ ((bL : Nat) : Int)) ∧
(0 ≤ (18 : Int) ∧ (18 : Int) ≤ ((bL : Nat) : Int)) ∧
(
Runs Tryd.prog 37 #[(.slice (slcAddr b 4 bC 4) (bL - 4) (bC - 4))] h2 fun r2 h4 =>
∃ cs2 : List Value,
r2 = (.agg (cs2).toArray) ∧
(
Runs Tryd.prog 37 #[(.slice (slcAddr b 10 bC 10) (bL - 10) (bC - 10))] h4 fun r3 h5 =>
∃ cs3 : List Value,
r3 = (.agg (cs3).toArray) ∧
(
Runs Tryd.prog 38 #[(.slice (slcAddr b 16 bC 16) (bL - 16) (bC - 16))] h5 fun r4 h6 =>
∃ n2 : Int,
r4 = (.int .i64 n2) ∧
(0 ≤ n2 ∧ 0 < (4096 : Int) ∧ fits .i64 (n2 / (4096 : Int))) ∧
(
Runs Tryd.prog 38 #[(.slice (slcAddr b 18 bC 18) (bL - 18) (bC - 18))] h6 fun r5 h7 =>
∃ n3 : Int,
r5 = (.int .i64 n3) ∧
(0 ≤ n3 ∧ 0 < (16 : Int) ∧ fits .i64 (n3 / (16 : Int))) ∧
(cs2).length = 6 ∧
(cs3).length = 6 ∧
∀ (b2 : Nat) (h8 : Heap), b2 = h7.size → h8 = h7.push (.cells ([(.int .u8 (0 : Int)), (.int .u8 (0 : Int)), (.int .u8 (0 : Int)), (.int .u8 (0 : Int)), (.int .u8 (0 : Int)), (.int .u8 (0 : Int)), (.int .u8 (0 : Int)), (.int .u8 (0 : Int)), (.int .u8 (0 : Int)), (.int .u8 (0 : Int)), (.int .u8 (0 : Int)), (.int .u8 (0 : Int)), (.int .i64 (0 : Int)), (.int .i64 (0 : Int)), (.int .u64 (0 : Int))] : List Value).toArray 44) →
(((((cs2) ++ ((cs3) ++ ([(.int .i64 (n2 / (4096 : Int))), (.int .i64 (n3 / (16 : Int))), (.int .u64 (0 : Int))] : List Value))))).length = 15 ∧ wrs h8 b2 0 15 ∧ ∀ u ∈ ((((cs2) ++ ((cs3) ++ ([(.int .i64 (n2 / (4096 : Int))), (.int .i64 (n3 / (16 : Int))), (.int .u64 (0 : Int))] : List Value)))) : List Value), u.oneCell' = true) ∧ ∀ h9 : Heap, h9 = setr h8 b2 0 (((cs2) ++ ((cs3) ++ ([(.int .i64 (n2 / (4096 : Int))), (.int .i64 (n3 / (16 : Int))), (.int .u64 (0 : Int))] : List Value)))) →
∃ (I1 : Int → Heap → Prop) (m1 : Int → Heap → Nat), I1 (0 : Int) h9 ∧ ∀ _ : Env,
∀ (k_1 : Int) (h10 : Heap), I1 k_1 h10 →
bcase (decide (k_1 < (8 : Int))) (
∃ n4 : Int, cell h10 b2 14 = some (.int .u64 n4) ∧
fits .i64 ((20 : Int) + k_1) ∧
(0 ≤ ((20 : Int) + k_1) ∧ ((20 : Int) + k_1) < ((bL : Nat) : Int)) ∧
onAddr b fun b3 o1 =>
∃ n5 : Int, cell h10 b3 (o1 + (((20 : Int) + k_1)).toNat) = some (.int .u8 n5) ∧
fits .u64 n5 ∧
fits .i64 ((8 : Int) * k_1) ∧
fits .u64 ((8 : Int) * k_1) ∧
(0 ≤ ((8 : Int) * k_1) ∧ ((8 : Int) * k_1) ≤ kbits .u64) ∧
fits .u64 (n5 * (pow2 ((8 : Int) * k_1))) ∧
wr h10 b2 14 ∧ ∀ h11 : Heap, h11 = setc h10 b2 14 (.int .u64 (bits .or .u64 n4 (n5 * (pow2 ((8 : Int) * k_1))))) →
fits .i64 (k_1 + (1 : Int)) ∧
I1 (k_1 + (1 : Int)) h11 ∧ m1 (k_1 + (1 : Int)) h11 < m1 k_1 h10) (
∃ cs4 : List Value, row h10 b2 0 15 = some cs4 ∧
Runs Tryd.prog 39 #[(.agg (cs4).toArray)] h10 fun r6 h12 =>
∃ (s1 : Option Addr) (s1l s1c : Nat),
∃ n6 : Int,
r6 = (.tuple #[(.slice s1 s1l s1c), (.int .i64 n6)]) ∧
bcase (!decide (n6 = (0 : Int))) (
((([(.int .u8 (0 : Int)), (.int .u8 (0 : Int)), (.int .u8 (0 : Int)), (.int .u8 (0 : Int)), (.int .u8 (0 : Int)), (.int .u8 (0 : Int)), (.int .u8 (0 : Int)), (.int .u8 (0 : Int)), (.int .u8 (0 : Int)), (.int .u8 (0 : Int)), (.int .u8 (0 : Int)), (.int .u8 (0 : Int)), (.int .i64 (0 : Int)), (.int .i64 (0 : Int)), (.int .u64 (0 : Int))] : List Value)).length = 15 ∧ wrs h12 b1 0 15 ∧ ∀ u ∈ (([(.int .u8 (0 : Int)), (.int .u8 (0 : Int)), (.int .u8 (0 : Int)), (.int .u8 (0 : Int)), (.int .u8 (0 : Int)), (.int .u8 (0 : Int)), (.int .u8 (0 : Int)), (.int .u8 (0 : Int)), (.int .u8 (0 : Int)), (.int .u8 (0 : Int)), (.int .u8 (0 : Int)), (.int .u8 (0 : Int)), (.int .i64 (0 : Int)), (.int .i64 (0 : Int)), (.int .u64 (0 : Int))] : List Value) : List Value), u.oneCell' = true) ∧ ∀ h13 : Heap, h13 = setr h12 b1 0 ([(.int .u8 (0 : Int)), (.int .u8 (0 : Int)), (.int .u8 (0 : Int)), (.int .u8 (0 : Int)), (.int .u8 (0 : Int)), (.int .u8 (0 : Int)), (.int .u8 (0 : Int)), (.int .u8 (0 : Int)), (.int .u8 (0 : Int)), (.int .u8 (0 : Int)), (.int .u8 (0 : Int)), (.int .u8 (0 : Int)), (.int .i64 (0 : Int)), (.int .i64 (0 : Int)), (.int .u64 (0 : Int))] : List Value) →
∃ cs5 : List Value, row h13 b1 0 15 = some cs5 ∧
Post (.tuple #[(.agg (cs5).toArray), (.int .i64 (102 : Int))]) h13) (
Runs Tryd.prog 40 #[(.slice b bL bC), (.slice s1 s1l s1c)] h12 fun r7 h14 =>
∃ t1 : Bool,
r7 = (.bool t1) ∧
bcase (!t1) (
((([(.int .u8 (0 : Int)), (.int .u8 (0 : Int)), (.int .u8 (0 : Int)), (.int .u8 (0 : Int)), (.int .u8 (0 : Int)), (.int .u8 (0 : Int)), (.int .u8 (0 : Int)), (.int .u8 (0 : Int)), (.int .u8 (0 : Int)), (.int .u8 (0 : Int)), (.int .u8 (0 : Int)), (.int .u8 (0 : Int)), (.int .i64 (0 : Int)), (.int .i64 (0 : Int)), (.int .u64 (0 : Int))] : List Value)).length = 15 ∧ wrs h14 b1 0 15 ∧ ∀ u ∈ (([(.int .u8 (0 : Int)), (.int .u8 (0 : Int)), (.int .u8 (0 : Int)), (.int .u8 (0 : Int)), (.int .u8 (0 : Int)), (.int .u8 (0 : Int)), (.int .u8 (0 : Int)), (.int .u8 (0 : Int)), (.int .u8 (0 : Int)), (.int .u8 (0 : Int)), (.int .u8 (0 : Int)), (.int .u8 (0 : Int)), (.int .i64 (0 : Int)), (.int .i64 (0 : Int)), (.int .u64 (0 : Int))] : List Value) : List Value), u.oneCell' = true) ∧ ∀ h15 : Heap, h15 = setr h14 b1 0 ([(.int .u8 (0 : Int)), (.int .u8 (0 : Int)), (.int .u8 (0 : Int)), (.int .u8 (0 : Int)), (.int .u8 (0 : Int)), (.int .u8 (0 : Int)), (.int .u8 (0 : Int)), (.int .u8 (0 : Int)), (.int .u8 (0 : Int)), (.int .u8 (0 : Int)), (.int .u8 (0 : Int)), (.int .u8 (0 : Int)), (.int .i64 (0 : Int)), (.int .i64 (0 : Int)), (.int .u64 (0 : Int))] : List Value) →
∃ cs6 : List Value, row h15 b1 0 15 = some cs6 ∧
Post (.tuple #[(.agg (cs6).toArray), (.int .i64 (102 : Int))]) h15) (
∃ cs7 : List Value, row h14 b2 0 15 = some cs7 ∧
(((cs7)).length = 15 ∧ wrs h14 b1 0 15 ∧ ∀ u ∈ ((cs7) : List Value), u.oneCell' = true) ∧ ∀ h16 : Heap, h16 = setr h14 b1 0 (cs7) →
∃ cs8 : List Value, row h16 b1 0 15 = some cs8 ∧
Post (.tuple #[(.agg (cs8).toArray), (.int .i64 (0 : Int))]) h16)))) ∧
(
∀ (b4 : Nat) (h17 : Heap), b4 = h6.size → h17 = h6.push (.cells ([(.int .u8 (0 : Int)), (.int .u8 (0 : Int)), (.int .u8 (0 : Int)), (.int .u8 (0 : Int)), (.int .u8 (0 : Int)), (.int .u8 (0 : Int)), (.int .u8 (0 : Int)), (.int .u8 (0 : Int)), (.int .u8 (0 : Int)), (.int .u8 (0 : Int)), (.int .u8 (0 : Int)), (.int .u8 (0 : Int)), (.int .i64 (0 : Int)), (.int .i64 (0 : Int)), (.int .u64 (0 : Int))] : List Value).toArray 44) →
Runs Tryd.prog 38 #[(.slice (slcAddr b 18 bC 18) (bL - 18) (bC - 18))] h17 fun r8 h18 =>
∃ n7 : Int,
r8 = (.int .i64 n7) ∧
(0 ≤ n7 ∧ 0 < (16 : Int) ∧ fits .i64 (n7 / (16 : Int))) ∧
(cs2).length = 6 ∧
(cs3).length = 6 ∧
(((((cs2) ++ ((cs3) ++ ([(.int .i64 (n2 / (4096 : Int))), (.int .i64 (n7 / (16 : Int))), (.int .u64 (0 : Int))] : List Value))))).length = 15 ∧ wrs h18 b4 0 15 ∧ ∀ u ∈ ((((cs2) ++ ((cs3) ++ ([(.int .i64 (n2 / (4096 : Int))), (.int .i64 (n7 / (16 : Int))), (.int .u64 (0 : Int))] : List Value)))) : List Value), u.oneCell' = true) ∧ ∀ h19 : Heap, h19 = setr h18 b4 0 (((cs2) ++ ((cs3) ++ ([(.int .i64 (n2 / (4096 : Int))), (.int .i64 (n7 / (16 : Int))), (.int .u64 (0 : Int))] : List Value)))) →
∃ (I2 : Int → Heap → Prop) (m2 : Int → Heap → Nat), I2 (0 : Int) h19 ∧ ∀ _ : Env,
∀ (k_2 : Int) (h20 : Heap), I2 k_2 h20 →
bcase (decide (k_2 < (8 : Int))) (
∃ n8 : Int, cell h20 b4 14 = some (.int .u64 n8) ∧
fits .i64 ((20 : Int) + k_2) ∧
(0 ≤ ((20 : Int) + k_2) ∧ ((20 : Int) + k_2) < ((bL : Nat) : Int)) ∧
onAddr b fun b5 o2 =>
∃ n9 : Int, cell h20 b5 (o2 + (((20 : Int) + k_2)).toNat) = some (.int .u8 n9) ∧
fits .u64 n9 ∧
fits .i64 ((8 : Int) * k_2) ∧
fits .u64 ((8 : Int) * k_2) ∧
(0 ≤ ((8 : Int) * k_2) ∧ ((8 : Int) * k_2) ≤ kbits .u64) ∧
fits .u64 (n9 * (pow2 ((8 : Int) * k_2))) ∧
wr h20 b4 14 ∧ ∀ h21 : Heap, h21 = setc h20 b4 14 (.int .u64 (bits .or .u64 n8 (n9 * (pow2 ((8 : Int) * k_2))))) →
fits .i64 (k_2 + (1 : Int)) ∧
I2 (k_2 + (1 : Int)) h21 ∧ m2 (k_2 + (1 : Int)) h21 < m2 k_2 h20) (
∃ cs9 : List Value, row h20 b4 0 15 = some cs9 ∧
Runs Tryd.prog 39 #[(.agg (cs9).toArray)] h20 fun r9 h22 =>
∃ (s2 : Option Addr) (s2l s2c : Nat),
∃ n10 : Int,
r9 = (.tuple #[(.slice s2 s2l s2c), (.int .i64 n10)]) ∧
bcase (!decide (n10 = (0 : Int))) (
((([(.int .u8 (0 : Int)), (.int .u8 (0 : Int)), (.int .u8 (0 : Int)), (.int .u8 (0 : Int)), (.int .u8 (0 : Int)), (.int .u8 (0 : Int)), (.int .u8 (0 : Int)), (.int .u8 (0 : Int)), (.int .u8 (0 : Int)), (.int .u8 (0 : Int)), (.int .u8 (0 : Int)), (.int .u8 (0 : Int)), (.int .i64 (0 : Int)), (.int .i64 (0 : Int)), (.int .u64 (0 : Int))] : List Value)).length = 15 ∧ wrs h22 b1 0 15 ∧ ∀ u ∈ (([(.int .u8 (0 : Int)), (.int .u8 (0 : Int)), (.int .u8 (0 : Int)), (.int .u8 (0 : Int)), (.int .u8 (0 : Int)), (.int .u8 (0 : Int)), (.int .u8 (0 : Int)), (.int .u8 (0 : Int)), (.int .u8 (0 : Int)), (.int .u8 (0 : Int)), (.int .u8 (0 : Int)), (.int .u8 (0 : Int)), (.int .i64 (0 : Int)), (.int .i64 (0 : Int)), (.int .u64 (0 : Int))] : List Value) : List Value), u.oneCell' = true) ∧ ∀ h23 : Heap, h23 = setr h22 b1 0 ([(.int .u8 (0 : Int)), (.int .u8 (0 : Int)), (.int .u8 (0 : Int)), (.int .u8 (0 : Int)), (.int .u8 (0 : Int)), (.int .u8 (0 : Int)), (.int .u8 (0 : Int)), (.int .u8 (0 : Int)), (.int .u8 (0 : Int)), (.int .u8 (0 : Int)), (.int .u8 (0 : Int)), (.int .u8 (0 : Int)), (.int .i64 (0 : Int)), (.int .i64 (0 : Int)), (.int .u64 (0 : Int))] : List Value) →
∃ cs10 : List Value, row h23 b1 0 15 = some cs10 ∧
Post (.tuple #[(.agg (cs10).toArray), (.int .i64 (102 : Int))]) h23) (
Runs Tryd.prog 40 #[(.slice b bL bC), (.slice s2 s2l s2c)] h22 fun r10 h24 =>
∃ t2 : Bool,
r10 = (.bool t2) ∧
bcase (!t2) (
((([(.int .u8 (0 : Int)), (.int .u8 (0 : Int)), (.int .u8 (0 : Int)), (.int .u8 (0 : Int)), (.int .u8 (0 : Int)), (.int .u8 (0 : Int)), (.int .u8 (0 : Int)), (.int .u8 (0 : Int)), (.int .u8 (0 : Int)), (.int .u8 (0 : Int)), (.int .u8 (0 : Int)), (.int .u8 (0 : Int)), (.int .i64 (0 : Int)), (.int .i64 (0 : Int)), (.int .u64 (0 : Int))] : List Value)).length = 15 ∧ wrs h24 b1 0 15 ∧ ∀ u ∈ (([(.int .u8 (0 : Int)), (.int .u8 (0 : Int)), (.int .u8 (0 : Int)), (.int .u8 (0 : Int)), (.int .u8 (0 : Int)), (.int .u8 (0 : Int)), (.int .u8 (0 : Int)), (.int .u8 (0 : Int)), (.int .u8 (0 : Int)), (.int .u8 (0 : Int)), (.int .u8 (0 : Int)), (.int .u8 (0 : Int)), (.int .i64 (0 : Int)), (.int .i64 (0 : Int)), (.int .u64 (0 : Int))] : List Value) : List Value), u.oneCell' = true) ∧ ∀ h25 : Heap, h25 = setr h24 b1 0 ([(.int .u8 (0 : Int)), (.int .u8 (0 : Int)), (.int .u8 (0 : Int)), (.int .u8 (0 : Int)), (.int .u8 (0 : Int)), (.int .u8 (0 : Int)), (.int .u8 (0 : Int)), (.int .u8 (0 : Int)), (.int .u8 (0 : Int)), (.int .u8 (0 : Int)), (.int .u8 (0 : Int)), (.int .u8 (0 : Int)), (.int .i64 (0 : Int)), (.int .i64 (0 : Int)), (.int .u64 (0 : Int))] : List Value) →
∃ cs11 : List Value, row h25 b1 0 15 = some cs11 ∧
Post (.tuple #[(.agg (cs11).toArray), (.int .i64 (102 : Int))]) h25) (
∃ cs12 : List Value, row h24 b4 0 15 = some cs12 ∧
(((cs12)).length = 15 ∧ wrs h24 b1 0 15 ∧ ∀ u ∈ ((cs12) : List Value), u.oneCell' = true) ∧ ∀ h26 : Heap, h26 = setr h24 b1 0 (cs12) →
∃ cs13 : List Value, row h26 b1 0 15 = some cs13 ∧
Post (.tuple #[(.agg (cs13).toArray), (.int .i64 (0 : Int))]) h26))))) ∧
(
∀ (b6 : Nat) (h27 : Heap), b6 = h5.size → h27 = h5.push (.cells ([(.int .u8 (0 : Int)), (.int .u8 (0 : Int)), (.int .u8 (0 : Int)), (.int .u8 (0 : Int)), (.int .u8 (0 : Int)), (.int .u8 (0 : Int)), (.int .u8 (0 : Int)), (.int .u8 (0 : Int)), (.int .u8 (0 : Int)), (.int .u8 (0 : Int)), (.int .u8 (0 : Int)), (.int .u8 (0 : Int)), (.int .i64 (0 : Int)), (.int .i64 (0 : Int)), (.int .u64 (0 : Int))] : List Value).toArray 44) →
Runs Tryd.prog 38 #[(.slice (slcAddr b 16 bC 16) (bL - 16) (bC - 16))] h27 fun r11 h28 =>
∃ n11 : Int,
r11 = (.int .i64 n11) ∧
(0 ≤ n11 ∧ 0 < (4096 : Int) ∧ fits .i64 (n11 / (4096 : Int))) ∧
Runs Tryd.prog 38 #[(.slice (slcAddr b 18 bC 18) (bL - 18) (bC - 18))] h28 fun r12 h29 =>
∃ n12 : Int,
r12 = (.int .i64 n12) ∧
(0 ≤ n12 ∧ 0 < (16 : Int) ∧ fits .i64 (n12 / (16 : Int))) ∧
(cs2).length = 6 ∧
(cs3).length = 6 ∧
(((((cs2) ++ ((cs3) ++ ([(.int .i64 (n11 / (4096 : Int))), (.int .i64 (n12 / (16 : Int))), (.int .u64 (0 : Int))] : List Value))))).length = 15 ∧ wrs h29 b6 0 15 ∧ ∀ u ∈ ((((cs2) ++ ((cs3) ++ ([(.int .i64 (n11 / (4096 : Int))), (.int .i64 (n12 / (16 : Int))), (.int .u64 (0 : Int))] : List Value)))) : List Value), u.oneCell' = true) ∧ ∀ h30 : Heap, h30 = setr h29 b6 0 (((cs2) ++ ((cs3) ++ ([(.int .i64 (n11 / (4096 : Int))), (.int .i64 (n12 / (16 : Int))), (.int .u64 (0 : Int))] : List Value)))) →
∃ (I3 : Int → Heap → Prop) (m3 : Int → Heap → Nat), I3 (0 : Int) h30 ∧ ∀ _ : Env,
∀ (k_3 : Int) (h31 : Heap), I3 k_3 h31 →
bcase (decide (k_3 < (8 : Int))) (
∃ n13 : Int, cell h31 b6 14 = some (.int .u64 n13) ∧
fits .i64 ((20 : Int) + k_3) ∧
(0 ≤ ((20 : Int) + k_3) ∧ ((20 : Int) + k_3) < ((bL : Nat) : Int)) ∧
onAddr b fun b7 o3 =>
∃ n14 : Int, cell h31 b7 (o3 + (((20 : Int) + k_3)).toNat) = some (.int .u8 n14) ∧
fits .u64 n14 ∧
fits .i64 ((8 : Int) * k_3) ∧
fits .u64 ((8 : Int) * k_3) ∧
(0 ≤ ((8 : Int) * k_3) ∧ ((8 : Int) * k_3) ≤ kbits .u64) ∧
fits .u64 (n14 * (pow2 ((8 : Int) * k_3))) ∧
wr h31 b6 14 ∧ ∀ h32 : Heap, h32 = setc h31 b6 14 (.int .u64 (bits .or .u64 n13 (n14 * (pow2 ((8 : Int) * k_3))))) →
fits .i64 (k_3 + (1 : Int)) ∧
I3 (k_3 + (1 : Int)) h32 ∧ m3 (k_3 + (1 : Int)) h32 < m3 k_3 h31) (
∃ cs14 : List Value, row h31 b6 0 15 = some cs14 ∧
Runs Tryd.prog 39 #[(.agg (cs14).toArray)] h31 fun r13 h33 =>
∃ (s3 : Option Addr) (s3l s3c : Nat),
∃ n15 : Int,
r13 = (.tuple #[(.slice s3 s3l s3c), (.int .i64 n15)]) ∧
bcase (!decide (n15 = (0 : Int))) (
((([(.int .u8 (0 : Int)), (.int .u8 (0 : Int)), (.int .u8 (0 : Int)), (.int .u8 (0 : Int)), (.int .u8 (0 : Int)), (.int .u8 (0 : Int)), (.int .u8 (0 : Int)), (.int .u8 (0 : Int)), (.int .u8 (0 : Int)), (.int .u8 (0 : Int)), (.int .u8 (0 : Int)), (.int .u8 (0 : Int)), (.int .i64 (0 : Int)), (.int .i64 (0 : Int)), (.int .u64 (0 : Int))] : List Value)).length = 15 ∧ wrs h33 b1 0 15 ∧ ∀ u ∈ (([(.int .u8 (0 : Int)), (.int .u8 (0 : Int)), (.int .u8 (0 : Int)), (.int .u8 (0 : Int)), (.int .u8 (0 : Int)), (.int .u8 (0 : Int)), (.int .u8 (0 : Int)), (.int .u8 (0 : Int)), (.int .u8 (0 : Int)), (.int .u8 (0 : Int)), (.int .u8 (0 : Int)), (.int .u8 (0 : Int)), (.int .i64 (0 : Int)), (.int .i64 (0 : Int)), (.int .u64 (0 : Int))] : List Value) : List Value), u.oneCell' = true) ∧ ∀ h34 : Heap, h34 = setr h33 b1 0 ([(.int .u8 (0 : Int)), (.int .u8 (0 : Int)), (.int .u8 (0 : Int)), (.int .u8 (0 : Int)), (.int .u8 (0 : Int)), (.int .u8 (0 : Int)), (.int .u8 (0 : Int)), (.int .u8 (0 : Int)), (.int .u8 (0 : Int)), (.int .u8 (0 : Int)), (.int .u8 (0 : Int)), (.int .u8 (0 : Int)), (.int .i64 (0 : Int)), (.int .i64 (0 : Int)), (.int .u64 (0 : Int))] : List Value) →
∃ cs15 : List Value, row h34 b1 0 15 = some cs15 ∧
Post (.tuple #[(.agg (cs15).toArray), (.int .i64 (102 : Int))]) h34) (
Runs Tryd.prog 40 #[(.slice b bL bC), (.slice s3 s3l s3c)] h33 fun r14 h35 =>
∃ t3 : Bool,
r14 = (.bool t3) ∧
bcase (!t3) (
((([(.int .u8 (0 : Int)), (.int .u8 (0 : Int)), (.int .u8 (0 : Int)), (.int .u8 (0 : Int)), (.int .u8 (0 : Int)), (.int .u8 (0 : Int)), (.int .u8 (0 : Int)), (.int .u8 (0 : Int)), (.int .u8 (0 : Int)), (.int .u8 (0 : Int)), (.int .u8 (0 : Int)), (.int .u8 (0 : Int)), (.int .i64 (0 : Int)), (.int .i64 (0 : Int)), (.int .u64 (0 : Int))] : List Value)).length = 15 ∧ wrs h35 b1 0 15 ∧ ∀ u ∈ (([(.int .u8 (0 : Int)), (.int .u8 (0 : Int)), (.int .u8 (0 : Int)), (.int .u8 (0 : Int)), (.int .u8 (0 : Int)), (.int .u8 (0 : Int)), (.int .u8 (0 : Int)), (.int .u8 (0 : Int)), (.int .u8 (0 : Int)), (.int .u8 (0 : Int)), (.int .u8 (0 : Int)), (.int .u8 (0 : Int)), (.int .i64 (0 : Int)), (.int .i64 (0 : Int)), (.int .u64 (0 : Int))] : List Value) : List Value), u.oneCell' = true) ∧ ∀ h36 : Heap, h36 = setr h35 b1 0 ([(.int .u8 (0 : Int)), (.int .u8 (0 : Int)), (.int .u8 (0 : Int)), (.int .u8 (0 : Int)), (.int .u8 (0 : Int)), (.int .u8 (0 : Int)), (.int .u8 (0 : Int)), (.int .u8 (0 : Int)), (.int .u8 (0 : Int)), (.int .u8 (0 : Int)), (.int .u8 (0 : Int)), (.int .u8 (0 : Int)), (.int .i64 (0 : Int)), (.int .i64 (0 : Int)), (.int .u64 (0 : Int))] : List Value) →
∃ cs16 : List Value, row h36 b1 0 15 = some cs16 ∧
Post (.tuple #[(.agg (cs16).toArray), (.int .i64 (102 : Int))]) h36) (
∃ cs17 : List Value, row h35 b6 0 15 = some cs17 ∧
(((cs17)).length = 15 ∧ wrs h35 b1 0 15 ∧ ∀ u ∈ ((cs17) : List Value), u.oneCell' = true) ∧ ∀ h37 : Heap, h37 = setr h35 b1 0 (cs17) →
∃ cs18 : List Value, row h37 b1 0 15 = some cs18 ∧
Post (.tuple #[(.agg (cs18).toArray), (.int .i64 (0 : Int))]) h37))))) ∧
(
∀ (b8 : Nat) (h38 : Heap), b8 = h4.size → h38 = h4.push (.cells ([(.int .u8 (0 : Int)), (.int .u8 (0 : Int)), (.int .u8 (0 : Int)), (.int .u8 (0 : Int)), (.int .u8 (0 : Int)), (.int .u8 (0 : Int)), (.int .u8 (0 : Int)), (.int .u8 (0 : Int)), (.int .u8 (0 : Int)), (.int .u8 (0 : Int)), (.int .u8 (0 : Int)), (.int .u8 (0 : Int)), (.int .i64 (0 : Int)), (.int .i64 (0 : Int)), (.int .u64 (0 : Int))] : List Value).toArray 44) →
Runs Tryd.prog 37 #[(.slice (slcAddr b 10 bC 10) (bL - 10) (bC - 10))] h38 fun r15 h39 =>
∃ cs19 : List Value,
r15 = (.agg (cs19).toArray) ∧
Runs Tryd.prog 38 #[(.slice (slcAddr b 16 bC 16) (bL - 16) (bC - 16))] h39 fun r16 h40 =>
∃ n16 : Int,
r16 = (.int .i64 n16) ∧
(0 ≤ n16 ∧ 0 < (4096 : Int) ∧ fits .i64 (n16 / (4096 : Int))) ∧
Runs Tryd.prog 38 #[(.slice (slcAddr b 18 bC 18) (bL - 18) (bC - 18))] h40 fun r17 h41 =>
∃ n17 : Int,
r17 = (.int .i64 n17) ∧
(0 ≤ n17 ∧ 0 < (16 : Int) ∧ fits .i64 (n17 / (16 : Int))) ∧
(cs2).length = 6 ∧
(cs19).length = 6 ∧
(((((cs2) ++ ((cs19) ++ ([(.int .i64 (n16 / (4096 : Int))), (.int .i64 (n17 / (16 : Int))), (.int .u64 (0 : Int))] : List Value))))).length = 15 ∧ wrs h41 b8 0 15 ∧ ∀ u ∈ ((((cs2) ++ ((cs19) ++ ([(.int .i64 (n16 / (4096 : Int))), (.int .i64 (n17 / (16 : Int))), (.int .u64 (0 : Int))] : List Value)))) : List Value), u.oneCell' = true) ∧ ∀ h42 : Heap, h42 = setr h41 b8 0 (((cs2) ++ ((cs19) ++ ([(.int .i64 (n16 / (4096 : Int))), (.int .i64 (n17 / (16 : Int))), (.int .u64 (0 : Int))] : List Value)))) →
∃ (I4 : Int → Heap → Prop) (m4 : Int → Heap → Nat), I4 (0 : Int) h42 ∧ ∀ _ : Env,
∀ (k_4 : Int) (h43 : Heap), I4 k_4 h43 →
bcase (decide (k_4 < (8 : Int))) (
∃ n18 : Int, cell h43 b8 14 = some (.int .u64 n18) ∧
fits .i64 ((20 : Int) + k_4) ∧
(0 ≤ ((20 : Int) + k_4) ∧ ((20 : Int) + k_4) < ((bL : Nat) : Int)) ∧
onAddr b fun b9 o4 =>
∃ n19 : Int, cell h43 b9 (o4 + (((20 : Int) + k_4)).toNat) = some (.int .u8 n19) ∧
fits .u64 n19 ∧
fits .i64 ((8 : Int) * k_4) ∧
fits .u64 ((8 : Int) * k_4) ∧
(0 ≤ ((8 : Int) * k_4) ∧ ((8 : Int) * k_4) ≤ kbits .u64) ∧
fits .u64 (n19 * (pow2 ((8 : Int) * k_4))) ∧
wr h43 b8 14 ∧ ∀ h44 : Heap, h44 = setc h43 b8 14 (.int .u64 (bits .or .u64 n18 (n19 * (pow2 ((8 : Int) * k_4))))) →
fits .i64 (k_4 + (1 : Int)) ∧
I4 (k_4 + (1 : Int)) h44 ∧ m4 (k_4 + (1 : Int)) h44 < m4 k_4 h43) (
∃ cs20 : List Value, row h43 b8 0 15 = some cs20 ∧
Runs Tryd.prog 39 #[(.agg (cs20).toArray)] h43 fun r18 h45 =>
∃ (s4 : Option Addr) (s4l s4c : Nat),
∃ n20 : Int,
r18 = (.tuple #[(.slice s4 s4l s4c), (.int .i64 n20)]) ∧
bcase (!decide (n20 = (0 : Int))) (
((([(.int .u8 (0 : Int)), (.int .u8 (0 : Int)), (.int .u8 (0 : Int)), (.int .u8 (0 : Int)), (.int .u8 (0 : Int)), (.int .u8 (0 : Int)), (.int .u8 (0 : Int)), (.int .u8 (0 : Int)), (.int .u8 (0 : Int)), (.int .u8 (0 : Int)), (.int .u8 (0 : Int)), (.int .u8 (0 : Int)), (.int .i64 (0 : Int)), (.int .i64 (0 : Int)), (.int .u64 (0 : Int))] : List Value)).length = 15 ∧ wrs h45 b1 0 15 ∧ ∀ u ∈ (([(.int .u8 (0 : Int)), (.int .u8 (0 : Int)), (.int .u8 (0 : Int)), (.int .u8 (0 : Int)), (.int .u8 (0 : Int)), (.int .u8 (0 : Int)), (.int .u8 (0 : Int)), (.int .u8 (0 : Int)), (.int .u8 (0 : Int)), (.int .u8 (0 : Int)), (.int .u8 (0 : Int)), (.int .u8 (0 : Int)), (.int .i64 (0 : Int)), (.int .i64 (0 : Int)), (.int .u64 (0 : Int))] : List Value) : List Value), u.oneCell' = true) ∧ ∀ h46 : Heap, h46 = setr h45 b1 0 ([(.int .u8 (0 : Int)), (.int .u8 (0 : Int)), (.int .u8 (0 : Int)), (.int .u8 (0 : Int)), (.int .u8 (0 : Int)), (.int .u8 (0 : Int)), (.int .u8 (0 : Int)), (.int .u8 (0 : Int)), (.int .u8 (0 : Int)), (.int .u8 (0 : Int)), (.int .u8 (0 : Int)), (.int .u8 (0 : Int)), (.int .i64 (0 : Int)), (.int .i64 (0 : Int)), (.int .u64 (0 : Int))] : List Value) →
∃ cs21 : List Value, row h46 b1 0 15 = some cs21 ∧
Post (.tuple #[(.agg (cs21).toArray), (.int .i64 (102 : Int))]) h46) (
Runs Tryd.prog 40 #[(.slice b bL bC), (.slice s4 s4l s4c)] h45 fun r19 h47 =>
∃ t4 : Bool,
r19 = (.bool t4) ∧
bcase (!t4) (
((([(.int .u8 (0 : Int)), (.int .u8 (0 : Int)), (.int .u8 (0 : Int)), (.int .u8 (0 : Int)), (.int .u8 (0 : Int)), (.int .u8 (0 : Int)), (.int .u8 (0 : Int)), (.int .u8 (0 : Int)), (.int .u8 (0 : Int)), (.int .u8 (0 : Int)), (.int .u8 (0 : Int)), (.int .u8 (0 : Int)), (.int .i64 (0 : Int)), (.int .i64 (0 : Int)), (.int .u64 (0 : Int))] : List Value)).length = 15 ∧ wrs h47 b1 0 15 ∧ ∀ u ∈ (([(.int .u8 (0 : Int)), (.int .u8 (0 : Int)), (.int .u8 (0 : Int)), (.int .u8 (0 : Int)), (.int .u8 (0 : Int)), (.int .u8 (0 : Int)), (.int .u8 (0 : Int)), (.int .u8 (0 : Int)), (.int .u8 (0 : Int)), (.int .u8 (0 : Int)), (.int .u8 (0 : Int)), (.int .u8 (0 : Int)), (.int .i64 (0 : Int)), (.int .i64 (0 : Int)), (.int .u64 (0 : Int))] : List Value) : List Value), u.oneCell' = true) ∧ ∀ h48 : Heap, h48 = setr h47 b1 0 ([(.int .u8 (0 : Int)), (.int .u8 (0 : Int)), (.int .u8 (0 : Int)), (.int .u8 (0 : Int)), (.int .u8 (0 : Int)), (.int .u8 (0 : Int)), (.int .u8 (0 : Int)), (.int .u8 (0 : Int)), (.int .u8 (0 : Int)), (.int .u8 (0 : Int)), (.int .u8 (0 : Int)), (.int .u8 (0 : Int)), (.int .i64 (0 : Int)), (.int .i64 (0 : Int)), (.int .u64 (0 : Int))] : List Value) →
∃ cs22 : List Value, row h48 b1 0 15 = some cs22 ∧
Post (.tuple #[(.agg (cs22).toArray), (.int .i64 (102 : Int))]) h48) (
∃ cs23 : List Value, row h47 b8 0 15 = some cs23 ∧
(((cs23)).length = 15 ∧ wrs h47 b1 0 15 ∧ ∀ u ∈ ((cs23) : List Value), u.oneCell' = true) ∧ ∀ h49 : Heap, h49 = setr h47 b1 0 (cs23) →
∃ cs24 : List Value, row h49 b1 0 15 = some cs24 ∧
Post (.tuple #[(.agg (cs24).toArray), (.int .i64 (0 : Int))]) h49))))) ∧
(
∀ (b10 : Nat) (h50 : Heap), b10 = h2.size → h50 = h2.push (.cells ([(.int .u8 (0 : Int)), (.int .u8 (0 : Int)), (.int .u8 (0 : Int)), (.int .u8 (0 : Int)), (.int .u8 (0 : Int)), (.int .u8 (0 : Int)), (.int .u8 (0 : Int)), (.int .u8 (0 : Int)), (.int .u8 (0 : Int)), (.int .u8 (0 : Int)), (.int .u8 (0 : Int)), (.int .u8 (0 : Int)), (.int .i64 (0 : Int)), (.int .i64 (0 : Int)), (.int .u64 (0 : Int))] : List Value).toArray 44) →
Runs Tryd.prog 37 #[(.slice (slcAddr b 4 bC 4) (bL - 4) (bC - 4))] h50 fun r20 h51 =>
∃ cs25 : List Value,
r20 = (.agg (cs25).toArray) ∧
Runs Tryd.prog 37 #[(.slice (slcAddr b 10 bC 10) (bL - 10) (bC - 10))] h51 fun r21 h52 =>
∃ cs26 : List Value,
r21 = (.agg (cs26).toArray) ∧
Runs Tryd.prog 38 #[(.slice (slcAddr b 16 bC 16) (bL - 16) (bC - 16))] h52 fun r22 h53 =>
∃ n21 : Int,
r22 = (.int .i64 n21) ∧
(0 ≤ n21 ∧ 0 < (4096 : Int) ∧ fits .i64 (n21 / (4096 : Int))) ∧
Runs Tryd.prog 38 #[(.slice (slcAddr b 18 bC 18) (bL - 18) (bC - 18))] h53 fun r23 h54 =>
∃ n22 : Int,
r23 = (.int .i64 n22) ∧
(0 ≤ n22 ∧ 0 < (16 : Int) ∧ fits .i64 (n22 / (16 : Int))) ∧
(cs25).length = 6 ∧
(cs26).length = 6 ∧
(((((cs25) ++ ((cs26) ++ ([(.int .i64 (n21 / (4096 : Int))), (.int .i64 (n22 / (16 : Int))), (.int .u64 (0 : Int))] : List Value))))).length = 15 ∧ wrs h54 b10 0 15 ∧ ∀ u ∈ ((((cs25) ++ ((cs26) ++ ([(.int .i64 (n21 / (4096 : Int))), (.int .i64 (n22 / (16 : Int))), (.int .u64 (0 : Int))] : List Value)))) : List Value), u.oneCell' = true) ∧ ∀ h55 : Heap, h55 = setr h54 b10 0 (((cs25) ++ ((cs26) ++ ([(.int .i64 (n21 / (4096 : Int))), (.int .i64 (n22 / (16 : Int))), (.int .u64 (0 : Int))] : List Value)))) →
∃ (I5 : Int → Heap → Prop) (m5 : Int → Heap → Nat), I5 (0 : Int) h55 ∧ ∀ _ : Env,
∀ (k_5 : Int) (h56 : Heap), I5 k_5 h56 →
bcase (decide (k_5 < (8 : Int))) (
∃ n23 : Int, cell h56 b10 14 = some (.int .u64 n23) ∧
fits .i64 ((20 : Int) + k_5) ∧
(0 ≤ ((20 : Int) + k_5) ∧ ((20 : Int) + k_5) < ((bL : Nat) : Int)) ∧
onAddr b fun b11 o5 =>
∃ n24 : Int, cell h56 b11 (o5 + (((20 : Int) + k_5)).toNat) = some (.int .u8 n24) ∧
fits .u64 n24 ∧
fits .i64 ((8 : Int) * k_5) ∧
fits .u64 ((8 : Int) * k_5) ∧
(0 ≤ ((8 : Int) * k_5) ∧ ((8 : Int) * k_5) ≤ kbits .u64) ∧
fits .u64 (n24 * (pow2 ((8 : Int) * k_5))) ∧
wr h56 b10 14 ∧ ∀ h57 : Heap, h57 = setc h56 b10 14 (.int .u64 (bits .or .u64 n23 (n24 * (pow2 ((8 : Int) * k_5))))) →
fits .i64 (k_5 + (1 : Int)) ∧
I5 (k_5 + (1 : Int)) h57 ∧ m5 (k_5 + (1 : Int)) h57 < m5 k_5 h56) (
∃ cs27 : List Value, row h56 b10 0 15 = some cs27 ∧
Runs Tryd.prog 39 #[(.agg (cs27).toArray)] h56 fun r24 h58 =>
∃ (s5 : Option Addr) (s5l s5c : Nat),
∃ n25 : Int,
r24 = (.tuple #[(.slice s5 s5l s5c), (.int .i64 n25)]) ∧
bcase (!decide (n25 = (0 : Int))) (
((([(.int .u8 (0 : Int)), (.int .u8 (0 : Int)), (.int .u8 (0 : Int)), (.int .u8 (0 : Int)), (.int .u8 (0 : Int)), (.int .u8 (0 : Int)), (.int .u8 (0 : Int)), (.int .u8 (0 : Int)), (.int .u8 (0 : Int)), (.int .u8 (0 : Int)), (.int .u8 (0 : Int)), (.int .u8 (0 : Int)), (.int .i64 (0 : Int)), (.int .i64 (0 : Int)), (.int .u64 (0 : Int))] : List Value)).length = 15 ∧ wrs h58 b1 0 15 ∧ ∀ u ∈ (([(.int .u8 (0 : Int)), (.int .u8 (0 : Int)), (.int .u8 (0 : Int)), (.int .u8 (0 : Int)), (.int .u8 (0 : Int)), (.int .u8 (0 : Int)), (.int .u8 (0 : Int)), (.int .u8 (0 : Int)), (.int .u8 (0 : Int)), (.int .u8 (0 : Int)), (.int .u8 (0 : Int)), (.int .u8 (0 : Int)), (.int .i64 (0 : Int)), (.int .i64 (0 : Int)), (.int .u64 (0 : Int))] : List Value) : List Value), u.oneCell' = true) ∧ ∀ h59 : Heap, h59 = setr h58 b1 0 ([(.int .u8 (0 : Int)), (.int .u8 (0 : Int)), (.int .u8 (0 : Int)), (.int .u8 (0 : Int)), (.int .u8 (0 : Int)), (.int .u8 (0 : Int)), (.int .u8 (0 : Int)), (.int .u8 (0 : Int)), (.int .u8 (0 : Int)), (.int .u8 (0 : Int)), (.int .u8 (0 : Int)), (.int .u8 (0 : Int)), (.int .i64 (0 : Int)), (.int .i64 (0 : Int)), (.int .u64 (0 : Int))] : List Value) →
∃ cs28 : List Value, row h59 b1 0 15 = some cs28 ∧
Post (.tuple #[(.agg (cs28).toArray), (.int .i64 (102 : Int))]) h59) (
Runs Tryd.prog 40 #[(.slice b bL bC), (.slice s5 s5l s5c)] h58 fun r25 h60 =>
∃ t5 : Bool,
r25 = (.bool t5) ∧
bcase (!t5) (
((([(.int .u8 (0 : Int)), (.int .u8 (0 : Int)), (.int .u8 (0 : Int)), (.int .u8 (0 : Int)), (.int .u8 (0 : Int)), (.int .u8 (0 : Int)), (.int .u8 (0 : Int)), (.int .u8 (0 : Int)), (.int .u8 (0 : Int)), (.int .u8 (0 : Int)), (.int .u8 (0 : Int)), (.int .u8 (0 : Int)), (.int .i64 (0 : Int)), (.int .i64 (0 : Int)), (.int .u64 (0 : Int))] : List Value)).length = 15 ∧ wrs h60 b1 0 15 ∧ ∀ u ∈ (([(.int .u8 (0 : Int)), (.int .u8 (0 : Int)), (.int .u8 (0 : Int)), (.int .u8 (0 : Int)), (.int .u8 (0 : Int)), (.int .u8 (0 : Int)), (.int .u8 (0 : Int)), (.int .u8 (0 : Int)), (.int .u8 (0 : Int)), (.int .u8 (0 : Int)), (.int .u8 (0 : Int)), (.int .u8 (0 : Int)), (.int .i64 (0 : Int)), (.int .i64 (0 : Int)), (.int .u64 (0 : Int))] : List Value) : List Value), u.oneCell' = true) ∧ ∀ h61 : Heap, h61 = setr h60 b1 0 ([(.int .u8 (0 : Int)), (.int .u8 (0 : Int)), (.int .u8 (0 : Int)), (.int .u8 (0 : Int)), (.int .u8 (0 : Int)), (.int .u8 (0 : Int)), (.int .u8 (0 : Int)), (.int .u8 (0 : Int)), (.int .u8 (0 : Int)), (.int .u8 (0 : Int)), (.int .u8 (0 : Int)), (.int .u8 (0 : Int)), (.int .i64 (0 : Int)), (.int .i64 (0 : Int)), (.int .u64 (0 : Int))] : List Value) →
∃ cs29 : List Value, row h61 b1 0 15 = some cs29 ∧
Post (.tuple #[(.agg (cs29).toArray), (.int .i64 (102 : Int))]) h61) (
∃ cs30 : List Value, row h60 b10 0 15 = some cs30 ∧
(((cs30)).length = 15 ∧ wrs h60 b1 0 15 ∧ ∀ u ∈ ((cs30) : List Value), u.oneCell' = true) ∧ ∀ h62 : Heap, h62 = setr h60 b1 0 (cs30) →
∃ cs31 : List Value, row h62 b1 0 15 = some cs31 ∧
Post (.tuple #[(.agg (cs31).toArray), (.int .i64 (0 : Int))]) h62)))))) :
    Runs Tryd.prog 16 #[(.slice b bL bC)] h0 Post :=
  runs_of (args := [(.slice b bL bC)]) (fun n => ⟨true, false⟩) (fun n => match n with | 0 => [(6, .int .i64)] | _ => []) (fun _ => none) (fun _ => []) Tryd.func16 rfl (by rw [Tryd.ntmps16]; simp) (Eq.mp (by kernel_rfl) H)

theorem vc_muezzinref1_AckBytes (f : List Value) (h0 : Heap) (Post : Value → Heap → Prop) (H :
∀ (b1 : Nat) (h1 : Heap), b1 = h0.size → h1 = h0.push (.cells (f).toArray 44) →
∃ n1 : Int, cell h1 b1 12 = some (.int .i64 n1) ∧
Runs Tryd.prog 43 #[(.int .i64 n1), (.int .i64 (7 : Int))] h1 fun r1 h2 =>
∃ t1 : Bool,
r1 = (.bool t1) ∧
bcase t1 (
Post (.tuple #[(.slice none 0 0), (.int .i64 (103 : Int))]) h2) (
∃ n2 : Int, cell h2 b1 13 = some (.int .i64 n2) ∧
Runs Tryd.prog 43 #[(.int .i64 n2), (.int .i64 (4095 : Int))] h2 fun r2 h3 =>
∃ t2 : Bool,
r2 = (.bool t2) ∧
bcase t2 (
Post (.tuple #[(.slice none 0 0), (.int .i64 (103 : Int))]) h3) (
∃ cs1 : List Value, row h3 b1 0 6 = some cs1 ∧
∃ cs2 : List Value, row h3 b1 6 6 = some cs2 ∧
∃ n3 : Int, cell h3 b1 12 = some (.int .i64 n3) ∧
∃ n4 : Int, cell h3 b1 13 = some (.int .i64 n4) ∧
∀ (b2 : Nat) (h4 : Heap), b2 = h3.size → h4 = h3.push (.cells ([(.int .u8 (148 : Int)), (.int .u8 (0 : Int)), (.int .u8 (0 : Int)), (.int .u8 (0 : Int))] : List Value).toArray 5) →
Runs Tryd.prog 45 #[(.slice (some ⟨b2, 0, none⟩) 4 4), (.agg (cs1).toArray)] h4 fun r3 h5 =>
∃ (s1 : Option Addr) (s1l s1c : Nat),
r3 = (.slice s1 s1l s1c) ∧
cell h5 b1 13 = some (.int .i64 n4) ∧
cell h5 b1 12 = some (.int .i64 n3) ∧
row h5 b1 6 6 = some (cs2) ∧
Runs Tryd.prog 45 #[(.slice s1 s1l s1c), (.agg (cs2).toArray)] h5 fun r4 h6 =>
∃ (s2 : Option Addr) (s2l s2c : Nat),
r4 = (.slice s2 s2l s2c) ∧
cell h6 b1 13 = some (.int .i64 n4) ∧
cell h6 b1 12 = some (.int .i64 n3) ∧
Runs Tryd.prog 46 #[(.slice s2 s2l s2c), (.int .i64 (IntKind.i64.wrap ((4 : Int) + (IntKind.i64.wrap (n3 * (4096 : Int))))))] h6 fun r5 h7 =>
∃ (s3 : Option Addr) (s3l s3c : Nat),
r5 = (.slice s3 s3l s3c) ∧
cell h7 b1 13 = some (.int .i64 n4) ∧
cell h7 b1 12 = some (.int .i64 n3) ∧
Runs Tryd.prog 46 #[(.slice s3 s3l s3c), (.int .i64 (IntKind.i64.wrap (n4 * (16 : Int))))] h7 fun r6 h8 =>
∃ (s4 : Option Addr) (s4l s4c : Nat),
r6 = (.slice s4 s4l s4c) ∧
cell h8 b1 13 = some (.int .i64 n4) ∧
cell h8 b1 12 = some (.int .i64 n3) ∧
∃ (I1 : Option Addr → Nat → Nat → Int → Heap → Prop) (m1 : Option Addr → Nat → Nat → Int → Heap → Nat), I1 s4 s4l s4c (0 : Int) h8 ∧ ∀ _ : Env,
∀ (b_1 : Option Addr) (b_1l b_1c : Nat) (k_1 : Int) (h9 : Heap), I1 b_1 b_1l b_1c k_1 h9 →
bcase (decide (k_1 < (8 : Int))) (
∃ n5 : Int, cell h9 b1 14 = some (.int .u64 n5) ∧
(0 ≤ (IntKind.u64.wrap (IntKind.i64.wrap ((8 : Int) * k_1))) ∧ (IntKind.u64.wrap (IntKind.i64.wrap ((8 : Int) * k_1))) ≤ kbits .u64) ∧
∀ (b3 : Nat) (h10 : Heap), b3 = h9.size → h10 = h9.push (.cells ([(.int .u8 (IntKind.u8.wrap (n5 / (pow2 (IntKind.u64.wrap (IntKind.i64.wrap ((8 : Int) * k_1)))))))] : List Value).toArray 5) →
∃ news1 : List Value, (row h10 b3 0 1 = some news1 ∧ ∀ u ∈ news1, u.oneCell' = true) ∧
appK h10 b_1 b_1l b_1c 1 1 5 1 news1 fun (a1 : Option Addr) (cap1 : Nat) (h11 : Heap) =>
I1 a1 (b_1l + 1) cap1 (IntKind.i64.wrap (k_1 + (1 : Int))) h11 ∧ m1 a1 (b_1l + 1) cap1 (IntKind.i64.wrap (k_1 + (1 : Int))) h11 < m1 b_1 b_1l b_1c k_1 h9) (
Post (.tuple #[(.slice b_1 b_1l b_1c), (.int .i64 (0 : Int))]) h9)))) :
    Runs Tryd.prog 39 #[(.agg (f).toArray)] h0 Post :=
  runs_of (args := [(.agg (f).toArray)]) (fun n => ⟨false, false⟩) (fun n => match n with | 0 => [(4, .slice), (5, .int .i64)] | _ => []) (fun _ => none) (fun _ => []) Tryd.func39 rfl (by rw [Tryd.ntmps39]; simp) (Eq.mp (by kernel_rfl) H)

theorem vc_muezzinref1_head (to_ : List Value) (from_ : List Value) (bss : List Value) (h0 : Heap) (Post : Value → Heap → Prop) (H :
∀ (b1 : Nat) (h1 : Heap), b1 = h0.size → h1 = h0.push (.cells (to_).toArray 31) →
∀ (b2 : Nat) (h2 : Heap), b2 = h1.size → h2 = h1.push (.cells (from_).toArray 31) →
∀ (b3 : Nat) (h3 : Heap), b3 = h2.size → h3 = h2.push (.cells (bss).toArray 31) →
∃ cs1 : List Value, row h3 b1 0 6 = some cs1 ∧
∃ cs2 : List Value, row h3 b2 0 6 = some cs2 ∧
∃ cs3 : List Value, row h3 b3 0 6 = some cs3 ∧
∀ (b4 : Nat) (h4 : Heap), b4 = h3.size → h4 = h3.push (.cells ([(.int .u8 (208 : Int)), (.int .u8 (0 : Int)), (.int .u8 (0 : Int)), (.int .u8 (0 : Int))] : List Value).toArray 5) →
Runs Tryd.prog 45 #[(.slice (some ⟨b4, 0, none⟩) 4 4), (.agg (cs1).toArray)] h4 fun r1 h5 =>
∃ (s1 : Option Addr) (s1l s1c : Nat),
r1 = (.slice s1 s1l s1c) ∧
row h5 b3 0 6 = some (cs3) ∧
row h5 b2 0 6 = some (cs2) ∧
Runs Tryd.prog 45 #[(.slice s1 s1l s1c), (.agg (cs2).toArray)] h5 fun r2 h6 =>
∃ (s2 : Option Addr) (s2l s2c : Nat),
r2 = (.slice s2 s2l s2c) ∧
row h6 b3 0 6 = some (cs3) ∧
Runs Tryd.prog 45 #[(.slice s2 s2l s2c), (.agg (cs3).toArray)] h6 fun r3 h7 =>
∃ (s3 : Option Addr) (s3l s3c : Nat),
r3 = (.slice s3 s3l s3c) ∧
∀ (b5 : Nat) (h8 : Heap), b5 = h7.size → h8 = h7.push (.cells ([(.int .u8 (0 : Int)), (.int .u8 (0 : Int)), (.int .u8 (3 : Int))] : List Value).toArray 5) →
∃ news1 : List Value, (row h8 b5 0 3 = some news1 ∧ ∀ u ∈ news1, u.oneCell' = true) ∧
appK h8 s3 s3l s3c 3 1 5 1 news1 fun (a1 : Option Addr) (cap1 : Nat) (h9 : Heap) =>
Post (.slice a1 (s3l + 3) cap1) h9) :
    Runs Tryd.prog 55 #[(.agg (to_).toArray), (.agg (from_).toArray), (.agg (bss).toArray)] h0 Post :=
  runs_of (args := [(.agg (to_).toArray), (.agg (from_).toArray), (.agg (bss).toArray)]) (fun n => ⟨true, false⟩) (fun _ => []) (fun _ => none) (fun _ => []) Tryd.func55 rfl (by rw [Tryd.ntmps55]; simp) (Eq.mp (by kernel_rfl) H)

theorem vc_muezzinref1_session (b : Option Addr) (bL bC : Nat) (low : Int) (high : Int) (n : Int) (h0 : Heap) (Post : Value → Heap → Prop) (H :
bcase (decide (((bL : Nat) : Int) < (26 : Int))) (
Post (.int .i64 (101 : Int)) h0) (
(0 ≤ (0 : Int) ∧ (0 : Int) < ((bL : Nat) : Int)) ∧
onAddr b fun b1 o1 =>
∃ n1 : Int, cell h0 b1 o1 = some (.int .u8 n1) ∧
bcase (!decide (n1 = (208 : Int))) (
Post (.int .i64 (105 : Int)) h0) (
(0 ≤ (24 : Int) ∧ (24 : Int) < ((bL : Nat) : Int)) ∧
onAddr b fun b2 o2 =>
∃ n2 : Int, cell h0 b2 (o2 + 24) = some (.int .u8 n2) ∧
bcase (!decide (n2 = (3 : Int))) (
Post (.int .i64 (105 : Int)) h0) (
(0 ≤ (25 : Int) ∧ (25 : Int) < ((bL : Nat) : Int)) ∧
onAddr b fun b3 o3 =>
∃ n3 : Int, cell h0 b3 (o3 + 25) = some (.int .u8 n3) ∧
bcase (decide (n3 < low)) (
Post (.int .i64 (105 : Int)) h0) (
(0 ≤ (25 : Int) ∧ (25 : Int) < ((bL : Nat) : Int)) ∧
onAddr b fun b4 o4 =>
∃ n4 : Int, cell h0 b4 (o4 + 25) = some (.int .u8 n4) ∧
bcase (decide (high < n4)) (
Post (.int .i64 (105 : Int)) h0) (
bcase (decide (((bL : Nat) : Int) < n)) (
Post (.int .i64 (101 : Int)) h0) (
bcase (decide (n < ((bL : Nat) : Int))) (
Post (.int .i64 (102 : Int)) h0) (
Post (.int .i64 (0 : Int)) h0)))))))) :
    Runs Tryd.prog 57 #[(.slice b bL bC), (.int .u8 low), (.int .u8 high), (.int .i64 n)] h0 Post :=
  runs_of (args := [(.slice b bL bC), (.int .u8 low), (.int .u8 high), (.int .i64 n)]) (fun n => ⟨true, false⟩) (fun _ => []) (fun _ => none) (fun _ => []) Tryd.func57 rfl (by rw [Tryd.ntmps57]; simp) (Eq.mp (by kernel_rfl) H)

theorem vc_muezzinref1_Add (a : Int) (n : Int) (h0 : Heap) (Post : Value → Heap → Prop) (H :
Runs Tryd.prog 56 #[(.int .i64 a)] h0 fun r1 h1 =>
∃ n1 : Int,
r1 = (.int .i64 n1) ∧
Runs Tryd.prog 56 #[(.int .i64 n)] h1 fun r2 h2 =>
∃ n2 : Int,
r2 = (.int .i64 n2) ∧
Runs Tryd.prog 56 #[(.int .i64 (IntKind.i64.wrap (n1 + n2)))] h2 fun r3 h3 =>
∃ n3 : Int,
r3 = (.int .i64 n3) ∧
Post (.int .i64 n3) h3) :
    Runs Tryd.prog 27 #[(.int .i64 a), (.int .i64 n)] h0 Post :=
  runs_of (args := [(.int .i64 a), (.int .i64 n)]) (fun n => ⟨false, false⟩) (fun _ => []) (fun _ => none) (fun _ => []) Tryd.func27 rfl (by rw [Tryd.ntmps27]; simp) (Eq.mp (by kernel_rfl) H)

theorem vc_muezzinref1_Dist (a : Int) (b : Int) (h0 : Heap) (Post : Value → Heap → Prop) (H :
Runs Tryd.prog 56 #[(.int .i64 b)] h0 fun r1 h1 =>
∃ n1 : Int,
r1 = (.int .i64 n1) ∧
Runs Tryd.prog 56 #[(.int .i64 a)] h1 fun r2 h2 =>
∃ n2 : Int,
r2 = (.int .i64 n2) ∧
Runs Tryd.prog 56 #[(.int .i64 (IntKind.i64.wrap (n1 - n2)))] h2 fun r3 h3 =>
∃ n3 : Int,
r3 = (.int .i64 n3) ∧
Post (.int .i64 n3) h3) :
    Runs Tryd.prog 26 #[(.int .i64 a), (.int .i64 b)] h0 Post :=
  runs_of (args := [(.int .i64 a), (.int .i64 b)]) (fun n => ⟨false, false⟩) (fun _ => []) (fun _ => none) (fun _ => []) Tryd.func26 rfl (by rw [Tryd.ntmps26]; simp) (Eq.mp (by kernel_rfl) H)

theorem vc_muezzinref_SameAddr (a : List Value) (b : List Value) (h0 : Heap) (Post : Value → Heap → Prop) (H :
∀ (b1 : Nat) (h1 : Heap), b1 = h0.size → h1 = h0.push (.cells (a).toArray 31) →
∀ (b2 : Nat) (h2 : Heap), b2 = h1.size → h2 = h1.push (.cells (b).toArray 31) →
∃ (I1 : Int → Heap → Prop) (m1 : Int → Heap → Nat), I1 (0 : Int) h2 ∧ ∀ _ : Env,
∀ (i_1 : Int) (h3 : Heap), I1 i_1 h3 →
bcase (decide (i_1 < (6 : Int))) (
(0 ≤ i_1 ∧ i_1 < ((6 : Nat) : Int)) ∧
∃ n1 : Int, cell h3 b1 (0 + (i_1).toNat) = some (.int .u8 n1) ∧
(0 ≤ i_1 ∧ i_1 < ((6 : Nat) : Int)) ∧
∃ n2 : Int, cell h3 b2 (0 + (i_1).toNat) = some (.int .u8 n2) ∧
bcase (!decide (n1 = n2)) (
Post (.bool false) h3) (
fits .i64 (i_1 + (1 : Int)) ∧
I1 (i_1 + (1 : Int)) h3 ∧ m1 (i_1 + (1 : Int)) h3 < m1 i_1 h3)) (
Post (.bool true) h3)) :
    Runs Tryd.prog 17 #[(.agg (a).toArray), (.agg (b).toArray)] h0 Post :=
  runs_of (args := [(.agg (a).toArray), (.agg (b).toArray)]) (fun n => ⟨true, false⟩) (fun n => match n with | 0 => [(5, .int .i64)] | _ => []) (fun _ => none) (fun _ => []) Tryd.func17 rfl (by rw [Tryd.ntmps17]; simp) (Eq.mp (by kernel_rfl) H)

theorem vc_qos_Read (b : Option Addr) (bL bC : Nat) (h0 : Heap) (Post : Value → Heap → Prop) (H :
∀ (b1 : Nat) (h1 : Heap), b1 = h0.size → h1 = h0.push (.cells ([(.int .u8 (0 : Int)), (.int .u8 (0 : Int)), (.int .u8 (0 : Int)), (.int .u8 (0 : Int)), (.int .u8 (0 : Int)), (.int .u8 (0 : Int)), (.int .u8 (0 : Int)), (.int .u8 (0 : Int)), (.int .u8 (0 : Int)), (.int .u8 (0 : Int)), (.int .u8 (0 : Int)), (.int .u8 (0 : Int)), (.int .u8 (0 : Int)), (.int .u8 (0 : Int)), (.int .u8 (0 : Int)), (.int .u8 (0 : Int)), (.int .u8 (0 : Int)), (.int .u8 (0 : Int)), (.int .i64 (0 : Int)), (.int .i64 (0 : Int)), (.bool false), (.bool false), (.bool false), (.slice none 0 0)] : List Value).toArray 55) →
bcase (decide (((bL : Nat) : Int) < (26 : Int))) (
∃ v1 : Value, cell h1 1 0 = some v1 ∧
((([(.int .u8 (0 : Int)), (.int .u8 (0 : Int)), (.int .u8 (0 : Int)), (.int .u8 (0 : Int)), (.int .u8 (0 : Int)), (.int .u8 (0 : Int)), (.int .u8 (0 : Int)), (.int .u8 (0 : Int)), (.int .u8 (0 : Int)), (.int .u8 (0 : Int)), (.int .u8 (0 : Int)), (.int .u8 (0 : Int)), (.int .u8 (0 : Int)), (.int .u8 (0 : Int)), (.int .u8 (0 : Int)), (.int .u8 (0 : Int)), (.int .u8 (0 : Int)), (.int .u8 (0 : Int)), (.int .i64 (0 : Int)), (.int .i64 (0 : Int)), (.bool false), (.bool false), (.bool false), (.slice none 0 0)] : List Value)).length = 24 ∧ wrs h1 b1 0 24 ∧ ∀ u ∈ (([(.int .u8 (0 : Int)), (.int .u8 (0 : Int)), (.int .u8 (0 : Int)), (.int .u8 (0 : Int)), (.int .u8 (0 : Int)), (.int .u8 (0 : Int)), (.int .u8 (0 : Int)), (.int .u8 (0 : Int)), (.int .u8 (0 : Int)), (.int .u8 (0 : Int)), (.int .u8 (0 : Int)), (.int .u8 (0 : Int)), (.int .u8 (0 : Int)), (.int .u8 (0 : Int)), (.int .u8 (0 : Int)), (.int .u8 (0 : Int)), (.int .u8 (0 : Int)), (.int .u8 (0 : Int)), (.int .i64 (0 : Int)), (.int .i64 (0 : Int)), (.bool false), (.bool false), (.bool false), (.slice none 0 0)] : List Value) : List Value), u.oneCell' = true) ∧ ∀ h2 : Heap, h2 = setr h1 b1 0 ([(.int .u8 (0 : Int)), (.int .u8 (0 : Int)), (.int .u8 (0 : Int)), (.int .u8 (0 : Int)), (.int .u8 (0 : Int)), (.int .u8 (0 : Int)), (.int .u8 (0 : Int)), (.int .u8 (0 : Int)), (.int .u8 (0 : Int)), (.int .u8 (0 : Int)), (.int .u8 (0 : Int)), (.int .u8 (0 : Int)), (.int .u8 (0 : Int)), (.int .u8 (0 : Int)), (.int .u8 (0 : Int)), (.int .u8 (0 : Int)), (.int .u8 (0 : Int)), (.int .u8 (0 : Int)), (.int .i64 (0 : Int)), (.int .i64 (0 : Int)), (.bool false), (.bool false), (.bool false), (.slice none 0 0)] : List Value) →
cell h2 1 0 = some v1 ∧
∃ cs1 : List Value, row h2 b1 0 24 = some cs1 ∧
Post (.tuple #[(.agg (cs1).toArray), v1]) h2) (
(0 ≤ (0 : Int) ∧ (0 : Int) < ((bL : Nat) : Int)) ∧
onAddr b fun b2 o1 =>
∃ n1 : Int, cell h1 b2 o1 = some (.int .u8 n1) ∧
bcase (!decide (n1 = (136 : Int))) (
∃ v2 : Value, cell h1 2 0 = some v2 ∧
((([(.int .u8 (0 : Int)), (.int .u8 (0 : Int)), (.int .u8 (0 : Int)), (.int .u8 (0 : Int)), (.int .u8 (0 : Int)), (.int .u8 (0 : Int)), (.int .u8 (0 : Int)), (.int .u8 (0 : Int)), (.int .u8 (0 : Int)), (.int .u8 (0 : Int)), (.int .u8 (0 : Int)), (.int .u8 (0 : Int)), (.int .u8 (0 : Int)), (.int .u8 (0 : Int)), (.int .u8 (0 : Int)), (.int .u8 (0 : Int)), (.int .u8 (0 : Int)), (.int .u8 (0 : Int)), (.int .i64 (0 : Int)), (.int .i64 (0 : Int)), (.bool false), (.bool false), (.bool false), (.slice none 0 0)] : List Value)).length = 24 ∧ wrs h1 b1 0 24 ∧ ∀ u ∈ (([(.int .u8 (0 : Int)), (.int .u8 (0 : Int)), (.int .u8 (0 : Int)), (.int .u8 (0 : Int)), (.int .u8 (0 : Int)), (.int .u8 (0 : Int)), (.int .u8 (0 : Int)), (.int .u8 (0 : Int)), (.int .u8 (0 : Int)), (.int .u8 (0 : Int)), (.int .u8 (0 : Int)), (.int .u8 (0 : Int)), (.int .u8 (0 : Int)), (.int .u8 (0 : Int)), (.int .u8 (0 : Int)), (.int .u8 (0 : Int)), (.int .u8 (0 : Int)), (.int .u8 (0 : Int)), (.int .i64 (0 : Int)), (.int .i64 (0 : Int)), (.bool false), (.bool false), (.bool false), (.slice none 0 0)] : List Value) : List Value), u.oneCell' = true) ∧ ∀ h3 : Heap, h3 = setr h1 b1 0 ([(.int .u8 (0 : Int)), (.int .u8 (0 : Int)), (.int .u8 (0 : Int)), (.int .u8 (0 : Int)), (.int .u8 (0 : Int)), (.int .u8 (0 : Int)), (.int .u8 (0 : Int)), (.int .u8 (0 : Int)), (.int .u8 (0 : Int)), (.int .u8 (0 : Int)), (.int .u8 (0 : Int)), (.int .u8 (0 : Int)), (.int .u8 (0 : Int)), (.int .u8 (0 : Int)), (.int .u8 (0 : Int)), (.int .u8 (0 : Int)), (.int .u8 (0 : Int)), (.int .u8 (0 : Int)), (.int .i64 (0 : Int)), (.int .i64 (0 : Int)), (.bool false), (.bool false), (.bool false), (.slice none 0 0)] : List Value) →
cell h3 2 0 = some v2 ∧
∃ cs2 : List Value, row h3 b1 0 24 = some cs2 ∧
Post (.tuple #[(.agg (cs2).toArray), v2]) h3) (
(0 ≤ (22 : Int) ∧ (22 : Int) < ((bL : Nat) : Int)) ∧
onAddr b fun b3 o2 =>
∃ n2 : Int, cell h1 b3 (o2 + 22) = some (.int .u8 n2) ∧
fits .i64 n2 ∧
(0 ≤ (23 : Int) ∧ (23 : Int) < ((bL : Nat) : Int)) ∧
onAddr b fun b4 o3 =>
∃ n3 : Int, cell h1 b4 (o3 + 23) = some (.int .u8 n3) ∧
fits .i64 n3 ∧
(0 ≤ (8 : Int) ∧ (8 : Int) ≤ kbits .i64) ∧
fits .i64 (n3 * (256 : Int)) ∧
∃ J1 : Heap → Prop, (
∃ J2 : Bool → Heap → Prop, (
(0 ≤ (1 : Int) ∧ (1 : Int) < ((bL : Nat) : Int)) ∧
onAddr b fun b5 o4 =>
∃ n4 : Int, cell h1 b5 (o4 + 1) = some (.int .u8 n4) ∧
bcase (!decide ((bits .andNot .u8 n4 (40 : Int)) = (2 : Int))) (
J2 (!decide ((bits .andNot .u8 n4 (40 : Int)) = (2 : Int))) h1) (
(0 ≤ (2 : Int) ∧ (2 : Int) < ((bL : Nat) : Int)) ∧
onAddr b fun b6 o5 =>
∃ n5 : Int, cell h1 b6 (o5 + 2) = some (.int .u8 n5) ∧
bcase (!decide (n5 = (0 : Int))) (
J2 (!decide (n5 = (0 : Int))) h1) (
(0 ≤ (3 : Int) ∧ (3 : Int) < ((bL : Nat) : Int)) ∧
onAddr b fun b7 o6 =>
∃ n6 : Int, cell h1 b7 (o6 + 3) = some (.int .u8 n6) ∧
bcase (!decide (n6 = (0 : Int))) (
J2 (!decide (n6 = (0 : Int))) h1) (
(0 ≤ (25 : Int) ∧ (25 : Int) < ((bL : Nat) : Int)) ∧
onAddr b fun b8 o7 =>
∃ n7 : Int, cell h1 b8 (o7 + 25) = some (.int .u8 n7) ∧
bcase (!decide (n7 = (0 : Int))) (
J2 (!decide (n7 = (0 : Int))) h1) (
(16 : Int) ≠ 0 ∧
bcase (!decide ((((bits .or .i64 n2 (n3 * (256 : Int)))).tmod (16 : Int)) = (0 : Int))) (
J2 (!decide ((((bits .or .i64 n2 (n3 * (256 : Int)))).tmod (16 : Int)) = (0 : Int))) h1) (
(0 ≤ (24 : Int) ∧ (24 : Int) < ((bL : Nat) : Int)) ∧
onAddr b fun b9 o8 =>
∃ n8 : Int, cell h1 b9 (o8 + 24) = some (.int .u8 n8) ∧
J2 (decide ((8 : Int) ≤ (bits .andNot .u8 n8 (16 : Int)))) h1)))))) ∧ ∀ _ : Env,
∀ (x1 : Bool) (h4 : Heap), J2 x1 h4 →
bcase x1 (
∃ v3 : Value, cell h4 3 0 = some v3 ∧
((([(.int .u8 (0 : Int)), (.int .u8 (0 : Int)), (.int .u8 (0 : Int)), (.int .u8 (0 : Int)), (.int .u8 (0 : Int)), (.int .u8 (0 : Int)), (.int .u8 (0 : Int)), (.int .u8 (0 : Int)), (.int .u8 (0 : Int)), (.int .u8 (0 : Int)), (.int .u8 (0 : Int)), (.int .u8 (0 : Int)), (.int .u8 (0 : Int)), (.int .u8 (0 : Int)), (.int .u8 (0 : Int)), (.int .u8 (0 : Int)), (.int .u8 (0 : Int)), (.int .u8 (0 : Int)), (.int .i64 (0 : Int)), (.int .i64 (0 : Int)), (.bool false), (.bool false), (.bool false), (.slice none 0 0)] : List Value)).length = 24 ∧ wrs h4 b1 0 24 ∧ ∀ u ∈ (([(.int .u8 (0 : Int)), (.int .u8 (0 : Int)), (.int .u8 (0 : Int)), (.int .u8 (0 : Int)), (.int .u8 (0 : Int)), (.int .u8 (0 : Int)), (.int .u8 (0 : Int)), (.int .u8 (0 : Int)), (.int .u8 (0 : Int)), (.int .u8 (0 : Int)), (.int .u8 (0 : Int)), (.int .u8 (0 : Int)), (.int .u8 (0 : Int)), (.int .u8 (0 : Int)), (.int .u8 (0 : Int)), (.int .u8 (0 : Int)), (.int .u8 (0 : Int)), (.int .u8 (0 : Int)), (.int .i64 (0 : Int)), (.int .i64 (0 : Int)), (.bool false), (.bool false), (.bool false), (.slice none 0 0)] : List Value) : List Value), u.oneCell' = true) ∧ ∀ h5 : Heap, h5 = setr h4 b1 0 ([(.int .u8 (0 : Int)), (.int .u8 (0 : Int)), (.int .u8 (0 : Int)), (.int .u8 (0 : Int)), (.int .u8 (0 : Int)), (.int .u8 (0 : Int)), (.int .u8 (0 : Int)), (.int .u8 (0 : Int)), (.int .u8 (0 : Int)), (.int .u8 (0 : Int)), (.int .u8 (0 : Int)), (.int .u8 (0 : Int)), (.int .u8 (0 : Int)), (.int .u8 (0 : Int)), (.int .u8 (0 : Int)), (.int .u8 (0 : Int)), (.int .u8 (0 : Int)), (.int .u8 (0 : Int)), (.int .i64 (0 : Int)), (.int .i64 (0 : Int)), (.bool false), (.bool false), (.bool false), (.slice none 0 0)] : List Value) →
cell h5 3 0 = some v3 ∧
∃ cs3 : List Value, row h5 b1 0 24 = some cs3 ∧
Post (.tuple #[(.agg (cs3).toArray), v3]) h5) (
fits .i64 (((bL : Nat) : Int) - (26 : Int)) ∧
bcase (decide ((1500 : Int) < (((bL : Nat) : Int) - (26 : Int)))) (
∃ v4 : Value, cell h4 0 0 = some v4 ∧
((([(.int .u8 (0 : Int)), (.int .u8 (0 : Int)), (.int .u8 (0 : Int)), (.int .u8 (0 : Int)), (.int .u8 (0 : Int)), (.int .u8 (0 : Int)), (.int .u8 (0 : Int)), (.int .u8 (0 : Int)), (.int .u8 (0 : Int)), (.int .u8 (0 : Int)), (.int .u8 (0 : Int)), (.int .u8 (0 : Int)), (.int .u8 (0 : Int)), (.int .u8 (0 : Int)), (.int .u8 (0 : Int)), (.int .u8 (0 : Int)), (.int .u8 (0 : Int)), (.int .u8 (0 : Int)), (.int .i64 (0 : Int)), (.int .i64 (0 : Int)), (.bool false), (.bool false), (.bool false), (.slice none 0 0)] : List Value)).length = 24 ∧ wrs h4 b1 0 24 ∧ ∀ u ∈ (([(.int .u8 (0 : Int)), (.int .u8 (0 : Int)), (.int .u8 (0 : Int)), (.int .u8 (0 : Int)), (.int .u8 (0 : Int)), (.int .u8 (0 : Int)), (.int .u8 (0 : Int)), (.int .u8 (0 : Int)), (.int .u8 (0 : Int)), (.int .u8 (0 : Int)), (.int .u8 (0 : Int)), (.int .u8 (0 : Int)), (.int .u8 (0 : Int)), (.int .u8 (0 : Int)), (.int .u8 (0 : Int)), (.int .u8 (0 : Int)), (.int .u8 (0 : Int)), (.int .u8 (0 : Int)), (.int .i64 (0 : Int)), (.int .i64 (0 : Int)), (.bool false), (.bool false), (.bool false), (.slice none 0 0)] : List Value) : List Value), u.oneCell' = true) ∧ ∀ h6 : Heap, h6 = setr h4 b1 0 ([(.int .u8 (0 : Int)), (.int .u8 (0 : Int)), (.int .u8 (0 : Int)), (.int .u8 (0 : Int)), (.int .u8 (0 : Int)), (.int .u8 (0 : Int)), (.int .u8 (0 : Int)), (.int .u8 (0 : Int)), (.int .u8 (0 : Int)), (.int .u8 (0 : Int)), (.int .u8 (0 : Int)), (.int .u8 (0 : Int)), (.int .u8 (0 : Int)), (.int .u8 (0 : Int)), (.int .u8 (0 : Int)), (.int .u8 (0 : Int)), (.int .u8 (0 : Int)), (.int .u8 (0 : Int)), (.int .i64 (0 : Int)), (.int .i64 (0 : Int)), (.bool false), (.bool false), (.bool false), (.slice none 0 0)] : List Value) →
cell h6 0 0 = some v4 ∧
∃ cs4 : List Value, row h6 b1 0 24 = some cs4 ∧
Post (.tuple #[(.agg (cs4).toArray), v4]) h6) (
J1 h4))) ∧ ∀ _ : Env,
∀ (h7 : Heap), J1 h7 →
(0 ≤ (24 : Int) ∧ (24 : Int) < ((bL : Nat) : Int)) ∧
onAddr b fun b10 o9 =>
∃ n9 : Int, cell h7 b10 (o9 + 24) = some (.int .u8 n9) ∧
fits .i64 (bits .andNot .u8 n9 (16 : Int)) ∧
(0 ≤ (bits .or .i64 n2 (n3 * (256 : Int))) ∧ 0 < (16 : Int) ∧ fits .i64 ((bits .or .i64 n2 (n3 * (256 : Int))) / (16 : Int))) ∧
(0 ≤ (1 : Int) ∧ (1 : Int) < ((bL : Nat) : Int)) ∧
onAddr b fun b11 o10 =>
∃ n10 : Int, cell h7 b11 (o10 + 1) = some (.int .u8 n10) ∧
(0 ≤ (1 : Int) ∧ (1 : Int) < ((bL : Nat) : Int)) ∧
onAddr b fun b12 o11 =>
∃ n11 : Int, cell h7 b12 (o11 + 1) = some (.int .u8 n11) ∧
(0 ≤ (24 : Int) ∧ (24 : Int) < ((bL : Nat) : Int)) ∧
onAddr b fun b13 o12 =>
∃ n12 : Int, cell h7 b13 (o12 + 24) = some (.int .u8 n12) ∧
(0 ≤ (26 : Int) ∧ (26 : Int) ≤ ((bL : Nat) : Int)) ∧
(
Runs Tryd.prog 60 #[(.slice (slcAddr b 26 bC 26) (bL - 26) (bC - 26))] h7 fun r1 h8 =>
∃ (s1 : Option Addr) (s1l s1c : Nat),
r1 = (.slice s1 s1l s1c) ∧
cell h8 b13 (o12 + 24) = some (.int .u8 n12) ∧
cell h8 b12 (o11 + 1) = some (.int .u8 n11) ∧
cell h8 b11 (o10 + 1) = some (.int .u8 n10) ∧
cell h8 b10 (o9 + 24) = some (.int .u8 n9) ∧
∀ (b14 : Nat) (h9 : Heap), b14 = h8.size → h9 = h8.push (.cells ([(.int .u8 (0 : Int)), (.int .u8 (0 : Int)), (.int .u8 (0 : Int)), (.int .u8 (0 : Int)), (.int .u8 (0 : Int)), (.int .u8 (0 : Int)), (.int .u8 (0 : Int)), (.int .u8 (0 : Int)), (.int .u8 (0 : Int)), (.int .u8 (0 : Int)), (.int .u8 (0 : Int)), (.int .u8 (0 : Int)), (.int .u8 (0 : Int)), (.int .u8 (0 : Int)), (.int .u8 (0 : Int)), (.int .u8 (0 : Int)), (.int .u8 (0 : Int)), (.int .u8 (0 : Int)), (.int .i64 (0 : Int)), (.int .i64 (0 : Int)), (.bool false), (.bool false), (.bool false), (.slice none 0 0)] : List Value).toArray 55) →
((([(.int .u8 (0 : Int)), (.int .u8 (0 : Int)), (.int .u8 (0 : Int)), (.int .u8 (0 : Int)), (.int .u8 (0 : Int)), (.int .u8 (0 : Int)), (.int .u8 (0 : Int)), (.int .u8 (0 : Int)), (.int .u8 (0 : Int)), (.int .u8 (0 : Int)), (.int .u8 (0 : Int)), (.int .u8 (0 : Int)), (.int .u8 (0 : Int)), (.int .u8 (0 : Int)), (.int .u8 (0 : Int)), (.int .u8 (0 : Int)), (.int .u8 (0 : Int)), (.int .u8 (0 : Int)), (.int .i64 (bits .andNot .u8 n9 (16 : Int))), (.int .i64 ((bits .or .i64 n2 (n3 * (256 : Int))) / (16 : Int))), (.bool (decide ((0 : Int) < (bits .and .u8 n10 (8 : Int))))), (.bool (decide ((0 : Int) < (bits .and .u8 n11 (32 : Int))))), (.bool (decide ((0 : Int) < (bits .and .u8 n12 (16 : Int))))), (.slice s1 s1l s1c)] : List Value)).length = 24 ∧ wrs h9 b14 0 24 ∧ ∀ u ∈ (([(.int .u8 (0 : Int)), (.int .u8 (0 : Int)), (.int .u8 (0 : Int)), (.int .u8 (0 : Int)), (.int .u8 (0 : Int)), (.int .u8 (0 : Int)), (.int .u8 (0 : Int)), (.int .u8 (0 : Int)), (.int .u8 (0 : Int)), (.int .u8 (0 : Int)), (.int .u8 (0 : Int)), (.int .u8 (0 : Int)), (.int .u8 (0 : Int)), (.int .u8 (0 : Int)), (.int .u8 (0 : Int)), (.int .u8 (0 : Int)), (.int .u8 (0 : Int)), (.int .u8 (0 : Int)), (.int .i64 (bits .andNot .u8 n9 (16 : Int))), (.int .i64 ((bits .or .i64 n2 (n3 * (256 : Int))) / (16 : Int))), (.bool (decide ((0 : Int) < (bits .and .u8 n10 (8 : Int))))), (.bool (decide ((0 : Int) < (bits .and .u8 n11 (32 : Int))))), (.bool (decide ((0 : Int) < (bits .and .u8 n12 (16 : Int))))), (.slice s1 s1l s1c)] : List Value) : List Value), u.oneCell' = true) ∧ ∀ h10 : Heap, h10 = setr h9 b14 0 ([(.int .u8 (0 : Int)), (.int .u8 (0 : Int)), (.int .u8 (0 : Int)), (.int .u8 (0 : Int)), (.int .u8 (0 : Int)), (.int .u8 (0 : Int)), (.int .u8 (0 : Int)), (.int .u8 (0 : Int)), (.int .u8 (0 : Int)), (.int .u8 (0 : Int)), (.int .u8 (0 : Int)), (.int .u8 (0 : Int)), (.int .u8 (0 : Int)), (.int .u8 (0 : Int)), (.int .u8 (0 : Int)), (.int .u8 (0 : Int)), (.int .u8 (0 : Int)), (.int .u8 (0 : Int)), (.int .i64 (bits .andNot .u8 n9 (16 : Int))), (.int .i64 ((bits .or .i64 n2 (n3 * (256 : Int))) / (16 : Int))), (.bool (decide ((0 : Int) < (bits .and .u8 n10 (8 : Int))))), (.bool (decide ((0 : Int) < (bits .and .u8 n11 (32 : Int))))), (.bool (decide ((0 : Int) < (bits .and .u8 n12 (16 : Int))))), (.slice s1 s1l s1c)] : List Value) →
∃ J3 : Heap → Prop, (
∀ (b15 : Nat) (h11 : Heap), b15 = h10.size → h11 = h10.push (.cells ([(.pointer (some ⟨b14, 0, none⟩)), (.pointer (some ⟨b14, 6, none⟩)), (.pointer (some ⟨b14, 12, none⟩))] : List Value).toArray 115) →
∃ (I1 : Int → Heap → Prop) (m1 : Int → Heap → Nat), I1 (0 : Int) h11 ∧ ∀ _ : Env,
∀ (x2 : Int) (h12 : Heap), I1 x2 h12 →
bcase (decide (x2 < ((3 : Nat) : Int))) (
(0 ≤ x2 ∧ x2 < ((3 : Nat) : Int)) ∧
∃ p1 : Option Addr, cell h12 b15 (0 + (x2).toNat) = some (.pointer p1) ∧
onAddr p1 fun b16 o13 =>
fits .i64 (x2 * (6 : Int)) ∧
fits .i64 ((4 : Int) + (x2 * (6 : Int))) ∧
(0 ≤ ((4 : Int) + (x2 * (6 : Int))) ∧ ((4 : Int) + (x2 * (6 : Int))) ≤ ((bL : Nat) : Int)) ∧
∃ news1 : List Value, (src h12 (slcAddr b (((4 : Int) + (x2 * (6 : Int)))).toNat bC ((((4 : Int) + (x2 * (6 : Int)))).toNat * 1)) ((min (bL - (((4 : Int) + (x2 * (6 : Int)))).toNat) 6) * 1) news1 ∧ ∀ u ∈ news1, u.oneCell' = true) ∧
wrs h12 b16 o13 news1.length ∧ ∀ h13 : Heap, h13 = setr h12 b16 o13 news1 →
fits .i64 (x2 + (1 : Int)) ∧
I1 (x2 + (1 : Int)) h13 ∧ m1 (x2 + (1 : Int)) h13 < m1 x2 h12) (
J3 h12)) ∧ ∀ _ : Env,
∀ (h14 : Heap), J3 h14 →
∃ cs5 : List Value, row h14 b14 0 24 = some cs5 ∧
(((cs5)).length = 24 ∧ wrs h14 b1 0 24 ∧ ∀ u ∈ ((cs5) : List Value), u.oneCell' = true) ∧ ∀ h15 : Heap, h15 = setr h14 b1 0 (cs5) →
∃ cs6 : List Value, row h15 b1 0 24 = some cs6 ∧
Post (.tuple #[(.agg (cs6).toArray), .nilIface]) h15) ∧
(
∀ (b17 : Nat) (h16 : Heap), b17 = h7.size → h16 = h7.push (.cells ([(.int .u8 (0 : Int)), (.int .u8 (0 : Int)), (.int .u8 (0 : Int)), (.int .u8 (0 : Int)), (.int .u8 (0 : Int)), (.int .u8 (0 : Int)), (.int .u8 (0 : Int)), (.int .u8 (0 : Int)), (.int .u8 (0 : Int)), (.int .u8 (0 : Int)), (.int .u8 (0 : Int)), (.int .u8 (0 : Int)), (.int .u8 (0 : Int)), (.int .u8 (0 : Int)), (.int .u8 (0 : Int)), (.int .u8 (0 : Int)), (.int .u8 (0 : Int)), (.int .u8 (0 : Int)), (.int .i64 (0 : Int)), (.int .i64 (0 : Int)), (.bool false), (.bool false), (.bool false), (.slice none 0 0)] : List Value).toArray 55) →
Runs Tryd.prog 60 #[(.slice (slcAddr b 26 bC 26) (bL - 26) (bC - 26))] h16 fun r2 h17 =>
∃ (s2 : Option Addr) (s2l s2c : Nat),
r2 = (.slice s2 s2l s2c) ∧
cell h17 b13 (o12 + 24) = some (.int .u8 n12) ∧
cell h17 b12 (o11 + 1) = some (.int .u8 n11) ∧
cell h17 b11 (o10 + 1) = some (.int .u8 n10) ∧
cell h17 b10 (o9 + 24) = some (.int .u8 n9) ∧
((([(.int .u8 (0 : Int)), (.int .u8 (0 : Int)), (.int .u8 (0 : Int)), (.int .u8 (0 : Int)), (.int .u8 (0 : Int)), (.int .u8 (0 : Int)), (.int .u8 (0 : Int)), (.int .u8 (0 : Int)), (.int .u8 (0 : Int)), (.int .u8 (0 : Int)), (.int .u8 (0 : Int)), (.int .u8 (0 : Int)), (.int .u8 (0 : Int)), (.int .u8 (0 : Int)), (.int .u8 (0 : Int)), (.int .u8 (0 : Int)), (.int .u8 (0 : Int)), (.int .u8 (0 : Int)), (.int .i64 (bits .andNot .u8 n9 (16 : Int))), (.int .i64 ((bits .or .i64 n2 (n3 * (256 : Int))) / (16 : Int))), (.bool (decide ((0 : Int) < (bits .and .u8 n10 (8 : Int))))), (.bool (decide ((0 : Int) < (bits .and .u8 n11 (32 : Int))))), (.bool (decide ((0 : Int) < (bits .and .u8 n12 (16 : Int))))), (.slice s2 s2l s2c)] : List Value)).length = 24 ∧ wrs h17 b17 0 24 ∧ ∀ u ∈ (([(.int .u8 (0 : Int)), (.int .u8 (0 : Int)), (.int .u8 (0 : Int)), (.int .u8 (0 : Int)), (.int .u8 (0 : Int)), (.int .u8 (0 : Int)), (.int .u8 (0 : Int)), (.int .u8 (0 : Int)), (.int .u8 (0 : Int)), (.int .u8 (0 : Int)), (.int .u8 (0 : Int)), (.int .u8 (0 : Int)), (.int .u8 (0 : Int)), (.int .u8 (0 : Int)), (.int .u8 (0 : Int)), (.int .u8 (0 : Int)), (.int .u8 (0 : Int)), (.int .u8 (0 : Int)), (.int .i64 (bits .andNot .u8 n9 (16 : Int))), (.int .i64 ((bits .or .i64 n2 (n3 * (256 : Int))) / (16 : Int))), (.bool (decide ((0 : Int) < (bits .and .u8 n10 (8 : Int))))), (.bool (decide ((0 : Int) < (bits .and .u8 n11 (32 : Int))))), (.bool (decide ((0 : Int) < (bits .and .u8 n12 (16 : Int))))), (.slice s2 s2l s2c)] : List Value) : List Value), u.oneCell' = true) ∧ ∀ h18 : Heap, h18 = setr h17 b17 0 ([(.int .u8 (0 : Int)), (.int .u8 (0 : Int)), (.int .u8 (0 : Int)), (.int .u8 (0 : Int)), (.int .u8 (0 : Int)), (.int .u8 (0 : Int)), (.int .u8 (0 : Int)), (.int .u8 (0 : Int)), (.int .u8 (0 : Int)), (.int .u8 (0 : Int)), (.int .u8 (0 : Int)), (.int .u8 (0 : Int)), (.int .u8 (0 : Int)), (.int .u8 (0 : Int)), (.int .u8 (0 : Int)), (.int .u8 (0 : Int)), (.int .u8 (0 : Int)), (.int .u8 (0 : Int)), (.int .i64 (bits .andNot .u8 n9 (16 : Int))), (.int .i64 ((bits .or .i64 n2 (n3 * (256 : Int))) / (16 : Int))), (.bool (decide ((0 : Int) < (bits .and .u8 n10 (8 : Int))))), (.bool (decide ((0 : Int) < (bits .and .u8 n11 (32 : Int))))), (.bool (decide ((0 : Int) < (bits .and .u8 n12 (16 : Int))))), (.slice s2 s2l s2c)] : List Value) →
∃ J4 : Heap → Prop, (
∀ (b18 : Nat) (h19 : Heap), b18 = h18.size → h19 = h18.push (.cells ([(.pointer (some ⟨b17, 0, none⟩)), (.pointer (some ⟨b17, 6, none⟩)), (.pointer (some ⟨b17, 12, none⟩))] : List Value).toArray 115) →
∃ (I2 : Int → Heap → Prop) (m2 : Int → Heap → Nat), I2 (0 : Int) h19 ∧ ∀ _ : Env,
∀ (x3 : Int) (h20 : Heap), I2 x3 h20 →
bcase (decide (x3 < ((3 : Nat) : Int))) (
(0 ≤ x3 ∧ x3 < ((3 : Nat) : Int)) ∧
∃ p2 : Option Addr, cell h20 b18 (0 + (x3).toNat) = some (.pointer p2) ∧
onAddr p2 fun b19 o14 =>
fits .i64 (x3 * (6 : Int)) ∧
fits .i64 ((4 : Int) + (x3 * (6 : Int))) ∧
(0 ≤ ((4 : Int) + (x3 * (6 : Int))) ∧ ((4 : Int) + (x3 * (6 : Int))) ≤ ((bL : Nat) : Int)) ∧
∃ news2 : List Value, (src h20 (slcAddr b (((4 : Int) + (x3 * (6 : Int)))).toNat bC ((((4 : Int) + (x3 * (6 : Int)))).toNat * 1)) ((min (bL - (((4 : Int) + (x3 * (6 : Int)))).toNat) 6) * 1) news2 ∧ ∀ u ∈ news2, u.oneCell' = true) ∧
wrs h20 b19 o14 news2.length ∧ ∀ h21 : Heap, h21 = setr h20 b19 o14 news2 →
fits .i64 (x3 + (1 : Int)) ∧
I2 (x3 + (1 : Int)) h21 ∧ m2 (x3 + (1 : Int)) h21 < m2 x3 h20) (
J4 h20)) ∧ ∀ _ : Env,
∀ (h22 : Heap), J4 h22 →
∃ cs7 : List Value, row h22 b17 0 24 = some cs7 ∧
(((cs7)).length = 24 ∧ wrs h22 b1 0 24 ∧ ∀ u ∈ ((cs7) : List Value), u.oneCell' = true) ∧ ∀ h23 : Heap, h23 = setr h22 b1 0 (cs7) →
∃ cs8 : List Value, row h23 b1 0 24 = some cs8 ∧
Post (.tuple #[(.agg (cs8).toArray), .nilIface]) h23)))) :
    Runs Tryd.prog 33 #[(.slice b bL bC)] h0 Post :=
  runs_of (args := [(.slice b bL bC)]) (fun n => ⟨!memB n [6, 10, 11], false⟩) (fun n => match n with | 2 => [(97, .int .i64)] | _ => []) (fun n => match n with | 12 => some [(31, .bool)] | 15 => some [] | 21 => some [] | _ => none) (fun _ => []) Tryd.func33 rfl (by rw [Tryd.ntmps33]; simp) (Eq.mp (by kernel_rfl) H)

theorem vc_ctl_two (n : Int) (h0 : Heap) (Post : Value → Heap → Prop) (H :
(0 ≤ (8 : Int) ∧ (8 : Int) ≤ kbits .i64) ∧
∀ (b1 : Nat) (h1 : Heap), b1 = h0.size → h1 = h0.push (.cells ([(.int .u8 (IntKind.u8.wrap n)), (.int .u8 (IntKind.u8.wrap (n / (256 : Int))))] : List Value).toArray 5) →
Post (.slice (some ⟨b1, 0, none⟩) 2 2) h1) :
    Runs Tryd.prog 89 #[(.int .i64 n)] h0 Post :=
  runs_of (args := [(.int .i64 n)]) (fun n => ⟨false, false⟩) (fun _ => []) (fun _ => none) (fun _ => []) Tryd.func89 rfl (by rw [Tryd.ntmps89]; simp) (Eq.mp (by kernel_rfl) H)

theorem vc_ctl_asks (kind : Int) (to_ : List Value) (from_ : List Value) (tid : Int) (seq : Int) (h0 : Heap) (Post : Value → Heap → Prop) (H :
∀ (b1 : Nat) (h1 : Heap), b1 = h0.size → h1 = h0.push (.cells (to_).toArray 31) →
∀ (b2 : Nat) (h2 : Heap), b2 = h1.size → h2 = h1.push (.cells (from_).toArray 31) →
bcase (decide (tid < (0 : Int))) (
∃ v1 : Value, cell h2 0 0 = some v1 ∧
Post (.tuple #[(.slice none 0 0), v1]) h2) (
bcase (decide ((8 : Int) ≤ tid)) (
∃ v2 : Value, cell h2 0 0 = some v2 ∧
Post (.tuple #[(.slice none 0 0), v2]) h2) (
bcase (decide (seq < (0 : Int))) (
∃ v3 : Value, cell h2 0 0 = some v3 ∧
Post (.tuple #[(.slice none 0 0), v3]) h2) (
bcase (decide ((4096 : Int) ≤ seq)) (
∃ v4 : Value, cell h2 0 0 = some v4 ∧
Post (.tuple #[(.slice none 0 0), v4]) h2) (
∀ (b3 : Nat) (h3 : Heap), b3 = h2.size → h3 = h2.push (.cells ([(.int .u8 kind), (.int .u8 (0 : Int)), (.int .u8 (0 : Int)), (.int .u8 (0 : Int))] : List Value).toArray 5) →
∃ news1 : List Value, (row h3 b1 0 6 = some news1 ∧ ∀ u ∈ news1, u.oneCell' = true) ∧
appK h3 (some ⟨b3, 0, none⟩) 4 4 6 1 5 1 news1 fun (a1 : Option Addr) (cap1 : Nat) (h4 : Heap) =>
∃ news2 : List Value, (row h4 b2 0 6 = some news2 ∧ ∀ u ∈ news2, u.oneCell' = true) ∧
appK h4 a1 (4 + 6) cap1 6 1 5 1 news2 fun (a2 : Option Addr) (cap2 : Nat) (h5 : Heap) =>
fits .i64 (tid * (4096 : Int)) ∧
fits .i64 ((4 : Int) + (tid * (4096 : Int))) ∧
Runs Tryd.prog 89 #[(.int .i64 ((4 : Int) + (tid * (4096 : Int))))] h5 fun r1 h6 =>
∃ (s1 : Option Addr) (s1l s1c : Nat),
r1 = (.slice s1 s1l s1c) ∧
∃ news3 : List Value, (src h6 s1 (s1l * 1) news3 ∧ ∀ u ∈ news3, u.oneCell' = true) ∧
appK h6 a2 ((4 + 6) + 6) cap2 s1l 1 5 1 news3 fun (a3 : Option Addr) (cap3 : Nat) (h7 : Heap) =>
fits .i64 (seq * (16 : Int)) ∧
Runs Tryd.prog 89 #[(.int .i64 (seq * (16 : Int)))] h7 fun r2 h8 =>
∃ (s2 : Option Addr) (s2l s2c : Nat),
r2 = (.slice s2 s2l s2c) ∧
∃ news4 : List Value, (src h8 s2 (s2l * 1) news4 ∧ ∀ u ∈ news4, u.oneCell' = true) ∧
appK h8 a3 (((4 + 6) + 6) + s1l) cap3 s2l 1 5 1 news4 fun (a4 : Option Addr) (cap4 : Nat) (h9 : Heap) =>
Post (.tuple #[(.slice a4 ((((4 + 6) + 6) + s1l) + s2l) cap4), .nilIface]) h9))))) :
    Runs Tryd.prog 80 #[(.int .u8 kind), (.agg (to_).toArray), (.agg (from_).toArray), (.int .i64 tid), (.int .i64 seq)] h0 Post :=
  runs_of (args := [(.int .u8 kind), (.agg (to_).toArray), (.agg (from_).toArray), (.int .i64 tid), (.int .i64 seq)]) (fun n => ⟨true, false⟩) (fun _ => []) (fun _ => none) (fun _ => []) Tryd.func80 rfl (by rw [Tryd.ntmps80]; simp) (Eq.mp (by kernel_rfl) H)

theorem vc_ctl_AckBytes (f : List Value) (h0 : Heap) (Post : Value → Heap → Prop) (H :
∀ (b1 : Nat) (h1 : Heap), b1 = h0.size → h1 = h0.push (.cells (f).toArray 44) →
∃ cs1 : List Value, row h1 b1 0 6 = some cs1 ∧
∃ cs2 : List Value, row h1 b1 6 6 = some cs2 ∧
∃ n1 : Int, cell h1 b1 12 = some (.int .i64 n1) ∧
∃ n2 : Int, cell h1 b1 13 = some (.int .i64 n2) ∧
Runs Tryd.prog 80 #[(.int .u8 (148 : Int)), (.agg (cs1).toArray), (.agg (cs2).toArray), (.int .i64 n1), (.int .i64 n2)] h1 fun r1 h2 =>
∃ (s1 : Option Addr) (s1l s1c : Nat),
∃ v1 : Value,
r1 = (.tuple #[(.slice s1 s1l s1c), v1]) ∧
∃ t1 : Bool, ifeqH Tryd.prog h2 true (v1) (.nilIface) = some t1 ∧
bcase (!t1) (
Post (.tuple #[(.slice none 0 0), v1]) h2) (
∃ (I1 : Option Addr → Nat → Nat → Int → Heap → Prop) (m1 : Option Addr → Nat → Nat → Int → Heap → Nat), I1 s1 s1l s1c (0 : Int) h2 ∧ ∀ _ : Env,
∀ (b_1 : Option Addr) (b_1l b_1c : Nat) (x2 : Int) (h3 : Heap), I1 b_1 b_1l b_1c x2 h3 →
bcase (decide (x2 < (8 : Int))) (
∃ n3 : Int, cell h3 b1 14 = some (.int .u64 n3) ∧
(0 ≤ (IntKind.i64.wrap ((8 : Int) * x2)) ∧ (IntKind.i64.wrap ((8 : Int) * x2)) ≤ kbits .u64) ∧
∀ (b2 : Nat) (h4 : Heap), b2 = h3.size → h4 = h3.push (.cells ([(.int .u8 (IntKind.u8.wrap (n3 / (pow2 (IntKind.i64.wrap ((8 : Int) * x2))))))] : List Value).toArray 5) →
∃ news1 : List Value, (row h4 b2 0 1 = some news1 ∧ ∀ u ∈ news1, u.oneCell' = true) ∧
appK h4 b_1 b_1l b_1c 1 1 5 1 news1 fun (a1 : Option Addr) (cap1 : Nat) (h5 : Heap) =>
I1 a1 (b_1l + 1) cap1 (IntKind.i64.wrap (x2 + (1 : Int))) h5 ∧ m1 a1 (b_1l + 1) cap1 (IntKind.i64.wrap (x2 + (1 : Int))) h5 < m1 b_1 b_1l b_1c x2 h3) (
Post (.tuple #[(.slice b_1 b_1l b_1c), .nilIface]) h3))) :
    Runs Tryd.prog 65 #[(.agg (f).toArray)] h0 Post :=
  runs_of (args := [(.agg (f).toArray)]) (fun n => ⟨false, false⟩) (fun n => match n with | 0 => [(4, .slice), (22, .int .i64)] | _ => []) (fun _ => none) (fun _ => []) Tryd.func65 rfl (by rw [Tryd.ntmps65]; simp) (Eq.mp (by kernel_rfl) H)

theorem vc_seq_Dist (a : Int) (b : Int) (h0 : Heap) (Post : Value → Heap → Prop) (H :
Runs Tryd.prog 67 #[(.int .i64 b)] h0 fun r1 h1 =>
∃ n1 : Int,
r1 = (.int .i64 n1) ∧
Runs Tryd.prog 67 #[(.int .i64 a)] h1 fun r2 h2 =>
∃ n2 : Int,
r2 = (.int .i64 n2) ∧
fits .i64 (n1 - n2) ∧
Runs Tryd.prog 67 #[(.int .i64 (n1 - n2))] h2 fun r3 h3 =>
∃ n3 : Int,
r3 = (.int .i64 n3) ∧
Post (.int .i64 n3) h3) :
    Runs Tryd.prog 42 #[(.int .i64 a), (.int .i64 b)] h0 Post :=
  runs_of (args := [(.int .i64 a), (.int .i64 b)]) (fun n => ⟨true, false⟩) (fun _ => []) (fun _ => none) (fun _ => []) Tryd.func42 rfl (by rw [Tryd.ntmps42]; simp) (Eq.mp (by kernel_rfl) H)

theorem vc_seq_Add (a : Int) (n : Int) (h0 : Heap) (Post : Value → Heap → Prop) (H :
Runs Tryd.prog 67 #[(.int .i64 a)] h0 fun r1 h1 =>
∃ n1 : Int,
r1 = (.int .i64 n1) ∧
Runs Tryd.prog 67 #[(.int .i64 n)] h1 fun r2 h2 =>
∃ n2 : Int,
r2 = (.int .i64 n2) ∧
fits .i64 (n1 + n2) ∧
Runs Tryd.prog 67 #[(.int .i64 (n1 + n2))] h2 fun r3 h3 =>
∃ n3 : Int,
r3 = (.int .i64 n3) ∧
Post (.int .i64 n3) h3) :
    Runs Tryd.prog 63 #[(.int .i64 a), (.int .i64 n)] h0 Post :=
  runs_of (args := [(.int .i64 a), (.int .i64 n)]) (fun n => ⟨true, false⟩) (fun _ => []) (fun _ => none) (fun _ => []) Tryd.func63 rfl (by rw [Tryd.ntmps63]; simp) (Eq.mp (by kernel_rfl) H)

theorem vc_seq_mod (n : Int) (h0 : Heap) (Post : Value → Heap → Prop) (H :
(4096 : Int) ≠ 0 ∧
(4096 : Int) ≠ 0 ∧
Post (.int .i64 (((IntKind.i64.wrap (((n).tmod (4096 : Int)) + (4096 : Int)))).tmod (4096 : Int))) h0) :
    Runs Tryd.prog 67 #[(.int .i64 n)] h0 Post :=
  runs_of (args := [(.int .i64 n)]) (fun n => ⟨false, false⟩) (fun _ => []) (fun _ => none) (fun _ => []) Tryd.func67 rfl (by rw [Tryd.ntmps67]; simp) (Eq.mp (by kernel_rfl) H)

theorem vc_muezzinlaw24_me  (h0 : Heap) (Post : Value → Heap → Prop) (H :
∀ (b1 : Nat) (h1 : Heap), b1 = h0.size → h1 = h0.push (.cells ([(.int .u8 (0 : Int)), (.int .u8 (0 : Int)), (.int .u8 (0 : Int)), (.int .u8 (0 : Int)), (.int .u8 (0 : Int)), (.int .u8 (0 : Int))] : List Value).toArray 31) →
((([(.int .u8 (2 : Int)), (.int .u8 (0 : Int)), (.int .u8 (0 : Int)), (.int .u8 (0 : Int)), (.int .u8 (0 : Int)), (.int .u8 (9 : Int))] : List Value)).length = 6 ∧ wrs h1 b1 0 6 ∧ ∀ u ∈ (([(.int .u8 (2 : Int)), (.int .u8 (0 : Int)), (.int .u8 (0 : Int)), (.int .u8 (0 : Int)), (.int .u8 (0 : Int)), (.int .u8 (9 : Int))] : List Value) : List Value), u.oneCell' = true) ∧ ∀ h2 : Heap, h2 = setr h1 b1 0 ([(.int .u8 (2 : Int)), (.int .u8 (0 : Int)), (.int .u8 (0 : Int)), (.int .u8 (0 : Int)), (.int .u8 (0 : Int)), (.int .u8 (9 : Int))] : List Value) →
∃ cs1 : List Value, row h2 b1 0 6 = some cs1 ∧
Post (.agg (cs1).toArray) h2) :
    Runs Tryd.prog 11 #[] h0 Post :=
  runs_of (args := []) (fun n => ⟨true, false⟩) (fun _ => []) (fun _ => none) (fun _ => []) Tryd.func11 rfl (by rw [Tryd.ntmps11]; simp) (Eq.mp (by kernel_rfl) H)

theorem vc_muezzinlaw24_bss  (h0 : Heap) (Post : Value → Heap → Prop) (H :
∀ (b1 : Nat) (h1 : Heap), b1 = h0.size → h1 = h0.push (.cells ([(.int .u8 (0 : Int)), (.int .u8 (0 : Int)), (.int .u8 (0 : Int)), (.int .u8 (0 : Int)), (.int .u8 (0 : Int)), (.int .u8 (0 : Int))] : List Value).toArray 31) →
((([(.int .u8 (2 : Int)), (.int .u8 (0 : Int)), (.int .u8 (0 : Int)), (.int .u8 (0 : Int)), (.int .u8 (1 : Int)), (.int .u8 (0 : Int))] : List Value)).length = 6 ∧ wrs h1 b1 0 6 ∧ ∀ u ∈ (([(.int .u8 (2 : Int)), (.int .u8 (0 : Int)), (.int .u8 (0 : Int)), (.int .u8 (0 : Int)), (.int .u8 (1 : Int)), (.int .u8 (0 : Int))] : List Value) : List Value), u.oneCell' = true) ∧ ∀ h2 : Heap, h2 = setr h1 b1 0 ([(.int .u8 (2 : Int)), (.int .u8 (0 : Int)), (.int .u8 (0 : Int)), (.int .u8 (0 : Int)), (.int .u8 (1 : Int)), (.int .u8 (0 : Int))] : List Value) →
∃ cs1 : List Value, row h2 b1 0 6 = some cs1 ∧
Post (.agg (cs1).toArray) h2) :
    Runs Tryd.prog 12 #[] h0 Post :=
  runs_of (args := []) (fun n => ⟨true, false⟩) (fun _ => []) (fun _ => none) (fun _ => []) Tryd.func12 rfl (by rw [Tryd.ntmps12]; simp) (Eq.mp (by kernel_rfl) H)

theorem vc_muezzinlaw24_data (d : List Value) (seq : Int) (h0 : Heap) (Post : Value → Heap → Prop) (H :
∀ (b1 : Nat) (h1 : Heap), b1 = h0.size → h1 = h0.push (.cells (d).toArray 41) →
∃ n1 : Int, cell h1 b1 1 = some (.int .i64 n1) ∧
∃ t1 : Bool, cell h1 b1 4 = some (.bool t1) ∧
∃ (s1 : Option Addr) (s1l s1c : Nat), cell h1 b1 7 = some (.slice s1 s1l s1c) ∧
Runs Tryd.prog 11 #[] h1 fun r1 h2 =>
∃ cs1 : List Value,
r1 = (.agg (cs1).toArray) ∧
cell h2 b1 7 = some (.slice s1 s1l s1c) ∧
cell h2 b1 4 = some (.bool t1) ∧
cell h2 b1 1 = some (.int .i64 n1) ∧
Runs Tryd.prog 12 #[] h2 fun r2 h3 =>
∃ cs2 : List Value,
r2 = (.agg (cs2).toArray) ∧
cell h3 b1 7 = some (.slice s1 s1l s1c) ∧
cell h3 b1 4 = some (.bool t1) ∧
cell h3 b1 1 = some (.int .i64 n1) ∧
Runs Tryd.prog 12 #[] h3 fun r3 h4 =>
∃ cs3 : List Value,
r3 = (.agg (cs3).toArray) ∧
cell h4 b1 7 = some (.slice s1 s1l s1c) ∧
cell h4 b1 4 = some (.bool t1) ∧
cell h4 b1 1 = some (.int .i64 n1) ∧
Runs Tryd.prog 27 #[(.int .i64 seq), (.int .i64 (0 : Int))] h4 fun r4 h5 =>
∃ n2 : Int,
r4 = (.int .i64 n2) ∧
cell h5 b1 7 = some (.slice s1 s1l s1c) ∧
cell h5 b1 4 = some (.bool t1) ∧
cell h5 b1 1 = some (.int .i64 n1) ∧
(cs1).length = 6 ∧
(cs2).length = 6 ∧
(cs3).length = 6 ∧
Runs Tryd.prog 22 #[(.agg (((cs1) ++ ((cs2) ++ ((cs3) ++ ([(.int .i64 (bits .and .i64 n1 (7 : Int))), (.int .i64 n2), (.bool t1), (.bool false), (.bool false), (.slice s1 s1l s1c)] : List Value))))).toArray)] h5 fun r5 h6 =>
∃ (s2 : Option Addr) (s2l s2c : Nat),
∃ n3 : Int,
r5 = (.tuple #[(.slice s2 s2l s2c), (.int .i64 n3)]) ∧
cell h6 b1 7 = some (.slice s1 s1l s1c) ∧
cell h6 b1 4 = some (.bool t1) ∧
cell h6 b1 1 = some (.int .i64 n1) ∧
Post (.slice s2 s2l s2c) h6) :
    Runs Tryd.prog 15 #[(.agg (d).toArray), (.int .i64 seq)] h0 Post :=
  runs_of (args := [(.agg (d).toArray), (.int .i64 seq)]) (fun n => ⟨false, false⟩) (fun _ => []) (fun _ => none) (fun _ => []) Tryd.func15 rfl (by rw [Tryd.ntmps15]; simp) (Eq.mp (by kernel_rfl) H)

theorem vc_muezzinref1_round (n : Int) (h0 : Heap) (Post : Value → Heap → Prop) (H :
(4096 : Int) ≠ 0 ∧
bcase (decide (((n).tmod (4096 : Int)) < (0 : Int))) (
Post (.int .i64 (IntKind.i64.wrap (((n).tmod (4096 : Int)) + (4096 : Int)))) h0) (
Post (.int .i64 ((n).tmod (4096 : Int))) h0)) :
    Runs Tryd.prog 56 #[(.int .i64 n)] h0 Post :=
  runs_of (args := [(.int .i64 n)]) (fun n => ⟨false, false⟩) (fun _ => []) (fun _ => none) (fun _ => []) Tryd.func56 rfl (by rw [Tryd.ntmps56]; simp) (Eq.mp (by kernel_rfl) H)
end Go.Proofs.YthlacliefgliiaaDoor
