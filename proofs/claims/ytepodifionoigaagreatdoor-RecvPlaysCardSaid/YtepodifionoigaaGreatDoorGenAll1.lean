import Derived.Test.YtepodifionoigaaGreatDoorRows
import Derived.Test.YtepodifionoigaaGreatDoorVc
set_option linter.unusedVariables false
set_option linter.unusedSimpArgs false
set_option maxRecDepth 100000
namespace Go.Proofs.YtepodifionoigaaGreatDoor
open Go.Vc
theorem vc_slices_Clone_byte (s : Option Addr) (sL sC : Nat) (h0 : Heap) (Post : Value → Heap → Prop) (H :
bcase (isNilAddr s) (
Post (.slice none 0 0) h0) (
∀ (b1 : Nat) (h1 : Heap), b1 = h0.size → h1 = h0.push (.cells ([] : List Value).toArray 5) →
∃ news1 : List Value, (src h1 s (sL * 1) news1 ∧ ∀ u ∈ news1, u.oneCell' = true) ∧
appK h1 (some ⟨b1, 0, none⟩) 0 0 sL 1 5 1 news1 fun (a1 : Option Addr) (cap1 : Nat) (h2 : Heap) =>
Post (.slice a1 (0 + sL) cap1) h2)) :
    Runs Tryz.prog 74 #[(.slice s sL sC)] h0 Post :=
  runs_of (args := [(.slice s sL sC)]) (fun n => ⟨true, false⟩) (fun _ => []) (fun _ => none) (fun _ => []) Tryz.func74 rfl (by rw [Tryz.ntmps74]; simp) (Eq.mp (by kernel_rfl) H)

theorem vc_muezzinref_SameBytes (a : Option Addr) (aL aC : Nat) (b : Option Addr) (bL bC : Nat) (h0 : Heap) (Post : Value → Heap → Prop) (H :
bcase (!decide (((aL : Nat) : Int) = ((bL : Nat) : Int))) (
Post (.bool false) h0) (
∃ (I1 : Int → Heap → Prop) (m1 : Int → Heap → Nat), I1 (0 : Int) h0 ∧ ∀ _ : Env,
∀ (i_1 : Int) (h1 : Heap), I1 i_1 h1 →
bcase (decide (i_1 < ((aL : Nat) : Int))) (
(0 ≤ i_1 ∧ i_1 < ((aL : Nat) : Int)) ∧
onAddr a fun b1 o1 =>
∃ n1 : Int, cell h1 b1 (o1 + (i_1).toNat) = some (.int .u8 n1) ∧
(0 ≤ i_1 ∧ i_1 < ((bL : Nat) : Int)) ∧
onAddr b fun b2 o2 =>
∃ n2 : Int, cell h1 b2 (o2 + (i_1).toNat) = some (.int .u8 n2) ∧
bcase (!(decide (n1 = n2))) (
Post (.bool false) h1) (
fits .i64 (i_1 + (1 : Int)) ∧
I1 (i_1 + (1 : Int)) h1 ∧ m1 (i_1 + (1 : Int)) h1 < m1 i_1 h1)) (
Post (.bool true) h1))) :
    Runs Tryz.prog 31 #[(.slice a aL aC), (.slice b bL bC)] h0 Post :=
  runs_of (args := [(.slice a aL aC), (.slice b bL bC)]) (fun n => ⟨true, false⟩) (fun n => match n with | 0 => [(5, .int .i64)] | _ => []) (fun _ => none) (fun _ => []) Tryz.func31 rfl (by rw [Tryz.ntmps31]; simp) (Eq.mp (by kernel_rfl) H)

theorem vc_muezzinref_Bytes (l : Option Addr) (lL lC : Nat) (h0 : Heap) (Post : Value → Heap → Prop) (H :
(0 ≤ (0 : Int) ∧ (0 : Int) ≤ ((lL : Nat) : Int) ∧ ((1 : Nat) : Int) * ((lL : Nat) : Int) ≤ 281474976710656 ∧ ((lL : Nat) : Int) ≤ 9223372036854775807) ∧ ∀ (b1 : Nat) (h1 : Heap), b1 = h0.size → h1 = h0.push (.cells (joinL (List.replicate (((lL : Nat) : Int)).toNat [(.int .u8 (0 : Int))])).toArray 5) →
∃ (I1 : Option Addr → Nat → Nat → Int → Heap → Prop) (m1 : Option Addr → Nat → Nat → Int → Heap → Nat), I1 (some ⟨b1, 0, none⟩) 0 (((lL : Nat) : Int)).toNat (0 : Int) h1 ∧ ∀ _ : Env,
∀ (out_1 : Option Addr) (out_1l out_1c : Nat) (i_1 : Int) (h2 : Heap), I1 out_1 out_1l out_1c i_1 h2 →
bcase (decide (i_1 < ((lL : Nat) : Int))) (
(0 ≤ i_1 ∧ i_1 < ((lL : Nat) : Int)) ∧
onAddr l fun b2 o1 =>
∃ n1 : Int, cell h2 b2 (o1 + (i_1).toNat) = some (.int .u8 n1) ∧
∀ (b3 : Nat) (h3 : Heap), b3 = h2.size → h3 = h2.push (.cells ([(.int .u8 n1)] : List Value).toArray 5) →
∃ news1 : List Value, (row h3 b3 0 1 = some news1 ∧ ∀ u ∈ news1, u.oneCell' = true) ∧
appK h3 out_1 out_1l out_1c 1 1 5 1 news1 fun (a1 : Option Addr) (cap1 : Nat) (h4 : Heap) =>
fits .i64 (i_1 + (1 : Int)) ∧
I1 a1 (out_1l + 1) cap1 (i_1 + (1 : Int)) h4 ∧ m1 a1 (out_1l + 1) cap1 (i_1 + (1 : Int)) h4 < m1 out_1 out_1l out_1c i_1 h2) (
Post (.slice out_1 out_1l out_1c) h2)) :
    Runs Tryz.prog 86 #[(.slice l lL lC)] h0 Post :=
  runs_of (args := [(.slice l lL lC)]) (fun n => ⟨true, false⟩) (fun n => match n with | 0 => [(3, .slice), (4, .int .i64)] | _ => []) (fun _ => none) (fun _ => []) Tryz.func86 rfl (by rw [Tryz.ntmps86]; simp) (Eq.mp (by kernel_rfl) H)
end Go.Proofs.YtepodifionoigaaGreatDoor
set_option linter.unusedVariables false
set_option linter.unusedSimpArgs false
set_option maxRecDepth 100000
namespace Go.Proofs.YtepodifionoigaaGreatDoor
open Go.Vc
theorem vc_muezzinref1_QoSBytes (f : List Value) (h0 : Heap) (Post : Value → Heap → Prop) (H :
∀ (b1 : Nat) (h1 : Heap), b1 = h0.size → h1 = h0.push (.cells (f).toArray 67) →
∃ n1 : Int, cell h1 b1 18 = some (.int .i64 n1) ∧
Runs Tryz.prog 47 #[(.int .i64 n1), (.int .i64 (7 : Int))] h1 fun r1 h2 =>
∃ t1 : Bool,
r1 = (.bool t1) ∧
bcase t1 (
Post (.tuple #[(.slice none 0 0), (.int .i64 (103 : Int))]) h2) (
∃ n2 : Int, cell h2 b1 19 = some (.int .i64 n2) ∧
Runs Tryz.prog 47 #[(.int .i64 n2), (.int .i64 (4095 : Int))] h2 fun r2 h3 =>
∃ t2 : Bool,
r2 = (.bool t2) ∧
bcase t2 (
Post (.tuple #[(.slice none 0 0), (.int .i64 (103 : Int))]) h3) (
∃ (s1 : Option Addr) (s1l s1c : Nat), cell h3 b1 23 = some (.slice s1 s1l s1c) ∧
bcase (decide ((1500 : Int) < ((s1l : Nat) : Int))) (
Post (.tuple #[(.slice none 0 0), (.int .i64 (103 : Int))]) h3) (
∃ t3 : Bool, cell h3 b1 20 = some (.bool t3) ∧
∃ t4 : Bool, cell h3 b1 21 = some (.bool t4) ∧
Runs Tryz.prog 51 #[(.bool t3), (.int .i64 (8 : Int))] h3 fun r3 h4 =>
∃ n3 : Int,
r3 = (.int .i64 n3) ∧
cell h4 b1 21 = some (.bool t4) ∧
fits .i64 ((2 : Int) + n3) ∧
Runs Tryz.prog 51 #[(.bool t4), (.int .i64 (32 : Int))] h4 fun r4 h5 =>
∃ n4 : Int,
r4 = (.int .i64 n4) ∧
fits .i64 (((2 : Int) + n3) + n4) ∧
fits .u8 (((2 : Int) + n3) + n4) ∧
∀ (b2 : Nat) (h6 : Heap), b2 = h5.size → h6 = h5.push (.cells ([(.int .u8 (136 : Int)), (.int .u8 (((2 : Int) + n3) + n4)), (.int .u8 (0 : Int)), (.int .u8 (0 : Int))] : List Value).toArray 5) →
∃ cs1 : List Value, row h6 b1 0 6 = some cs1 ∧
∃ cs2 : List Value, row h6 b1 6 6 = some cs2 ∧
∃ cs3 : List Value, row h6 b1 12 6 = some cs3 ∧
Runs Tryz.prog 48 #[(.slice (some ⟨b2, 0, none⟩) 4 4), (.agg (cs1).toArray)] h6 fun r5 h7 =>
∃ (s2 : Option Addr) (s2l s2c : Nat),
r5 = (.slice s2 s2l s2c) ∧
row h7 b1 12 6 = some (cs3) ∧
row h7 b1 6 6 = some (cs2) ∧
Runs Tryz.prog 48 #[(.slice s2 s2l s2c), (.agg (cs2).toArray)] h7 fun r6 h8 =>
∃ (s3 : Option Addr) (s3l s3c : Nat),
r6 = (.slice s3 s3l s3c) ∧
row h8 b1 12 6 = some (cs3) ∧
Runs Tryz.prog 48 #[(.slice s3 s3l s3c), (.agg (cs3).toArray)] h8 fun r7 h9 =>
∃ (s4 : Option Addr) (s4l s4c : Nat),
r7 = (.slice s4 s4l s4c) ∧
∃ n5 : Int, cell h9 b1 19 = some (.int .i64 n5) ∧
fits .i64 (n5 * (16 : Int)) ∧
Runs Tryz.prog 45 #[(.slice s4 s4l s4c), (.int .i64 (n5 * (16 : Int)))] h9 fun r8 h10 =>
∃ (s5 : Option Addr) (s5l s5c : Nat),
r8 = (.slice s5 s5l s5c) ∧
∃ n6 : Int, cell h10 b1 18 = some (.int .i64 n6) ∧
∃ t5 : Bool, cell h10 b1 22 = some (.bool t5) ∧
Runs Tryz.prog 51 #[(.bool t5), (.int .i64 (16 : Int))] h10 fun r9 h11 =>
∃ n7 : Int,
r9 = (.int .i64 n7) ∧
cell h11 b1 18 = some (.int .i64 n6) ∧
fits .i64 (n6 + n7) ∧
fits .u8 (n6 + n7) ∧
∀ (b3 : Nat) (h12 : Heap), b3 = h11.size → h12 = h11.push (.cells ([(.int .u8 (n6 + n7)), (.int .u8 (0 : Int))] : List Value).toArray 5) →
∃ news1 : List Value, (row h12 b3 0 2 = some news1 ∧ ∀ u ∈ news1, u.oneCell' = true) ∧
appK h12 s5 s5l s5c 2 1 5 1 news1 fun (a1 : Option Addr) (cap1 : Nat) (h13 : Heap) =>
∃ (s6 : Option Addr) (s6l s6c : Nat), cell h13 b1 23 = some (.slice s6 s6l s6c) ∧
∃ news2 : List Value, (src h13 s6 (s6l * 1) news2 ∧ ∀ u ∈ news2, u.oneCell' = true) ∧
appK h13 a1 (s5l + 2) cap1 s6l 1 5 1 news2 fun (a2 : Option Addr) (cap2 : Nat) (h14 : Heap) =>
Post (.tuple #[(.slice a2 ((s5l + 2) + s6l) cap2), (.int .i64 (0 : Int))]) h14)))) :
    Runs Tryz.prog 40 #[(.agg (f).toArray)] h0 Post :=
  runs_of (args := [(.agg (f).toArray)]) (fun n => ⟨true, false⟩) (fun _ => []) (fun _ => none) (fun _ => []) Tryz.func40 rfl (by rw [Tryz.ntmps40]; simp) (Eq.mp (by kernel_rfl) H)

theorem vc_muezzinref1_kind (b : Option Addr) (bL bC : Nat) (first : Int) (n : Int) (h0 : Heap) (Post : Value → Heap → Prop) (H :
bcase (decide ((0 : Int) < ((bL : Nat) : Int))) (
(0 ≤ (0 : Int) ∧ (0 : Int) < ((bL : Nat) : Int)) ∧
onAddr b fun b1 o1 =>
∃ n1 : Int, cell h0 b1 o1 = some (.int .u8 n1) ∧
bcase (!decide (n1 = first)) (
Post (.int .i64 (105 : Int)) h0) (
bcase (decide (((bL : Nat) : Int) < n)) (
Post (.int .i64 (101 : Int)) h0) (
bcase (decide (n < ((bL : Nat) : Int))) (
Post (.int .i64 (102 : Int)) h0) (
Post (.int .i64 (0 : Int)) h0)))) (
bcase (decide (((bL : Nat) : Int) < n)) (
Post (.int .i64 (101 : Int)) h0) (
bcase (decide (n < ((bL : Nat) : Int))) (
Post (.int .i64 (102 : Int)) h0) (
Post (.int .i64 (0 : Int)) h0)))) :
    Runs Tryz.prog 101 #[(.slice b bL bC), (.int .u8 first), (.int .i64 n)] h0 Post :=
  runs_of (args := [(.slice b bL bC), (.int .u8 first), (.int .i64 n)]) (fun n => ⟨true, false⟩) (fun _ => []) (fun _ => none) (fun _ => []) Tryz.func101 rfl (by rw [Tryz.ntmps101]; simp) (Eq.mp (by kernel_rfl) H)

theorem vc_muezzinref1_six (b : Option Addr) (bL bC : Nat) (h0 : Heap) (Post : Value → Heap → Prop) (H :
∀ (b1 : Nat) (h1 : Heap), b1 = h0.size → h1 = h0.push (.cells ([(.int .u8 (0 : Int)), (.int .u8 (0 : Int)), (.int .u8 (0 : Int)), (.int .u8 (0 : Int)), (.int .u8 (0 : Int)), (.int .u8 (0 : Int))] : List Value).toArray 30) →
∀ (b2 : Nat) (h2 : Heap), b2 = h1.size → h2 = h1.push (.cells ([(.int .u8 (0 : Int)), (.int .u8 (0 : Int)), (.int .u8 (0 : Int)), (.int .u8 (0 : Int)), (.int .u8 (0 : Int)), (.int .u8 (0 : Int))] : List Value).toArray 30) →
∃ (I1 : Int → Heap → Prop) (m1 : Int → Heap → Nat), I1 (0 : Int) h2 ∧ ∀ _ : Env,
∀ (i_1 : Int) (h3 : Heap), I1 i_1 h3 →
bcase (decide (i_1 < (6 : Int))) (
(0 ≤ i_1 ∧ i_1 < ((bL : Nat) : Int)) ∧
onAddr b fun b3 o1 =>
∃ n1 : Int, cell h3 b3 (o1 + (i_1).toNat) = some (.int .u8 n1) ∧
(0 ≤ i_1 ∧ i_1 < ((6 : Nat) : Int)) ∧
wr h3 b2 (0 + (i_1).toNat) ∧ ∀ h4 : Heap, h4 = setc h3 b2 (0 + (i_1).toNat) (.int .u8 n1) →
fits .i64 (i_1 + (1 : Int)) ∧
I1 (i_1 + (1 : Int)) h4 ∧ m1 (i_1 + (1 : Int)) h4 < m1 i_1 h3) (
∃ cs1 : List Value, row h3 b2 0 6 = some cs1 ∧
(((cs1)).length = 6 ∧ wrs h3 b1 0 6 ∧ ∀ u ∈ ((cs1) : List Value), u.oneCell' = true) ∧ ∀ h5 : Heap, h5 = setr h3 b1 0 (cs1) →
∃ cs2 : List Value, row h5 b1 0 6 = some cs2 ∧
Post (.agg (cs2).toArray) h5)) :
    Runs Tryz.prog 87 #[(.slice b bL bC)] h0 Post :=
  runs_of (args := [(.slice b bL bC)]) (fun n => ⟨true, false⟩) (fun n => match n with | 0 => [(4, .int .i64)] | _ => []) (fun _ => none) (fun _ => []) Tryz.func87 rfl (by rw [Tryz.ntmps87]; simp) (Eq.mp (by kernel_rfl) H)

theorem vc_muezzinref1_num (b : Option Addr) (bL bC : Nat) (h0 : Heap) (Post : Value → Heap → Prop) (H :
(0 ≤ (0 : Int) ∧ (0 : Int) < ((bL : Nat) : Int)) ∧
onAddr b fun b1 o1 =>
∃ n1 : Int, cell h0 b1 o1 = some (.int .u8 n1) ∧
fits .i64 n1 ∧
(0 ≤ (1 : Int) ∧ (1 : Int) < ((bL : Nat) : Int)) ∧
onAddr b fun b2 o2 =>
∃ n2 : Int, cell h0 b2 (o2 + 1) = some (.int .u8 n2) ∧
fits .i64 n2 ∧
(0 ≤ (8 : Int) ∧ (8 : Int) ≤ kbits .i64) ∧
fits .i64 (n2 * (256 : Int)) ∧
Post (.int .i64 (bits .or .i64 n1 (n2 * (256 : Int)))) h0) :
    Runs Tryz.prog 85 #[(.slice b bL bC)] h0 Post :=
  runs_of (args := [(.slice b bL bC)]) (fun n => ⟨true, false⟩) (fun _ => []) (fun _ => none) (fun _ => []) Tryz.func85 rfl (by rw [Tryz.ntmps85]; simp) (Eq.mp (by kernel_rfl) H)

theorem vc_muezzinref1_out (n : Int) (most : Int) (h0 : Heap) (Post : Value → Heap → Prop) (H :
bcase (decide (n < (0 : Int))) (
Post (.bool true) h0) (
Post (.bool (decide (most < n))) h0)) :
    Runs Tryz.prog 47 #[(.int .i64 n), (.int .i64 most)] h0 Post :=
  runs_of (args := [(.int .i64 n), (.int .i64 most)]) (fun n => ⟨true, false⟩) (fun _ => []) (fun _ => none) (fun _ => []) Tryz.func47 rfl (by rw [Tryz.ntmps47]; simp) (Eq.mp (by kernel_rfl) H)

theorem vc_muezzinref1_flag (is_ : Bool) (n : Int) (h0 : Heap) (Post : Value → Heap → Prop) (H :
bcase is_ (
Post (.int .i64 n) h0) (
Post (.int .i64 (0 : Int)) h0)) :
    Runs Tryz.prog 51 #[(.bool is_), (.int .i64 n)] h0 Post :=
  runs_of (args := [(.bool is_), (.int .i64 n)]) (fun n => ⟨true, false⟩) (fun _ => []) (fun _ => none) (fun _ => []) Tryz.func51 rfl (by rw [Tryz.ntmps51]; simp) (Eq.mp (by kernel_rfl) H)

theorem vc_muezzinref1_addr (b : Option Addr) (bL bC : Nat) (a : List Value) (h0 : Heap) (Post : Value → Heap → Prop) (H :
∀ (b1 : Nat) (h1 : Heap), b1 = h0.size → h1 = h0.push (.cells (a).toArray 30) →
∃ (I1 : Option Addr → Nat → Nat → Int → Heap → Prop) (m1 : Option Addr → Nat → Nat → Int → Heap → Nat), I1 b bL bC (0 : Int) h1 ∧ ∀ _ : Env,
∀ (b_1 : Option Addr) (b_1l b_1c : Nat) (i_1 : Int) (h2 : Heap), I1 b_1 b_1l b_1c i_1 h2 →
bcase (decide (i_1 < (6 : Int))) (
(0 ≤ i_1 ∧ i_1 < ((6 : Nat) : Int)) ∧
∃ n1 : Int, cell h2 b1 (0 + (i_1).toNat) = some (.int .u8 n1) ∧
∀ (b2 : Nat) (h3 : Heap), b2 = h2.size → h3 = h2.push (.cells ([(.int .u8 n1)] : List Value).toArray 5) →
∃ news1 : List Value, (row h3 b2 0 1 = some news1 ∧ ∀ u ∈ news1, u.oneCell' = true) ∧
appK h3 b_1 b_1l b_1c 1 1 5 1 news1 fun (a1 : Option Addr) (cap1 : Nat) (h4 : Heap) =>
fits .i64 (i_1 + (1 : Int)) ∧
I1 a1 (b_1l + 1) cap1 (i_1 + (1 : Int)) h4 ∧ m1 a1 (b_1l + 1) cap1 (i_1 + (1 : Int)) h4 < m1 b_1 b_1l b_1c i_1 h2) (
Post (.slice b_1 b_1l b_1c) h2)) :
    Runs Tryz.prog 48 #[(.slice b bL bC), (.agg (a).toArray)] h0 Post :=
  runs_of (args := [(.slice b bL bC), (.agg (a).toArray)]) (fun n => ⟨true, false⟩) (fun n => match n with | 0 => [(0, .slice), (5, .int .i64)] | _ => []) (fun _ => none) (fun _ => []) Tryz.func48 rfl (by rw [Tryz.ntmps48]; simp) (Eq.mp (by kernel_rfl) H)

theorem vc_muezzinref1_two (b : Option Addr) (bL bC : Nat) (n : Int) (h0 : Heap) (Post : Value → Heap → Prop) (H :
(0 ≤ (8 : Int) ∧ (8 : Int) ≤ kbits .i64) ∧
∀ (b1 : Nat) (h1 : Heap), b1 = h0.size → h1 = h0.push (.cells ([(.int .u8 (IntKind.u8.wrap n)), (.int .u8 (IntKind.u8.wrap (n / (256 : Int))))] : List Value).toArray 5) →
∃ news1 : List Value, (row h1 b1 0 2 = some news1 ∧ ∀ u ∈ news1, u.oneCell' = true) ∧
appK h1 b bL bC 2 1 5 1 news1 fun (a1 : Option Addr) (cap1 : Nat) (h2 : Heap) =>
Post (.slice a1 (bL + 2) cap1) h2) :
    Runs Tryz.prog 45 #[(.slice b bL bC), (.int .i64 n)] h0 Post :=
  runs_of (args := [(.slice b bL bC), (.int .i64 n)]) (fun n => ⟨false, false⟩) (fun _ => []) (fun _ => none) (fun _ => []) Tryz.func45 rfl (by rw [Tryz.ntmps45]; simp) (Eq.mp (by kernel_rfl) H)

theorem vc_muezzinref1_AckBytes (f : List Value) (h0 : Heap) (Post : Value → Heap → Prop) (H :
∀ (b1 : Nat) (h1 : Heap), b1 = h0.size → h1 = h0.push (.cells (f).toArray 135) →
∃ n1 : Int, cell h1 b1 12 = some (.int .i64 n1) ∧
Runs Tryz.prog 47 #[(.int .i64 n1), (.int .i64 (7 : Int))] h1 fun r1 h2 =>
∃ t1 : Bool,
r1 = (.bool t1) ∧
bcase t1 (
Post (.tuple #[(.slice none 0 0), (.int .i64 (103 : Int))]) h2) (
∃ n2 : Int, cell h2 b1 13 = some (.int .i64 n2) ∧
Runs Tryz.prog 47 #[(.int .i64 n2), (.int .i64 (4095 : Int))] h2 fun r2 h3 =>
∃ t2 : Bool,
r2 = (.bool t2) ∧
bcase t2 (
Post (.tuple #[(.slice none 0 0), (.int .i64 (103 : Int))]) h3) (
∃ cs1 : List Value, row h3 b1 0 6 = some cs1 ∧
∃ cs2 : List Value, row h3 b1 6 6 = some cs2 ∧
∃ n3 : Int, cell h3 b1 12 = some (.int .i64 n3) ∧
∃ n4 : Int, cell h3 b1 13 = some (.int .i64 n4) ∧
∀ (b2 : Nat) (h4 : Heap), b2 = h3.size → h4 = h3.push (.cells ([(.int .u8 (148 : Int)), (.int .u8 (0 : Int)), (.int .u8 (0 : Int)), (.int .u8 (0 : Int))] : List Value).toArray 5) →
Runs Tryz.prog 48 #[(.slice (some ⟨b2, 0, none⟩) 4 4), (.agg (cs1).toArray)] h4 fun r3 h5 =>
∃ (s1 : Option Addr) (s1l s1c : Nat),
r3 = (.slice s1 s1l s1c) ∧
cell h5 b1 13 = some (.int .i64 n4) ∧
cell h5 b1 12 = some (.int .i64 n3) ∧
row h5 b1 6 6 = some (cs2) ∧
Runs Tryz.prog 48 #[(.slice s1 s1l s1c), (.agg (cs2).toArray)] h5 fun r4 h6 =>
∃ (s2 : Option Addr) (s2l s2c : Nat),
r4 = (.slice s2 s2l s2c) ∧
cell h6 b1 13 = some (.int .i64 n4) ∧
cell h6 b1 12 = some (.int .i64 n3) ∧
Runs Tryz.prog 45 #[(.slice s2 s2l s2c), (.int .i64 (IntKind.i64.wrap ((4 : Int) + (IntKind.i64.wrap (n3 * (4096 : Int))))))] h6 fun r5 h7 =>
∃ (s3 : Option Addr) (s3l s3c : Nat),
r5 = (.slice s3 s3l s3c) ∧
cell h7 b1 13 = some (.int .i64 n4) ∧
Runs Tryz.prog 45 #[(.slice s3 s3l s3c), (.int .i64 (IntKind.i64.wrap (n4 * (16 : Int))))] h7 fun r6 h8 =>
∃ (s4 : Option Addr) (s4l s4c : Nat),
r6 = (.slice s4 s4l s4c) ∧
∃ (I1 : Option Addr → Nat → Nat → Int → Heap → Prop) (m1 : Option Addr → Nat → Nat → Int → Heap → Nat), I1 s4 s4l s4c (0 : Int) h8 ∧ ∀ _ : Env,
∀ (b_1 : Option Addr) (b_1l b_1c : Nat) (k_1 : Int) (h9 : Heap), I1 b_1 b_1l b_1c k_1 h9 →
bcase (decide (k_1 < (8 : Int))) (
∃ n5 : Int, cell h9 b1 14 = some (.int .u64 n5) ∧
(0 ≤ (IntKind.u64.wrap (IntKind.i64.wrap ((8 : Int) * k_1))) ∧ (IntKind.u64.wrap (IntKind.i64.wrap ((8 : Int) * k_1))) ≤ kbits .u64) ∧
∀ (b3 : Nat) (h10 : Heap), b3 = h9.size → h10 = h9.push (.cells ([(.int .u8 (IntKind.u8.wrap (n5 / (pow2 (IntKind.u64.wrap (IntKind.i64.wrap ((8 : Int) * k_1)))))))] : List Value).toArray 5) →
∃ news1 : List Value, (row h10 b3 0 1 = some news1 ∧ ∀ u ∈ news1, u.oneCell' = true) ∧
appK h10 b_1 b_1l b_1c 1 1 5 1 news1 fun (a1 : Option Addr) (cap1 : Nat) (h11 : Heap) =>
I1 a1 (b_1l + 1) cap1 (IntKind.i64.wrap (k_1 + (1 : Int))) h11 ∧ m1 a1 (b_1l + 1) cap1 (IntKind.i64.wrap (k_1 + (1 : Int))) h11 < m1 b_1 b_1l b_1c k_1 h9) (
Post (.tuple #[(.slice b_1 b_1l b_1c), (.int .i64 (0 : Int))]) h9)))) :
    Runs Tryz.prog 90 #[(.agg (f).toArray)] h0 Post :=
  runs_of (args := [(.agg (f).toArray)]) (fun n => ⟨false, false⟩) (fun n => match n with | 0 => [(4, .slice), (5, .int .i64)] | _ => []) (fun _ => none) (fun _ => []) Tryz.func90 rfl (by rw [Tryz.ntmps90]; simp) (Eq.mp (by kernel_rfl) H)

theorem vc_muezzinref1_head (to_ : List Value) (from_ : List Value) (bss : List Value) (h0 : Heap) (Post : Value → Heap → Prop) (H :
∀ (b1 : Nat) (h1 : Heap), b1 = h0.size → h1 = h0.push (.cells (to_).toArray 30) →
∀ (b2 : Nat) (h2 : Heap), b2 = h1.size → h2 = h1.push (.cells (from_).toArray 30) →
∀ (b3 : Nat) (h3 : Heap), b3 = h2.size → h3 = h2.push (.cells (bss).toArray 30) →
∃ cs1 : List Value, row h3 b1 0 6 = some cs1 ∧
∃ cs2 : List Value, row h3 b2 0 6 = some cs2 ∧
∃ cs3 : List Value, row h3 b3 0 6 = some cs3 ∧
∀ (b4 : Nat) (h4 : Heap), b4 = h3.size → h4 = h3.push (.cells ([(.int .u8 (208 : Int)), (.int .u8 (0 : Int)), (.int .u8 (0 : Int)), (.int .u8 (0 : Int))] : List Value).toArray 5) →
Runs Tryz.prog 48 #[(.slice (some ⟨b4, 0, none⟩) 4 4), (.agg (cs1).toArray)] h4 fun r1 h5 =>
∃ (s1 : Option Addr) (s1l s1c : Nat),
r1 = (.slice s1 s1l s1c) ∧
row h5 b3 0 6 = some (cs3) ∧
row h5 b2 0 6 = some (cs2) ∧
Runs Tryz.prog 48 #[(.slice s1 s1l s1c), (.agg (cs2).toArray)] h5 fun r2 h6 =>
∃ (s2 : Option Addr) (s2l s2c : Nat),
r2 = (.slice s2 s2l s2c) ∧
row h6 b3 0 6 = some (cs3) ∧
Runs Tryz.prog 48 #[(.slice s2 s2l s2c), (.agg (cs3).toArray)] h6 fun r3 h7 =>
∃ (s3 : Option Addr) (s3l s3c : Nat),
r3 = (.slice s3 s3l s3c) ∧
∀ (b5 : Nat) (h8 : Heap), b5 = h7.size → h8 = h7.push (.cells ([(.int .u8 (0 : Int)), (.int .u8 (0 : Int)), (.int .u8 (3 : Int))] : List Value).toArray 5) →
∃ news1 : List Value, (row h8 b5 0 3 = some news1 ∧ ∀ u ∈ news1, u.oneCell' = true) ∧
appK h8 s3 s3l s3c 3 1 5 1 news1 fun (a1 : Option Addr) (cap1 : Nat) (h9 : Heap) =>
Post (.slice a1 (s3l + 3) cap1) h9) :
    Runs Tryz.prog 50 #[(.agg (to_).toArray), (.agg (from_).toArray), (.agg (bss).toArray)] h0 Post :=
  runs_of (args := [(.agg (to_).toArray), (.agg (from_).toArray), (.agg (bss).toArray)]) (fun n => ⟨true, false⟩) (fun _ => []) (fun _ => none) (fun _ => []) Tryz.func50 rfl (by rw [Tryz.ntmps50]; simp) (Eq.mp (by kernel_rfl) H)

theorem vc_muezzinref1_session (b : Option Addr) (bL bC : Nat) (low : Int) (high : Int) (n : Int) (h0 : Heap) (Post : Value → Heap → Prop) (H :
bcase (decide (((bL : Nat) : Int) < (26 : Int))) (
Post (.int .i64 (101 : Int)) h0) (
(0 ≤ (0 : Int) ∧ (0 : Int) < ((bL : Nat) : Int)) ∧
onAddr b fun b1 o1 =>
∃ n1 : Int, cell h0 b1 o1 = some (.int .u8 n1) ∧
bcase (!decide (n1 = (208 : Int))) (
Post (.int .i64 (105 : Int)) h0) (
(0 ≤ (24 : Int) ∧ (24 : Int) < ((bL : Nat) : Int)) ∧
onAddr b fun b2 o2 =>
∃ n2 : Int, cell h0 b2 (o2 + 24) = some (.int .u8 n2) ∧
bcase (!decide (n2 = (3 : Int))) (
Post (.int .i64 (105 : Int)) h0) (
(0 ≤ (25 : Int) ∧ (25 : Int) < ((bL : Nat) : Int)) ∧
onAddr b fun b3 o3 =>
∃ n3 : Int, cell h0 b3 (o3 + 25) = some (.int .u8 n3) ∧
bcase (decide (n3 < low)) (
Post (.int .i64 (105 : Int)) h0) (
(0 ≤ (25 : Int) ∧ (25 : Int) < ((bL : Nat) : Int)) ∧
onAddr b fun b4 o4 =>
∃ n4 : Int, cell h0 b4 (o4 + 25) = some (.int .u8 n4) ∧
bcase (decide (high < n4)) (
Post (.int .i64 (105 : Int)) h0) (
bcase (decide (((bL : Nat) : Int) < n)) (
Post (.int .i64 (101 : Int)) h0) (
bcase (decide (n < ((bL : Nat) : Int))) (
Post (.int .i64 (102 : Int)) h0) (
Post (.int .i64 (0 : Int)) h0)))))))) :
    Runs Tryz.prog 102 #[(.slice b bL bC), (.int .u8 low), (.int .u8 high), (.int .i64 n)] h0 Post :=
  runs_of (args := [(.slice b bL bC), (.int .u8 low), (.int .u8 high), (.int .i64 n)]) (fun n => ⟨true, false⟩) (fun _ => []) (fun _ => none) (fun _ => []) Tryz.func102 rfl (by rw [Tryz.ntmps102]; simp) (Eq.mp (by kernel_rfl) H)

theorem vc_muezzinref1_Add (a : Int) (n : Int) (h0 : Heap) (Post : Value → Heap → Prop) (H :
Runs Tryz.prog 49 #[(.int .i64 a)] h0 fun r1 h1 =>
∃ n1 : Int,
r1 = (.int .i64 n1) ∧
Runs Tryz.prog 49 #[(.int .i64 n)] h1 fun r2 h2 =>
∃ n2 : Int,
r2 = (.int .i64 n2) ∧
Runs Tryz.prog 49 #[(.int .i64 (IntKind.i64.wrap (n1 + n2)))] h2 fun r3 h3 =>
∃ n3 : Int,
r3 = (.int .i64 n3) ∧
Post (.int .i64 n3) h3) :
    Runs Tryz.prog 24 #[(.int .i64 a), (.int .i64 n)] h0 Post :=
  runs_of (args := [(.int .i64 a), (.int .i64 n)]) (fun n => ⟨false, false⟩) (fun _ => []) (fun _ => none) (fun _ => []) Tryz.func24 rfl (by rw [Tryz.ntmps24]; simp) (Eq.mp (by kernel_rfl) H)

theorem vc_muezzinref1_Dist (a : Int) (b : Int) (h0 : Heap) (Post : Value → Heap → Prop) (H :
Runs Tryz.prog 49 #[(.int .i64 b)] h0 fun r1 h1 =>
∃ n1 : Int,
r1 = (.int .i64 n1) ∧
Runs Tryz.prog 49 #[(.int .i64 a)] h1 fun r2 h2 =>
∃ n2 : Int,
r2 = (.int .i64 n2) ∧
Runs Tryz.prog 49 #[(.int .i64 (IntKind.i64.wrap (n1 - n2)))] h2 fun r3 h3 =>
∃ n3 : Int,
r3 = (.int .i64 n3) ∧
Post (.int .i64 n3) h3) :
    Runs Tryz.prog 35 #[(.int .i64 a), (.int .i64 b)] h0 Post :=
  runs_of (args := [(.int .i64 a), (.int .i64 b)]) (fun n => ⟨false, false⟩) (fun _ => []) (fun _ => none) (fun _ => []) Tryz.func35 rfl (by rw [Tryz.ntmps35]; simp) (Eq.mp (by kernel_rfl) H)

theorem vc_muezzinref_SameAddr (a : List Value) (b : List Value) (h0 : Heap) (Post : Value → Heap → Prop) (H :
∀ (b1 : Nat) (h1 : Heap), b1 = h0.size → h1 = h0.push (.cells (a).toArray 30) →
∀ (b2 : Nat) (h2 : Heap), b2 = h1.size → h2 = h1.push (.cells (b).toArray 30) →
∃ (I1 : Int → Heap → Prop) (m1 : Int → Heap → Nat), I1 (0 : Int) h2 ∧ ∀ _ : Env,
∀ (i_1 : Int) (h3 : Heap), I1 i_1 h3 →
bcase (decide (i_1 < (6 : Int))) (
(0 ≤ i_1 ∧ i_1 < ((6 : Nat) : Int)) ∧
∃ n1 : Int, cell h3 b1 (0 + (i_1).toNat) = some (.int .u8 n1) ∧
(0 ≤ i_1 ∧ i_1 < ((6 : Nat) : Int)) ∧
∃ n2 : Int, cell h3 b2 (0 + (i_1).toNat) = some (.int .u8 n2) ∧
bcase (!decide (n1 = n2)) (
Post (.bool false) h3) (
fits .i64 (i_1 + (1 : Int)) ∧
I1 (i_1 + (1 : Int)) h3 ∧ m1 (i_1 + (1 : Int)) h3 < m1 i_1 h3)) (
Post (.bool true) h3)) :
    Runs Tryz.prog 57 #[(.agg (a).toArray), (.agg (b).toArray)] h0 Post :=
  runs_of (args := [(.agg (a).toArray), (.agg (b).toArray)]) (fun n => ⟨true, false⟩) (fun n => match n with | 0 => [(5, .int .i64)] | _ => []) (fun _ => none) (fun _ => []) Tryz.func57 rfl (by rw [Tryz.ntmps57]; simp) (Eq.mp (by kernel_rfl) H)

theorem vc_qos_Read (b : Option Addr) (bL bC : Nat) (h0 : Heap) (Post : Value → Heap → Prop) (H :
∀ (b1 : Nat) (h1 : Heap), b1 = h0.size → h1 = h0.push (.cells ([(.int .u8 (0 : Int)), (.int .u8 (0 : Int)), (.int .u8 (0 : Int)), (.int .u8 (0 : Int)), (.int .u8 (0 : Int)), (.int .u8 (0 : Int)), (.int .u8 (0 : Int)), (.int .u8 (0 : Int)), (.int .u8 (0 : Int)), (.int .u8 (0 : Int)), (.int .u8 (0 : Int)), (.int .u8 (0 : Int)), (.int .u8 (0 : Int)), (.int .u8 (0 : Int)), (.int .u8 (0 : Int)), (.int .u8 (0 : Int)), (.int .u8 (0 : Int)), (.int .u8 (0 : Int)), (.int .i64 (0 : Int)), (.int .i64 (0 : Int)), (.bool false), (.bool false), (.bool false), (.slice none 0 0)] : List Value).toArray 67) →
bcase (decide (((bL : Nat) : Int) < (26 : Int))) (
∃ v1 : Value, cell h1 1 0 = some v1 ∧
((([(.int .u8 (0 : Int)), (.int .u8 (0 : Int)), (.int .u8 (0 : Int)), (.int .u8 (0 : Int)), (.int .u8 (0 : Int)), (.int .u8 (0 : Int)), (.int .u8 (0 : Int)), (.int .u8 (0 : Int)), (.int .u8 (0 : Int)), (.int .u8 (0 : Int)), (.int .u8 (0 : Int)), (.int .u8 (0 : Int)), (.int .u8 (0 : Int)), (.int .u8 (0 : Int)), (.int .u8 (0 : Int)), (.int .u8 (0 : Int)), (.int .u8 (0 : Int)), (.int .u8 (0 : Int)), (.int .i64 (0 : Int)), (.int .i64 (0 : Int)), (.bool false), (.bool false), (.bool false), (.slice none 0 0)] : List Value)).length = 24 ∧ wrs h1 b1 0 24 ∧ ∀ u ∈ (([(.int .u8 (0 : Int)), (.int .u8 (0 : Int)), (.int .u8 (0 : Int)), (.int .u8 (0 : Int)), (.int .u8 (0 : Int)), (.int .u8 (0 : Int)), (.int .u8 (0 : Int)), (.int .u8 (0 : Int)), (.int .u8 (0 : Int)), (.int .u8 (0 : Int)), (.int .u8 (0 : Int)), (.int .u8 (0 : Int)), (.int .u8 (0 : Int)), (.int .u8 (0 : Int)), (.int .u8 (0 : Int)), (.int .u8 (0 : Int)), (.int .u8 (0 : Int)), (.int .u8 (0 : Int)), (.int .i64 (0 : Int)), (.int .i64 (0 : Int)), (.bool false), (.bool false), (.bool false), (.slice none 0 0)] : List Value) : List Value), u.oneCell' = true) ∧ ∀ h2 : Heap, h2 = setr h1 b1 0 ([(.int .u8 (0 : Int)), (.int .u8 (0 : Int)), (.int .u8 (0 : Int)), (.int .u8 (0 : Int)), (.int .u8 (0 : Int)), (.int .u8 (0 : Int)), (.int .u8 (0 : Int)), (.int .u8 (0 : Int)), (.int .u8 (0 : Int)), (.int .u8 (0 : Int)), (.int .u8 (0 : Int)), (.int .u8 (0 : Int)), (.int .u8 (0 : Int)), (.int .u8 (0 : Int)), (.int .u8 (0 : Int)), (.int .u8 (0 : Int)), (.int .u8 (0 : Int)), (.int .u8 (0 : Int)), (.int .i64 (0 : Int)), (.int .i64 (0 : Int)), (.bool false), (.bool false), (.bool false), (.slice none 0 0)] : List Value) →
cell h2 1 0 = some v1 ∧
∃ cs1 : List Value, row h2 b1 0 24 = some cs1 ∧
Post (.tuple #[(.agg (cs1).toArray), v1]) h2) (
(0 ≤ (0 : Int) ∧ (0 : Int) < ((bL : Nat) : Int)) ∧
onAddr b fun b2 o1 =>
∃ n1 : Int, cell h1 b2 o1 = some (.int .u8 n1) ∧
bcase (!decide (n1 = (136 : Int))) (
∃ v2 : Value, cell h1 2 0 = some v2 ∧
((([(.int .u8 (0 : Int)), (.int .u8 (0 : Int)), (.int .u8 (0 : Int)), (.int .u8 (0 : Int)), (.int .u8 (0 : Int)), (.int .u8 (0 : Int)), (.int .u8 (0 : Int)), (.int .u8 (0 : Int)), (.int .u8 (0 : Int)), (.int .u8 (0 : Int)), (.int .u8 (0 : Int)), (.int .u8 (0 : Int)), (.int .u8 (0 : Int)), (.int .u8 (0 : Int)), (.int .u8 (0 : Int)), (.int .u8 (0 : Int)), (.int .u8 (0 : Int)), (.int .u8 (0 : Int)), (.int .i64 (0 : Int)), (.int .i64 (0 : Int)), (.bool false), (.bool false), (.bool false), (.slice none 0 0)] : List Value)).length = 24 ∧ wrs h1 b1 0 24 ∧ ∀ u ∈ (([(.int .u8 (0 : Int)), (.int .u8 (0 : Int)), (.int .u8 (0 : Int)), (.int .u8 (0 : Int)), (.int .u8 (0 : Int)), (.int .u8 (0 : Int)), (.int .u8 (0 : Int)), (.int .u8 (0 : Int)), (.int .u8 (0 : Int)), (.int .u8 (0 : Int)), (.int .u8 (0 : Int)), (.int .u8 (0 : Int)), (.int .u8 (0 : Int)), (.int .u8 (0 : Int)), (.int .u8 (0 : Int)), (.int .u8 (0 : Int)), (.int .u8 (0 : Int)), (.int .u8 (0 : Int)), (.int .i64 (0 : Int)), (.int .i64 (0 : Int)), (.bool false), (.bool false), (.bool false), (.slice none 0 0)] : List Value) : List Value), u.oneCell' = true) ∧ ∀ h3 : Heap, h3 = setr h1 b1 0 ([(.int .u8 (0 : Int)), (.int .u8 (0 : Int)), (.int .u8 (0 : Int)), (.int .u8 (0 : Int)), (.int .u8 (0 : Int)), (.int .u8 (0 : Int)), (.int .u8 (0 : Int)), (.int .u8 (0 : Int)), (.int .u8 (0 : Int)), (.int .u8 (0 : Int)), (.int .u8 (0 : Int)), (.int .u8 (0 : Int)), (.int .u8 (0 : Int)), (.int .u8 (0 : Int)), (.int .u8 (0 : Int)), (.int .u8 (0 : Int)), (.int .u8 (0 : Int)), (.int .u8 (0 : Int)), (.int .i64 (0 : Int)), (.int .i64 (0 : Int)), (.bool false), (.bool false), (.bool false), (.slice none 0 0)] : List Value) →
cell h3 2 0 = some v2 ∧
∃ cs2 : List Value, row h3 b1 0 24 = some cs2 ∧
Post (.tuple #[(.agg (cs2).toArray), v2]) h3) (
(0 ≤ (22 : Int) ∧ (22 : Int) < ((bL : Nat) : Int)) ∧
onAddr b fun b3 o2 =>
∃ n2 : Int, cell h1 b3 (o2 + 22) = some (.int .u8 n2) ∧
fits .i64 n2 ∧
(0 ≤ (23 : Int) ∧ (23 : Int) < ((bL : Nat) : Int)) ∧
onAddr b fun b4 o3 =>
∃ n3 : Int, cell h1 b4 (o3 + 23) = some (.int .u8 n3) ∧
fits .i64 n3 ∧
(0 ≤ (8 : Int) ∧ (8 : Int) ≤ kbits .i64) ∧
fits .i64 (n3 * (256 : Int)) ∧
∃ J1 : Heap → Prop, (
∃ J2 : Bool → Heap → Prop, (
(0 ≤ (1 : Int) ∧ (1 : Int) < ((bL : Nat) : Int)) ∧
onAddr b fun b5 o4 =>
∃ n4 : Int, cell h1 b5 (o4 + 1) = some (.int .u8 n4) ∧
bcase (!decide ((bits .andNot .u8 n4 (40 : Int)) = (2 : Int))) (
J2 (!decide ((bits .andNot .u8 n4 (40 : Int)) = (2 : Int))) h1) (
(0 ≤ (2 : Int) ∧ (2 : Int) < ((bL : Nat) : Int)) ∧
onAddr b fun b6 o5 =>
∃ n5 : Int, cell h1 b6 (o5 + 2) = some (.int .u8 n5) ∧
bcase (!decide (n5 = (0 : Int))) (
J2 (!decide (n5 = (0 : Int))) h1) (
(0 ≤ (3 : Int) ∧ (3 : Int) < ((bL : Nat) : Int)) ∧
onAddr b fun b7 o6 =>
∃ n6 : Int, cell h1 b7 (o6 + 3) = some (.int .u8 n6) ∧
bcase (!decide (n6 = (0 : Int))) (
J2 (!decide (n6 = (0 : Int))) h1) (
(0 ≤ (25 : Int) ∧ (25 : Int) < ((bL : Nat) : Int)) ∧
onAddr b fun b8 o7 =>
∃ n7 : Int, cell h1 b8 (o7 + 25) = some (.int .u8 n7) ∧
bcase (!decide (n7 = (0 : Int))) (
J2 (!decide (n7 = (0 : Int))) h1) (
(16 : Int) ≠ 0 ∧
bcase (!decide ((((bits .or .i64 n2 (n3 * (256 : Int)))).tmod (16 : Int)) = (0 : Int))) (
J2 (!decide ((((bits .or .i64 n2 (n3 * (256 : Int)))).tmod (16 : Int)) = (0 : Int))) h1) (
(0 ≤ (24 : Int) ∧ (24 : Int) < ((bL : Nat) : Int)) ∧
onAddr b fun b9 o8 =>
∃ n8 : Int, cell h1 b9 (o8 + 24) = some (.int .u8 n8) ∧
J2 (decide ((8 : Int) ≤ (bits .andNot .u8 n8 (16 : Int)))) h1)))))) ∧ ∀ _ : Env,
∀ (x1 : Bool) (h4 : Heap), J2 x1 h4 →
bcase x1 (
∃ v3 : Value, cell h4 3 0 = some v3 ∧
((([(.int .u8 (0 : Int)), (.int .u8 (0 : Int)), (.int .u8 (0 : Int)), (.int .u8 (0 : Int)), (.int .u8 (0 : Int)), (.int .u8 (0 : Int)), (.int .u8 (0 : Int)), (.int .u8 (0 : Int)), (.int .u8 (0 : Int)), (.int .u8 (0 : Int)), (.int .u8 (0 : Int)), (.int .u8 (0 : Int)), (.int .u8 (0 : Int)), (.int .u8 (0 : Int)), (.int .u8 (0 : Int)), (.int .u8 (0 : Int)), (.int .u8 (0 : Int)), (.int .u8 (0 : Int)), (.int .i64 (0 : Int)), (.int .i64 (0 : Int)), (.bool false), (.bool false), (.bool false), (.slice none 0 0)] : List Value)).length = 24 ∧ wrs h4 b1 0 24 ∧ ∀ u ∈ (([(.int .u8 (0 : Int)), (.int .u8 (0 : Int)), (.int .u8 (0 : Int)), (.int .u8 (0 : Int)), (.int .u8 (0 : Int)), (.int .u8 (0 : Int)), (.int .u8 (0 : Int)), (.int .u8 (0 : Int)), (.int .u8 (0 : Int)), (.int .u8 (0 : Int)), (.int .u8 (0 : Int)), (.int .u8 (0 : Int)), (.int .u8 (0 : Int)), (.int .u8 (0 : Int)), (.int .u8 (0 : Int)), (.int .u8 (0 : Int)), (.int .u8 (0 : Int)), (.int .u8 (0 : Int)), (.int .i64 (0 : Int)), (.int .i64 (0 : Int)), (.bool false), (.bool false), (.bool false), (.slice none 0 0)] : List Value) : List Value), u.oneCell' = true) ∧ ∀ h5 : Heap, h5 = setr h4 b1 0 ([(.int .u8 (0 : Int)), (.int .u8 (0 : Int)), (.int .u8 (0 : Int)), (.int .u8 (0 : Int)), (.int .u8 (0 : Int)), (.int .u8 (0 : Int)), (.int .u8 (0 : Int)), (.int .u8 (0 : Int)), (.int .u8 (0 : Int)), (.int .u8 (0 : Int)), (.int .u8 (0 : Int)), (.int .u8 (0 : Int)), (.int .u8 (0 : Int)), (.int .u8 (0 : Int)), (.int .u8 (0 : Int)), (.int .u8 (0 : Int)), (.int .u8 (0 : Int)), (.int .u8 (0 : Int)), (.int .i64 (0 : Int)), (.int .i64 (0 : Int)), (.bool false), (.bool false), (.bool false), (.slice none 0 0)] : List Value) →
cell h5 3 0 = some v3 ∧
∃ cs3 : List Value, row h5 b1 0 24 = some cs3 ∧
Post (.tuple #[(.agg (cs3).toArray), v3]) h5) (
fits .i64 (((bL : Nat) : Int) - (26 : Int)) ∧
bcase (decide ((1500 : Int) < (((bL : Nat) : Int) - (26 : Int)))) (
∃ v4 : Value, cell h4 0 0 = some v4 ∧
((([(.int .u8 (0 : Int)), (.int .u8 (0 : Int)), (.int .u8 (0 : Int)), (.int .u8 (0 : Int)), (.int .u8 (0 : Int)), (.int .u8 (0 : Int)), (.int .u8 (0 : Int)), (.int .u8 (0 : Int)), (.int .u8 (0 : Int)), (.int .u8 (0 : Int)), (.int .u8 (0 : Int)), (.int .u8 (0 : Int)), (.int .u8 (0 : Int)), (.int .u8 (0 : Int)), (.int .u8 (0 : Int)), (.int .u8 (0 : Int)), (.int .u8 (0 : Int)), (.int .u8 (0 : Int)), (.int .i64 (0 : Int)), (.int .i64 (0 : Int)), (.bool false), (.bool false), (.bool false), (.slice none 0 0)] : List Value)).length = 24 ∧ wrs h4 b1 0 24 ∧ ∀ u ∈ (([(.int .u8 (0 : Int)), (.int .u8 (0 : Int)), (.int .u8 (0 : Int)), (.int .u8 (0 : Int)), (.int .u8 (0 : Int)), (.int .u8 (0 : Int)), (.int .u8 (0 : Int)), (.int .u8 (0 : Int)), (.int .u8 (0 : Int)), (.int .u8 (0 : Int)), (.int .u8 (0 : Int)), (.int .u8 (0 : Int)), (.int .u8 (0 : Int)), (.int .u8 (0 : Int)), (.int .u8 (0 : Int)), (.int .u8 (0 : Int)), (.int .u8 (0 : Int)), (.int .u8 (0 : Int)), (.int .i64 (0 : Int)), (.int .i64 (0 : Int)), (.bool false), (.bool false), (.bool false), (.slice none 0 0)] : List Value) : List Value), u.oneCell' = true) ∧ ∀ h6 : Heap, h6 = setr h4 b1 0 ([(.int .u8 (0 : Int)), (.int .u8 (0 : Int)), (.int .u8 (0 : Int)), (.int .u8 (0 : Int)), (.int .u8 (0 : Int)), (.int .u8 (0 : Int)), (.int .u8 (0 : Int)), (.int .u8 (0 : Int)), (.int .u8 (0 : Int)), (.int .u8 (0 : Int)), (.int .u8 (0 : Int)), (.int .u8 (0 : Int)), (.int .u8 (0 : Int)), (.int .u8 (0 : Int)), (.int .u8 (0 : Int)), (.int .u8 (0 : Int)), (.int .u8 (0 : Int)), (.int .u8 (0 : Int)), (.int .i64 (0 : Int)), (.int .i64 (0 : Int)), (.bool false), (.bool false), (.bool false), (.slice none 0 0)] : List Value) →
cell h6 0 0 = some v4 ∧
∃ cs4 : List Value, row h6 b1 0 24 = some cs4 ∧
Post (.tuple #[(.agg (cs4).toArray), v4]) h6) (
J1 h4))) ∧ ∀ _ : Env,
∀ (h7 : Heap), J1 h7 →
(0 ≤ (24 : Int) ∧ (24 : Int) < ((bL : Nat) : Int)) ∧
onAddr b fun b10 o9 =>
∃ n9 : Int, cell h7 b10 (o9 + 24) = some (.int .u8 n9) ∧
fits .i64 (bits .andNot .u8 n9 (16 : Int)) ∧
(0 ≤ (bits .or .i64 n2 (n3 * (256 : Int))) ∧ 0 < (16 : Int) ∧ fits .i64 ((bits .or .i64 n2 (n3 * (256 : Int))) / (16 : Int))) ∧
(0 ≤ (1 : Int) ∧ (1 : Int) < ((bL : Nat) : Int)) ∧
onAddr b fun b11 o10 =>
∃ n10 : Int, cell h7 b11 (o10 + 1) = some (.int .u8 n10) ∧
(0 ≤ (1 : Int) ∧ (1 : Int) < ((bL : Nat) : Int)) ∧
onAddr b fun b12 o11 =>
∃ n11 : Int, cell h7 b12 (o11 + 1) = some (.int .u8 n11) ∧
(0 ≤ (24 : Int) ∧ (24 : Int) < ((bL : Nat) : Int)) ∧
onAddr b fun b13 o12 =>
∃ n12 : Int, cell h7 b13 (o12 + 24) = some (.int .u8 n12) ∧
(0 ≤ (26 : Int) ∧ (26 : Int) ≤ ((bL : Nat) : Int)) ∧
(
Runs Tryz.prog 74 #[(.slice (slcAddr b 26 bC 26) (bL - 26) (bC - 26))] h7 fun r1 h8 =>
∃ (s1 : Option Addr) (s1l s1c : Nat),
r1 = (.slice s1 s1l s1c) ∧
cell h8 b13 (o12 + 24) = some (.int .u8 n12) ∧
cell h8 b12 (o11 + 1) = some (.int .u8 n11) ∧
cell h8 b11 (o10 + 1) = some (.int .u8 n10) ∧
cell h8 b10 (o9 + 24) = some (.int .u8 n9) ∧
∀ (b14 : Nat) (h9 : Heap), b14 = h8.size → h9 = h8.push (.cells ([(.int .u8 (0 : Int)), (.int .u8 (0 : Int)), (.int .u8 (0 : Int)), (.int .u8 (0 : Int)), (.int .u8 (0 : Int)), (.int .u8 (0 : Int)), (.int .u8 (0 : Int)), (.int .u8 (0 : Int)), (.int .u8 (0 : Int)), (.int .u8 (0 : Int)), (.int .u8 (0 : Int)), (.int .u8 (0 : Int)), (.int .u8 (0 : Int)), (.int .u8 (0 : Int)), (.int .u8 (0 : Int)), (.int .u8 (0 : Int)), (.int .u8 (0 : Int)), (.int .u8 (0 : Int)), (.int .i64 (0 : Int)), (.int .i64 (0 : Int)), (.bool false), (.bool false), (.bool false), (.slice none 0 0)] : List Value).toArray 67) →
((([(.int .u8 (0 : Int)), (.int .u8 (0 : Int)), (.int .u8 (0 : Int)), (.int .u8 (0 : Int)), (.int .u8 (0 : Int)), (.int .u8 (0 : Int)), (.int .u8 (0 : Int)), (.int .u8 (0 : Int)), (.int .u8 (0 : Int)), (.int .u8 (0 : Int)), (.int .u8 (0 : Int)), (.int .u8 (0 : Int)), (.int .u8 (0 : Int)), (.int .u8 (0 : Int)), (.int .u8 (0 : Int)), (.int .u8 (0 : Int)), (.int .u8 (0 : Int)), (.int .u8 (0 : Int)), (.int .i64 (bits .andNot .u8 n9 (16 : Int))), (.int .i64 ((bits .or .i64 n2 (n3 * (256 : Int))) / (16 : Int))), (.bool (decide ((0 : Int) < (bits .and .u8 n10 (8 : Int))))), (.bool (decide ((0 : Int) < (bits .and .u8 n11 (32 : Int))))), (.bool (decide ((0 : Int) < (bits .and .u8 n12 (16 : Int))))), (.slice s1 s1l s1c)] : List Value)).length = 24 ∧ wrs h9 b14 0 24 ∧ ∀ u ∈ (([(.int .u8 (0 : Int)), (.int .u8 (0 : Int)), (.int .u8 (0 : Int)), (.int .u8 (0 : Int)), (.int .u8 (0 : Int)), (.int .u8 (0 : Int)), (.int .u8 (0 : Int)), (.int .u8 (0 : Int)), (.int .u8 (0 : Int)), (.int .u8 (0 : Int)), (.int .u8 (0 : Int)), (.int .u8 (0 : Int)), (.int .u8 (0 : Int)), (.int .u8 (0 : Int)), (.int .u8 (0 : Int)), (.int .u8 (0 : Int)), (.int .u8 (0 : Int)), (.int .u8 (0 : Int)), (.int .i64 (bits .andNot .u8 n9 (16 : Int))), (.int .i64 ((bits .or .i64 n2 (n3 * (256 : Int))) / (16 : Int))), (.bool (decide ((0 : Int) < (bits .and .u8 n10 (8 : Int))))), (.bool (decide ((0 : Int) < (bits .and .u8 n11 (32 : Int))))), (.bool (decide ((0 : Int) < (bits .and .u8 n12 (16 : Int))))), (.slice s1 s1l s1c)] : List Value) : List Value), u.oneCell' = true) ∧ ∀ h10 : Heap, h10 = setr h9 b14 0 ([(.int .u8 (0 : Int)), (.int .u8 (0 : Int)), (.int .u8 (0 : Int)), (.int .u8 (0 : Int)), (.int .u8 (0 : Int)), (.int .u8 (0 : Int)), (.int .u8 (0 : Int)), (.int .u8 (0 : Int)), (.int .u8 (0 : Int)), (.int .u8 (0 : Int)), (.int .u8 (0 : Int)), (.int .u8 (0 : Int)), (.int .u8 (0 : Int)), (.int .u8 (0 : Int)), (.int .u8 (0 : Int)), (.int .u8 (0 : Int)), (.int .u8 (0 : Int)), (.int .u8 (0 : Int)), (.int .i64 (bits .andNot .u8 n9 (16 : Int))), (.int .i64 ((bits .or .i64 n2 (n3 * (256 : Int))) / (16 : Int))), (.bool (decide ((0 : Int) < (bits .and .u8 n10 (8 : Int))))), (.bool (decide ((0 : Int) < (bits .and .u8 n11 (32 : Int))))), (.bool (decide ((0 : Int) < (bits .and .u8 n12 (16 : Int))))), (.slice s1 s1l s1c)] : List Value) →
∃ J3 : Heap → Prop, (
∀ (b15 : Nat) (h11 : Heap), b15 = h10.size → h11 = h10.push (.cells ([(.pointer (some ⟨b14, 0, none⟩)), (.pointer (some ⟨b14, 6, none⟩)), (.pointer (some ⟨b14, 12, none⟩))] : List Value).toArray 130) →
∃ (I1 : Int → Heap → Prop) (m1 : Int → Heap → Nat), I1 (0 : Int) h11 ∧ ∀ _ : Env,
∀ (x2 : Int) (h12 : Heap), I1 x2 h12 →
bcase (decide (x2 < ((3 : Nat) : Int))) (
(0 ≤ x2 ∧ x2 < ((3 : Nat) : Int)) ∧
∃ p1 : Option Addr, cell h12 b15 (0 + (x2).toNat) = some (.pointer p1) ∧
onAddr p1 fun b16 o13 =>
fits .i64 (x2 * (6 : Int)) ∧
fits .i64 ((4 : Int) + (x2 * (6 : Int))) ∧
(0 ≤ ((4 : Int) + (x2 * (6 : Int))) ∧ ((4 : Int) + (x2 * (6 : Int))) ≤ ((bL : Nat) : Int)) ∧
∃ news1 : List Value, (src h12 (slcAddr b (((4 : Int) + (x2 * (6 : Int)))).toNat bC ((((4 : Int) + (x2 * (6 : Int)))).toNat * 1)) ((min (bL - (((4 : Int) + (x2 * (6 : Int)))).toNat) 6) * 1) news1 ∧ ∀ u ∈ news1, u.oneCell' = true) ∧
wrs h12 b16 o13 news1.length ∧ ∀ h13 : Heap, h13 = setr h12 b16 o13 news1 →
fits .i64 (x2 + (1 : Int)) ∧
I1 (x2 + (1 : Int)) h13 ∧ m1 (x2 + (1 : Int)) h13 < m1 x2 h12) (
J3 h12)) ∧ ∀ _ : Env,
∀ (h14 : Heap), J3 h14 →
∃ cs5 : List Value, row h14 b14 0 24 = some cs5 ∧
(((cs5)).length = 24 ∧ wrs h14 b1 0 24 ∧ ∀ u ∈ ((cs5) : List Value), u.oneCell' = true) ∧ ∀ h15 : Heap, h15 = setr h14 b1 0 (cs5) →
∃ cs6 : List Value, row h15 b1 0 24 = some cs6 ∧
Post (.tuple #[(.agg (cs6).toArray), .nilIface]) h15) ∧
(
∀ (b17 : Nat) (h16 : Heap), b17 = h7.size → h16 = h7.push (.cells ([(.int .u8 (0 : Int)), (.int .u8 (0 : Int)), (.int .u8 (0 : Int)), (.int .u8 (0 : Int)), (.int .u8 (0 : Int)), (.int .u8 (0 : Int)), (.int .u8 (0 : Int)), (.int .u8 (0 : Int)), (.int .u8 (0 : Int)), (.int .u8 (0 : Int)), (.int .u8 (0 : Int)), (.int .u8 (0 : Int)), (.int .u8 (0 : Int)), (.int .u8 (0 : Int)), (.int .u8 (0 : Int)), (.int .u8 (0 : Int)), (.int .u8 (0 : Int)), (.int .u8 (0 : Int)), (.int .i64 (0 : Int)), (.int .i64 (0 : Int)), (.bool false), (.bool false), (.bool false), (.slice none 0 0)] : List Value).toArray 67) →
Runs Tryz.prog 74 #[(.slice (slcAddr b 26 bC 26) (bL - 26) (bC - 26))] h16 fun r2 h17 =>
∃ (s2 : Option Addr) (s2l s2c : Nat),
r2 = (.slice s2 s2l s2c) ∧
cell h17 b13 (o12 + 24) = some (.int .u8 n12) ∧
cell h17 b12 (o11 + 1) = some (.int .u8 n11) ∧
cell h17 b11 (o10 + 1) = some (.int .u8 n10) ∧
cell h17 b10 (o9 + 24) = some (.int .u8 n9) ∧
((([(.int .u8 (0 : Int)), (.int .u8 (0 : Int)), (.int .u8 (0 : Int)), (.int .u8 (0 : Int)), (.int .u8 (0 : Int)), (.int .u8 (0 : Int)), (.int .u8 (0 : Int)), (.int .u8 (0 : Int)), (.int .u8 (0 : Int)), (.int .u8 (0 : Int)), (.int .u8 (0 : Int)), (.int .u8 (0 : Int)), (.int .u8 (0 : Int)), (.int .u8 (0 : Int)), (.int .u8 (0 : Int)), (.int .u8 (0 : Int)), (.int .u8 (0 : Int)), (.int .u8 (0 : Int)), (.int .i64 (bits .andNot .u8 n9 (16 : Int))), (.int .i64 ((bits .or .i64 n2 (n3 * (256 : Int))) / (16 : Int))), (.bool (decide ((0 : Int) < (bits .and .u8 n10 (8 : Int))))), (.bool (decide ((0 : Int) < (bits .and .u8 n11 (32 : Int))))), (.bool (decide ((0 : Int) < (bits .and .u8 n12 (16 : Int))))), (.slice s2 s2l s2c)] : List Value)).length = 24 ∧ wrs h17 b17 0 24 ∧ ∀ u ∈ (([(.int .u8 (0 : Int)), (.int .u8 (0 : Int)), (.int .u8 (0 : Int)), (.int .u8 (0 : Int)), (.int .u8 (0 : Int)), (.int .u8 (0 : Int)), (.int .u8 (0 : Int)), (.int .u8 (0 : Int)), (.int .u8 (0 : Int)), (.int .u8 (0 : Int)), (.int .u8 (0 : Int)), (.int .u8 (0 : Int)), (.int .u8 (0 : Int)), (.int .u8 (0 : Int)), (.int .u8 (0 : Int)), (.int .u8 (0 : Int)), (.int .u8 (0 : Int)), (.int .u8 (0 : Int)), (.int .i64 (bits .andNot .u8 n9 (16 : Int))), (.int .i64 ((bits .or .i64 n2 (n3 * (256 : Int))) / (16 : Int))), (.bool (decide ((0 : Int) < (bits .and .u8 n10 (8 : Int))))), (.bool (decide ((0 : Int) < (bits .and .u8 n11 (32 : Int))))), (.bool (decide ((0 : Int) < (bits .and .u8 n12 (16 : Int))))), (.slice s2 s2l s2c)] : List Value) : List Value), u.oneCell' = true) ∧ ∀ h18 : Heap, h18 = setr h17 b17 0 ([(.int .u8 (0 : Int)), (.int .u8 (0 : Int)), (.int .u8 (0 : Int)), (.int .u8 (0 : Int)), (.int .u8 (0 : Int)), (.int .u8 (0 : Int)), (.int .u8 (0 : Int)), (.int .u8 (0 : Int)), (.int .u8 (0 : Int)), (.int .u8 (0 : Int)), (.int .u8 (0 : Int)), (.int .u8 (0 : Int)), (.int .u8 (0 : Int)), (.int .u8 (0 : Int)), (.int .u8 (0 : Int)), (.int .u8 (0 : Int)), (.int .u8 (0 : Int)), (.int .u8 (0 : Int)), (.int .i64 (bits .andNot .u8 n9 (16 : Int))), (.int .i64 ((bits .or .i64 n2 (n3 * (256 : Int))) / (16 : Int))), (.bool (decide ((0 : Int) < (bits .and .u8 n10 (8 : Int))))), (.bool (decide ((0 : Int) < (bits .and .u8 n11 (32 : Int))))), (.bool (decide ((0 : Int) < (bits .and .u8 n12 (16 : Int))))), (.slice s2 s2l s2c)] : List Value) →
∃ J4 : Heap → Prop, (
∀ (b18 : Nat) (h19 : Heap), b18 = h18.size → h19 = h18.push (.cells ([(.pointer (some ⟨b17, 0, none⟩)), (.pointer (some ⟨b17, 6, none⟩)), (.pointer (some ⟨b17, 12, none⟩))] : List Value).toArray 130) →
∃ (I2 : Int → Heap → Prop) (m2 : Int → Heap → Nat), I2 (0 : Int) h19 ∧ ∀ _ : Env,
∀ (x3 : Int) (h20 : Heap), I2 x3 h20 →
bcase (decide (x3 < ((3 : Nat) : Int))) (
(0 ≤ x3 ∧ x3 < ((3 : Nat) : Int)) ∧
∃ p2 : Option Addr, cell h20 b18 (0 + (x3).toNat) = some (.pointer p2) ∧
onAddr p2 fun b19 o14 =>
fits .i64 (x3 * (6 : Int)) ∧
fits .i64 ((4 : Int) + (x3 * (6 : Int))) ∧
(0 ≤ ((4 : Int) + (x3 * (6 : Int))) ∧ ((4 : Int) + (x3 * (6 : Int))) ≤ ((bL : Nat) : Int)) ∧
∃ news2 : List Value, (src h20 (slcAddr b (((4 : Int) + (x3 * (6 : Int)))).toNat bC ((((4 : Int) + (x3 * (6 : Int)))).toNat * 1)) ((min (bL - (((4 : Int) + (x3 * (6 : Int)))).toNat) 6) * 1) news2 ∧ ∀ u ∈ news2, u.oneCell' = true) ∧
wrs h20 b19 o14 news2.length ∧ ∀ h21 : Heap, h21 = setr h20 b19 o14 news2 →
fits .i64 (x3 + (1 : Int)) ∧
I2 (x3 + (1 : Int)) h21 ∧ m2 (x3 + (1 : Int)) h21 < m2 x3 h20) (
J4 h20)) ∧ ∀ _ : Env,
∀ (h22 : Heap), J4 h22 →
∃ cs7 : List Value, row h22 b17 0 24 = some cs7 ∧
(((cs7)).length = 24 ∧ wrs h22 b1 0 24 ∧ ∀ u ∈ ((cs7) : List Value), u.oneCell' = true) ∧ ∀ h23 : Heap, h23 = setr h22 b1 0 (cs7) →
∃ cs8 : List Value, row h23 b1 0 24 = some cs8 ∧
Post (.tuple #[(.agg (cs8).toArray), .nilIface]) h23)))) :
    Runs Tryz.prog 37 #[(.slice b bL bC)] h0 Post :=
  runs_of (args := [(.slice b bL bC)]) (fun n => ⟨!memB n [6, 10, 11], false⟩) (fun n => match n with | 2 => [(97, .int .i64)] | _ => []) (fun n => match n with | 12 => some [(31, .bool)] | 15 => some [] | 21 => some [] | _ => none) (fun _ => []) Tryz.func37 rfl (by rw [Tryz.ntmps37]; simp) (Eq.mp (by kernel_rfl) H)

theorem vc_ctl_two (n : Int) (h0 : Heap) (Post : Value → Heap → Prop) (H :
(0 ≤ (8 : Int) ∧ (8 : Int) ≤ kbits .i64) ∧
∀ (b1 : Nat) (h1 : Heap), b1 = h0.size → h1 = h0.push (.cells ([(.int .u8 (IntKind.u8.wrap n)), (.int .u8 (IntKind.u8.wrap (n / (256 : Int))))] : List Value).toArray 5) →
Post (.slice (some ⟨b1, 0, none⟩) 2 2) h1) :
    Runs Tryz.prog 116 #[(.int .i64 n)] h0 Post :=
  runs_of (args := [(.int .i64 n)]) (fun n => ⟨false, false⟩) (fun _ => []) (fun _ => none) (fun _ => []) Tryz.func116 rfl (by rw [Tryz.ntmps116]; simp) (Eq.mp (by kernel_rfl) H)

theorem vc_ctl_asks (kind : Int) (to_ : List Value) (from_ : List Value) (tid : Int) (seq : Int) (h0 : Heap) (Post : Value → Heap → Prop) (H :
∀ (b1 : Nat) (h1 : Heap), b1 = h0.size → h1 = h0.push (.cells (to_).toArray 30) →
∀ (b2 : Nat) (h2 : Heap), b2 = h1.size → h2 = h1.push (.cells (from_).toArray 30) →
bcase (decide (tid < (0 : Int))) (
∃ v1 : Value, cell h2 0 0 = some v1 ∧
Post (.tuple #[(.slice none 0 0), v1]) h2) (
bcase (decide ((8 : Int) ≤ tid)) (
∃ v2 : Value, cell h2 0 0 = some v2 ∧
Post (.tuple #[(.slice none 0 0), v2]) h2) (
bcase (decide (seq < (0 : Int))) (
∃ v3 : Value, cell h2 0 0 = some v3 ∧
Post (.tuple #[(.slice none 0 0), v3]) h2) (
bcase (decide ((4096 : Int) ≤ seq)) (
∃ v4 : Value, cell h2 0 0 = some v4 ∧
Post (.tuple #[(.slice none 0 0), v4]) h2) (
∀ (b3 : Nat) (h3 : Heap), b3 = h2.size → h3 = h2.push (.cells ([(.int .u8 kind), (.int .u8 (0 : Int)), (.int .u8 (0 : Int)), (.int .u8 (0 : Int))] : List Value).toArray 5) →
∃ news1 : List Value, (row h3 b1 0 6 = some news1 ∧ ∀ u ∈ news1, u.oneCell' = true) ∧
appK h3 (some ⟨b3, 0, none⟩) 4 4 6 1 5 1 news1 fun (a1 : Option Addr) (cap1 : Nat) (h4 : Heap) =>
∃ news2 : List Value, (row h4 b2 0 6 = some news2 ∧ ∀ u ∈ news2, u.oneCell' = true) ∧
appK h4 a1 (4 + 6) cap1 6 1 5 1 news2 fun (a2 : Option Addr) (cap2 : Nat) (h5 : Heap) =>
fits .i64 (tid * (4096 : Int)) ∧
fits .i64 ((4 : Int) + (tid * (4096 : Int))) ∧
Runs Tryz.prog 116 #[(.int .i64 ((4 : Int) + (tid * (4096 : Int))))] h5 fun r1 h6 =>
∃ (s1 : Option Addr) (s1l s1c : Nat),
r1 = (.slice s1 s1l s1c) ∧
∃ news3 : List Value, (src h6 s1 (s1l * 1) news3 ∧ ∀ u ∈ news3, u.oneCell' = true) ∧
appK h6 a2 ((4 + 6) + 6) cap2 s1l 1 5 1 news3 fun (a3 : Option Addr) (cap3 : Nat) (h7 : Heap) =>
fits .i64 (seq * (16 : Int)) ∧
Runs Tryz.prog 116 #[(.int .i64 (seq * (16 : Int)))] h7 fun r2 h8 =>
∃ (s2 : Option Addr) (s2l s2c : Nat),
r2 = (.slice s2 s2l s2c) ∧
∃ news4 : List Value, (src h8 s2 (s2l * 1) news4 ∧ ∀ u ∈ news4, u.oneCell' = true) ∧
appK h8 a3 (((4 + 6) + 6) + s1l) cap3 s2l 1 5 1 news4 fun (a4 : Option Addr) (cap4 : Nat) (h9 : Heap) =>
Post (.tuple #[(.slice a4 ((((4 + 6) + 6) + s1l) + s2l) cap4), .nilIface]) h9))))) :
    Runs Tryz.prog 105 #[(.int .u8 kind), (.agg (to_).toArray), (.agg (from_).toArray), (.int .i64 tid), (.int .i64 seq)] h0 Post :=
  runs_of (args := [(.int .u8 kind), (.agg (to_).toArray), (.agg (from_).toArray), (.int .i64 tid), (.int .i64 seq)]) (fun n => ⟨true, false⟩) (fun _ => []) (fun _ => none) (fun _ => []) Tryz.func105 rfl (by rw [Tryz.ntmps105]; simp) (Eq.mp (by kernel_rfl) H)

theorem vc_ctl_AckBytes (f : List Value) (h0 : Heap) (Post : Value → Heap → Prop) (H :
∀ (b1 : Nat) (h1 : Heap), b1 = h0.size → h1 = h0.push (.cells (f).toArray 135) →
∃ cs1 : List Value, row h1 b1 0 6 = some cs1 ∧
∃ cs2 : List Value, row h1 b1 6 6 = some cs2 ∧
∃ n1 : Int, cell h1 b1 12 = some (.int .i64 n1) ∧
∃ n2 : Int, cell h1 b1 13 = some (.int .i64 n2) ∧
Runs Tryz.prog 105 #[(.int .u8 (148 : Int)), (.agg (cs1).toArray), (.agg (cs2).toArray), (.int .i64 n1), (.int .i64 n2)] h1 fun r1 h2 =>
∃ (s1 : Option Addr) (s1l s1c : Nat),
∃ v1 : Value,
r1 = (.tuple #[(.slice s1 s1l s1c), v1]) ∧
∃ t1 : Bool, ifeqH Tryz.prog h2 true (v1) (.nilIface) = some t1 ∧
bcase (!t1) (
Post (.tuple #[(.slice none 0 0), v1]) h2) (
∃ (I1 : Option Addr → Nat → Nat → Int → Heap → Prop) (m1 : Option Addr → Nat → Nat → Int → Heap → Nat), I1 s1 s1l s1c (0 : Int) h2 ∧ ∀ _ : Env,
∀ (b_1 : Option Addr) (b_1l b_1c : Nat) (x2 : Int) (h3 : Heap), I1 b_1 b_1l b_1c x2 h3 →
bcase (decide (x2 < (8 : Int))) (
∃ n3 : Int, cell h3 b1 14 = some (.int .u64 n3) ∧
(0 ≤ (IntKind.i64.wrap ((8 : Int) * x2)) ∧ (IntKind.i64.wrap ((8 : Int) * x2)) ≤ kbits .u64) ∧
∀ (b2 : Nat) (h4 : Heap), b2 = h3.size → h4 = h3.push (.cells ([(.int .u8 (IntKind.u8.wrap (n3 / (pow2 (IntKind.i64.wrap ((8 : Int) * x2))))))] : List Value).toArray 5) →
∃ news1 : List Value, (row h4 b2 0 1 = some news1 ∧ ∀ u ∈ news1, u.oneCell' = true) ∧
appK h4 b_1 b_1l b_1c 1 1 5 1 news1 fun (a1 : Option Addr) (cap1 : Nat) (h5 : Heap) =>
I1 a1 (b_1l + 1) cap1 (IntKind.i64.wrap (x2 + (1 : Int))) h5 ∧ m1 a1 (b_1l + 1) cap1 (IntKind.i64.wrap (x2 + (1 : Int))) h5 < m1 b_1 b_1l b_1c x2 h3) (
Post (.tuple #[(.slice b_1 b_1l b_1c), .nilIface]) h3))) :
    Runs Tryz.prog 79 #[(.agg (f).toArray)] h0 Post :=
  runs_of (args := [(.agg (f).toArray)]) (fun n => ⟨false, false⟩) (fun n => match n with | 0 => [(4, .slice), (22, .int .i64)] | _ => []) (fun _ => none) (fun _ => []) Tryz.func79 rfl (by rw [Tryz.ntmps79]; simp) (Eq.mp (by kernel_rfl) H)

theorem vc_seq_Dist (a : Int) (b : Int) (h0 : Heap) (Post : Value → Heap → Prop) (H :
Runs Tryz.prog 71 #[(.int .i64 b)] h0 fun r1 h1 =>
∃ n1 : Int,
r1 = (.int .i64 n1) ∧
Runs Tryz.prog 71 #[(.int .i64 a)] h1 fun r2 h2 =>
∃ n2 : Int,
r2 = (.int .i64 n2) ∧
fits .i64 (n1 - n2) ∧
Runs Tryz.prog 71 #[(.int .i64 (n1 - n2))] h2 fun r3 h3 =>
∃ n3 : Int,
r3 = (.int .i64 n3) ∧
Post (.int .i64 n3) h3) :
    Runs Tryz.prog 34 #[(.int .i64 a), (.int .i64 b)] h0 Post :=
  runs_of (args := [(.int .i64 a), (.int .i64 b)]) (fun n => ⟨true, false⟩) (fun _ => []) (fun _ => none) (fun _ => []) Tryz.func34 rfl (by rw [Tryz.ntmps34]; simp) (Eq.mp (by kernel_rfl) H)

theorem vc_seq_Add (a : Int) (n : Int) (h0 : Heap) (Post : Value → Heap → Prop) (H :
Runs Tryz.prog 71 #[(.int .i64 a)] h0 fun r1 h1 =>
∃ n1 : Int,
r1 = (.int .i64 n1) ∧
Runs Tryz.prog 71 #[(.int .i64 n)] h1 fun r2 h2 =>
∃ n2 : Int,
r2 = (.int .i64 n2) ∧
fits .i64 (n1 + n2) ∧
Runs Tryz.prog 71 #[(.int .i64 (n1 + n2))] h2 fun r3 h3 =>
∃ n3 : Int,
r3 = (.int .i64 n3) ∧
Post (.int .i64 n3) h3) :
    Runs Tryz.prog 77 #[(.int .i64 a), (.int .i64 n)] h0 Post :=
  runs_of (args := [(.int .i64 a), (.int .i64 n)]) (fun n => ⟨true, false⟩) (fun _ => []) (fun _ => none) (fun _ => []) Tryz.func77 rfl (by rw [Tryz.ntmps77]; simp) (Eq.mp (by kernel_rfl) H)

theorem vc_seq_mod (n : Int) (h0 : Heap) (Post : Value → Heap → Prop) (H :
(4096 : Int) ≠ 0 ∧
(4096 : Int) ≠ 0 ∧
Post (.int .i64 (((IntKind.i64.wrap (((n).tmod (4096 : Int)) + (4096 : Int)))).tmod (4096 : Int))) h0) :
    Runs Tryz.prog 71 #[(.int .i64 n)] h0 Post :=
  runs_of (args := [(.int .i64 n)]) (fun n => ⟨false, false⟩) (fun _ => []) (fun _ => none) (fun _ => []) Tryz.func71 rfl (by rw [Tryz.ntmps71]; simp) (Eq.mp (by kernel_rfl) H)

theorem vc_muezzinlaw24_me  (h0 : Heap) (Post : Value → Heap → Prop) (H :
∀ (b1 : Nat) (h1 : Heap), b1 = h0.size → h1 = h0.push (.cells ([(.int .u8 (0 : Int)), (.int .u8 (0 : Int)), (.int .u8 (0 : Int)), (.int .u8 (0 : Int)), (.int .u8 (0 : Int)), (.int .u8 (0 : Int))] : List Value).toArray 30) →
((([(.int .u8 (2 : Int)), (.int .u8 (0 : Int)), (.int .u8 (0 : Int)), (.int .u8 (0 : Int)), (.int .u8 (0 : Int)), (.int .u8 (9 : Int))] : List Value)).length = 6 ∧ wrs h1 b1 0 6 ∧ ∀ u ∈ (([(.int .u8 (2 : Int)), (.int .u8 (0 : Int)), (.int .u8 (0 : Int)), (.int .u8 (0 : Int)), (.int .u8 (0 : Int)), (.int .u8 (9 : Int))] : List Value) : List Value), u.oneCell' = true) ∧ ∀ h2 : Heap, h2 = setr h1 b1 0 ([(.int .u8 (2 : Int)), (.int .u8 (0 : Int)), (.int .u8 (0 : Int)), (.int .u8 (0 : Int)), (.int .u8 (0 : Int)), (.int .u8 (9 : Int))] : List Value) →
∃ cs1 : List Value, row h2 b1 0 6 = some cs1 ∧
Post (.agg (cs1).toArray) h2) :
    Runs Tryz.prog 6 #[] h0 Post :=
  runs_of (args := []) (fun n => ⟨true, false⟩) (fun _ => []) (fun _ => none) (fun _ => []) Tryz.func6 rfl (by rw [Tryz.ntmps6]; simp) (Eq.mp (by kernel_rfl) H)

theorem vc_muezzinlaw24_bss  (h0 : Heap) (Post : Value → Heap → Prop) (H :
∀ (b1 : Nat) (h1 : Heap), b1 = h0.size → h1 = h0.push (.cells ([(.int .u8 (0 : Int)), (.int .u8 (0 : Int)), (.int .u8 (0 : Int)), (.int .u8 (0 : Int)), (.int .u8 (0 : Int)), (.int .u8 (0 : Int))] : List Value).toArray 30) →
((([(.int .u8 (2 : Int)), (.int .u8 (0 : Int)), (.int .u8 (0 : Int)), (.int .u8 (0 : Int)), (.int .u8 (1 : Int)), (.int .u8 (0 : Int))] : List Value)).length = 6 ∧ wrs h1 b1 0 6 ∧ ∀ u ∈ (([(.int .u8 (2 : Int)), (.int .u8 (0 : Int)), (.int .u8 (0 : Int)), (.int .u8 (0 : Int)), (.int .u8 (1 : Int)), (.int .u8 (0 : Int))] : List Value) : List Value), u.oneCell' = true) ∧ ∀ h2 : Heap, h2 = setr h1 b1 0 ([(.int .u8 (2 : Int)), (.int .u8 (0 : Int)), (.int .u8 (0 : Int)), (.int .u8 (0 : Int)), (.int .u8 (1 : Int)), (.int .u8 (0 : Int))] : List Value) →
∃ cs1 : List Value, row h2 b1 0 6 = some cs1 ∧
Post (.agg (cs1).toArray) h2) :
    Runs Tryz.prog 7 #[] h0 Post :=
  runs_of (args := []) (fun n => ⟨true, false⟩) (fun _ => []) (fun _ => none) (fun _ => []) Tryz.func7 rfl (by rw [Tryz.ntmps7]; simp) (Eq.mp (by kernel_rfl) H)

theorem vc_muezzinlaw24_data (d : List Value) (seq : Int) (h0 : Heap) (Post : Value → Heap → Prop) (H :
∀ (b1 : Nat) (h1 : Heap), b1 = h0.size → h1 = h0.push (.cells (d).toArray 38) →
∃ n1 : Int, cell h1 b1 1 = some (.int .i64 n1) ∧
∃ t1 : Bool, cell h1 b1 4 = some (.bool t1) ∧
∃ (s1 : Option Addr) (s1l s1c : Nat), cell h1 b1 7 = some (.slice s1 s1l s1c) ∧
Runs Tryz.prog 6 #[] h1 fun r1 h2 =>
∃ cs1 : List Value,
r1 = (.agg (cs1).toArray) ∧
cell h2 b1 7 = some (.slice s1 s1l s1c) ∧
cell h2 b1 4 = some (.bool t1) ∧
cell h2 b1 1 = some (.int .i64 n1) ∧
Runs Tryz.prog 7 #[] h2 fun r2 h3 =>
∃ cs2 : List Value,
r2 = (.agg (cs2).toArray) ∧
cell h3 b1 7 = some (.slice s1 s1l s1c) ∧
cell h3 b1 4 = some (.bool t1) ∧
cell h3 b1 1 = some (.int .i64 n1) ∧
Runs Tryz.prog 7 #[] h3 fun r3 h4 =>
∃ cs3 : List Value,
r3 = (.agg (cs3).toArray) ∧
cell h4 b1 7 = some (.slice s1 s1l s1c) ∧
cell h4 b1 4 = some (.bool t1) ∧
cell h4 b1 1 = some (.int .i64 n1) ∧
Runs Tryz.prog 24 #[(.int .i64 seq), (.int .i64 (0 : Int))] h4 fun r4 h5 =>
∃ n2 : Int,
r4 = (.int .i64 n2) ∧
cell h5 b1 7 = some (.slice s1 s1l s1c) ∧
cell h5 b1 4 = some (.bool t1) ∧
cell h5 b1 1 = some (.int .i64 n1) ∧
(cs1).length = 6 ∧
(cs2).length = 6 ∧
(cs3).length = 6 ∧
Runs Tryz.prog 40 #[(.agg (((cs1) ++ ((cs2) ++ ((cs3) ++ ([(.int .i64 (bits .and .i64 n1 (7 : Int))), (.int .i64 n2), (.bool t1), (.bool false), (.bool false), (.slice s1 s1l s1c)] : List Value))))).toArray)] h5 fun r5 h6 =>
∃ (s2 : Option Addr) (s2l s2c : Nat),
∃ n3 : Int,
r5 = (.tuple #[(.slice s2 s2l s2c), (.int .i64 n3)]) ∧
Post (.slice s2 s2l s2c) h6) :
    Runs Tryz.prog 19 #[(.agg (d).toArray), (.int .i64 seq)] h0 Post :=
  runs_of (args := [(.agg (d).toArray), (.int .i64 seq)]) (fun n => ⟨false, false⟩) (fun _ => []) (fun _ => none) (fun _ => []) Tryz.func19 rfl (by rw [Tryz.ntmps19]; simp) (Eq.mp (by kernel_rfl) H)

theorem vc_muezzinref1_round (n : Int) (h0 : Heap) (Post : Value → Heap → Prop) (H :
(4096 : Int) ≠ 0 ∧
bcase (decide (((n).tmod (4096 : Int)) < (0 : Int))) (
Post (.int .i64 (IntKind.i64.wrap (((n).tmod (4096 : Int)) + (4096 : Int)))) h0) (
Post (.int .i64 ((n).tmod (4096 : Int))) h0)) :
    Runs Tryz.prog 49 #[(.int .i64 n)] h0 Post :=
  runs_of (args := [(.int .i64 n)]) (fun n => ⟨false, false⟩) (fun _ => []) (fun _ => none) (fun _ => []) Tryz.func49 rfl (by rw [Tryz.ntmps49]; simp) (Eq.mp (by kernel_rfl) H)
end Go.Proofs.YtepodifionoigaaGreatDoor
set_option linter.unusedVariables false
set_option linter.unusedSimpArgs false
set_option maxRecDepth 100000
namespace Go.Proofs.YtepodifionoigaaGreatDoor
open Go.Vc
theorem vc_recv_New (me : List Value) (bss : List Value) (size : Int) (h0 : Heap) (Post : Value → Heap → Prop) (H :
∀ (b1 : Nat) (h1 : Heap), b1 = h0.size → h1 = h0.push (.cells (me).toArray 30) →
∀ (b2 : Nat) (h2 : Heap), b2 = h1.size → h2 = h1.push (.cells (bss).toArray 30) →
bcase (decide (size < (1 : Int))) (
∃ v1 : Value, cell h2 0 0 = some v1 ∧
Post (.tuple #[(.pointer none), v1]) h2) (
bcase (decide ((64 : Int) < size)) (
∃ v2 : Value, cell h2 0 0 = some v2 ∧
Post (.tuple #[(.pointer none), v2]) h2) (
∃ cs1 : List Value, row h2 b1 0 6 = some cs1 ∧
∃ cs2 : List Value, row h2 b2 0 6 = some cs2 ∧
(cs1).length = 6 ∧
(cs2).length = 6 ∧
∀ (b3 : Nat) (h3 : Heap), b3 = h2.size → h3 = h2.push (.cells (((cs1) ++ ((cs2) ++ ([(.int .i64 size), (.bool false), (.int .i64 (0 : Int)), (.int .i64 (0 : Int)), (.int .i64 (0 : Int)), (.int .u64 (0 : Int)), (.map none), (.bool false), (.int .i64 (0 : Int)), (.bool false), (.int .i64 (0 : Int)), (.int .i64 (0 : Int)), (.int .i64 (0 : Int)), (.int .u64 (0 : Int)), (.map none), (.bool false), (.int .i64 (0 : Int)), (.bool false), (.int .i64 (0 : Int)), (.int .i64 (0 : Int)), (.int .i64 (0 : Int)), (.int .u64 (0 : Int)), (.map none), (.bool false), (.int .i64 (0 : Int)), (.bool false), (.int .i64 (0 : Int)), (.int .i64 (0 : Int)), (.int .i64 (0 : Int)), (.int .u64 (0 : Int)), (.map none), (.bool false), (.int .i64 (0 : Int)), (.bool false), (.int .i64 (0 : Int)), (.int .i64 (0 : Int)), (.int .i64 (0 : Int)), (.int .u64 (0 : Int)), (.map none), (.bool false), (.int .i64 (0 : Int)), (.bool false), (.int .i64 (0 : Int)), (.int .i64 (0 : Int)), (.int .i64 (0 : Int)), (.int .u64 (0 : Int)), (.map none), (.bool false), (.int .i64 (0 : Int)), (.bool false), (.int .i64 (0 : Int)), (.int .i64 (0 : Int)), (.int .i64 (0 : Int)), (.int .u64 (0 : Int)), (.map none), (.bool false), (.int .i64 (0 : Int)), (.bool false), (.int .i64 (0 : Int)), (.int .i64 (0 : Int)), (.int .i64 (0 : Int)), (.int .u64 (0 : Int)), (.map none), (.bool false), (.int .i64 (0 : Int))] : List Value)))).toArray 56) →
Post (.tuple #[(.pointer (some ⟨b3, 0, none⟩)), .nilIface]) h3))) :
    Runs Tryz.prog 5 #[(.agg (me).toArray), (.agg (bss).toArray), (.int .i64 size)] h0 Post :=
  runs_of (args := [(.agg (me).toArray), (.agg (bss).toArray), (.int .i64 size)]) (fun n => ⟨true, false⟩) (fun _ => []) (fun _ => none) (fun _ => []) Tryz.func5 rfl (by rw [Tryz.ntmps5]; simp) (Eq.mp (by kernel_rfl) H)

theorem vc_recv_Station_Data (s : Nat) (agg : Bool) (b : Option Addr) (bL bC : Nat) (h0 : Heap) (Post : Value → Heap → Prop) (H :
∀ (b1 : Nat) (h1 : Heap), b1 = h0.size → h1 = h0.push (.cells ([(.slice b bL bC)] : List Value).toArray 36) →
bcase agg (
Runs Tryz.prog 36 #[(.slice b bL bC)] h1 fun r1 h2 =>
∃ (s1 : Option Addr) (s1l s1c : Nat),
r1 = (.slice s1 s1l s1c) ∧
∃ (I1 : Option Addr → Nat → Nat → Int → Int → Heap → Prop) (m1 : Option Addr → Nat → Nat → Int → Int → Heap → Nat), I1 none 0 0 (-1 : Int) (0 : Int) h2 ∧ ∀ _ : Env,
∀ (out_1 : Option Addr) (out_1l out_1c : Nat) (last_1 : Int) (x3 : Int) (h3 : Heap), I1 out_1 out_1l out_1c last_1 x3 h3 →
bcase (decide (x3 < ((s1l : Nat) : Int))) (
(0 ≤ x3 ∧ x3 < ((s1l : Nat) : Int)) ∧
onAddr s1 fun b2 o1 =>
∃ (s2 : Option Addr) (s2l s2c : Nat), cell h3 b2 (o1 + (x3).toNat) = some (.slice s2 s2l s2c) ∧
Runs Tryz.prog 37 #[(.slice s2 s2l s2c)] h3 fun r2 h4 =>
∃ cs1 : List Value,
∃ v1 : Value,
r2 = (.tuple #[(.agg (cs1).toArray), v1]) ∧
∀ (b3 : Nat) (h5 : Heap), b3 = h4.size → h5 = h4.push (.cells ([(.int .u8 (0 : Int)), (.int .u8 (0 : Int)), (.int .u8 (0 : Int)), (.int .u8 (0 : Int)), (.int .u8 (0 : Int)), (.int .u8 (0 : Int)), (.int .u8 (0 : Int)), (.int .u8 (0 : Int)), (.int .u8 (0 : Int)), (.int .u8 (0 : Int)), (.int .u8 (0 : Int)), (.int .u8 (0 : Int)), (.int .u8 (0 : Int)), (.int .u8 (0 : Int)), (.int .u8 (0 : Int)), (.int .u8 (0 : Int)), (.int .u8 (0 : Int)), (.int .u8 (0 : Int)), (.int .i64 (0 : Int)), (.int .i64 (0 : Int)), (.bool false), (.bool false), (.bool false), (.slice none 0 0)] : List Value).toArray 67) →
(((cs1)).length = 24 ∧ wrs h5 b3 0 24 ∧ ∀ u ∈ ((cs1) : List Value), u.oneCell' = true) ∧ ∀ h6 : Heap, h6 = setr h5 b3 0 (cs1) →
∃ t1 : Bool, ifeq true (v1) (.nilIface) = some t1 ∧
bcase (!t1) (
fits .i64 (x3 + (1 : Int)) ∧
I1 out_1 out_1l out_1c last_1 (x3 + (1 : Int)) h6 ∧ m1 out_1 out_1l out_1c last_1 (x3 + (1 : Int)) h6 < m1 out_1 out_1l out_1c last_1 x3 h3) (
∃ cs2 : List Value, row h6 b3 0 6 = some cs2 ∧
∃ cs3 : List Value, row h6 s 0 6 = some cs3 ∧
∃ l1 l2 : List Int, cs2 = l1.map (Value.int .u8) ∧ cs3 = l2.map (Value.int .u8) ∧ (l1.length = 6 ∧ l2.length = 6) ∧
bcase (!(decide (l1 = l2))) (
fits .i64 (x3 + (1 : Int)) ∧
I1 out_1 out_1l out_1c last_1 (x3 + (1 : Int)) h6 ∧ m1 out_1 out_1l out_1c last_1 (x3 + (1 : Int)) h6 < m1 out_1 out_1l out_1c last_1 x3 h3) (
∃ cs4 : List Value, row h6 b3 6 6 = some cs4 ∧
∃ cs5 : List Value, row h6 s 6 6 = some cs5 ∧
∃ l3 l4 : List Int, cs4 = l3.map (Value.int .u8) ∧ cs5 = l4.map (Value.int .u8) ∧ (l3.length = 6 ∧ l4.length = 6) ∧
bcase (!(decide (l3 = l4))) (
fits .i64 (x3 + (1 : Int)) ∧
I1 out_1 out_1l out_1c last_1 (x3 + (1 : Int)) h6 ∧ m1 out_1 out_1l out_1c last_1 (x3 + (1 : Int)) h6 < m1 out_1 out_1l out_1c last_1 x3 h3) (
∃ n1 : Int, cell h6 b3 18 = some (.int .i64 n1) ∧
(0 ≤ n1 ∧ n1 < ((8 : Nat) : Int)) ∧
∃ cs6 : List Value, row h6 b3 0 24 = some cs6 ∧
Runs Tryz.prog 38 #[(.pointer (some ⟨s, (13 + ((n1).toNat * 8)), none⟩)), (.agg (cs6).toArray)] h6 fun r3 h7 =>
∃ (s3 : Option Addr) (s3l s3c : Nat),
r3 = (.slice s3 s3l s3c) ∧
∃ news1 : List Value, (src h7 s3 (s3l * 24) news1 ∧ ∀ u ∈ news1, u.oneCell' = true) ∧
appK h7 out_1 out_1l out_1c s3l 24 67 72 news1 fun (a1 : Option Addr) (cap1 : Nat) (h8 : Heap) =>
∃ n2 : Int, cell h8 b3 18 = some (.int .i64 n2) ∧
fits .i64 (x3 + (1 : Int)) ∧
I1 a1 (out_1l + s3l) cap1 n2 (x3 + (1 : Int)) h8 ∧ m1 a1 (out_1l + s3l) cap1 n2 (x3 + (1 : Int)) h8 < m1 out_1 out_1l out_1c last_1 x3 h3)))) (
bcase (decide (last_1 < (0 : Int))) (
Post (.tuple #[(.slice out_1 out_1l out_1c), (.slice none 0 0)]) h3) (
Runs Tryz.prog 39 #[(.pointer (some ⟨s, 0, none⟩)), (.int .i64 last_1)] h3 fun r4 h9 =>
∃ (s4 : Option Addr) (s4l s4c : Nat),
r4 = (.slice s4 s4l s4c) ∧
Post (.tuple #[(.slice out_1 out_1l out_1c), (.slice s4 s4l s4c)]) h9))) (
∃ (I2 : Option Addr → Nat → Nat → Int → Int → Heap → Prop) (m2 : Option Addr → Nat → Nat → Int → Int → Heap → Nat), I2 none 0 0 (-1 : Int) (0 : Int) h1 ∧ ∀ _ : Env,
∀ (out_2 : Option Addr) (out_2l out_2c : Nat) (last_2 : Int) (x6 : Int) (h10 : Heap), I2 out_2 out_2l out_2c last_2 x6 h10 →
bcase (decide (x6 < ((1 : Nat) : Int))) (
(0 ≤ x6 ∧ x6 < ((1 : Nat) : Int)) ∧
∃ (s5 : Option Addr) (s5l s5c : Nat), cell h10 b1 (0 + (x6).toNat) = some (.slice s5 s5l s5c) ∧
Runs Tryz.prog 37 #[(.slice s5 s5l s5c)] h10 fun r5 h11 =>
∃ cs7 : List Value,
∃ v2 : Value,
r5 = (.tuple #[(.agg (cs7).toArray), v2]) ∧
∀ (b4 : Nat) (h12 : Heap), b4 = h11.size → h12 = h11.push (.cells ([(.int .u8 (0 : Int)), (.int .u8 (0 : Int)), (.int .u8 (0 : Int)), (.int .u8 (0 : Int)), (.int .u8 (0 : Int)), (.int .u8 (0 : Int)), (.int .u8 (0 : Int)), (.int .u8 (0 : Int)), (.int .u8 (0 : Int)), (.int .u8 (0 : Int)), (.int .u8 (0 : Int)), (.int .u8 (0 : Int)), (.int .u8 (0 : Int)), (.int .u8 (0 : Int)), (.int .u8 (0 : Int)), (.int .u8 (0 : Int)), (.int .u8 (0 : Int)), (.int .u8 (0 : Int)), (.int .i64 (0 : Int)), (.int .i64 (0 : Int)), (.bool false), (.bool false), (.bool false), (.slice none 0 0)] : List Value).toArray 67) →
(((cs7)).length = 24 ∧ wrs h12 b4 0 24 ∧ ∀ u ∈ ((cs7) : List Value), u.oneCell' = true) ∧ ∀ h13 : Heap, h13 = setr h12 b4 0 (cs7) →
∃ t2 : Bool, ifeq true (v2) (.nilIface) = some t2 ∧
bcase (!t2) (
fits .i64 (x6 + (1 : Int)) ∧
I2 out_2 out_2l out_2c last_2 (x6 + (1 : Int)) h13 ∧ m2 out_2 out_2l out_2c last_2 (x6 + (1 : Int)) h13 < m2 out_2 out_2l out_2c last_2 x6 h10) (
∃ cs8 : List Value, row h13 b4 0 6 = some cs8 ∧
∃ cs9 : List Value, row h13 s 0 6 = some cs9 ∧
∃ l5 l6 : List Int, cs8 = l5.map (Value.int .u8) ∧ cs9 = l6.map (Value.int .u8) ∧ (l5.length = 6 ∧ l6.length = 6) ∧
bcase (!(decide (l5 = l6))) (
fits .i64 (x6 + (1 : Int)) ∧
I2 out_2 out_2l out_2c last_2 (x6 + (1 : Int)) h13 ∧ m2 out_2 out_2l out_2c last_2 (x6 + (1 : Int)) h13 < m2 out_2 out_2l out_2c last_2 x6 h10) (
∃ cs10 : List Value, row h13 b4 6 6 = some cs10 ∧
∃ cs11 : List Value, row h13 s 6 6 = some cs11 ∧
∃ l7 l8 : List Int, cs10 = l7.map (Value.int .u8) ∧ cs11 = l8.map (Value.int .u8) ∧ (l7.length = 6 ∧ l8.length = 6) ∧
bcase (!(decide (l7 = l8))) (
fits .i64 (x6 + (1 : Int)) ∧
I2 out_2 out_2l out_2c last_2 (x6 + (1 : Int)) h13 ∧ m2 out_2 out_2l out_2c last_2 (x6 + (1 : Int)) h13 < m2 out_2 out_2l out_2c last_2 x6 h10) (
∃ n3 : Int, cell h13 b4 18 = some (.int .i64 n3) ∧
(0 ≤ n3 ∧ n3 < ((8 : Nat) : Int)) ∧
∃ cs12 : List Value, row h13 b4 0 24 = some cs12 ∧
Runs Tryz.prog 38 #[(.pointer (some ⟨s, (13 + ((n3).toNat * 8)), none⟩)), (.agg (cs12).toArray)] h13 fun r6 h14 =>
∃ (s6 : Option Addr) (s6l s6c : Nat),
r6 = (.slice s6 s6l s6c) ∧
∃ news2 : List Value, (src h14 s6 (s6l * 24) news2 ∧ ∀ u ∈ news2, u.oneCell' = true) ∧
appK h14 out_2 out_2l out_2c s6l 24 67 72 news2 fun (a2 : Option Addr) (cap2 : Nat) (h15 : Heap) =>
∃ n4 : Int, cell h15 b4 18 = some (.int .i64 n4) ∧
fits .i64 (x6 + (1 : Int)) ∧
I2 a2 (out_2l + s6l) cap2 n4 (x6 + (1 : Int)) h15 ∧ m2 a2 (out_2l + s6l) cap2 n4 (x6 + (1 : Int)) h15 < m2 out_2 out_2l out_2c last_2 x6 h10)))) (
bcase (decide (last_2 < (0 : Int))) (
Post (.tuple #[(.slice out_2 out_2l out_2c), (.slice none 0 0)]) h10) (
Runs Tryz.prog 39 #[(.pointer (some ⟨s, 0, none⟩)), (.int .i64 last_2)] h10 fun r7 h16 =>
∃ (s7 : Option Addr) (s7l s7c : Nat),
r7 = (.slice s7 s7l s7c) ∧
Post (.tuple #[(.slice out_2 out_2l out_2c), (.slice s7 s7l s7c)]) h16)))) :
    Runs Tryz.prog 18 #[(.pointer (some ⟨s, 0, none⟩)), (.bool agg), (.slice b bL bC)] h0 Post :=
  runs_of (args := [(.pointer (some ⟨s, 0, none⟩)), (.bool agg), (.slice b bL bC)]) (fun n => ⟨true, false⟩) (fun n => match n with | 0 => [(9, .slice), (10, .int .i64), (22, .int .i64)] | _ => []) (fun _ => none) (fun _ => []) Tryz.func18 rfl (by rw [Tryz.ntmps18]; simp) (Eq.mp (by kernel_rfl) H)

theorem vc_recv_Station_Other (s : Nat) (b : Option Addr) (bL bC : Nat) (h0 : Heap) (Post : Value → Heap → Prop) (H :
Runs Tryz.prog 60 #[(.slice b bL bC)] h0 fun r1 h1 =>
∃ cs1 : List Value,
∃ v1 : Value,
r1 = (.tuple #[(.agg (cs1).toArray), v1]) ∧
∀ (b1 : Nat) (h2 : Heap), b1 = h1.size → h2 = h1.push (.cells ([(.int .u8 (0 : Int)), (.int .u8 (0 : Int)), (.int .u8 (0 : Int)), (.int .u8 (0 : Int)), (.int .u8 (0 : Int)), (.int .u8 (0 : Int)), (.int .u8 (0 : Int)), (.int .u8 (0 : Int)), (.int .u8 (0 : Int)), (.int .u8 (0 : Int)), (.int .u8 (0 : Int)), (.int .u8 (0 : Int)), (.int .i64 (0 : Int)), (.int .i64 (0 : Int))] : List Value).toArray 75) →
(((cs1)).length = 14 ∧ wrs h2 b1 0 14 ∧ ∀ u ∈ ((cs1) : List Value), u.oneCell' = true) ∧ ∀ h3 : Heap, h3 = setr h2 b1 0 (cs1) →
∃ t1 : Bool, ifeqH Tryz.prog h3 true (v1) (.nilIface) = some t1 ∧
bcase t1 (
∃ cs2 : List Value, row h3 b1 0 14 = some cs2 ∧
Runs Tryz.prog 61 #[(.pointer (some ⟨s, 0, none⟩)), (.agg (cs2).toArray)] h3 fun r2 h4 =>
∃ (s1 : Option Addr) (s1l s1c : Nat),
∃ (s2 : Option Addr) (s2l s2c : Nat),
r2 = (.tuple #[(.slice s1 s1l s1c), (.slice s2 s2l s2c)]) ∧
Post (.tuple #[(.slice s1 s1l s1c), (.slice s2 s2l s2c)]) h4) (
Runs Tryz.prog 62 #[(.slice b bL bC)] h3 fun r3 h5 =>
∃ cs3 : List Value,
∃ v2 : Value,
r3 = (.tuple #[(.agg (cs3).toArray), v2]) ∧
∀ (b2 : Nat) (h6 : Heap), b2 = h5.size → h6 = h5.push (.cells ([(.int .u8 (0 : Int)), (.int .u8 (0 : Int)), (.int .u8 (0 : Int)), (.int .u8 (0 : Int)), (.int .u8 (0 : Int)), (.int .u8 (0 : Int)), (.int .u8 (0 : Int)), (.int .u8 (0 : Int)), (.int .u8 (0 : Int)), (.int .u8 (0 : Int)), (.int .u8 (0 : Int)), (.int .u8 (0 : Int)), (.int .u8 (0 : Int)), (.int .u8 (0 : Int)), (.int .u8 (0 : Int)), (.int .u8 (0 : Int)), (.int .u8 (0 : Int)), (.int .u8 (0 : Int)), (.bool false), (.int .i64 (0 : Int)), (.int .i64 (0 : Int)), (.int .i64 (0 : Int)), (.int .i64 (0 : Int)), (.int .i64 (0 : Int)), (.int .i64 (0 : Int))] : List Value).toArray 78) →
(((cs3)).length = 25 ∧ wrs h6 b2 0 25 ∧ ∀ u ∈ ((cs3) : List Value), u.oneCell' = true) ∧ ∀ h7 : Heap, h7 = setr h6 b2 0 (cs3) →
∃ t2 : Bool, ifeqH Tryz.prog h7 true (v2) (.nilIface) = some t2 ∧
bcase t2 (
∃ cs4 : List Value, row h7 b2 0 25 = some cs4 ∧
Runs Tryz.prog 63 #[(.pointer (some ⟨s, 0, none⟩)), (.agg (cs4).toArray)] h7 fun r4 h8 =>
∃ (s3 : Option Addr) (s3l s3c : Nat),
∃ (s4 : Option Addr) (s4l s4c : Nat),
r4 = (.tuple #[(.slice s3 s3l s3c), (.slice s4 s4l s4c)]) ∧
Post (.tuple #[(.slice s3 s3l s3c), (.slice s4 s4l s4c)]) h8) (
Runs Tryz.prog 64 #[(.slice b bL bC)] h7 fun r5 h9 =>
∃ cs5 : List Value,
∃ v3 : Value,
r5 = (.tuple #[(.agg (cs5).toArray), v3]) ∧
∀ (b3 : Nat) (h10 : Heap), b3 = h9.size → h10 = h9.push (.cells ([(.int .u8 (0 : Int)), (.int .u8 (0 : Int)), (.int .u8 (0 : Int)), (.int .u8 (0 : Int)), (.int .u8 (0 : Int)), (.int .u8 (0 : Int)), (.int .u8 (0 : Int)), (.int .u8 (0 : Int)), (.int .u8 (0 : Int)), (.int .u8 (0 : Int)), (.int .u8 (0 : Int)), (.int .u8 (0 : Int)), (.int .u8 (0 : Int)), (.int .u8 (0 : Int)), (.int .u8 (0 : Int)), (.int .u8 (0 : Int)), (.int .u8 (0 : Int)), (.int .u8 (0 : Int)), (.bool false), (.int .i64 (0 : Int)), (.int .i64 (0 : Int))] : List Value).toArray 81) →
(((cs5)).length = 21 ∧ wrs h10 b3 0 21 ∧ ∀ u ∈ ((cs5) : List Value), u.oneCell' = true) ∧ ∀ h11 : Heap, h11 = setr h10 b3 0 (cs5) →
∃ t3 : Bool, ifeq true (v3) (.nilIface) = some t3 ∧
bcase t3 (
∃ cs6 : List Value, row h11 b3 0 6 = some cs6 ∧
∃ cs7 : List Value, row h11 s 0 6 = some cs7 ∧
∃ l1 l2 : List Int, cs6 = l1.map (Value.int .u8) ∧ cs7 = l2.map (Value.int .u8) ∧ (l1.length = 6 ∧ l2.length = 6) ∧
bcase (decide (l1 = l2)) (
∃ cs8 : List Value, row h11 b3 12 6 = some cs8 ∧
∃ cs9 : List Value, row h11 s 6 6 = some cs9 ∧
∃ l3 l4 : List Int, cs8 = l3.map (Value.int .u8) ∧ cs9 = l4.map (Value.int .u8) ∧ (l3.length = 6 ∧ l4.length = 6) ∧
bcase (decide (l3 = l4)) (
∃ t4 : Bool, cell h11 b3 18 = some (.bool t4) ∧
bcase t4 (
∃ n1 : Int, cell h11 b3 19 = some (.int .i64 n1) ∧
(0 ≤ n1 ∧ n1 < ((8 : Nat) : Int)) ∧
Runs Tryz.prog 53 #[(.pointer (some ⟨s, (13 + ((n1).toNat * 8)), none⟩))] h11 fun r6 h12 =>
∃ (s5 : Option Addr) (s5l s5c : Nat),
r6 = (.slice s5 s5l s5c) ∧
((([(.bool false), (.int .i64 (0 : Int)), (.int .i64 (0 : Int)), (.int .i64 (0 : Int)), (.int .u64 (0 : Int)), (.map none), (.bool false), (.int .i64 (0 : Int))] : List Value)).length = 8 ∧ wrs h12 s (13 + ((n1).toNat * 8)) 8 ∧ ∀ u ∈ (([(.bool false), (.int .i64 (0 : Int)), (.int .i64 (0 : Int)), (.int .i64 (0 : Int)), (.int .u64 (0 : Int)), (.map none), (.bool false), (.int .i64 (0 : Int))] : List Value) : List Value), u.oneCell' = true) ∧ ∀ h13 : Heap, h13 = setr h12 s (13 + ((n1).toNat * 8)) ([(.bool false), (.int .i64 (0 : Int)), (.int .i64 (0 : Int)), (.int .i64 (0 : Int)), (.int .u64 (0 : Int)), (.map none), (.bool false), (.int .i64 (0 : Int))] : List Value) →
Post (.tuple #[(.slice s5 s5l s5c), (.slice none 0 0)]) h13) (
Post (.tuple #[(.slice none 0 0), (.slice none 0 0)]) h11)) (
Post (.tuple #[(.slice none 0 0), (.slice none 0 0)]) h11)) (
Post (.tuple #[(.slice none 0 0), (.slice none 0 0)]) h11)) (
Post (.tuple #[(.slice none 0 0), (.slice none 0 0)]) h11)))) :
    Runs Tryz.prog 32 #[(.pointer (some ⟨s, 0, none⟩)), (.slice b bL bC)] h0 Post :=
  runs_of (args := [(.pointer (some ⟨s, 0, none⟩)), (.slice b bL bC)]) (fun n => ⟨true, false⟩) (fun _ => []) (fun _ => none) (fun _ => []) Tryz.func32 rfl (by rw [Tryz.ntmps32]; simp) (Eq.mp (by kernel_rfl) H)

theorem vc_recv_Station_bar (s : Nat) (f : List Value) (h0 : Heap) (Post : Value → Heap → Prop) (H :
∀ (b1 : Nat) (h1 : Heap), b1 = h0.size → h1 = h0.push (.cells (f).toArray 75) →
∃ n1 : Int, cell h1 b1 12 = some (.int .i64 n1) ∧
(0 ≤ n1 ∧ n1 < ((8 : Nat) : Int)) ∧
∃ cs1 : List Value, row h1 b1 0 6 = some cs1 ∧
∃ cs2 : List Value, row h1 s 0 6 = some cs2 ∧
∃ l1 l2 : List Int, cs1 = l1.map (Value.int .u8) ∧ cs2 = l2.map (Value.int .u8) ∧ (l1.length = 6 ∧ l2.length = 6) ∧
bcase (!(decide (l1 = l2))) (
Post (.tuple #[(.slice none 0 0), (.slice none 0 0)]) h1) (
∃ cs3 : List Value, row h1 b1 6 6 = some cs3 ∧
∃ cs4 : List Value, row h1 s 6 6 = some cs4 ∧
∃ l3 l4 : List Int, cs3 = l3.map (Value.int .u8) ∧ cs4 = l4.map (Value.int .u8) ∧ (l3.length = 6 ∧ l4.length = 6) ∧
bcase (!(decide (l3 = l4))) (
Post (.tuple #[(.slice none 0 0), (.slice none 0 0)]) h1) (
∃ t1 : Bool, cell h1 s (13 + ((n1).toNat * 8)) = some (.bool t1) ∧
bcase (!t1) (
Post (.tuple #[(.slice none 0 0), (.slice none 0 0)]) h1) (
∃ n2 : Int, cell h1 s ((13 + ((n1).toNat * 8)) + 1) = some (.int .i64 n2) ∧
∃ n3 : Int, cell h1 b1 13 = some (.int .i64 n3) ∧
Runs Tryz.prog 34 #[(.int .i64 n2), (.int .i64 n3)] h1 fun r1 h2 =>
∃ n4 : Int,
r1 = (.int .i64 n4) ∧
bcase (decide (n4 < (2048 : Int))) (
∃ n5 : Int, cell h2 b1 13 = some (.int .i64 n5) ∧
Runs Tryz.prog 76 #[(.pointer (some ⟨s, (13 + ((n1).toNat * 8)), none⟩)), (.int .i64 n5)] h2 fun r2 h3 =>
∃ (s1 : Option Addr) (s1l s1c : Nat),
r2 = (.slice s1 s1l s1c) ∧
Runs Tryz.prog 78 #[(.pointer (some ⟨s, (13 + ((n1).toNat * 8)), none⟩))] h3 fun r3 h4 =>
∃ (s2 : Option Addr) (s2l s2c : Nat),
r3 = (.slice s2 s2l s2c) ∧
∃ news1 : List Value, (src h4 s2 (s2l * 24) news1 ∧ ∀ u ∈ news1, u.oneCell' = true) ∧
appK h4 s1 s1l s1c s2l 24 67 72 news1 fun (a1 : Option Addr) (cap1 : Nat) (h5 : Heap) =>
∃ n6 : Int, cell h5 s ((13 + ((n1).toNat * 8)) + 3) = some (.int .i64 n6) ∧
∃ n7 : Int, cell h5 b1 13 = some (.int .i64 n7) ∧
Runs Tryz.prog 34 #[(.int .i64 n6), (.int .i64 n7)] h5 fun r4 h6 =>
∃ n8 : Int,
r4 = (.int .i64 n8) ∧
bcase (decide (n8 < (2048 : Int))) (
∃ n9 : Int, cell h6 b1 13 = some (.int .i64 n9) ∧
Runs Tryz.prog 95 #[(.pointer (some ⟨s, (13 + ((n1).toNat * 8)), none⟩)), (.int .i64 n9)] h6 fun r5 h7 =>
∃ n10 : Int, cell h7 b1 12 = some (.int .i64 n10) ∧
Runs Tryz.prog 39 #[(.pointer (some ⟨s, 0, none⟩)), (.int .i64 n10)] h7 fun r6 h8 =>
∃ (s3 : Option Addr) (s3l s3c : Nat),
r6 = (.slice s3 s3l s3c) ∧
Post (.tuple #[(.slice a1 (s1l + s2l) cap1), (.slice s3 s3l s3c)]) h8) (
∃ n11 : Int, cell h6 b1 12 = some (.int .i64 n11) ∧
Runs Tryz.prog 39 #[(.pointer (some ⟨s, 0, none⟩)), (.int .i64 n11)] h6 fun r7 h9 =>
∃ (s4 : Option Addr) (s4l s4c : Nat),
r7 = (.slice s4 s4l s4c) ∧
Post (.tuple #[(.slice a1 (s1l + s2l) cap1), (.slice s4 s4l s4c)]) h9)) (
∃ n12 : Int, cell h2 s ((13 + ((n1).toNat * 8)) + 3) = some (.int .i64 n12) ∧
∃ n13 : Int, cell h2 b1 13 = some (.int .i64 n13) ∧
Runs Tryz.prog 34 #[(.int .i64 n12), (.int .i64 n13)] h2 fun r8 h10 =>
∃ n14 : Int,
r8 = (.int .i64 n14) ∧
bcase (decide (n14 < (2048 : Int))) (
∃ n15 : Int, cell h10 b1 13 = some (.int .i64 n15) ∧
Runs Tryz.prog 95 #[(.pointer (some ⟨s, (13 + ((n1).toNat * 8)), none⟩)), (.int .i64 n15)] h10 fun r9 h11 =>
∃ n16 : Int, cell h11 b1 12 = some (.int .i64 n16) ∧
Runs Tryz.prog 39 #[(.pointer (some ⟨s, 0, none⟩)), (.int .i64 n16)] h11 fun r10 h12 =>
∃ (s5 : Option Addr) (s5l s5c : Nat),
r10 = (.slice s5 s5l s5c) ∧
Post (.tuple #[(.slice none 0 0), (.slice s5 s5l s5c)]) h12) (
∃ n17 : Int, cell h10 b1 12 = some (.int .i64 n17) ∧
Runs Tryz.prog 39 #[(.pointer (some ⟨s, 0, none⟩)), (.int .i64 n17)] h10 fun r11 h13 =>
∃ (s6 : Option Addr) (s6l s6c : Nat),
r11 = (.slice s6 s6l s6c) ∧
Post (.tuple #[(.slice none 0 0), (.slice s6 s6l s6c)]) h13)))))) :
    Runs Tryz.prog 61 #[(.pointer (some ⟨s, 0, none⟩)), (.agg (f).toArray)] h0 Post :=
  runs_of (args := [(.pointer (some ⟨s, 0, none⟩)), (.agg (f).toArray)]) (fun n => ⟨true, false⟩) (fun _ => []) (fun _ => none) (fun _ => []) Tryz.func61 rfl (by rw [Tryz.ntmps61]; simp) (Eq.mp (by kernel_rfl) H)

theorem vc_recv_Station_add (s : Nat) (f : List Value) (h0 : Heap) (Post : Value → Heap → Prop) (H :
∀ (b1 : Nat) (h1 : Heap), b1 = h0.size → h1 = h0.push (.cells (f).toArray 78) →
∃ t1 : Bool, cell h1 b1 18 = some (.bool t1) ∧
bcase t1 (
Post (.tuple #[(.slice none 0 0), (.slice none 0 0)]) h1) (
∃ cs1 : List Value, row h1 b1 0 6 = some cs1 ∧
∃ cs2 : List Value, row h1 s 0 6 = some cs2 ∧
∃ l1 l2 : List Int, cs1 = l1.map (Value.int .u8) ∧ cs2 = l2.map (Value.int .u8) ∧ (l1.length = 6 ∧ l2.length = 6) ∧
bcase (!(decide (l1 = l2))) (
Post (.tuple #[(.slice none 0 0), (.slice none 0 0)]) h1) (
∃ cs3 : List Value, row h1 b1 12 6 = some cs3 ∧
∃ cs4 : List Value, row h1 s 6 6 = some cs4 ∧
∃ l3 l4 : List Int, cs3 = l3.map (Value.int .u8) ∧ cs4 = l4.map (Value.int .u8) ∧ (l3.length = 6 ∧ l4.length = 6) ∧
bcase (!(decide (l3 = l4))) (
Post (.tuple #[(.slice none 0 0), (.slice none 0 0)]) h1) (
∃ n1 : Int, cell h1 b1 20 = some (.int .i64 n1) ∧
(0 ≤ n1 ∧ n1 < ((8 : Nat) : Int)) ∧
Runs Tryz.prog 53 #[(.pointer (some ⟨s, (13 + ((n1).toNat * 8)), none⟩))] h1 fun r1 h2 =>
∃ (s1 : Option Addr) (s1l s1c : Nat),
r1 = (.slice s1 s1l s1c) ∧
∃ n2 : Int, cell h2 s 12 = some (.int .i64 n2) ∧
∃ n3 : Int, cell h2 b1 21 = some (.int .i64 n3) ∧
bcase (decide ((0 : Int) < n3)) (
∃ n4 : Int, cell h2 b1 21 = some (.int .i64 n4) ∧
∃ n5 : Int, cell h2 b1 23 = some (.int .i64 n5) ∧
∃ n6 : Int, cell h2 b1 23 = some (.int .i64 n6) ∧
∀ (b2 : Nat) (h3 : Heap), b2 = h2.size → h3 = h2.push (.map #[] 0) →
((([(.bool true), (.int .i64 n5), (.int .i64 (min n2 n4)), (.int .i64 n6), (.int .u64 (0 : Int)), (.map (some b2)), (.bool false), (.int .i64 (0 : Int))] : List Value)).length = 8 ∧ wrs h3 s (13 + ((n1).toNat * 8)) 8 ∧ ∀ u ∈ (([(.bool true), (.int .i64 n5), (.int .i64 (min n2 n4)), (.int .i64 n6), (.int .u64 (0 : Int)), (.map (some b2)), (.bool false), (.int .i64 (0 : Int))] : List Value) : List Value), u.oneCell' = true) ∧ ∀ h4 : Heap, h4 = setr h3 s (13 + ((n1).toNat * 8)) ([(.bool true), (.int .i64 n5), (.int .i64 (min n2 n4)), (.int .i64 n6), (.int .u64 (0 : Int)), (.map (some b2)), (.bool false), (.int .i64 (0 : Int))] : List Value) →
∃ cs5 : List Value, row h4 s 6 6 = some cs5 ∧
∃ cs6 : List Value, row h4 s 0 6 = some cs6 ∧
∃ cs7 : List Value, row h4 s 6 6 = some cs7 ∧
∃ n7 : Int, cell h4 b1 19 = some (.int .i64 n7) ∧
∃ n8 : Int, cell h4 b1 20 = some (.int .i64 n8) ∧
(cs5).length = 6 ∧
(cs6).length = 6 ∧
(cs7).length = 6 ∧
Runs Tryz.prog 99 #[(.agg (((cs5) ++ ((cs6) ++ ((cs7) ++ ([(.bool true), (.int .i64 n7), (.int .i64 n8), (.int .i64 (min n2 n4)), (.int .i64 (0 : Int)), (.int .i64 (0 : Int)), (.int .i64 (0 : Int))] : List Value))))).toArray)] h4 fun r2 h5 =>
∃ (s2 : Option Addr) (s2l s2c : Nat),
∃ v1 : Value,
r2 = (.tuple #[(.slice s2 s2l s2c), v1]) ∧
∃ t2 : Bool, ifeqH Tryz.prog h5 true (v1) (.nilIface) = some t2 ∧
bcase (!t2) (
Post (.tuple #[(.slice s1 s1l s1c), (.slice none 0 0)]) h5) (
Post (.tuple #[(.slice s1 s1l s1c), (.slice s2 s2l s2c)]) h5)) (
∃ n9 : Int, cell h2 b1 23 = some (.int .i64 n9) ∧
∃ n10 : Int, cell h2 b1 23 = some (.int .i64 n10) ∧
∀ (b3 : Nat) (h6 : Heap), b3 = h2.size → h6 = h2.push (.map #[] 0) →
((([(.bool true), (.int .i64 n9), (.int .i64 n2), (.int .i64 n10), (.int .u64 (0 : Int)), (.map (some b3)), (.bool false), (.int .i64 (0 : Int))] : List Value)).length = 8 ∧ wrs h6 s (13 + ((n1).toNat * 8)) 8 ∧ ∀ u ∈ (([(.bool true), (.int .i64 n9), (.int .i64 n2), (.int .i64 n10), (.int .u64 (0 : Int)), (.map (some b3)), (.bool false), (.int .i64 (0 : Int))] : List Value) : List Value), u.oneCell' = true) ∧ ∀ h7 : Heap, h7 = setr h6 s (13 + ((n1).toNat * 8)) ([(.bool true), (.int .i64 n9), (.int .i64 n2), (.int .i64 n10), (.int .u64 (0 : Int)), (.map (some b3)), (.bool false), (.int .i64 (0 : Int))] : List Value) →
∃ cs8 : List Value, row h7 s 6 6 = some cs8 ∧
∃ cs9 : List Value, row h7 s 0 6 = some cs9 ∧
∃ cs10 : List Value, row h7 s 6 6 = some cs10 ∧
∃ n11 : Int, cell h7 b1 19 = some (.int .i64 n11) ∧
∃ n12 : Int, cell h7 b1 20 = some (.int .i64 n12) ∧
(cs8).length = 6 ∧
(cs9).length = 6 ∧
(cs10).length = 6 ∧
Runs Tryz.prog 99 #[(.agg (((cs8) ++ ((cs9) ++ ((cs10) ++ ([(.bool true), (.int .i64 n11), (.int .i64 n12), (.int .i64 n2), (.int .i64 (0 : Int)), (.int .i64 (0 : Int)), (.int .i64 (0 : Int))] : List Value))))).toArray)] h7 fun r3 h8 =>
∃ (s3 : Option Addr) (s3l s3c : Nat),
∃ v2 : Value,
r3 = (.tuple #[(.slice s3 s3l s3c), v2]) ∧
∃ t3 : Bool, ifeqH Tryz.prog h8 true (v2) (.nilIface) = some t3 ∧
bcase (!t3) (
Post (.tuple #[(.slice s1 s1l s1c), (.slice none 0 0)]) h8) (
Post (.tuple #[(.slice s1 s1l s1c), (.slice s3 s3l s3c)]) h8)))))) :
    Runs Tryz.prog 63 #[(.pointer (some ⟨s, 0, none⟩)), (.agg (f).toArray)] h0 Post :=
  runs_of (args := [(.pointer (some ⟨s, 0, none⟩)), (.agg (f).toArray)]) (fun n => ⟨true, false⟩) (fun _ => []) (fun _ => none) (fun _ => []) Tryz.func63 rfl (by rw [Tryz.ntmps63]; simp) (Eq.mp (by kernel_rfl) H)

theorem vc_recv_Station_answer (s : Nat) (tid : Int) (h0 : Heap) (Post : Value → Heap → Prop) (H :
(0 ≤ tid ∧ tid < ((8 : Nat) : Int)) ∧
∃ cs1 : List Value, row h0 s 6 6 = some cs1 ∧
∃ cs2 : List Value, row h0 s 0 6 = some cs2 ∧
∃ n1 : Int, cell h0 s ((13 + ((tid).toNat * 8)) + 7) = some (.int .i64 n1) ∧
(cs1).length = 6 ∧
(cs2).length = 6 ∧
∀ (b1 : Nat) (h1 : Heap), b1 = h0.size → h1 = h0.push (.cells ([(.int .u8 (0 : Int)), (.int .u8 (0 : Int)), (.int .u8 (0 : Int)), (.int .u8 (0 : Int)), (.int .u8 (0 : Int)), (.int .u8 (0 : Int)), (.int .u8 (0 : Int)), (.int .u8 (0 : Int)), (.int .u8 (0 : Int)), (.int .u8 (0 : Int)), (.int .u8 (0 : Int)), (.int .u8 (0 : Int)), (.int .i64 (0 : Int)), (.int .i64 (0 : Int)), (.int .u64 (0 : Int))] : List Value).toArray 135) →
(((((cs1) ++ ((cs2) ++ ([(.int .i64 tid), (.int .i64 n1), (.int .u64 (1 : Int))] : List Value))))).length = 15 ∧ wrs h1 b1 0 15 ∧ ∀ u ∈ ((((cs1) ++ ((cs2) ++ ([(.int .i64 tid), (.int .i64 n1), (.int .u64 (1 : Int))] : List Value)))) : List Value), u.oneCell' = true) ∧ ∀ h2 : Heap, h2 = setr h1 b1 0 (((cs1) ++ ((cs2) ++ ([(.int .i64 tid), (.int .i64 n1), (.int .u64 (1 : Int))] : List Value)))) →
∃ t1 : Bool, cell h2 s (13 + ((tid).toNat * 8)) = some (.bool t1) ∧
bcase t1 (
∃ n2 : Int, cell h2 s ((13 + ((tid).toNat * 8)) + 3) = some (.int .i64 n2) ∧
∃ n3 : Int, cell h2 s ((13 + ((tid).toNat * 8)) + 4) = some (.int .u64 n3) ∧
wr h2 b1 13 ∧ ∀ h3 : Heap, h3 = setc h2 b1 13 (.int .i64 n2) →
cell h3 s ((13 + ((tid).toNat * 8)) + 4) = some (.int .u64 n3) ∧
wr h3 b1 14 ∧ ∀ h4 : Heap, h4 = setc h3 b1 14 (.int .u64 n3) →
∃ cs3 : List Value, row h4 b1 0 15 = some cs3 ∧
Runs Tryz.prog 79 #[(.agg (cs3).toArray)] h4 fun r1 h5 =>
∃ (s1 : Option Addr) (s1l s1c : Nat),
∃ v1 : Value,
r1 = (.tuple #[(.slice s1 s1l s1c), v1]) ∧
∃ t2 : Bool, ifeqH Tryz.prog h5 true (v1) (.nilIface) = some t2 ∧
bcase (!t2) (
Post (.slice none 0 0) h5) (
Post (.slice s1 s1l s1c) h5)) (
∃ cs4 : List Value, row h2 b1 0 15 = some cs4 ∧
Runs Tryz.prog 79 #[(.agg (cs4).toArray)] h2 fun r2 h6 =>
∃ (s2 : Option Addr) (s2l s2c : Nat),
∃ v2 : Value,
r2 = (.tuple #[(.slice s2 s2l s2c), v2]) ∧
∃ t3 : Bool, ifeqH Tryz.prog h6 true (v2) (.nilIface) = some t3 ∧
bcase (!t3) (
Post (.slice none 0 0) h6) (
Post (.slice s2 s2l s2c) h6))) :
    Runs Tryz.prog 39 #[(.pointer (some ⟨s, 0, none⟩)), (.int .i64 tid)] h0 Post :=
  runs_of (args := [(.pointer (some ⟨s, 0, none⟩)), (.int .i64 tid)]) (fun n => ⟨true, false⟩) (fun _ => []) (fun _ => none) (fun _ => []) Tryz.func39 rfl (by rw [Tryz.ntmps39]; simp) (Eq.mp (by kernel_rfl) H)

theorem vc_recv_Station_Got (s : Nat) (tid : Int) (n : Int) (h0 : Heap) (Post : Value → Heap → Prop) (H :
bcase (decide (tid < (0 : Int))) (
Post (.bool false) h0) (
bcase (decide ((8 : Int) ≤ tid)) (
Post (.bool false) h0) (
(0 ≤ tid ∧ tid < ((8 : Nat) : Int)) ∧
∃ t1 : Bool, cell h0 s (13 + ((tid).toNat * 8)) = some (.bool t1) ∧
bcase (!t1) (
∃ t2 : Bool, cell h0 s ((13 + ((tid).toNat * 8)) + 6) = some (.bool t2) ∧
bcase t2 (
∃ n1 : Int, cell h0 s ((13 + ((tid).toNat * 8)) + 7) = some (.int .i64 n1) ∧
Post (.bool (decide (n1 = n))) h0) (
Post (.bool false) h0)) (
∃ n2 : Int, cell h0 s ((13 + ((tid).toNat * 8)) + 3) = some (.int .i64 n2) ∧
Runs Tryz.prog 34 #[(.int .i64 n2), (.int .i64 n)] h0 fun r1 h1 =>
∃ n3 : Int,
r1 = (.int .i64 n3) ∧
bcase (decide ((0 : Int) ≤ n)) (
bcase (decide (n < (4096 : Int))) (
bcase (decide (n3 < (64 : Int))) (
∃ n4 : Int, cell h1 s ((13 + ((tid).toNat * 8)) + 4) = some (.int .u64 n4) ∧
(0 ≤ n3 ∧ n3 ≤ kbits .u64) ∧
Post (.bool (decide ((0 : Int) < (bits .and .u64 (n4 / (pow2 n3)) (1 : Int))))) h1) (
Post (.bool false) h1)) (
Post (.bool false) h1)) (
Post (.bool false) h1))))) :
    Runs Tryz.prog 16 #[(.pointer (some ⟨s, 0, none⟩)), (.int .i64 tid), (.int .i64 n)] h0 Post :=
  runs_of (args := [(.pointer (some ⟨s, 0, none⟩)), (.int .i64 tid), (.int .i64 n)]) (fun n => ⟨true, false⟩) (fun _ => []) (fun _ => none) (fun _ => []) Tryz.func16 rfl (by rw [Tryz.ntmps16]; simp) (Eq.mp (by kernel_rfl) H)

theorem vc_recv_Station_Waits (s : Nat) (tid : Int) (h0 : Heap) (Post : Value → Heap → Prop) (H :
bcase (decide (tid < (0 : Int))) (
Post (.int .i64 (0 : Int)) h0) (
bcase (decide ((8 : Int) ≤ tid)) (
Post (.int .i64 (0 : Int)) h0) (
(0 ≤ tid ∧ tid < ((8 : Nat) : Int)) ∧
∃ v1 : Value, cell h0 s ((13 + ((tid).toNat * 8)) + 5) = some v1 ∧
mlen h0 (v1) fun k1 =>
Post (.int .i64 ((k1 : Nat) : Int)) h0))) :
    Runs Tryz.prog 11 #[(.pointer (some ⟨s, 0, none⟩)), (.int .i64 tid)] h0 Post :=
  runs_of (args := [(.pointer (some ⟨s, 0, none⟩)), (.int .i64 tid)]) (fun n => ⟨true, false⟩) (fun _ => []) (fun _ => none) (fun _ => []) Tryz.func11 rfl (by rw [Tryz.ntmps11]; simp) (Eq.mp (by kernel_rfl) H)

theorem vc_recv_Station_Session (s : Nat) (tid : Int) (h0 : Heap) (Post : Value → Heap → Prop) (H :
bcase (decide (tid < (0 : Int))) (
Post (.tuple #[(.int .i64 (0 : Int)), (.int .i64 (0 : Int)), (.bool false)]) h0) (
bcase (decide ((8 : Int) ≤ tid)) (
Post (.tuple #[(.int .i64 (0 : Int)), (.int .i64 (0 : Int)), (.bool false)]) h0) (
(0 ≤ tid ∧ tid < ((8 : Nat) : Int)) ∧
∃ t1 : Bool, cell h0 s (13 + ((tid).toNat * 8)) = some (.bool t1) ∧
bcase (!t1) (
Post (.tuple #[(.int .i64 (0 : Int)), (.int .i64 (0 : Int)), (.bool false)]) h0) (
(0 ≤ tid ∧ tid < ((8 : Nat) : Int)) ∧
∃ n1 : Int, cell h0 s ((13 + ((tid).toNat * 8)) + 1) = some (.int .i64 n1) ∧
(0 ≤ tid ∧ tid < ((8 : Nat) : Int)) ∧
∃ n2 : Int, cell h0 s ((13 + ((tid).toNat * 8)) + 2) = some (.int .i64 n2) ∧
Post (.tuple #[(.int .i64 n1), (.int .i64 n2), (.bool true)]) h0)))) :
    Runs Tryz.prog 13 #[(.pointer (some ⟨s, 0, none⟩)), (.int .i64 tid)] h0 Post :=
  runs_of (args := [(.pointer (some ⟨s, 0, none⟩)), (.int .i64 tid)]) (fun n => ⟨true, false⟩) (fun _ => []) (fun _ => none) (fun _ => []) Tryz.func13 rfl (by rw [Tryz.ntmps13]; simp) (Eq.mp (by kernel_rfl) H)

theorem vc_recv_Station_Leave (s : Nat) (h0 : Heap) (Post : Value → Heap → Prop) (H :
∃ (I1 : Option Addr → Nat → Nat → Int → Heap → Prop) (m1 : Option Addr → Nat → Nat → Int → Heap → Nat), I1 none 0 0 (0 : Int) h0 ∧ ∀ _ : Env,
∀ (out_1 : Option Addr) (out_1l out_1c : Nat) (x2 : Int) (h1 : Heap), I1 out_1 out_1l out_1c x2 h1 →
bcase (decide (x2 < (8 : Int))) (
(0 ≤ x2 ∧ x2 < ((8 : Nat) : Int)) ∧
Runs Tryz.prog 53 #[(.pointer (some ⟨s, (13 + ((x2).toNat * 8)), none⟩))] h1 fun r1 h2 =>
∃ (s1 : Option Addr) (s1l s1c : Nat),
r1 = (.slice s1 s1l s1c) ∧
∃ news1 : List Value, (src h2 s1 (s1l * 24) news1 ∧ ∀ u ∈ news1, u.oneCell' = true) ∧
appK h2 out_1 out_1l out_1c s1l 24 67 72 news1 fun (a1 : Option Addr) (cap1 : Nat) (h3 : Heap) =>
(0 ≤ x2 ∧ x2 < ((8 : Nat) : Int)) ∧
((([(.bool false), (.int .i64 (0 : Int)), (.int .i64 (0 : Int)), (.int .i64 (0 : Int)), (.int .u64 (0 : Int)), (.map none), (.bool false), (.int .i64 (0 : Int))] : List Value)).length = 8 ∧ wrs h3 s (13 + ((x2).toNat * 8)) 8 ∧ ∀ u ∈ (([(.bool false), (.int .i64 (0 : Int)), (.int .i64 (0 : Int)), (.int .i64 (0 : Int)), (.int .u64 (0 : Int)), (.map none), (.bool false), (.int .i64 (0 : Int))] : List Value) : List Value), u.oneCell' = true) ∧ ∀ h4 : Heap, h4 = setr h3 s (13 + ((x2).toNat * 8)) ([(.bool false), (.int .i64 (0 : Int)), (.int .i64 (0 : Int)), (.int .i64 (0 : Int)), (.int .u64 (0 : Int)), (.map none), (.bool false), (.int .i64 (0 : Int))] : List Value) →
fits .i64 (x2 + (1 : Int)) ∧
I1 a1 (out_1l + s1l) cap1 (x2 + (1 : Int)) h4 ∧ m1 a1 (out_1l + s1l) cap1 (x2 + (1 : Int)) h4 < m1 out_1 out_1l out_1c x2 h1) (
Post (.slice out_1 out_1l out_1c) h1)) :
    Runs Tryz.prog 28 #[(.pointer (some ⟨s, 0, none⟩))] h0 Post :=
  runs_of (args := [(.pointer (some ⟨s, 0, none⟩))]) (fun n => ⟨true, false⟩) (fun n => match n with | 0 => [(3, .slice), (5, .int .i64)] | _ => []) (fun _ => none) (fun _ => []) Tryz.func28 rfl (by rw [Tryz.ntmps28]; simp) (Eq.mp (by kernel_rfl) H)

theorem vc_recv_session_up (s : Option Addr) (to_ : Int) (h0 : Heap) (Post : Value → Heap → Prop) (H :
onAddr s fun b1 o1 =>
∃ n1 : Int, cell h0 b1 (o1 + 1) = some (.int .i64 n1) ∧
Runs Tryz.prog 34 #[(.int .i64 n1), (.int .i64 to_)] h0 fun r1 h1 =>
∃ n2 : Int,
r1 = (.int .i64 n2) ∧
∃ (I1 : Option Addr → Nat → Nat → Int → Heap → Prop) (m1 : Option Addr → Nat → Nat → Int → Heap → Nat), I1 none 0 0 (0 : Int) h1 ∧ ∀ _ : Env,
∀ (out_1 : Option Addr) (out_1l out_1c : Nat) (x2 : Int) (h2 : Heap), I1 out_1 out_1l out_1c x2 h2 →
bcase (decide (x2 < n2)) (
onAddr s fun b2 o2 =>
∃ v1 : Value, cell h2 b2 (o2 + 5) = some v1 ∧
mlen h2 (v1) fun k1 =>
bcase (decide (((k1 : Nat) : Int) = (0 : Int))) (
onAddr s fun b3 o3 =>
wr h2 b3 (o3 + 1) ∧ ∀ h3 : Heap, h3 = setc h2 b3 (o3 + 1) (.int .i64 to_) →
Post (.slice out_1 out_1l out_1c) h3) (
onAddr s fun b4 o4 =>
∃ v2 : Value, cell h2 b4 (o4 + 5) = some v2 ∧
onAddr s fun b5 o5 =>
∃ n3 : Int, cell h2 b5 (o5 + 1) = some (.int .i64 n3) ∧
(
∃ cs1 : List Value,
∃ t1 : Bool, lkr Tryz.prog 51 (v2) ((.int .i64 n3)) h2 = some ((.agg (cs1).toArray), t1) ∧
∀ (b6 : Nat) (h4 : Heap), b6 = h2.size → h4 = h2.push (.cells ([(.int .u8 (0 : Int)), (.int .u8 (0 : Int)), (.int .u8 (0 : Int)), (.int .u8 (0 : Int)), (.int .u8 (0 : Int)), (.int .u8 (0 : Int)), (.int .u8 (0 : Int)), (.int .u8 (0 : Int)), (.int .u8 (0 : Int)), (.int .u8 (0 : Int)), (.int .u8 (0 : Int)), (.int .u8 (0 : Int)), (.int .u8 (0 : Int)), (.int .u8 (0 : Int)), (.int .u8 (0 : Int)), (.int .u8 (0 : Int)), (.int .u8 (0 : Int)), (.int .u8 (0 : Int)), (.int .i64 (0 : Int)), (.int .i64 (0 : Int)), (.bool false), (.bool false), (.bool false), (.slice none 0 0)] : List Value).toArray 67) →
(((cs1)).length = 24 ∧ wrs h4 b6 0 24 ∧ ∀ u ∈ ((cs1) : List Value), u.oneCell' = true) ∧ ∀ h5 : Heap, h5 = setr h4 b6 0 (cs1) →
bcase t1 (
∃ cs2 : List Value, row h5 b6 0 24 = some cs2 ∧
(cs2).length = 24 ∧
∀ (b7 : Nat) (h6 : Heap), b7 = h5.size → h6 = h5.push (.cells (((cs2) ++ [])).toArray 67) →
∃ news1 : List Value, (row h6 b7 0 24 = some news1 ∧ ∀ u ∈ news1, u.oneCell' = true) ∧
appK h6 out_1 out_1l out_1c 1 24 67 72 news1 fun (a1 : Option Addr) (cap1 : Nat) (h7 : Heap) =>
onAddr s fun b8 o6 =>
∃ v3 : Value, cell h7 b8 (o6 + 5) = some v3 ∧
onAddr s fun b9 o7 =>
∃ n4 : Int, cell h7 b9 (o7 + 1) = some (.int .i64 n4) ∧
mdelv Tryz.prog 51 (v3) ((.int .i64 n4)) h7 fun h8 =>
onAddr s fun b10 o8 =>
∃ n5 : Int, cell h8 b10 (o8 + 1) = some (.int .i64 n5) ∧
Runs Tryz.prog 77 #[(.int .i64 n5), (.int .i64 (1 : Int))] h8 fun r2 h9 =>
∃ n6 : Int,
r2 = (.int .i64 n6) ∧
onAddr s fun b11 o9 =>
wr h9 b11 (o9 + 1) ∧ ∀ h10 : Heap, h10 = setc h9 b11 (o9 + 1) (.int .i64 n6) →
fits .i64 (x2 + (1 : Int)) ∧
I1 a1 (out_1l + 1) cap1 (x2 + (1 : Int)) h10 ∧ m1 a1 (out_1l + 1) cap1 (x2 + (1 : Int)) h10 < m1 out_1 out_1l out_1c x2 h2) (
onAddr s fun b12 o10 =>
∃ n7 : Int, cell h5 b12 (o10 + 1) = some (.int .i64 n7) ∧
Runs Tryz.prog 77 #[(.int .i64 n7), (.int .i64 (1 : Int))] h5 fun r3 h11 =>
∃ n8 : Int,
r3 = (.int .i64 n8) ∧
onAddr s fun b13 o11 =>
wr h11 b13 (o11 + 1) ∧ ∀ h12 : Heap, h12 = setc h11 b13 (o11 + 1) (.int .i64 n8) →
fits .i64 (x2 + (1 : Int)) ∧
I1 out_1 out_1l out_1c (x2 + (1 : Int)) h12 ∧ m1 out_1 out_1l out_1c (x2 + (1 : Int)) h12 < m1 out_1 out_1l out_1c x2 h2)) ∧
(
∀ (b14 : Nat) (h13 : Heap), b14 = h2.size → h13 = h2.push (.cells ([(.int .u8 (0 : Int)), (.int .u8 (0 : Int)), (.int .u8 (0 : Int)), (.int .u8 (0 : Int)), (.int .u8 (0 : Int)), (.int .u8 (0 : Int)), (.int .u8 (0 : Int)), (.int .u8 (0 : Int)), (.int .u8 (0 : Int)), (.int .u8 (0 : Int)), (.int .u8 (0 : Int)), (.int .u8 (0 : Int)), (.int .u8 (0 : Int)), (.int .u8 (0 : Int)), (.int .u8 (0 : Int)), (.int .u8 (0 : Int)), (.int .u8 (0 : Int)), (.int .u8 (0 : Int)), (.int .i64 (0 : Int)), (.int .i64 (0 : Int)), (.bool false), (.bool false), (.bool false), (.slice none 0 0)] : List Value).toArray 67) →
∃ cs3 : List Value,
∃ t2 : Bool, lkr Tryz.prog 51 (v2) ((.int .i64 n3)) h13 = some ((.agg (cs3).toArray), t2) ∧
(((cs3)).length = 24 ∧ wrs h13 b14 0 24 ∧ ∀ u ∈ ((cs3) : List Value), u.oneCell' = true) ∧ ∀ h14 : Heap, h14 = setr h13 b14 0 (cs3) →
bcase t2 (
∃ cs4 : List Value, row h14 b14 0 24 = some cs4 ∧
(cs4).length = 24 ∧
∀ (b15 : Nat) (h15 : Heap), b15 = h14.size → h15 = h14.push (.cells (((cs4) ++ [])).toArray 67) →
∃ news2 : List Value, (row h15 b15 0 24 = some news2 ∧ ∀ u ∈ news2, u.oneCell' = true) ∧
appK h15 out_1 out_1l out_1c 1 24 67 72 news2 fun (a2 : Option Addr) (cap2 : Nat) (h16 : Heap) =>
onAddr s fun b16 o12 =>
∃ v4 : Value, cell h16 b16 (o12 + 5) = some v4 ∧
onAddr s fun b17 o13 =>
∃ n9 : Int, cell h16 b17 (o13 + 1) = some (.int .i64 n9) ∧
mdelv Tryz.prog 51 (v4) ((.int .i64 n9)) h16 fun h17 =>
onAddr s fun b18 o14 =>
∃ n10 : Int, cell h17 b18 (o14 + 1) = some (.int .i64 n10) ∧
Runs Tryz.prog 77 #[(.int .i64 n10), (.int .i64 (1 : Int))] h17 fun r4 h18 =>
∃ n11 : Int,
r4 = (.int .i64 n11) ∧
onAddr s fun b19 o15 =>
wr h18 b19 (o15 + 1) ∧ ∀ h19 : Heap, h19 = setc h18 b19 (o15 + 1) (.int .i64 n11) →
fits .i64 (x2 + (1 : Int)) ∧
I1 a2 (out_1l + 1) cap2 (x2 + (1 : Int)) h19 ∧ m1 a2 (out_1l + 1) cap2 (x2 + (1 : Int)) h19 < m1 out_1 out_1l out_1c x2 h2) (
onAddr s fun b20 o16 =>
∃ n12 : Int, cell h14 b20 (o16 + 1) = some (.int .i64 n12) ∧
Runs Tryz.prog 77 #[(.int .i64 n12), (.int .i64 (1 : Int))] h14 fun r5 h20 =>
∃ n13 : Int,
r5 = (.int .i64 n13) ∧
onAddr s fun b21 o17 =>
wr h20 b21 (o17 + 1) ∧ ∀ h21 : Heap, h21 = setc h20 b21 (o17 + 1) (.int .i64 n13) →
fits .i64 (x2 + (1 : Int)) ∧
I1 out_1 out_1l out_1c (x2 + (1 : Int)) h21 ∧ m1 out_1 out_1l out_1c (x2 + (1 : Int)) h21 < m1 out_1 out_1l out_1c x2 h2)))) (
onAddr s fun b22 o18 =>
wr h2 b22 (o18 + 1) ∧ ∀ h22 : Heap, h22 = setc h2 b22 (o18 + 1) (.int .i64 to_) →
Post (.slice out_1 out_1l out_1c) h22)) :
    Runs Tryz.prog 76 #[(.pointer s), (.int .i64 to_)] h0 Post :=
  runs_of (args := [(.pointer s), (.int .i64 to_)]) (fun n => ⟨true, false⟩) (fun n => match n with | 0 => [(5, .slice), (14, .int .i64)] | _ => []) (fun _ => none) (fun _ => []) Tryz.func76 rfl (by rw [Tryz.ntmps76]; simp) (Eq.mp (by kernel_rfl) H)

theorem vc_recv_session_run (s : Option Addr) (h0 : Heap) (Post : Value → Heap → Prop) (H :
∃ (I1 : Option Addr → Nat → Nat → Heap → Prop) (m1 : Option Addr → Nat → Nat → Heap → Nat), I1 none 0 0 h0 ∧ ∀ _ : Env,
∀ (out_1 : Option Addr) (out_1l out_1c : Nat) (h1 : Heap), I1 out_1 out_1l out_1c h1 →
onAddr s fun b1 o1 =>
∃ v1 : Value, cell h1 b1 (o1 + 5) = some v1 ∧
onAddr s fun b2 o2 =>
∃ n1 : Int, cell h1 b2 (o2 + 1) = some (.int .i64 n1) ∧
(
∃ cs1 : List Value,
∃ t1 : Bool, lkr Tryz.prog 51 (v1) ((.int .i64 n1)) h1 = some ((.agg (cs1).toArray), t1) ∧
∀ (b3 : Nat) (h2 : Heap), b3 = h1.size → h2 = h1.push (.cells ([(.int .u8 (0 : Int)), (.int .u8 (0 : Int)), (.int .u8 (0 : Int)), (.int .u8 (0 : Int)), (.int .u8 (0 : Int)), (.int .u8 (0 : Int)), (.int .u8 (0 : Int)), (.int .u8 (0 : Int)), (.int .u8 (0 : Int)), (.int .u8 (0 : Int)), (.int .u8 (0 : Int)), (.int .u8 (0 : Int)), (.int .u8 (0 : Int)), (.int .u8 (0 : Int)), (.int .u8 (0 : Int)), (.int .u8 (0 : Int)), (.int .u8 (0 : Int)), (.int .u8 (0 : Int)), (.int .i64 (0 : Int)), (.int .i64 (0 : Int)), (.bool false), (.bool false), (.bool false), (.slice none 0 0)] : List Value).toArray 67) →
(((cs1)).length = 24 ∧ wrs h2 b3 0 24 ∧ ∀ u ∈ ((cs1) : List Value), u.oneCell' = true) ∧ ∀ h3 : Heap, h3 = setr h2 b3 0 (cs1) →
bcase (!t1) (
Post (.slice out_1 out_1l out_1c) h3) (
∃ cs2 : List Value, row h3 b3 0 24 = some cs2 ∧
(cs2).length = 24 ∧
∀ (b4 : Nat) (h4 : Heap), b4 = h3.size → h4 = h3.push (.cells (((cs2) ++ [])).toArray 67) →
∃ news1 : List Value, (row h4 b4 0 24 = some news1 ∧ ∀ u ∈ news1, u.oneCell' = true) ∧
appK h4 out_1 out_1l out_1c 1 24 67 72 news1 fun (a1 : Option Addr) (cap1 : Nat) (h5 : Heap) =>
onAddr s fun b5 o3 =>
∃ v2 : Value, cell h5 b5 (o3 + 5) = some v2 ∧
onAddr s fun b6 o4 =>
∃ n2 : Int, cell h5 b6 (o4 + 1) = some (.int .i64 n2) ∧
mdelv Tryz.prog 51 (v2) ((.int .i64 n2)) h5 fun h6 =>
onAddr s fun b7 o5 =>
∃ n3 : Int, cell h6 b7 (o5 + 1) = some (.int .i64 n3) ∧
Runs Tryz.prog 77 #[(.int .i64 n3), (.int .i64 (1 : Int))] h6 fun r1 h7 =>
∃ n4 : Int,
r1 = (.int .i64 n4) ∧
onAddr s fun b8 o6 =>
wr h7 b8 (o6 + 1) ∧ ∀ h8 : Heap, h8 = setc h7 b8 (o6 + 1) (.int .i64 n4) →
I1 a1 (out_1l + 1) cap1 h8 ∧ m1 a1 (out_1l + 1) cap1 h8 < m1 out_1 out_1l out_1c h1)) ∧
(
∀ (b9 : Nat) (h9 : Heap), b9 = h1.size → h9 = h1.push (.cells ([(.int .u8 (0 : Int)), (.int .u8 (0 : Int)), (.int .u8 (0 : Int)), (.int .u8 (0 : Int)), (.int .u8 (0 : Int)), (.int .u8 (0 : Int)), (.int .u8 (0 : Int)), (.int .u8 (0 : Int)), (.int .u8 (0 : Int)), (.int .u8 (0 : Int)), (.int .u8 (0 : Int)), (.int .u8 (0 : Int)), (.int .u8 (0 : Int)), (.int .u8 (0 : Int)), (.int .u8 (0 : Int)), (.int .u8 (0 : Int)), (.int .u8 (0 : Int)), (.int .u8 (0 : Int)), (.int .i64 (0 : Int)), (.int .i64 (0 : Int)), (.bool false), (.bool false), (.bool false), (.slice none 0 0)] : List Value).toArray 67) →
∃ cs3 : List Value,
∃ t2 : Bool, lkr Tryz.prog 51 (v1) ((.int .i64 n1)) h9 = some ((.agg (cs3).toArray), t2) ∧
(((cs3)).length = 24 ∧ wrs h9 b9 0 24 ∧ ∀ u ∈ ((cs3) : List Value), u.oneCell' = true) ∧ ∀ h10 : Heap, h10 = setr h9 b9 0 (cs3) →
bcase (!t2) (
Post (.slice out_1 out_1l out_1c) h10) (
∃ cs4 : List Value, row h10 b9 0 24 = some cs4 ∧
(cs4).length = 24 ∧
∀ (b10 : Nat) (h11 : Heap), b10 = h10.size → h11 = h10.push (.cells (((cs4) ++ [])).toArray 67) →
∃ news2 : List Value, (row h11 b10 0 24 = some news2 ∧ ∀ u ∈ news2, u.oneCell' = true) ∧
appK h11 out_1 out_1l out_1c 1 24 67 72 news2 fun (a2 : Option Addr) (cap2 : Nat) (h12 : Heap) =>
onAddr s fun b11 o7 =>
∃ v3 : Value, cell h12 b11 (o7 + 5) = some v3 ∧
onAddr s fun b12 o8 =>
∃ n5 : Int, cell h12 b12 (o8 + 1) = some (.int .i64 n5) ∧
mdelv Tryz.prog 51 (v3) ((.int .i64 n5)) h12 fun h13 =>
onAddr s fun b13 o9 =>
∃ n6 : Int, cell h13 b13 (o9 + 1) = some (.int .i64 n6) ∧
Runs Tryz.prog 77 #[(.int .i64 n6), (.int .i64 (1 : Int))] h13 fun r2 h14 =>
∃ n7 : Int,
r2 = (.int .i64 n7) ∧
onAddr s fun b14 o10 =>
wr h14 b14 (o10 + 1) ∧ ∀ h15 : Heap, h15 = setc h14 b14 (o10 + 1) (.int .i64 n7) →
I1 a2 (out_1l + 1) cap2 h15 ∧ m1 a2 (out_1l + 1) cap2 h15 < m1 out_1 out_1l out_1c h1))) :
    Runs Tryz.prog 78 #[(.pointer s)] h0 Post :=
  runs_of (args := [(.pointer s)]) (fun n => ⟨true, false⟩) (fun n => match n with | 0 => [(3, .slice)] | _ => []) (fun _ => none) (fun _ => []) Tryz.func78 rfl (by rw [Tryz.ntmps78]; simp) (Eq.mp (by kernel_rfl) H)

theorem vc_recv_session_all (s : Option Addr) (h0 : Heap) (Post : Value → Heap → Prop) (H :
onAddr s fun b1 o1 =>
∃ v1 : Value, cell h0 b1 (o1 + 5) = some v1 ∧
rngv Tryz.prog 51 (v1) h0 fun b2 h1 =>
∃ (I1 : Option Addr → Nat → Nat → Heap → Prop) (m1 : Option Addr → Nat → Nat → Heap → Nat), I1 none 0 0 h1 ∧ ∀ _ : Env,
∀ (l_1 : Option Addr) (l_1l l_1c : Nat) (h2 : Heap), I1 l_1 l_1l l_1c h2 →
0 = 0 ∧ nxv b2 h2 (
onAddr s fun b3 o2 =>
∃ n1 : Int, cell h2 b3 (o2 + 1) = some (.int .i64 n1) ∧
Runs Tryz.prog 83 #[(.int .i64 n1), (.slice l_1 l_1l l_1c)] h2 fun r1 h4 =>
∃ (s1 : Option Addr) (s1l s1c : Nat),
r1 = (.slice s1 s1l s1c) ∧
∃ (I2 : Option Addr → Nat → Nat → Int → Heap → Prop) (m2 : Option Addr → Nat → Nat → Int → Heap → Nat), I2 none 0 0 (0 : Int) h4 ∧ ∀ _ : Env,
∀ (out_1 : Option Addr) (out_1l out_1c : Nat) (x3 : Int) (h5 : Heap), I2 out_1 out_1l out_1c x3 h5 →
bcase (decide (x3 < ((s1l : Nat) : Int))) (
(0 ≤ x3 ∧ x3 < ((s1l : Nat) : Int)) ∧
onAddr s1 fun b4 o3 =>
∃ n2 : Int, cell h5 b4 (o3 + (x3).toNat) = some (.int .i64 n2) ∧
onAddr s fun b5 o4 =>
∃ v2 : Value, cell h5 b5 (o4 + 5) = some v2 ∧
∃ cs1 : List Value,
∃ t1 : Bool, lkr Tryz.prog 51 (v2) ((.int .i64 n2)) h5 = some ((.agg (cs1).toArray), t1) ∧
(cs1).length = 24 ∧
∀ (b6 : Nat) (h6 : Heap), b6 = h5.size → h6 = h5.push (.cells (((cs1) ++ [])).toArray 67) →
∃ news1 : List Value, (row h6 b6 0 24 = some news1 ∧ ∀ u ∈ news1, u.oneCell' = true) ∧
appK h6 out_1 out_1l out_1c 1 24 67 72 news1 fun (a1 : Option Addr) (cap1 : Nat) (h7 : Heap) =>
fits .i64 (x3 + (1 : Int)) ∧
I2 a1 (out_1l + 1) cap1 (x3 + (1 : Int)) h7 ∧ m2 a1 (out_1l + 1) cap1 (x3 + (1 : Int)) h7 < m2 out_1 out_1l out_1c x3 h5) (
onAddr s fun b7 o5 =>
wr h5 b7 (o5 + 5) ∧ ∀ h8 : Heap, h8 = setc h5 b7 (o5 + 5) (.map none) →
Post (.slice out_1 out_1l out_1c) h8)) fun (e1 : MapEntry) (h3 : Heap) =>
0 = 0 ∧ entv b2 h3 fun v3 v4 =>
partv 1 v3 fun cs2 =>
∀ (b8 : Nat) (h9 : Heap), b8 = h3.size → h9 = h3.push (.cells ((cs2 ++ [])).toArray 3) →
∃ news2 : List Value, (row h9 b8 0 1 = some news2 ∧ ∀ u ∈ news2, u.oneCell' = true) ∧
appK h9 l_1 l_1l l_1c 1 1 3 8 news2 fun (a2 : Option Addr) (cap2 : Nat) (h10 : Heap) =>
I1 a2 (l_1l + 1) cap2 h10 ∧ m1 a2 (l_1l + 1) cap2 h10 < m1 l_1 l_1l l_1c h2) :
    Runs Tryz.prog 53 #[(.pointer s)] h0 Post :=
  runs_of (args := [(.pointer s)]) (fun n => ⟨true, false⟩) (fun n => match n with | 0 => [(3, .slice)] | 2 => [(5, .slice), (28, .int .i64)] | _ => []) (fun _ => none) (fun _ => []) Tryz.func53 rfl (by rw [Tryz.ntmps53]; simp) (Eq.mp (by kernel_rfl) H)

theorem vc_recv_session_move (s : Option Addr) (from_ : Int) (h0 : Heap) (Post : Value → Heap → Prop) (H :
onAddr s fun b1 o1 =>
∃ n1 : Int, cell h0 b1 (o1 + 3) = some (.int .i64 n1) ∧
Runs Tryz.prog 34 #[(.int .i64 n1), (.int .i64 from_)] h0 fun r1 h1 =>
∃ n2 : Int,
r1 = (.int .i64 n2) ∧
onAddr s fun b2 o2 =>
wr h1 b2 (o2 + 3) ∧ ∀ h2 : Heap, h2 = setc h1 b2 (o2 + 3) (.int .i64 from_) →
bcase (decide ((64 : Int) ≤ n2)) (
onAddr s fun b3 o3 =>
wr h2 b3 (o3 + 4) ∧ ∀ h3 : Heap, h3 = setc h2 b3 (o3 + 4) (.int .u64 (0 : Int)) →
Post (.tuple #[]) h3) (
onAddr s fun b4 o4 =>
∃ n3 : Int, cell h2 b4 (o4 + 4) = some (.int .u64 n3) ∧
(0 ≤ n2 ∧ n2 ≤ kbits .u64) ∧
onAddr s fun b5 o5 =>
wr h2 b5 (o5 + 4) ∧ ∀ h4 : Heap, h4 = setc h2 b5 (o5 + 4) (.int .u64 (n3 / (pow2 n2))) →
Post (.tuple #[]) h4)) :
    Runs Tryz.prog 95 #[(.pointer s), (.int .i64 from_)] h0 Post :=
  runs_of (args := [(.pointer s), (.int .i64 from_)]) (fun n => ⟨true, false⟩) (fun _ => []) (fun _ => none) (fun _ => []) Tryz.func95 rfl (by rw [Tryz.ntmps95]; simp) (Eq.mp (by kernel_rfl) H)

theorem vc_recv_session_stand (s : Option Addr) (n : Int) (h0 : Heap) (Post : Value → Heap → Prop) (H :
onAddr s fun b1 o1 =>
∃ n1 : Int, cell h0 b1 (o1 + 3) = some (.int .i64 n1) ∧
Runs Tryz.prog 34 #[(.int .i64 n1), (.int .i64 n)] h0 fun r1 h1 =>
∃ n2 : Int,
r1 = (.int .i64 n2) ∧
bcase (decide ((64 : Int) ≤ n2)) (
bcase (decide (n2 < (2048 : Int))) (
Runs Tryz.prog 77 #[(.int .i64 n), (.int .i64 (-63 : Int))] h1 fun r2 h2 =>
∃ n3 : Int,
r2 = (.int .i64 n3) ∧
Runs Tryz.prog 95 #[(.pointer s), (.int .i64 n3)] h2 fun r3 h3 =>
onAddr s fun b2 o2 =>
∃ n4 : Int, cell h3 b2 (o2 + 3) = some (.int .i64 n4) ∧
Runs Tryz.prog 34 #[(.int .i64 n4), (.int .i64 n)] h3 fun r4 h4 =>
∃ n5 : Int,
r4 = (.int .i64 n5) ∧
bcase (decide (n5 < (64 : Int))) (
onAddr s fun b3 o3 =>
∃ n6 : Int, cell h4 b3 (o3 + 4) = some (.int .u64 n6) ∧
(0 ≤ n5 ∧ n5 ≤ kbits .u64) ∧
fits .u64 ((1 : Int) * (pow2 n5)) ∧
onAddr s fun b4 o4 =>
wr h4 b4 (o4 + 4) ∧ ∀ h5 : Heap, h5 = setc h4 b4 (o4 + 4) (.int .u64 (bits .or .u64 n6 ((1 : Int) * (pow2 n5)))) →
Post (.tuple #[]) h5) (
Post (.tuple #[]) h4)) (
onAddr s fun b5 o5 =>
∃ n7 : Int, cell h1 b5 (o5 + 3) = some (.int .i64 n7) ∧
Runs Tryz.prog 34 #[(.int .i64 n7), (.int .i64 n)] h1 fun r5 h6 =>
∃ n8 : Int,
r5 = (.int .i64 n8) ∧
bcase (decide (n8 < (64 : Int))) (
onAddr s fun b6 o6 =>
∃ n9 : Int, cell h6 b6 (o6 + 4) = some (.int .u64 n9) ∧
(0 ≤ n8 ∧ n8 ≤ kbits .u64) ∧
fits .u64 ((1 : Int) * (pow2 n8)) ∧
onAddr s fun b7 o7 =>
wr h6 b7 (o7 + 4) ∧ ∀ h7 : Heap, h7 = setc h6 b7 (o7 + 4) (.int .u64 (bits .or .u64 n9 ((1 : Int) * (pow2 n8)))) →
Post (.tuple #[]) h7) (
Post (.tuple #[]) h6))) (
onAddr s fun b8 o8 =>
∃ n10 : Int, cell h1 b8 (o8 + 3) = some (.int .i64 n10) ∧
Runs Tryz.prog 34 #[(.int .i64 n10), (.int .i64 n)] h1 fun r6 h8 =>
∃ n11 : Int,
r6 = (.int .i64 n11) ∧
bcase (decide (n11 < (64 : Int))) (
onAddr s fun b9 o9 =>
∃ n12 : Int, cell h8 b9 (o9 + 4) = some (.int .u64 n12) ∧
(0 ≤ n11 ∧ n11 ≤ kbits .u64) ∧
fits .u64 ((1 : Int) * (pow2 n11)) ∧
onAddr s fun b10 o10 =>
wr h8 b10 (o10 + 4) ∧ ∀ h9 : Heap, h9 = setc h8 b10 (o10 + 4) (.int .u64 (bits .or .u64 n12 ((1 : Int) * (pow2 n11)))) →
Post (.tuple #[]) h9) (
Post (.tuple #[]) h8))) :
    Runs Tryz.prog 75 #[(.pointer s), (.int .i64 n)] h0 Post :=
  runs_of (args := [(.pointer s), (.int .i64 n)]) (fun n => ⟨true, false⟩) (fun _ => []) (fun _ => none) (fun _ => []) Tryz.func75 rfl (by rw [Tryz.ntmps75]; simp) (Eq.mp (by kernel_rfl) H)

theorem vc_recv_session_take (s : Option Addr) (f : List Value) (h0 : Heap) (Post : Value → Heap → Prop) (H :
∀ (b1 : Nat) (h1 : Heap), b1 = h0.size → h1 = h0.push (.cells (f).toArray 67) →
onAddr s fun b2 o1 =>
∃ t1 : Bool, cell h1 b2 o1 = some (.bool t1) ∧
bcase (!t1) (
∃ t2 : Bool, cell h1 b1 20 = some (.bool t2) ∧
bcase t2 (
onAddr s fun b3 o2 =>
∃ t3 : Bool, cell h1 b3 (o2 + 6) = some (.bool t3) ∧
bcase t3 (
onAddr s fun b4 o3 =>
∃ n1 : Int, cell h1 b4 (o3 + 7) = some (.int .i64 n1) ∧
∃ n2 : Int, cell h1 b1 19 = some (.int .i64 n2) ∧
∃ n3 : Int, cell h1 b1 19 = some (.int .i64 n3) ∧
onAddr s fun b5 o4 =>
wr h1 b5 (o4 + 6) ∧ ∀ h2 : Heap, h2 = setc h1 b5 (o4 + 6) (.bool true) →
cell h2 b1 19 = some (.int .i64 n3) ∧
onAddr s fun b6 o5 =>
wr h2 b6 (o5 + 7) ∧ ∀ h3 : Heap, h3 = setc h2 b6 (o5 + 7) (.int .i64 n3) →
bcase (decide (n1 = n2)) (
Post (.slice none 0 0) h3) (
∃ cs1 : List Value, row h3 b1 0 24 = some cs1 ∧
(cs1).length = 24 ∧
∀ (b7 : Nat) (h4 : Heap), b7 = h3.size → h4 = h3.push (.cells (((cs1) ++ [])).toArray 67) →
Post (.slice (some ⟨b7, 0, none⟩) 1 1) h4)) (
∃ n4 : Int, cell h1 b1 19 = some (.int .i64 n4) ∧
onAddr s fun b8 o6 =>
wr h1 b8 (o6 + 6) ∧ ∀ h5 : Heap, h5 = setc h1 b8 (o6 + 6) (.bool true) →
cell h5 b1 19 = some (.int .i64 n4) ∧
onAddr s fun b9 o7 =>
wr h5 b9 (o7 + 7) ∧ ∀ h6 : Heap, h6 = setc h5 b9 (o7 + 7) (.int .i64 n4) →
∃ cs2 : List Value, row h6 b1 0 24 = some cs2 ∧
(cs2).length = 24 ∧
∀ (b10 : Nat) (h7 : Heap), b10 = h6.size → h7 = h6.push (.cells (((cs2) ++ [])).toArray 67) →
Post (.slice (some ⟨b10, 0, none⟩) 1 1) h7)) (
∃ n5 : Int, cell h1 b1 19 = some (.int .i64 n5) ∧
onAddr s fun b11 o8 =>
wr h1 b11 (o8 + 6) ∧ ∀ h8 : Heap, h8 = setc h1 b11 (o8 + 6) (.bool true) →
cell h8 b1 19 = some (.int .i64 n5) ∧
onAddr s fun b12 o9 =>
wr h8 b12 (o9 + 7) ∧ ∀ h9 : Heap, h9 = setc h8 b12 (o9 + 7) (.int .i64 n5) →
∃ cs3 : List Value, row h9 b1 0 24 = some cs3 ∧
(cs3).length = 24 ∧
∀ (b13 : Nat) (h10 : Heap), b13 = h9.size → h10 = h9.push (.cells (((cs3) ++ [])).toArray 67) →
Post (.slice (some ⟨b13, 0, none⟩) 1 1) h10)) (
∃ n6 : Int, cell h1 b1 19 = some (.int .i64 n6) ∧
Runs Tryz.prog 75 #[(.pointer s), (.int .i64 n6)] h1 fun r1 h11 =>
onAddr s fun b14 o10 =>
∃ n7 : Int, cell h11 b14 (o10 + 1) = some (.int .i64 n7) ∧
∃ n8 : Int, cell h11 b1 19 = some (.int .i64 n8) ∧
Runs Tryz.prog 34 #[(.int .i64 n7), (.int .i64 n8)] h11 fun r2 h12 =>
∃ n9 : Int,
r2 = (.int .i64 n9) ∧
bcase (decide ((2048 : Int) ≤ n9)) (
Post (.slice none 0 0) h12) (
onAddr s fun b15 o11 =>
∃ n10 : Int, cell h12 b15 (o11 + 2) = some (.int .i64 n10) ∧
bcase (decide (n10 ≤ n9)) (
∃ n11 : Int, cell h12 b1 19 = some (.int .i64 n11) ∧
onAddr s fun b16 o12 =>
∃ n12 : Int, cell h12 b16 (o12 + 2) = some (.int .i64 n12) ∧
fits .i64 ((1 : Int) - n12) ∧
Runs Tryz.prog 77 #[(.int .i64 n11), (.int .i64 ((1 : Int) - n12))] h12 fun r3 h13 =>
∃ n13 : Int,
r3 = (.int .i64 n13) ∧
Runs Tryz.prog 76 #[(.pointer s), (.int .i64 n13)] h13 fun r4 h14 =>
∃ (s1 : Option Addr) (s1l s1c : Nat),
r4 = (.slice s1 s1l s1c) ∧
onAddr s fun b17 o13 =>
∃ v1 : Value, cell h14 b17 (o13 + 5) = some v1 ∧
∃ n14 : Int, cell h14 b1 19 = some (.int .i64 n14) ∧
(
∃ cs4 : List Value,
∃ t4 : Bool, lkr Tryz.prog 51 (v1) ((.int .i64 n14)) h14 = some ((.agg (cs4).toArray), t4) ∧
∀ (b18 : Nat) (h15 : Heap), b18 = h14.size → h15 = h14.push (.cells ([(.int .u8 (0 : Int)), (.int .u8 (0 : Int)), (.int .u8 (0 : Int)), (.int .u8 (0 : Int)), (.int .u8 (0 : Int)), (.int .u8 (0 : Int)), (.int .u8 (0 : Int)), (.int .u8 (0 : Int)), (.int .u8 (0 : Int)), (.int .u8 (0 : Int)), (.int .u8 (0 : Int)), (.int .u8 (0 : Int)), (.int .u8 (0 : Int)), (.int .u8 (0 : Int)), (.int .u8 (0 : Int)), (.int .u8 (0 : Int)), (.int .u8 (0 : Int)), (.int .u8 (0 : Int)), (.int .i64 (0 : Int)), (.int .i64 (0 : Int)), (.bool false), (.bool false), (.bool false), (.slice none 0 0)] : List Value).toArray 67) →
(((cs4)).length = 24 ∧ wrs h15 b18 0 24 ∧ ∀ u ∈ ((cs4) : List Value), u.oneCell' = true) ∧ ∀ h16 : Heap, h16 = setr h15 b18 0 (cs4) →
bcase (!t4) (
onAddr s fun b19 o14 =>
∃ v2 : Value, cell h16 b19 (o14 + 5) = some v2 ∧
∃ n15 : Int, cell h16 b1 19 = some (.int .i64 n15) ∧
∃ cs5 : List Value, row h16 b1 0 24 = some cs5 ∧
mupv Tryz.prog 51 (v2) ((.int .i64 n15)) ((.agg (cs5).toArray)) h16 fun h17 =>
Runs Tryz.prog 78 #[(.pointer s)] h17 fun r5 h18 =>
∃ (s2 : Option Addr) (s2l s2c : Nat),
r5 = (.slice s2 s2l s2c) ∧
∃ news1 : List Value, (src h18 s2 (s2l * 24) news1 ∧ ∀ u ∈ news1, u.oneCell' = true) ∧
appK h18 s1 s1l s1c s2l 24 67 72 news1 fun (a1 : Option Addr) (cap1 : Nat) (h19 : Heap) =>
Post (.slice a1 (s1l + s2l) cap1) h19) (
Runs Tryz.prog 78 #[(.pointer s)] h16 fun r6 h20 =>
∃ (s3 : Option Addr) (s3l s3c : Nat),
r6 = (.slice s3 s3l s3c) ∧
∃ news2 : List Value, (src h20 s3 (s3l * 24) news2 ∧ ∀ u ∈ news2, u.oneCell' = true) ∧
appK h20 s1 s1l s1c s3l 24 67 72 news2 fun (a2 : Option Addr) (cap2 : Nat) (h21 : Heap) =>
Post (.slice a2 (s1l + s3l) cap2) h21)) ∧
(
∀ (b20 : Nat) (h22 : Heap), b20 = h14.size → h22 = h14.push (.cells ([(.int .u8 (0 : Int)), (.int .u8 (0 : Int)), (.int .u8 (0 : Int)), (.int .u8 (0 : Int)), (.int .u8 (0 : Int)), (.int .u8 (0 : Int)), (.int .u8 (0 : Int)), (.int .u8 (0 : Int)), (.int .u8 (0 : Int)), (.int .u8 (0 : Int)), (.int .u8 (0 : Int)), (.int .u8 (0 : Int)), (.int .u8 (0 : Int)), (.int .u8 (0 : Int)), (.int .u8 (0 : Int)), (.int .u8 (0 : Int)), (.int .u8 (0 : Int)), (.int .u8 (0 : Int)), (.int .i64 (0 : Int)), (.int .i64 (0 : Int)), (.bool false), (.bool false), (.bool false), (.slice none 0 0)] : List Value).toArray 67) →
∃ cs6 : List Value,
∃ t5 : Bool, lkr Tryz.prog 51 (v1) ((.int .i64 n14)) h22 = some ((.agg (cs6).toArray), t5) ∧
(((cs6)).length = 24 ∧ wrs h22 b20 0 24 ∧ ∀ u ∈ ((cs6) : List Value), u.oneCell' = true) ∧ ∀ h23 : Heap, h23 = setr h22 b20 0 (cs6) →
bcase (!t5) (
onAddr s fun b21 o15 =>
∃ v3 : Value, cell h23 b21 (o15 + 5) = some v3 ∧
∃ n16 : Int, cell h23 b1 19 = some (.int .i64 n16) ∧
∃ cs7 : List Value, row h23 b1 0 24 = some cs7 ∧
mupv Tryz.prog 51 (v3) ((.int .i64 n16)) ((.agg (cs7).toArray)) h23 fun h24 =>
Runs Tryz.prog 78 #[(.pointer s)] h24 fun r7 h25 =>
∃ (s4 : Option Addr) (s4l s4c : Nat),
r7 = (.slice s4 s4l s4c) ∧
∃ news3 : List Value, (src h25 s4 (s4l * 24) news3 ∧ ∀ u ∈ news3, u.oneCell' = true) ∧
appK h25 s1 s1l s1c s4l 24 67 72 news3 fun (a3 : Option Addr) (cap3 : Nat) (h26 : Heap) =>
Post (.slice a3 (s1l + s4l) cap3) h26) (
Runs Tryz.prog 78 #[(.pointer s)] h23 fun r8 h27 =>
∃ (s5 : Option Addr) (s5l s5c : Nat),
r8 = (.slice s5 s5l s5c) ∧
∃ news4 : List Value, (src h27 s5 (s5l * 24) news4 ∧ ∀ u ∈ news4, u.oneCell' = true) ∧
appK h27 s1 s1l s1c s5l 24 67 72 news4 fun (a4 : Option Addr) (cap4 : Nat) (h28 : Heap) =>
Post (.slice a4 (s1l + s5l) cap4) h28))) (
onAddr s fun b22 o16 =>
∃ v4 : Value, cell h12 b22 (o16 + 5) = some v4 ∧
∃ n17 : Int, cell h12 b1 19 = some (.int .i64 n17) ∧
(
∃ cs8 : List Value,
∃ t6 : Bool, lkr Tryz.prog 51 (v4) ((.int .i64 n17)) h12 = some ((.agg (cs8).toArray), t6) ∧
∀ (b23 : Nat) (h29 : Heap), b23 = h12.size → h29 = h12.push (.cells ([(.int .u8 (0 : Int)), (.int .u8 (0 : Int)), (.int .u8 (0 : Int)), (.int .u8 (0 : Int)), (.int .u8 (0 : Int)), (.int .u8 (0 : Int)), (.int .u8 (0 : Int)), (.int .u8 (0 : Int)), (.int .u8 (0 : Int)), (.int .u8 (0 : Int)), (.int .u8 (0 : Int)), (.int .u8 (0 : Int)), (.int .u8 (0 : Int)), (.int .u8 (0 : Int)), (.int .u8 (0 : Int)), (.int .u8 (0 : Int)), (.int .u8 (0 : Int)), (.int .u8 (0 : Int)), (.int .i64 (0 : Int)), (.int .i64 (0 : Int)), (.bool false), (.bool false), (.bool false), (.slice none 0 0)] : List Value).toArray 67) →
(((cs8)).length = 24 ∧ wrs h29 b23 0 24 ∧ ∀ u ∈ ((cs8) : List Value), u.oneCell' = true) ∧ ∀ h30 : Heap, h30 = setr h29 b23 0 (cs8) →
bcase (!t6) (
onAddr s fun b24 o17 =>
∃ v5 : Value, cell h30 b24 (o17 + 5) = some v5 ∧
∃ n18 : Int, cell h30 b1 19 = some (.int .i64 n18) ∧
∃ cs9 : List Value, row h30 b1 0 24 = some cs9 ∧
mupv Tryz.prog 51 (v5) ((.int .i64 n18)) ((.agg (cs9).toArray)) h30 fun h31 =>
Runs Tryz.prog 78 #[(.pointer s)] h31 fun r9 h32 =>
∃ (s6 : Option Addr) (s6l s6c : Nat),
r9 = (.slice s6 s6l s6c) ∧
∃ news5 : List Value, (src h32 s6 (s6l * 24) news5 ∧ ∀ u ∈ news5, u.oneCell' = true) ∧
appK h32 none 0 0 s6l 24 67 72 news5 fun (a5 : Option Addr) (cap5 : Nat) (h33 : Heap) =>
Post (.slice a5 (0 + s6l) cap5) h33) (
Runs Tryz.prog 78 #[(.pointer s)] h30 fun r10 h34 =>
∃ (s7 : Option Addr) (s7l s7c : Nat),
r10 = (.slice s7 s7l s7c) ∧
∃ news6 : List Value, (src h34 s7 (s7l * 24) news6 ∧ ∀ u ∈ news6, u.oneCell' = true) ∧
appK h34 none 0 0 s7l 24 67 72 news6 fun (a6 : Option Addr) (cap6 : Nat) (h35 : Heap) =>
Post (.slice a6 (0 + s7l) cap6) h35)) ∧
(
∀ (b25 : Nat) (h36 : Heap), b25 = h12.size → h36 = h12.push (.cells ([(.int .u8 (0 : Int)), (.int .u8 (0 : Int)), (.int .u8 (0 : Int)), (.int .u8 (0 : Int)), (.int .u8 (0 : Int)), (.int .u8 (0 : Int)), (.int .u8 (0 : Int)), (.int .u8 (0 : Int)), (.int .u8 (0 : Int)), (.int .u8 (0 : Int)), (.int .u8 (0 : Int)), (.int .u8 (0 : Int)), (.int .u8 (0 : Int)), (.int .u8 (0 : Int)), (.int .u8 (0 : Int)), (.int .u8 (0 : Int)), (.int .u8 (0 : Int)), (.int .u8 (0 : Int)), (.int .i64 (0 : Int)), (.int .i64 (0 : Int)), (.bool false), (.bool false), (.bool false), (.slice none 0 0)] : List Value).toArray 67) →
∃ cs10 : List Value,
∃ t7 : Bool, lkr Tryz.prog 51 (v4) ((.int .i64 n17)) h36 = some ((.agg (cs10).toArray), t7) ∧
(((cs10)).length = 24 ∧ wrs h36 b25 0 24 ∧ ∀ u ∈ ((cs10) : List Value), u.oneCell' = true) ∧ ∀ h37 : Heap, h37 = setr h36 b25 0 (cs10) →
bcase (!t7) (
onAddr s fun b26 o18 =>
∃ v6 : Value, cell h37 b26 (o18 + 5) = some v6 ∧
∃ n19 : Int, cell h37 b1 19 = some (.int .i64 n19) ∧
∃ cs11 : List Value, row h37 b1 0 24 = some cs11 ∧
mupv Tryz.prog 51 (v6) ((.int .i64 n19)) ((.agg (cs11).toArray)) h37 fun h38 =>
Runs Tryz.prog 78 #[(.pointer s)] h38 fun r11 h39 =>
∃ (s8 : Option Addr) (s8l s8c : Nat),
r11 = (.slice s8 s8l s8c) ∧
∃ news7 : List Value, (src h39 s8 (s8l * 24) news7 ∧ ∀ u ∈ news7, u.oneCell' = true) ∧
appK h39 none 0 0 s8l 24 67 72 news7 fun (a7 : Option Addr) (cap7 : Nat) (h40 : Heap) =>
Post (.slice a7 (0 + s8l) cap7) h40) (
Runs Tryz.prog 78 #[(.pointer s)] h37 fun r12 h41 =>
∃ (s9 : Option Addr) (s9l s9c : Nat),
r12 = (.slice s9 s9l s9c) ∧
∃ news8 : List Value, (src h41 s9 (s9l * 24) news8 ∧ ∀ u ∈ news8, u.oneCell' = true) ∧
appK h41 none 0 0 s9l 24 67 72 news8 fun (a8 : Option Addr) (cap8 : Nat) (h42 : Heap) =>
Post (.slice a8 (0 + s9l) cap8) h42)))))) :
    Runs Tryz.prog 38 #[(.pointer s), (.agg (f).toArray)] h0 Post :=
  runs_of (args := [(.pointer s), (.agg (f).toArray)]) (fun n => ⟨true, false⟩) (fun _ => []) (fun _ => none) (fun _ => []) Tryz.func38 rfl (by rw [Tryz.ntmps38]; simp) (Eq.mp (by kernel_rfl) H)

theorem vc_seq_Sort (start : Int) (l : Option Addr) (lL lC : Nat) (h0 : Heap) (Post : Value → Heap → Prop) (H :
∀ (b1 : Nat) (h1 : Heap), b1 = h0.size → h1 = h0.push (.cells ([(.int .i64 start)] : List Value).toArray 3) →
∃ (I1 : Option Addr → Nat → Nat → Int → Heap → Prop) (m1 : Option Addr → Nat → Nat → Int → Heap → Nat), I1 none 0 0 (0 : Int) h1 ∧ ∀ _ : Env,
∀ (out_1 : Option Addr) (out_1l out_1c : Nat) (x2 : Int) (h2 : Heap), I1 out_1 out_1l out_1c x2 h2 →
bcase (decide (x2 < ((lL : Nat) : Int))) (
(0 ≤ x2 ∧ x2 < ((lL : Nat) : Int)) ∧
onAddr l fun b2 o1 =>
∃ n1 : Int, cell h2 b2 (o1 + (x2).toNat) = some (.int .i64 n1) ∧
Runs Tryz.prog 71 #[(.int .i64 n1)] h2 fun r1 h3 =>
∃ n2 : Int,
r1 = (.int .i64 n2) ∧
∀ (b3 : Nat) (h4 : Heap), b3 = h3.size → h4 = h3.push (.cells ([(.int .i64 n2)] : List Value).toArray 3) →
∃ news1 : List Value, (row h4 b3 0 1 = some news1 ∧ ∀ u ∈ news1, u.oneCell' = true) ∧
appK h4 out_1 out_1l out_1c 1 1 3 8 news1 fun (a1 : Option Addr) (cap1 : Nat) (h5 : Heap) =>
fits .i64 (x2 + (1 : Int)) ∧
I1 a1 (out_1l + 1) cap1 (x2 + (1 : Int)) h5 ∧ m1 a1 (out_1l + 1) cap1 (x2 + (1 : Int)) h5 < m1 out_1 out_1l out_1c x2 h2) (
Runs Tryz.prog 108 #[(.slice out_1 out_1l out_1c), (.func (.func 109) #[] #[(.pointer (some ⟨b1, 0, none⟩))])] h2 fun r2 h6 =>
Post (.slice out_1 out_1l out_1c) h6)) :
    Runs Tryz.prog 83 #[(.int .i64 start), (.slice l lL lC)] h0 Post :=
  runs_of (args := [(.int .i64 start), (.slice l lL lC)]) (fun n => ⟨true, false⟩) (fun n => match n with | 0 => [(5, .slice), (10, .int .i64)] | _ => []) (fun _ => none) (fun _ => []) Tryz.func83 rfl (by rw [Tryz.ntmps83]; simp) (Eq.mp (by kernel_rfl) H)






theorem vc_muezzinlaw24_first  (h0 : Heap) (Post : Value → Heap → Prop) (H :
Runs Tryz.prog 6 #[] h0 fun r1 h1 =>
∃ cs1 : List Value,
r1 = (.agg (cs1).toArray) ∧
Runs Tryz.prog 7 #[] h1 fun r2 h2 =>
∃ cs2 : List Value,
r2 = (.agg (cs2).toArray) ∧
Runs Tryz.prog 5 #[(.agg (cs1).toArray), (.agg (cs2).toArray), (.int .i64 (8 : Int))] h2 fun r3 h3 =>
∃ p1 : Option Addr,
∃ v1 : Value,
r3 = (.tuple #[(.pointer p1), v1]) ∧
bcase (isNilAddr p1) (
Post (.bool false) h3) (
∃ t1 : Bool, ifeqH Tryz.prog h3 true (v1) (.nilIface) = some t1 ∧
bcase (!t1) (
Post (.bool false) h3) (
Runs Tryz.prog 18 #[(.pointer p1), (.bool false), (.slice none 0 0)] h3 fun r4 h4 =>
∃ (s1 : Option Addr) (s1l s1c : Nat),
∃ (s2 : Option Addr) (s2l s2c : Nat),
r4 = (.tuple #[(.slice s1 s1l s1c), (.slice s2 s2l s2c)]) ∧
∀ (b1 : Nat) (h5 : Heap), b1 = h4.size → h5 = h4.push (.cells ([(.int .u8 (7 : Int))] : List Value).toArray 5) →
Runs Tryz.prog 19 #[(.agg #[(.int .i64 (0 : Int)), (.int .i64 (0 : Int)), (.int .i64 (0 : Int)), (.int .i64 (0 : Int)), (.bool false), (.bool false), (.int .u32 (0 : Int)), (.slice (some ⟨b1, 0, none⟩) 1 1)]), (.int .i64 (3 : Int))] h5 fun r5 h6 =>
∃ (s3 : Option Addr) (s3l s3c : Nat),
r5 = (.slice s3 s3l s3c) ∧
Runs Tryz.prog 18 #[(.pointer p1), (.bool false), (.slice s3 s3l s3c)] h6 fun r6 h7 =>
∃ (s4 : Option Addr) (s4l s4c : Nat),
∃ (s5 : Option Addr) (s5l s5c : Nat),
r6 = (.tuple #[(.slice s4 s4l s4c), (.slice s5 s5l s5c)]) ∧
bcase (decide (((s1l : Nat) : Int) = (0 : Int))) (
bcase (decide (((s2l : Nat) : Int) = (0 : Int))) (
bcase (decide (((s4l : Nat) : Int) = (1 : Int))) (
bcase (decide (((s5l : Nat) : Int) = (28 : Int))) (
Runs Tryz.prog 16 #[(.pointer p1), (.int .i64 (0 : Int)), (.int .i64 (3 : Int))] h7 fun r7 h8 =>
∃ t2 : Bool,
r7 = (.bool t2) ∧
Post (.bool t2) h8) (
Post (.bool false) h7)) (
Post (.bool false) h7)) (
Post (.bool false) h7)) (
Post (.bool false) h7)))) :
    Runs Tryz.prog 4 #[] h0 Post :=
  runs_of (args := []) (fun n => ⟨true, false⟩) (fun _ => []) (fun _ => none) (fun _ => []) Tryz.func4 rfl (by rw [Tryz.ntmps4]; simp) (Eq.mp (by kernel_rfl) H)
end Go.Proofs.YtepodifionoigaaGreatDoor
set_option linter.unusedVariables false
set_option linter.unusedSimpArgs false
set_option maxRecDepth 100000
namespace Go.Proofs.YtepodifionoigaaGreatDoor
open Go.Vc
theorem vc_muezzinref24_New (me : List Value) (bss : List Value) (size : Int) (h0 : Heap) (Post : Value → Heap → Prop) (H :
∀ (b1 : Nat) (h1 : Heap), b1 = h0.size → h1 = h0.push (.cells (me).toArray 30) →
∀ (b2 : Nat) (h2 : Heap), b2 = h1.size → h2 = h1.push (.cells (bss).toArray 30) →
∃ cs1 : List Value, row h2 b1 0 6 = some cs1 ∧
∃ cs2 : List Value, row h2 b2 0 6 = some cs2 ∧
(cs1).length = 6 ∧
(cs2).length = 6 ∧
∀ (b3 : Nat) (h3 : Heap), b3 = h2.size → h3 = h2.push (.cells (((cs1) ++ ((cs2) ++ ([(.int .i64 size), (.bool false), (.int .i64 (0 : Int)), (.int .i64 (0 : Int)), (.slice none 0 0), (.int .i64 (0 : Int)), (.int .u64 (0 : Int)), (.bool false), (.int .i64 (0 : Int)), (.bool false), (.int .i64 (0 : Int)), (.int .i64 (0 : Int)), (.slice none 0 0), (.int .i64 (0 : Int)), (.int .u64 (0 : Int)), (.bool false), (.int .i64 (0 : Int)), (.bool false), (.int .i64 (0 : Int)), (.int .i64 (0 : Int)), (.slice none 0 0), (.int .i64 (0 : Int)), (.int .u64 (0 : Int)), (.bool false), (.int .i64 (0 : Int)), (.bool false), (.int .i64 (0 : Int)), (.int .i64 (0 : Int)), (.slice none 0 0), (.int .i64 (0 : Int)), (.int .u64 (0 : Int)), (.bool false), (.int .i64 (0 : Int)), (.bool false), (.int .i64 (0 : Int)), (.int .i64 (0 : Int)), (.slice none 0 0), (.int .i64 (0 : Int)), (.int .u64 (0 : Int)), (.bool false), (.int .i64 (0 : Int)), (.bool false), (.int .i64 (0 : Int)), (.int .i64 (0 : Int)), (.slice none 0 0), (.int .i64 (0 : Int)), (.int .u64 (0 : Int)), (.bool false), (.int .i64 (0 : Int)), (.bool false), (.int .i64 (0 : Int)), (.int .i64 (0 : Int)), (.slice none 0 0), (.int .i64 (0 : Int)), (.int .u64 (0 : Int)), (.bool false), (.int .i64 (0 : Int)), (.bool false), (.int .i64 (0 : Int)), (.int .i64 (0 : Int)), (.slice none 0 0), (.int .i64 (0 : Int)), (.int .u64 (0 : Int)), (.bool false), (.int .i64 (0 : Int))] : List Value)))).toArray 65) →
Post (.pointer (some ⟨b3, 0, none⟩)) h3) :
    Runs Tryz.prog 9 #[(.agg (me).toArray), (.agg (bss).toArray), (.int .i64 size)] h0 Post :=
  runs_of (args := [(.agg (me).toArray), (.agg (bss).toArray), (.int .i64 size)]) (fun n => ⟨true, false⟩) (fun _ => []) (fun _ => none) (fun _ => []) Tryz.func9 rfl (by rw [Tryz.ntmps9]; simp) (Eq.mp (by kernel_rfl) H)

theorem vc_muezzinref24_part_find (p : Option Addr) (seq : Int) (h0 : Heap) (Post : Value → Heap → Prop) (H :
∃ (I1 : Int → Heap → Prop) (m1 : Int → Heap → Nat), I1 (0 : Int) h0 ∧ ∀ _ : Env,
∀ (i_1 : Int) (h1 : Heap), I1 i_1 h1 →
onAddr p fun b1 o1 =>
∃ (s1 : Option Addr) (s1l s1c : Nat), cell h1 b1 (o1 + 3) = some (.slice s1 s1l s1c) ∧
bcase (decide (i_1 < ((s1l : Nat) : Int))) (
onAddr p fun b2 o2 =>
∃ (s2 : Option Addr) (s2l s2c : Nat), cell h1 b2 (o2 + 3) = some (.slice s2 s2l s2c) ∧
(0 ≤ i_1 ∧ i_1 < ((s2l : Nat) : Int)) ∧
onAddr s2 fun b3 o3 =>
∃ n1 : Int, cell h1 b3 ((o3 + ((i_1).toNat * 24)) + 19) = some (.int .i64 n1) ∧
bcase (decide (n1 = seq)) (
Post (.int .i64 i_1) h1) (
fits .i64 (i_1 + (1 : Int)) ∧
I1 (i_1 + (1 : Int)) h1 ∧ m1 (i_1 + (1 : Int)) h1 < m1 i_1 h1)) (
Post (.int .i64 (-1 : Int)) h1)) :
    Runs Tryz.prog 89 #[(.pointer p), (.int .i64 seq)] h0 Post :=
  runs_of (args := [(.pointer p), (.int .i64 seq)]) (fun n => ⟨true, false⟩) (fun n => match n with | 0 => [(5, .int .i64)] | _ => []) (fun _ => none) (fun _ => []) Tryz.func89 rfl (by rw [Tryz.ntmps89]; simp) (Eq.mp (by kernel_rfl) H)

theorem vc_muezzinref24_part_out (p : Option Addr) (up : Option Addr) (seq : Int) (h0 : Heap) (Post : Value → Heap → Prop) (H :
Runs Tryz.prog 89 #[(.pointer p), (.int .i64 seq)] h0 fun r1 h1 =>
∃ n1 : Int,
r1 = (.int .i64 n1) ∧
bcase (decide (n1 < (0 : Int))) (
Post (.bool false) h1) (
onAddr up fun b1 o1 =>
∃ (s1 : Option Addr) (s1l s1c : Nat), cell h1 b1 o1 = some (.slice s1 s1l s1c) ∧
onAddr p fun b2 o2 =>
∃ (s2 : Option Addr) (s2l s2c : Nat), cell h1 b2 (o2 + 3) = some (.slice s2 s2l s2c) ∧
(0 ≤ n1 ∧ n1 < ((s2l : Nat) : Int)) ∧
onAddr s2 fun b3 o3 =>
∃ cs1 : List Value, row h1 b3 (o3 + ((n1).toNat * 24)) 24 = some cs1 ∧
(cs1).length = 24 ∧
∀ (b4 : Nat) (h2 : Heap), b4 = h1.size → h2 = h1.push (.cells (((cs1) ++ [])).toArray 67) →
∃ news1 : List Value, (row h2 b4 0 24 = some news1 ∧ ∀ u ∈ news1, u.oneCell' = true) ∧
appK h2 s1 s1l s1c 1 24 67 72 news1 fun (a1 : Option Addr) (cap1 : Nat) (h3 : Heap) =>
onAddr up fun b5 o4 =>
wr h3 b5 o4 ∧ ∀ h4 : Heap, h4 = setc h3 b5 o4 (.slice a1 (s1l + 1) cap1) →
∀ (b6 : Nat) (h5 : Heap), b6 = h4.size → h5 = h4.push (.cells ([] : List Value).toArray 67) →
onAddr p fun b7 o5 =>
∃ (s3 : Option Addr) (s3l s3c : Nat), cell h5 b7 (o5 + 3) = some (.slice s3 s3l s3c) ∧
(0 ≤ (0 : Int) ∧ (0 : Int) ≤ n1 ∧ n1 ≤ ((s3c : Nat) : Int)) ∧
∃ news2 : List Value, (src h5 (slcAddr s3 0 s3c 0) ((n1).toNat * 24) news2 ∧ ∀ u ∈ news2, u.oneCell' = true) ∧
appK h5 (some ⟨b6, 0, none⟩) 0 0 (n1).toNat 24 67 72 news2 fun (a2 : Option Addr) (cap2 : Nat) (h6 : Heap) =>
onAddr p fun b8 o6 =>
∃ (s4 : Option Addr) (s4l s4c : Nat), cell h6 b8 (o6 + 3) = some (.slice s4 s4l s4c) ∧
fits .i64 (n1 + (1 : Int)) ∧
(0 ≤ (n1 + (1 : Int)) ∧ (n1 + (1 : Int)) ≤ ((s4l : Nat) : Int)) ∧
∃ news3 : List Value, (src h6 (slcAddr s4 ((n1 + (1 : Int))).toNat s4c (((n1 + (1 : Int))).toNat * 24)) ((s4l - ((n1 + (1 : Int))).toNat) * 24) news3 ∧ ∀ u ∈ news3, u.oneCell' = true) ∧
appK h6 a2 (0 + (n1).toNat) cap2 (s4l - ((n1 + (1 : Int))).toNat) 24 67 72 news3 fun (a3 : Option Addr) (cap3 : Nat) (h7 : Heap) =>
onAddr p fun b9 o7 =>
wr h7 b9 (o7 + 3) ∧ ∀ h8 : Heap, h8 = setc h7 b9 (o7 + 3) (.slice a3 ((0 + (n1).toNat) + (s4l - ((n1 + (1 : Int))).toNat)) cap3) →
Post (.bool true) h8)) :
    Runs Tryz.prog 84 #[(.pointer p), (.pointer up), (.int .i64 seq)] h0 Post :=
  runs_of (args := [(.pointer p), (.pointer up), (.int .i64 seq)]) (fun n => ⟨true, false⟩) (fun _ => []) (fun _ => none) (fun _ => []) Tryz.func84 rfl (by rw [Tryz.ntmps84]; simp) (Eq.mp (by kernel_rfl) H)

theorem vc_muezzinref24_part_to (p : Option Addr) (up : Option Addr) (seq : Int) (h0 : Heap) (Post : Value → Heap → Prop) (H :
∃ (I1 : Heap → Prop) (m1 : Heap → Nat), I1 h0 ∧ ∀ _ : Env,
∀ (h1 : Heap), I1 h1 →
onAddr p fun b1 o1 =>
∃ n1 : Int, cell h1 b1 (o1 + 1) = some (.int .i64 n1) ∧
bcase (!decide (n1 = seq)) (
onAddr p fun b2 o2 =>
∃ n2 : Int, cell h1 b2 (o2 + 1) = some (.int .i64 n2) ∧
Runs Tryz.prog 84 #[(.pointer p), (.pointer up), (.int .i64 n2)] h1 fun r1 h2 =>
∃ t1 : Bool,
r1 = (.bool t1) ∧
onAddr p fun b3 o3 =>
∃ n3 : Int, cell h2 b3 (o3 + 1) = some (.int .i64 n3) ∧
Runs Tryz.prog 24 #[(.int .i64 n3), (.int .i64 (1 : Int))] h2 fun r2 h3 =>
∃ n4 : Int,
r2 = (.int .i64 n4) ∧
onAddr p fun b4 o4 =>
wr h3 b4 (o4 + 1) ∧ ∀ h4 : Heap, h4 = setc h3 b4 (o4 + 1) (.int .i64 n4) →
I1 h4 ∧ m1 h4 < m1 h1) (
Post (.tuple #[]) h1)) :
    Runs Tryz.prog 66 #[(.pointer p), (.pointer up), (.int .i64 seq)] h0 Post :=
  runs_of (args := [(.pointer p), (.pointer up), (.int .i64 seq)]) (fun n => ⟨true, false⟩) (fun n => match n with | 0 => [] | _ => []) (fun _ => none) (fun _ => []) Tryz.func66 rfl (by rw [Tryz.ntmps66]; simp) (Eq.mp (by kernel_rfl) H)

theorem vc_muezzinref24_part_run (p : Option Addr) (up : Option Addr) (h0 : Heap) (Post : Value → Heap → Prop) (H :
∃ (I1 : Heap → Prop) (m1 : Heap → Nat), I1 h0 ∧ ∀ _ : Env,
∀ (h1 : Heap), I1 h1 →
onAddr p fun b1 o1 =>
∃ n1 : Int, cell h1 b1 (o1 + 1) = some (.int .i64 n1) ∧
Runs Tryz.prog 84 #[(.pointer p), (.pointer up), (.int .i64 n1)] h1 fun r1 h2 =>
∃ t1 : Bool,
r1 = (.bool t1) ∧
bcase t1 (
onAddr p fun b2 o2 =>
∃ n2 : Int, cell h2 b2 (o2 + 1) = some (.int .i64 n2) ∧
Runs Tryz.prog 24 #[(.int .i64 n2), (.int .i64 (1 : Int))] h2 fun r2 h3 =>
∃ n3 : Int,
r2 = (.int .i64 n3) ∧
onAddr p fun b3 o3 =>
wr h3 b3 (o3 + 1) ∧ ∀ h4 : Heap, h4 = setc h3 b3 (o3 + 1) (.int .i64 n3) →
I1 h4 ∧ m1 h4 < m1 h1) (
Post (.tuple #[]) h2)) :
    Runs Tryz.prog 67 #[(.pointer p), (.pointer up)] h0 Post :=
  runs_of (args := [(.pointer p), (.pointer up)]) (fun n => ⟨true, false⟩) (fun n => match n with | 0 => [] | _ => []) (fun _ => none) (fun _ => []) Tryz.func67 rfl (by rw [Tryz.ntmps67]; simp) (Eq.mp (by kernel_rfl) H)

theorem vc_muezzinref24_part_mark (p : Option Addr) (seq : Int) (h0 : Heap) (Post : Value → Heap → Prop) (H :
onAddr p fun b1 o1 =>
∃ n1 : Int, cell h0 b1 (o1 + 4) = some (.int .i64 n1) ∧
Runs Tryz.prog 35 #[(.int .i64 n1), (.int .i64 seq)] h0 fun r1 h1 =>
∃ n2 : Int,
r1 = (.int .i64 n2) ∧
bcase (decide ((64 : Int) ≤ n2)) (
bcase (decide (n2 ≤ (2047 : Int))) (
Runs Tryz.prog 24 #[(.int .i64 seq), (.int .i64 (-63 : Int))] h1 fun r2 h2 =>
∃ n3 : Int,
r2 = (.int .i64 n3) ∧
onAddr p fun b2 o2 =>
∃ n4 : Int, cell h2 b2 (o2 + 4) = some (.int .i64 n4) ∧
Runs Tryz.prog 35 #[(.int .i64 n4), (.int .i64 n3)] h2 fun r3 h3 =>
∃ n5 : Int,
r3 = (.int .i64 n5) ∧
Runs Tryz.prog 68 #[(.pointer p), (.int .i64 n5)] h3 fun r4 h4 =>
bcase (decide ((63 : Int) < (64 : Int))) (
onAddr p fun b3 o3 =>
∃ n6 : Int, cell h4 b3 (o3 + 5) = some (.int .u64 n6) ∧
(0 ≤ (IntKind.u64.wrap (63 : Int)) ∧ (IntKind.u64.wrap (63 : Int)) ≤ kbits .u64) ∧
onAddr p fun b4 o4 =>
wr h4 b4 (o4 + 5) ∧ ∀ h5 : Heap, h5 = setc h4 b4 (o4 + 5) (.int .u64 (bits .or .u64 n6 (IntKind.u64.wrap ((1 : Int) * (pow2 (IntKind.u64.wrap (63 : Int))))))) →
Post (.tuple #[]) h5) (
Post (.tuple #[]) h4)) (
bcase (decide (n2 < (64 : Int))) (
onAddr p fun b5 o5 =>
∃ n7 : Int, cell h1 b5 (o5 + 5) = some (.int .u64 n7) ∧
(0 ≤ (IntKind.u64.wrap n2) ∧ (IntKind.u64.wrap n2) ≤ kbits .u64) ∧
onAddr p fun b6 o6 =>
wr h1 b6 (o6 + 5) ∧ ∀ h6 : Heap, h6 = setc h1 b6 (o6 + 5) (.int .u64 (bits .or .u64 n7 (IntKind.u64.wrap ((1 : Int) * (pow2 (IntKind.u64.wrap n2)))))) →
Post (.tuple #[]) h6) (
Post (.tuple #[]) h1))) (
bcase (decide (n2 < (64 : Int))) (
onAddr p fun b7 o7 =>
∃ n8 : Int, cell h1 b7 (o7 + 5) = some (.int .u64 n8) ∧
(0 ≤ (IntKind.u64.wrap n2) ∧ (IntKind.u64.wrap n2) ≤ kbits .u64) ∧
onAddr p fun b8 o8 =>
wr h1 b8 (o8 + 5) ∧ ∀ h7 : Heap, h7 = setc h1 b8 (o8 + 5) (.int .u64 (bits .or .u64 n8 (IntKind.u64.wrap ((1 : Int) * (pow2 (IntKind.u64.wrap n2)))))) →
Post (.tuple #[]) h7) (
Post (.tuple #[]) h1))) :
    Runs Tryz.prog 88 #[(.pointer p), (.int .i64 seq)] h0 Post :=
  runs_of (args := [(.pointer p), (.int .i64 seq)]) (fun n => ⟨false, false⟩) (fun _ => []) (fun _ => none) (fun _ => []) Tryz.func88 rfl (by rw [Tryz.ntmps88]; simp) (Eq.mp (by kernel_rfl) H)

theorem vc_muezzinref24_part_slide (p : Option Addr) (n : Int) (h0 : Heap) (Post : Value → Heap → Prop) (H :
bcase (decide ((64 : Int) ≤ n)) (
onAddr p fun b1 o1 =>
wr h0 b1 (o1 + 5) ∧ ∀ h1 : Heap, h1 = setc h0 b1 (o1 + 5) (.int .u64 (0 : Int)) →
onAddr p fun b2 o2 =>
∃ n1 : Int, cell h1 b2 (o2 + 4) = some (.int .i64 n1) ∧
Runs Tryz.prog 24 #[(.int .i64 n1), (.int .i64 n)] h1 fun r1 h2 =>
∃ n2 : Int,
r1 = (.int .i64 n2) ∧
onAddr p fun b3 o3 =>
wr h2 b3 (o3 + 4) ∧ ∀ h3 : Heap, h3 = setc h2 b3 (o3 + 4) (.int .i64 n2) →
Post (.tuple #[]) h3) (
onAddr p fun b4 o4 =>
∃ n3 : Int, cell h0 b4 (o4 + 5) = some (.int .u64 n3) ∧
fits .u64 n ∧
(0 ≤ n ∧ n ≤ kbits .u64) ∧
onAddr p fun b5 o5 =>
wr h0 b5 (o5 + 5) ∧ ∀ h4 : Heap, h4 = setc h0 b5 (o5 + 5) (.int .u64 (n3 / (pow2 n))) →
onAddr p fun b6 o6 =>
∃ n4 : Int, cell h4 b6 (o6 + 4) = some (.int .i64 n4) ∧
Runs Tryz.prog 24 #[(.int .i64 n4), (.int .i64 n)] h4 fun r2 h5 =>
∃ n5 : Int,
r2 = (.int .i64 n5) ∧
onAddr p fun b7 o7 =>
wr h5 b7 (o7 + 4) ∧ ∀ h6 : Heap, h6 = setc h5 b7 (o7 + 4) (.int .i64 n5) →
Post (.tuple #[]) h6)) :
    Runs Tryz.prog 68 #[(.pointer p), (.int .i64 n)] h0 Post :=
  runs_of (args := [(.pointer p), (.int .i64 n)]) (fun n => ⟨true, false⟩) (fun _ => []) (fun _ => none) (fun _ => []) Tryz.func68 rfl (by rw [Tryz.ntmps68]; simp) (Eq.mp (by kernel_rfl) H)

theorem vc_muezzinref24_part_leave (p : Option Addr) (up : Option Addr) (h0 : Heap) (Post : Value → Heap → Prop) (H :
∃ (I1 : Heap → Prop) (m1 : Heap → Nat), I1 h0 ∧ ∀ _ : Env,
∀ (h1 : Heap), I1 h1 →
onAddr p fun b1 o1 =>
∃ (s1 : Option Addr) (s1l s1c : Nat), cell h1 b1 (o1 + 3) = some (.slice s1 s1l s1c) ∧
bcase (decide ((0 : Int) < ((s1l : Nat) : Int))) (
onAddr p fun b2 o2 =>
∃ n1 : Int, cell h1 b2 (o2 + 1) = some (.int .i64 n1) ∧
Runs Tryz.prog 84 #[(.pointer p), (.pointer up), (.int .i64 n1)] h1 fun r1 h2 =>
∃ t1 : Bool,
r1 = (.bool t1) ∧
onAddr p fun b3 o3 =>
∃ n2 : Int, cell h2 b3 (o3 + 1) = some (.int .i64 n2) ∧
Runs Tryz.prog 24 #[(.int .i64 n2), (.int .i64 (1 : Int))] h2 fun r2 h3 =>
∃ n3 : Int,
r2 = (.int .i64 n3) ∧
onAddr p fun b4 o4 =>
wr h3 b4 (o4 + 1) ∧ ∀ h4 : Heap, h4 = setc h3 b4 (o4 + 1) (.int .i64 n3) →
I1 h4 ∧ m1 h4 < m1 h1) (
Post (.tuple #[]) h1)) :
    Runs Tryz.prog 54 #[(.pointer p), (.pointer up)] h0 Post :=
  runs_of (args := [(.pointer p), (.pointer up)]) (fun n => ⟨true, false⟩) (fun n => match n with | 0 => [] | _ => []) (fun _ => none) (fun _ => []) Tryz.func54 rfl (by rw [Tryz.ntmps54]; simp) (Eq.mp (by kernel_rfl) H)

theorem vc_muezzinref24_Station_frame (s : Nat) (up : Option Addr) (f : List Value) (h0 : Heap) (Post : Value → Heap → Prop) (H :
∀ (b1 : Nat) (h1 : Heap), b1 = h0.size → h1 = h0.push (.cells (f).toArray 67) →
∃ n1 : Int, cell h1 b1 18 = some (.int .i64 n1) ∧
(0 ≤ n1 ∧ n1 < ((8 : Nat) : Int)) ∧
∃ t1 : Bool, cell h1 s (13 + ((n1).toNat * 8)) = some (.bool t1) ∧
bcase (!t1) (
∃ t2 : Bool, cell h1 b1 20 = some (.bool t2) ∧
bcase t2 (
∃ t3 : Bool, cell h1 s ((13 + ((n1).toNat * 8)) + 6) = some (.bool t3) ∧
bcase t3 (
∃ n2 : Int, cell h1 s ((13 + ((n1).toNat * 8)) + 7) = some (.int .i64 n2) ∧
∃ n3 : Int, cell h1 b1 19 = some (.int .i64 n3) ∧
wr h1 s ((13 + ((n1).toNat * 8)) + 6) ∧ ∀ h2 : Heap, h2 = setc h1 s ((13 + ((n1).toNat * 8)) + 6) (.bool true) →
∃ n4 : Int, cell h2 b1 19 = some (.int .i64 n4) ∧
wr h2 s ((13 + ((n1).toNat * 8)) + 7) ∧ ∀ h3 : Heap, h3 = setc h2 s ((13 + ((n1).toNat * 8)) + 7) (.int .i64 n4) →
bcase (!(decide (n2 = n3))) (
onAddr up fun b2 o1 =>
∃ (s1 : Option Addr) (s1l s1c : Nat), cell h3 b2 o1 = some (.slice s1 s1l s1c) ∧
∃ cs1 : List Value, row h3 b1 0 24 = some cs1 ∧
(cs1).length = 24 ∧
∀ (b3 : Nat) (h4 : Heap), b3 = h3.size → h4 = h3.push (.cells (((cs1) ++ [])).toArray 67) →
∃ news1 : List Value, (row h4 b3 0 24 = some news1 ∧ ∀ u ∈ news1, u.oneCell' = true) ∧
appK h4 s1 s1l s1c 1 24 67 72 news1 fun (a1 : Option Addr) (cap1 : Nat) (h5 : Heap) =>
onAddr up fun b4 o2 =>
wr h5 b4 o2 ∧ ∀ h6 : Heap, h6 = setc h5 b4 o2 (.slice a1 (s1l + 1) cap1) →
Post (.tuple #[]) h6) (
Post (.tuple #[]) h3)) (
wr h1 s ((13 + ((n1).toNat * 8)) + 6) ∧ ∀ h7 : Heap, h7 = setc h1 s ((13 + ((n1).toNat * 8)) + 6) (.bool true) →
∃ n5 : Int, cell h7 b1 19 = some (.int .i64 n5) ∧
wr h7 s ((13 + ((n1).toNat * 8)) + 7) ∧ ∀ h8 : Heap, h8 = setc h7 s ((13 + ((n1).toNat * 8)) + 7) (.int .i64 n5) →
onAddr up fun b5 o3 =>
∃ (s2 : Option Addr) (s2l s2c : Nat), cell h8 b5 o3 = some (.slice s2 s2l s2c) ∧
∃ cs2 : List Value, row h8 b1 0 24 = some cs2 ∧
(cs2).length = 24 ∧
∀ (b6 : Nat) (h9 : Heap), b6 = h8.size → h9 = h8.push (.cells (((cs2) ++ [])).toArray 67) →
∃ news2 : List Value, (row h9 b6 0 24 = some news2 ∧ ∀ u ∈ news2, u.oneCell' = true) ∧
appK h9 s2 s2l s2c 1 24 67 72 news2 fun (a2 : Option Addr) (cap2 : Nat) (h10 : Heap) =>
onAddr up fun b7 o4 =>
wr h10 b7 o4 ∧ ∀ h11 : Heap, h11 = setc h10 b7 o4 (.slice a2 (s2l + 1) cap2) →
Post (.tuple #[]) h11)) (
wr h1 s ((13 + ((n1).toNat * 8)) + 6) ∧ ∀ h12 : Heap, h12 = setc h1 s ((13 + ((n1).toNat * 8)) + 6) (.bool true) →
∃ n6 : Int, cell h12 b1 19 = some (.int .i64 n6) ∧
wr h12 s ((13 + ((n1).toNat * 8)) + 7) ∧ ∀ h13 : Heap, h13 = setc h12 s ((13 + ((n1).toNat * 8)) + 7) (.int .i64 n6) →
onAddr up fun b8 o5 =>
∃ (s3 : Option Addr) (s3l s3c : Nat), cell h13 b8 o5 = some (.slice s3 s3l s3c) ∧
∃ cs3 : List Value, row h13 b1 0 24 = some cs3 ∧
(cs3).length = 24 ∧
∀ (b9 : Nat) (h14 : Heap), b9 = h13.size → h14 = h13.push (.cells (((cs3) ++ [])).toArray 67) →
∃ news3 : List Value, (row h14 b9 0 24 = some news3 ∧ ∀ u ∈ news3, u.oneCell' = true) ∧
appK h14 s3 s3l s3c 1 24 67 72 news3 fun (a3 : Option Addr) (cap3 : Nat) (h15 : Heap) =>
onAddr up fun b10 o6 =>
wr h15 b10 o6 ∧ ∀ h16 : Heap, h16 = setc h15 b10 o6 (.slice a3 (s3l + 1) cap3) →
Post (.tuple #[]) h16)) (
∃ n7 : Int, cell h1 b1 19 = some (.int .i64 n7) ∧
Runs Tryz.prog 88 #[(.pointer (some ⟨s, (13 + ((n1).toNat * 8)), none⟩)), (.int .i64 n7)] h1 fun r1 h17 =>
∃ n8 : Int, cell h17 s ((13 + ((n1).toNat * 8)) + 1) = some (.int .i64 n8) ∧
∃ n9 : Int, cell h17 b1 19 = some (.int .i64 n9) ∧
Runs Tryz.prog 35 #[(.int .i64 n8), (.int .i64 n9)] h17 fun r2 h18 =>
∃ n10 : Int,
r2 = (.int .i64 n10) ∧
bcase (decide ((2048 : Int) ≤ n10)) (
Post (.tuple #[]) h18) (
∃ n11 : Int, cell h18 s ((13 + ((n1).toNat * 8)) + 2) = some (.int .i64 n11) ∧
bcase (decide (n11 ≤ n10)) (
∃ n12 : Int, cell h18 b1 19 = some (.int .i64 n12) ∧
∃ n13 : Int, cell h18 s ((13 + ((n1).toNat * 8)) + 2) = some (.int .i64 n13) ∧
fits .i64 ((1 : Int) - n13) ∧
Runs Tryz.prog 24 #[(.int .i64 n12), (.int .i64 ((1 : Int) - n13))] h18 fun r3 h19 =>
∃ n14 : Int,
r3 = (.int .i64 n14) ∧
Runs Tryz.prog 66 #[(.pointer (some ⟨s, (13 + ((n1).toNat * 8)), none⟩)), (.pointer up), (.int .i64 n14)] h19 fun r4 h20 =>
∃ n15 : Int, cell h20 b1 19 = some (.int .i64 n15) ∧
Runs Tryz.prog 89 #[(.pointer (some ⟨s, (13 + ((n1).toNat * 8)), none⟩)), (.int .i64 n15)] h20 fun r5 h21 =>
∃ n16 : Int,
r5 = (.int .i64 n16) ∧
bcase (decide (n16 < (0 : Int))) (
∃ (s4 : Option Addr) (s4l s4c : Nat), cell h21 s ((13 + ((n1).toNat * 8)) + 3) = some (.slice s4 s4l s4c) ∧
∃ cs4 : List Value, row h21 b1 0 24 = some cs4 ∧
(cs4).length = 24 ∧
∀ (b11 : Nat) (h22 : Heap), b11 = h21.size → h22 = h21.push (.cells (((cs4) ++ [])).toArray 67) →
∃ news4 : List Value, (row h22 b11 0 24 = some news4 ∧ ∀ u ∈ news4, u.oneCell' = true) ∧
appK h22 s4 s4l s4c 1 24 67 72 news4 fun (a4 : Option Addr) (cap4 : Nat) (h23 : Heap) =>
wr h23 s ((13 + ((n1).toNat * 8)) + 3) ∧ ∀ h24 : Heap, h24 = setc h23 s ((13 + ((n1).toNat * 8)) + 3) (.slice a4 (s4l + 1) cap4) →
Runs Tryz.prog 67 #[(.pointer (some ⟨s, (13 + ((n1).toNat * 8)), none⟩)), (.pointer up)] h24 fun r6 h25 =>
Post (.tuple #[]) h25) (
Runs Tryz.prog 67 #[(.pointer (some ⟨s, (13 + ((n1).toNat * 8)), none⟩)), (.pointer up)] h21 fun r7 h26 =>
Post (.tuple #[]) h26)) (
∃ n17 : Int, cell h18 b1 19 = some (.int .i64 n17) ∧
Runs Tryz.prog 89 #[(.pointer (some ⟨s, (13 + ((n1).toNat * 8)), none⟩)), (.int .i64 n17)] h18 fun r8 h27 =>
∃ n18 : Int,
r8 = (.int .i64 n18) ∧
bcase (decide (n18 < (0 : Int))) (
∃ (s5 : Option Addr) (s5l s5c : Nat), cell h27 s ((13 + ((n1).toNat * 8)) + 3) = some (.slice s5 s5l s5c) ∧
∃ cs5 : List Value, row h27 b1 0 24 = some cs5 ∧
(cs5).length = 24 ∧
∀ (b12 : Nat) (h28 : Heap), b12 = h27.size → h28 = h27.push (.cells (((cs5) ++ [])).toArray 67) →
∃ news5 : List Value, (row h28 b12 0 24 = some news5 ∧ ∀ u ∈ news5, u.oneCell' = true) ∧
appK h28 s5 s5l s5c 1 24 67 72 news5 fun (a5 : Option Addr) (cap5 : Nat) (h29 : Heap) =>
wr h29 s ((13 + ((n1).toNat * 8)) + 3) ∧ ∀ h30 : Heap, h30 = setc h29 s ((13 + ((n1).toNat * 8)) + 3) (.slice a5 (s5l + 1) cap5) →
Runs Tryz.prog 67 #[(.pointer (some ⟨s, (13 + ((n1).toNat * 8)), none⟩)), (.pointer up)] h30 fun r9 h31 =>
Post (.tuple #[]) h31) (
Runs Tryz.prog 67 #[(.pointer (some ⟨s, (13 + ((n1).toNat * 8)), none⟩)), (.pointer up)] h27 fun r10 h32 =>
Post (.tuple #[]) h32))))) :
    Runs Tryz.prog 58 #[(.pointer (some ⟨s, 0, none⟩)), (.pointer up), (.agg (f).toArray)] h0 Post :=
  runs_of (args := [(.pointer (some ⟨s, 0, none⟩)), (.pointer up), (.agg (f).toArray)]) (fun n => ⟨true, false⟩) (fun _ => []) (fun _ => none) (fun _ => []) Tryz.func58 rfl (by rw [Tryz.ntmps58]; simp) (Eq.mp (by kernel_rfl) H)

theorem vc_muezzinref24_Station_answer (s : Nat) (tid : Int) (h0 : Heap) (Post : Value → Heap → Prop) (H :
(0 ≤ tid ∧ tid < ((8 : Nat) : Int)) ∧
∃ cs1 : List Value, row h0 s 6 6 = some cs1 ∧
∃ cs2 : List Value, row h0 s 0 6 = some cs2 ∧
∃ n1 : Int, cell h0 s ((13 + ((tid).toNat * 8)) + 7) = some (.int .i64 n1) ∧
(cs1).length = 6 ∧
(cs2).length = 6 ∧
∀ (b1 : Nat) (h1 : Heap), b1 = h0.size → h1 = h0.push (.cells ([(.int .u8 (0 : Int)), (.int .u8 (0 : Int)), (.int .u8 (0 : Int)), (.int .u8 (0 : Int)), (.int .u8 (0 : Int)), (.int .u8 (0 : Int)), (.int .u8 (0 : Int)), (.int .u8 (0 : Int)), (.int .u8 (0 : Int)), (.int .u8 (0 : Int)), (.int .u8 (0 : Int)), (.int .u8 (0 : Int)), (.int .i64 (0 : Int)), (.int .i64 (0 : Int)), (.int .u64 (0 : Int))] : List Value).toArray 135) →
(((((cs1) ++ ((cs2) ++ ([(.int .i64 tid), (.int .i64 n1), (.int .u64 (1 : Int))] : List Value))))).length = 15 ∧ wrs h1 b1 0 15 ∧ ∀ u ∈ ((((cs1) ++ ((cs2) ++ ([(.int .i64 tid), (.int .i64 n1), (.int .u64 (1 : Int))] : List Value)))) : List Value), u.oneCell' = true) ∧ ∀ h2 : Heap, h2 = setr h1 b1 0 (((cs1) ++ ((cs2) ++ ([(.int .i64 tid), (.int .i64 n1), (.int .u64 (1 : Int))] : List Value)))) →
∃ t1 : Bool, cell h2 s (13 + ((tid).toNat * 8)) = some (.bool t1) ∧
bcase t1 (
∃ n2 : Int, cell h2 s ((13 + ((tid).toNat * 8)) + 4) = some (.int .i64 n2) ∧
wr h2 b1 13 ∧ ∀ h3 : Heap, h3 = setc h2 b1 13 (.int .i64 n2) →
∃ n3 : Int, cell h3 s ((13 + ((tid).toNat * 8)) + 5) = some (.int .u64 n3) ∧
wr h3 b1 14 ∧ ∀ h4 : Heap, h4 = setc h3 b1 14 (.int .u64 n3) →
∃ cs3 : List Value, row h4 b1 0 15 = some cs3 ∧
Runs Tryz.prog 90 #[(.agg (cs3).toArray)] h4 fun r1 h5 =>
∃ (s1 : Option Addr) (s1l s1c : Nat),
∃ n4 : Int,
r1 = (.tuple #[(.slice s1 s1l s1c), (.int .i64 n4)]) ∧
Post (.slice s1 s1l s1c) h5) (
∃ cs4 : List Value, row h2 b1 0 15 = some cs4 ∧
Runs Tryz.prog 90 #[(.agg (cs4).toArray)] h2 fun r2 h6 =>
∃ (s2 : Option Addr) (s2l s2c : Nat),
∃ n5 : Int,
r2 = (.tuple #[(.slice s2 s2l s2c), (.int .i64 n5)]) ∧
Post (.slice s2 s2l s2c) h6)) :
    Runs Tryz.prog 59 #[(.pointer (some ⟨s, 0, none⟩)), (.int .i64 tid)] h0 Post :=
  runs_of (args := [(.pointer (some ⟨s, 0, none⟩)), (.int .i64 tid)]) (fun n => ⟨true, false⟩) (fun _ => []) (fun _ => none) (fun _ => []) Tryz.func59 rfl (by rw [Tryz.ntmps59]; simp) (Eq.mp (by kernel_rfl) H)

theorem vc_muezzinref24_Station_Data (s : Nat) (agg : Bool) (b : Option Addr) (bL bC : Nat) (h0 : Heap) (Post : Value → Heap → Prop) (H :
∀ (b1 : Nat) (h1 : Heap), b1 = h0.size → h1 = h0.push (.cells ([(.slice b bL bC)] : List Value).toArray 36) →
bcase agg (
Runs Tryz.prog 55 #[(.slice b bL bC)] h1 fun r1 h2 =>
∃ (s1 : Option Addr) (s1l s1c : Nat),
r1 = (.slice s1 s1l s1c) ∧
∀ (b2 : Nat) (h3 : Heap), b2 = h2.size → h3 = h2.push (.cells ([(.slice none 0 0)] : List Value).toArray 46) →
∃ (I1 : Int → Int → Heap → Prop) (m1 : Int → Int → Heap → Nat), I1 (-1 : Int) (0 : Int) h3 ∧ ∀ _ : Env,
∀ (tid_1 : Int) (i_1 : Int) (h4 : Heap), I1 tid_1 i_1 h4 →
bcase (decide (i_1 < ((s1l : Nat) : Int))) (
(0 ≤ i_1 ∧ i_1 < ((s1l : Nat) : Int)) ∧
onAddr s1 fun b3 o1 =>
∃ (s2 : Option Addr) (s2l s2c : Nat), cell h4 b3 (o1 + (i_1).toNat) = some (.slice s2 s2l s2c) ∧
Runs Tryz.prog 56 #[(.slice s2 s2l s2c)] h4 fun r2 h5 =>
∃ cs1 : List Value,
∃ n1 : Int,
r2 = (.tuple #[(.agg (cs1).toArray), (.int .i64 n1)]) ∧
∀ (b4 : Nat) (h6 : Heap), b4 = h5.size → h6 = h5.push (.cells ([(.int .u8 (0 : Int)), (.int .u8 (0 : Int)), (.int .u8 (0 : Int)), (.int .u8 (0 : Int)), (.int .u8 (0 : Int)), (.int .u8 (0 : Int)), (.int .u8 (0 : Int)), (.int .u8 (0 : Int)), (.int .u8 (0 : Int)), (.int .u8 (0 : Int)), (.int .u8 (0 : Int)), (.int .u8 (0 : Int)), (.int .u8 (0 : Int)), (.int .u8 (0 : Int)), (.int .u8 (0 : Int)), (.int .u8 (0 : Int)), (.int .u8 (0 : Int)), (.int .u8 (0 : Int)), (.int .i64 (0 : Int)), (.int .i64 (0 : Int)), (.bool false), (.bool false), (.bool false), (.slice none 0 0)] : List Value).toArray 67) →
(((cs1)).length = 24 ∧ wrs h6 b4 0 24 ∧ ∀ u ∈ ((cs1) : List Value), u.oneCell' = true) ∧ ∀ h7 : Heap, h7 = setr h6 b4 0 (cs1) →
bcase (decide (n1 = (0 : Int))) (
∃ cs2 : List Value, row h7 b4 0 6 = some cs2 ∧
∃ cs3 : List Value, row h7 s 0 6 = some cs3 ∧
Runs Tryz.prog 57 #[(.agg (cs2).toArray), (.agg (cs3).toArray)] h7 fun r3 h8 =>
∃ t1 : Bool,
r3 = (.bool t1) ∧
bcase t1 (
∃ cs4 : List Value, row h8 b4 6 6 = some cs4 ∧
∃ cs5 : List Value, row h8 s 6 6 = some cs5 ∧
Runs Tryz.prog 57 #[(.agg (cs4).toArray), (.agg (cs5).toArray)] h8 fun r4 h9 =>
∃ t2 : Bool,
r4 = (.bool t2) ∧
bcase t2 (
∃ cs6 : List Value, row h9 b4 0 24 = some cs6 ∧
Runs Tryz.prog 58 #[(.pointer (some ⟨s, 0, none⟩)), (.pointer (some ⟨b2, 0, none⟩)), (.agg (cs6).toArray)] h9 fun r5 h10 =>
∃ n2 : Int, cell h10 b4 18 = some (.int .i64 n2) ∧
fits .i64 (i_1 + (1 : Int)) ∧
I1 n2 (i_1 + (1 : Int)) h10 ∧ m1 n2 (i_1 + (1 : Int)) h10 < m1 tid_1 i_1 h4) (
fits .i64 (i_1 + (1 : Int)) ∧
I1 tid_1 (i_1 + (1 : Int)) h9 ∧ m1 tid_1 (i_1 + (1 : Int)) h9 < m1 tid_1 i_1 h4)) (
fits .i64 (i_1 + (1 : Int)) ∧
I1 tid_1 (i_1 + (1 : Int)) h8 ∧ m1 tid_1 (i_1 + (1 : Int)) h8 < m1 tid_1 i_1 h4)) (
fits .i64 (i_1 + (1 : Int)) ∧
I1 tid_1 (i_1 + (1 : Int)) h7 ∧ m1 tid_1 (i_1 + (1 : Int)) h7 < m1 tid_1 i_1 h4)) (
bcase (decide (tid_1 < (0 : Int))) (
∃ (s3 : Option Addr) (s3l s3c : Nat), cell h4 b2 0 = some (.slice s3 s3l s3c) ∧
Post (.tuple #[(.slice s3 s3l s3c), (.slice none 0 0)]) h4) (
∃ (s4 : Option Addr) (s4l s4c : Nat), cell h4 b2 0 = some (.slice s4 s4l s4c) ∧
Runs Tryz.prog 59 #[(.pointer (some ⟨s, 0, none⟩)), (.int .i64 tid_1)] h4 fun r6 h11 =>
∃ (s5 : Option Addr) (s5l s5c : Nat),
r6 = (.slice s5 s5l s5c) ∧
cell h11 b2 0 = some (.slice s4 s4l s4c) ∧
Post (.tuple #[(.slice s4 s4l s4c), (.slice s5 s5l s5c)]) h11))) (
∀ (b5 : Nat) (h12 : Heap), b5 = h1.size → h12 = h1.push (.cells ([(.slice none 0 0)] : List Value).toArray 46) →
∃ (I2 : Int → Int → Heap → Prop) (m2 : Int → Int → Heap → Nat), I2 (-1 : Int) (0 : Int) h12 ∧ ∀ _ : Env,
∀ (tid_2 : Int) (i_2 : Int) (h13 : Heap), I2 tid_2 i_2 h13 →
bcase (decide (i_2 < ((1 : Nat) : Int))) (
(0 ≤ i_2 ∧ i_2 < ((1 : Nat) : Int)) ∧
∃ (s6 : Option Addr) (s6l s6c : Nat), cell h13 b1 (0 + (i_2).toNat) = some (.slice s6 s6l s6c) ∧
Runs Tryz.prog 56 #[(.slice s6 s6l s6c)] h13 fun r7 h14 =>
∃ cs7 : List Value,
∃ n3 : Int,
r7 = (.tuple #[(.agg (cs7).toArray), (.int .i64 n3)]) ∧
∀ (b6 : Nat) (h15 : Heap), b6 = h14.size → h15 = h14.push (.cells ([(.int .u8 (0 : Int)), (.int .u8 (0 : Int)), (.int .u8 (0 : Int)), (.int .u8 (0 : Int)), (.int .u8 (0 : Int)), (.int .u8 (0 : Int)), (.int .u8 (0 : Int)), (.int .u8 (0 : Int)), (.int .u8 (0 : Int)), (.int .u8 (0 : Int)), (.int .u8 (0 : Int)), (.int .u8 (0 : Int)), (.int .u8 (0 : Int)), (.int .u8 (0 : Int)), (.int .u8 (0 : Int)), (.int .u8 (0 : Int)), (.int .u8 (0 : Int)), (.int .u8 (0 : Int)), (.int .i64 (0 : Int)), (.int .i64 (0 : Int)), (.bool false), (.bool false), (.bool false), (.slice none 0 0)] : List Value).toArray 67) →
(((cs7)).length = 24 ∧ wrs h15 b6 0 24 ∧ ∀ u ∈ ((cs7) : List Value), u.oneCell' = true) ∧ ∀ h16 : Heap, h16 = setr h15 b6 0 (cs7) →
bcase (decide (n3 = (0 : Int))) (
∃ cs8 : List Value, row h16 b6 0 6 = some cs8 ∧
∃ cs9 : List Value, row h16 s 0 6 = some cs9 ∧
Runs Tryz.prog 57 #[(.agg (cs8).toArray), (.agg (cs9).toArray)] h16 fun r8 h17 =>
∃ t3 : Bool,
r8 = (.bool t3) ∧
bcase t3 (
∃ cs10 : List Value, row h17 b6 6 6 = some cs10 ∧
∃ cs11 : List Value, row h17 s 6 6 = some cs11 ∧
Runs Tryz.prog 57 #[(.agg (cs10).toArray), (.agg (cs11).toArray)] h17 fun r9 h18 =>
∃ t4 : Bool,
r9 = (.bool t4) ∧
bcase t4 (
∃ cs12 : List Value, row h18 b6 0 24 = some cs12 ∧
Runs Tryz.prog 58 #[(.pointer (some ⟨s, 0, none⟩)), (.pointer (some ⟨b5, 0, none⟩)), (.agg (cs12).toArray)] h18 fun r10 h19 =>
∃ n4 : Int, cell h19 b6 18 = some (.int .i64 n4) ∧
fits .i64 (i_2 + (1 : Int)) ∧
I2 n4 (i_2 + (1 : Int)) h19 ∧ m2 n4 (i_2 + (1 : Int)) h19 < m2 tid_2 i_2 h13) (
fits .i64 (i_2 + (1 : Int)) ∧
I2 tid_2 (i_2 + (1 : Int)) h18 ∧ m2 tid_2 (i_2 + (1 : Int)) h18 < m2 tid_2 i_2 h13)) (
fits .i64 (i_2 + (1 : Int)) ∧
I2 tid_2 (i_2 + (1 : Int)) h17 ∧ m2 tid_2 (i_2 + (1 : Int)) h17 < m2 tid_2 i_2 h13)) (
fits .i64 (i_2 + (1 : Int)) ∧
I2 tid_2 (i_2 + (1 : Int)) h16 ∧ m2 tid_2 (i_2 + (1 : Int)) h16 < m2 tid_2 i_2 h13)) (
bcase (decide (tid_2 < (0 : Int))) (
∃ (s7 : Option Addr) (s7l s7c : Nat), cell h13 b5 0 = some (.slice s7 s7l s7c) ∧
Post (.tuple #[(.slice s7 s7l s7c), (.slice none 0 0)]) h13) (
∃ (s8 : Option Addr) (s8l s8c : Nat), cell h13 b5 0 = some (.slice s8 s8l s8c) ∧
Runs Tryz.prog 59 #[(.pointer (some ⟨s, 0, none⟩)), (.int .i64 tid_2)] h13 fun r11 h20 =>
∃ (s9 : Option Addr) (s9l s9c : Nat),
r11 = (.slice s9 s9l s9c) ∧
cell h20 b5 0 = some (.slice s8 s8l s8c) ∧
Post (.tuple #[(.slice s8 s8l s8c), (.slice s9 s9l s9c)]) h20)))) :
    Runs Tryz.prog 30 #[(.pointer (some ⟨s, 0, none⟩)), (.bool agg), (.slice b bL bC)] h0 Post :=
  runs_of (args := [(.pointer (some ⟨s, 0, none⟩)), (.bool agg), (.slice b bL bC)]) (fun n => ⟨true, false⟩) (fun n => match n with | 0 => [(10, .int .i64), (11, .int .i64)] | _ => []) (fun _ => none) (fun _ => []) Tryz.func30 rfl (by rw [Tryz.ntmps30]; simp) (Eq.mp (by kernel_rfl) H)

theorem vc_muezzinref24_Station_Other (s : Nat) (b : Option Addr) (bL bC : Nat) (h0 : Heap) (Post : Value → Heap → Prop) (H :
∀ (b1 : Nat) (h1 : Heap), b1 = h0.size → h1 = h0.push (.cells ([(.slice none 0 0)] : List Value).toArray 46) →
Runs Tryz.prog 65 #[(.slice b bL bC)] h1 fun r1 h2 =>
∃ cs1 : List Value,
∃ n1 : Int,
r1 = (.tuple #[(.agg (cs1).toArray), (.int .i64 n1)]) ∧
∀ (b2 : Nat) (h3 : Heap), b2 = h2.size → h3 = h2.push (.cells ([(.int .u8 (0 : Int)), (.int .u8 (0 : Int)), (.int .u8 (0 : Int)), (.int .u8 (0 : Int)), (.int .u8 (0 : Int)), (.int .u8 (0 : Int)), (.int .u8 (0 : Int)), (.int .u8 (0 : Int)), (.int .u8 (0 : Int)), (.int .u8 (0 : Int)), (.int .u8 (0 : Int)), (.int .u8 (0 : Int)), (.int .i64 (0 : Int)), (.int .i64 (0 : Int))] : List Value).toArray 75) →
(((cs1)).length = 14 ∧ wrs h3 b2 0 14 ∧ ∀ u ∈ ((cs1) : List Value), u.oneCell' = true) ∧ ∀ h4 : Heap, h4 = setr h3 b2 0 (cs1) →
bcase (decide (n1 = (0 : Int))) (
∃ cs2 : List Value, row h4 b2 0 6 = some cs2 ∧
∃ cs3 : List Value, row h4 s 0 6 = some cs3 ∧
Runs Tryz.prog 57 #[(.agg (cs2).toArray), (.agg (cs3).toArray)] h4 fun r2 h5 =>
∃ t1 : Bool,
r2 = (.bool t1) ∧
bcase (!t1) (
Post (.tuple #[(.slice none 0 0), (.slice none 0 0)]) h5) (
∃ cs4 : List Value, row h5 b2 6 6 = some cs4 ∧
∃ cs5 : List Value, row h5 s 6 6 = some cs5 ∧
Runs Tryz.prog 57 #[(.agg (cs4).toArray), (.agg (cs5).toArray)] h5 fun r3 h6 =>
∃ t2 : Bool,
r3 = (.bool t2) ∧
bcase (!t2) (
Post (.tuple #[(.slice none 0 0), (.slice none 0 0)]) h6) (
∃ n2 : Int, cell h6 b2 12 = some (.int .i64 n2) ∧
(0 ≤ n2 ∧ n2 < ((8 : Nat) : Int)) ∧
∃ t3 : Bool, cell h6 s (13 + ((n2).toNat * 8)) = some (.bool t3) ∧
bcase (!t3) (
Post (.tuple #[(.slice none 0 0), (.slice none 0 0)]) h6) (
∃ n3 : Int, cell h6 b2 12 = some (.int .i64 n3) ∧
(0 ≤ n3 ∧ n3 < ((8 : Nat) : Int)) ∧
∃ n4 : Int, cell h6 s ((13 + ((n3).toNat * 8)) + 1) = some (.int .i64 n4) ∧
∃ n5 : Int, cell h6 b2 13 = some (.int .i64 n5) ∧
Runs Tryz.prog 35 #[(.int .i64 n4), (.int .i64 n5)] h6 fun r4 h7 =>
∃ n6 : Int,
r4 = (.int .i64 n6) ∧
bcase (decide (n6 < (2048 : Int))) (
∃ n7 : Int, cell h7 b2 13 = some (.int .i64 n7) ∧
Runs Tryz.prog 66 #[(.pointer (some ⟨s, (13 + ((n3).toNat * 8)), none⟩)), (.pointer (some ⟨b1, 0, none⟩)), (.int .i64 n7)] h7 fun r5 h8 =>
Runs Tryz.prog 67 #[(.pointer (some ⟨s, (13 + ((n3).toNat * 8)), none⟩)), (.pointer (some ⟨b1, 0, none⟩))] h8 fun r6 h9 =>
∃ n8 : Int, cell h9 s ((13 + ((n3).toNat * 8)) + 4) = some (.int .i64 n8) ∧
∃ n9 : Int, cell h9 b2 13 = some (.int .i64 n9) ∧
Runs Tryz.prog 35 #[(.int .i64 n8), (.int .i64 n9)] h9 fun r7 h10 =>
∃ n10 : Int,
r7 = (.int .i64 n10) ∧
bcase (decide (n10 < (2048 : Int))) (
Runs Tryz.prog 68 #[(.pointer (some ⟨s, (13 + ((n3).toNat * 8)), none⟩)), (.int .i64 n10)] h10 fun r8 h11 =>
∃ (s1 : Option Addr) (s1l s1c : Nat), cell h11 b1 0 = some (.slice s1 s1l s1c) ∧
∃ n11 : Int, cell h11 b2 12 = some (.int .i64 n11) ∧
Runs Tryz.prog 59 #[(.pointer (some ⟨s, 0, none⟩)), (.int .i64 n11)] h11 fun r9 h12 =>
∃ (s2 : Option Addr) (s2l s2c : Nat),
r9 = (.slice s2 s2l s2c) ∧
cell h12 b1 0 = some (.slice s1 s1l s1c) ∧
Post (.tuple #[(.slice s1 s1l s1c), (.slice s2 s2l s2c)]) h12) (
∃ (s3 : Option Addr) (s3l s3c : Nat), cell h10 b1 0 = some (.slice s3 s3l s3c) ∧
∃ n12 : Int, cell h10 b2 12 = some (.int .i64 n12) ∧
Runs Tryz.prog 59 #[(.pointer (some ⟨s, 0, none⟩)), (.int .i64 n12)] h10 fun r10 h13 =>
∃ (s4 : Option Addr) (s4l s4c : Nat),
r10 = (.slice s4 s4l s4c) ∧
cell h13 b1 0 = some (.slice s3 s3l s3c) ∧
Post (.tuple #[(.slice s3 s3l s3c), (.slice s4 s4l s4c)]) h13)) (
∃ n13 : Int, cell h7 s ((13 + ((n3).toNat * 8)) + 4) = some (.int .i64 n13) ∧
∃ n14 : Int, cell h7 b2 13 = some (.int .i64 n14) ∧
Runs Tryz.prog 35 #[(.int .i64 n13), (.int .i64 n14)] h7 fun r11 h14 =>
∃ n15 : Int,
r11 = (.int .i64 n15) ∧
bcase (decide (n15 < (2048 : Int))) (
Runs Tryz.prog 68 #[(.pointer (some ⟨s, (13 + ((n3).toNat * 8)), none⟩)), (.int .i64 n15)] h14 fun r12 h15 =>
∃ (s5 : Option Addr) (s5l s5c : Nat), cell h15 b1 0 = some (.slice s5 s5l s5c) ∧
∃ n16 : Int, cell h15 b2 12 = some (.int .i64 n16) ∧
Runs Tryz.prog 59 #[(.pointer (some ⟨s, 0, none⟩)), (.int .i64 n16)] h15 fun r13 h16 =>
∃ (s6 : Option Addr) (s6l s6c : Nat),
r13 = (.slice s6 s6l s6c) ∧
cell h16 b1 0 = some (.slice s5 s5l s5c) ∧
Post (.tuple #[(.slice s5 s5l s5c), (.slice s6 s6l s6c)]) h16) (
∃ (s7 : Option Addr) (s7l s7c : Nat), cell h14 b1 0 = some (.slice s7 s7l s7c) ∧
∃ n17 : Int, cell h14 b2 12 = some (.int .i64 n17) ∧
Runs Tryz.prog 59 #[(.pointer (some ⟨s, 0, none⟩)), (.int .i64 n17)] h14 fun r14 h17 =>
∃ (s8 : Option Addr) (s8l s8c : Nat),
r14 = (.slice s8 s8l s8c) ∧
cell h17 b1 0 = some (.slice s7 s7l s7c) ∧
Post (.tuple #[(.slice s7 s7l s7c), (.slice s8 s8l s8c)]) h17)))))) (
Runs Tryz.prog 69 #[(.slice b bL bC)] h4 fun r15 h18 =>
∃ cs6 : List Value,
∃ n18 : Int,
r15 = (.tuple #[(.agg (cs6).toArray), (.int .i64 n18)]) ∧
∀ (b3 : Nat) (h19 : Heap), b3 = h18.size → h19 = h18.push (.cells ([(.int .u8 (0 : Int)), (.int .u8 (0 : Int)), (.int .u8 (0 : Int)), (.int .u8 (0 : Int)), (.int .u8 (0 : Int)), (.int .u8 (0 : Int)), (.int .u8 (0 : Int)), (.int .u8 (0 : Int)), (.int .u8 (0 : Int)), (.int .u8 (0 : Int)), (.int .u8 (0 : Int)), (.int .u8 (0 : Int)), (.int .u8 (0 : Int)), (.int .u8 (0 : Int)), (.int .u8 (0 : Int)), (.int .u8 (0 : Int)), (.int .u8 (0 : Int)), (.int .u8 (0 : Int)), (.bool false), (.int .i64 (0 : Int)), (.int .i64 (0 : Int)), (.int .i64 (0 : Int)), (.int .i64 (0 : Int)), (.int .i64 (0 : Int)), (.int .i64 (0 : Int))] : List Value).toArray 78) →
(((cs6)).length = 25 ∧ wrs h19 b3 0 25 ∧ ∀ u ∈ ((cs6) : List Value), u.oneCell' = true) ∧ ∀ h20 : Heap, h20 = setr h19 b3 0 (cs6) →
bcase (decide (n18 = (0 : Int))) (
∃ t4 : Bool, cell h20 b3 18 = some (.bool t4) ∧
bcase (!t4) (
∃ cs7 : List Value, row h20 b3 0 6 = some cs7 ∧
∃ cs8 : List Value, row h20 s 0 6 = some cs8 ∧
Runs Tryz.prog 57 #[(.agg (cs7).toArray), (.agg (cs8).toArray)] h20 fun r16 h21 =>
∃ t5 : Bool,
r16 = (.bool t5) ∧
bcase t5 (
∃ cs9 : List Value, row h21 b3 12 6 = some cs9 ∧
∃ cs10 : List Value, row h21 s 6 6 = some cs10 ∧
Runs Tryz.prog 57 #[(.agg (cs9).toArray), (.agg (cs10).toArray)] h21 fun r17 h22 =>
∃ t6 : Bool,
r17 = (.bool t6) ∧
bcase t6 (
∃ n19 : Int, cell h22 b3 20 = some (.int .i64 n19) ∧
(0 ≤ n19 ∧ n19 < ((8 : Nat) : Int)) ∧
Runs Tryz.prog 54 #[(.pointer (some ⟨s, (13 + ((n19).toNat * 8)), none⟩)), (.pointer (some ⟨b1, 0, none⟩))] h22 fun r18 h23 =>
∃ n20 : Int, cell h23 s 12 = some (.int .i64 n20) ∧
∃ n21 : Int, cell h23 b3 21 = some (.int .i64 n21) ∧
bcase (decide ((0 : Int) < n21)) (
∃ n22 : Int, cell h23 b3 21 = some (.int .i64 n22) ∧
∃ n23 : Int, cell h23 b3 23 = some (.int .i64 n23) ∧
∃ n24 : Int, cell h23 b3 23 = some (.int .i64 n24) ∧
((([(.bool true), (.int .i64 n23), (.int .i64 (min n20 n22)), (.slice none 0 0), (.int .i64 n24), (.int .u64 (0 : Int)), (.bool false), (.int .i64 (0 : Int))] : List Value)).length = 8 ∧ wrs h23 s (13 + ((n19).toNat * 8)) 8 ∧ ∀ u ∈ (([(.bool true), (.int .i64 n23), (.int .i64 (min n20 n22)), (.slice none 0 0), (.int .i64 n24), (.int .u64 (0 : Int)), (.bool false), (.int .i64 (0 : Int))] : List Value) : List Value), u.oneCell' = true) ∧ ∀ h24 : Heap, h24 = setr h23 s (13 + ((n19).toNat * 8)) ([(.bool true), (.int .i64 n23), (.int .i64 (min n20 n22)), (.slice none 0 0), (.int .i64 n24), (.int .u64 (0 : Int)), (.bool false), (.int .i64 (0 : Int))] : List Value) →
∃ cs11 : List Value, row h24 s 6 6 = some cs11 ∧
∃ cs12 : List Value, row h24 s 0 6 = some cs12 ∧
∃ cs13 : List Value, row h24 s 6 6 = some cs13 ∧
∃ n25 : Int, cell h24 b3 19 = some (.int .i64 n25) ∧
∃ n26 : Int, cell h24 b3 20 = some (.int .i64 n26) ∧
(cs11).length = 6 ∧
(cs12).length = 6 ∧
(cs13).length = 6 ∧
Runs Tryz.prog 25 #[(.agg (((cs11) ++ ((cs12) ++ ((cs13) ++ ([(.bool true), (.int .i64 n25), (.int .i64 n26), (.int .i64 (min n20 n22)), (.int .i64 (0 : Int)), (.int .i64 (0 : Int)), (.int .i64 (0 : Int))] : List Value))))).toArray)] h24 fun r19 h25 =>
∃ (s9 : Option Addr) (s9l s9c : Nat),
∃ n27 : Int,
r19 = (.tuple #[(.slice s9 s9l s9c), (.int .i64 n27)]) ∧
∃ (s10 : Option Addr) (s10l s10c : Nat), cell h25 b1 0 = some (.slice s10 s10l s10c) ∧
Post (.tuple #[(.slice s10 s10l s10c), (.slice s9 s9l s9c)]) h25) (
∃ n28 : Int, cell h23 b3 23 = some (.int .i64 n28) ∧
∃ n29 : Int, cell h23 b3 23 = some (.int .i64 n29) ∧
((([(.bool true), (.int .i64 n28), (.int .i64 n20), (.slice none 0 0), (.int .i64 n29), (.int .u64 (0 : Int)), (.bool false), (.int .i64 (0 : Int))] : List Value)).length = 8 ∧ wrs h23 s (13 + ((n19).toNat * 8)) 8 ∧ ∀ u ∈ (([(.bool true), (.int .i64 n28), (.int .i64 n20), (.slice none 0 0), (.int .i64 n29), (.int .u64 (0 : Int)), (.bool false), (.int .i64 (0 : Int))] : List Value) : List Value), u.oneCell' = true) ∧ ∀ h26 : Heap, h26 = setr h23 s (13 + ((n19).toNat * 8)) ([(.bool true), (.int .i64 n28), (.int .i64 n20), (.slice none 0 0), (.int .i64 n29), (.int .u64 (0 : Int)), (.bool false), (.int .i64 (0 : Int))] : List Value) →
∃ cs14 : List Value, row h26 s 6 6 = some cs14 ∧
∃ cs15 : List Value, row h26 s 0 6 = some cs15 ∧
∃ cs16 : List Value, row h26 s 6 6 = some cs16 ∧
∃ n30 : Int, cell h26 b3 19 = some (.int .i64 n30) ∧
∃ n31 : Int, cell h26 b3 20 = some (.int .i64 n31) ∧
(cs14).length = 6 ∧
(cs15).length = 6 ∧
(cs16).length = 6 ∧
Runs Tryz.prog 25 #[(.agg (((cs14) ++ ((cs15) ++ ((cs16) ++ ([(.bool true), (.int .i64 n30), (.int .i64 n31), (.int .i64 n20), (.int .i64 (0 : Int)), (.int .i64 (0 : Int)), (.int .i64 (0 : Int))] : List Value))))).toArray)] h26 fun r20 h27 =>
∃ (s11 : Option Addr) (s11l s11c : Nat),
∃ n32 : Int,
r20 = (.tuple #[(.slice s11 s11l s11c), (.int .i64 n32)]) ∧
∃ (s12 : Option Addr) (s12l s12c : Nat), cell h27 b1 0 = some (.slice s12 s12l s12c) ∧
Post (.tuple #[(.slice s12 s12l s12c), (.slice s11 s11l s11c)]) h27)) (
Runs Tryz.prog 70 #[(.slice b bL bC)] h22 fun r21 h28 =>
∃ cs17 : List Value,
∃ n33 : Int,
r21 = (.tuple #[(.agg (cs17).toArray), (.int .i64 n33)]) ∧
∀ (b4 : Nat) (h29 : Heap), b4 = h28.size → h29 = h28.push (.cells ([(.int .u8 (0 : Int)), (.int .u8 (0 : Int)), (.int .u8 (0 : Int)), (.int .u8 (0 : Int)), (.int .u8 (0 : Int)), (.int .u8 (0 : Int)), (.int .u8 (0 : Int)), (.int .u8 (0 : Int)), (.int .u8 (0 : Int)), (.int .u8 (0 : Int)), (.int .u8 (0 : Int)), (.int .u8 (0 : Int)), (.int .u8 (0 : Int)), (.int .u8 (0 : Int)), (.int .u8 (0 : Int)), (.int .u8 (0 : Int)), (.int .u8 (0 : Int)), (.int .u8 (0 : Int)), (.bool false), (.int .i64 (0 : Int)), (.int .i64 (0 : Int))] : List Value).toArray 81) →
(((cs17)).length = 21 ∧ wrs h29 b4 0 21 ∧ ∀ u ∈ ((cs17) : List Value), u.oneCell' = true) ∧ ∀ h30 : Heap, h30 = setr h29 b4 0 (cs17) →
bcase (decide (n33 = (0 : Int))) (
∃ t7 : Bool, cell h30 b4 18 = some (.bool t7) ∧
bcase t7 (
∃ cs18 : List Value, row h30 b4 0 6 = some cs18 ∧
∃ cs19 : List Value, row h30 s 0 6 = some cs19 ∧
Runs Tryz.prog 57 #[(.agg (cs18).toArray), (.agg (cs19).toArray)] h30 fun r22 h31 =>
∃ t8 : Bool,
r22 = (.bool t8) ∧
bcase t8 (
∃ cs20 : List Value, row h31 b4 12 6 = some cs20 ∧
∃ cs21 : List Value, row h31 s 6 6 = some cs21 ∧
Runs Tryz.prog 57 #[(.agg (cs20).toArray), (.agg (cs21).toArray)] h31 fun r23 h32 =>
∃ t9 : Bool,
r23 = (.bool t9) ∧
bcase t9 (
∃ n34 : Int, cell h32 b4 19 = some (.int .i64 n34) ∧
(0 ≤ n34 ∧ n34 < ((8 : Nat) : Int)) ∧
Runs Tryz.prog 54 #[(.pointer (some ⟨s, (13 + ((n34).toNat * 8)), none⟩)), (.pointer (some ⟨b1, 0, none⟩))] h32 fun r24 h33 =>
∃ n35 : Int, cell h33 b4 19 = some (.int .i64 n35) ∧
(0 ≤ n35 ∧ n35 < ((8 : Nat) : Int)) ∧
((([(.bool false), (.int .i64 (0 : Int)), (.int .i64 (0 : Int)), (.slice none 0 0), (.int .i64 (0 : Int)), (.int .u64 (0 : Int)), (.bool false), (.int .i64 (0 : Int))] : List Value)).length = 8 ∧ wrs h33 s (13 + ((n35).toNat * 8)) 8 ∧ ∀ u ∈ (([(.bool false), (.int .i64 (0 : Int)), (.int .i64 (0 : Int)), (.slice none 0 0), (.int .i64 (0 : Int)), (.int .u64 (0 : Int)), (.bool false), (.int .i64 (0 : Int))] : List Value) : List Value), u.oneCell' = true) ∧ ∀ h34 : Heap, h34 = setr h33 s (13 + ((n35).toNat * 8)) ([(.bool false), (.int .i64 (0 : Int)), (.int .i64 (0 : Int)), (.slice none 0 0), (.int .i64 (0 : Int)), (.int .u64 (0 : Int)), (.bool false), (.int .i64 (0 : Int))] : List Value) →
∃ (s13 : Option Addr) (s13l s13c : Nat), cell h34 b1 0 = some (.slice s13 s13l s13c) ∧
Post (.tuple #[(.slice s13 s13l s13c), (.slice none 0 0)]) h34) (
∃ (s14 : Option Addr) (s14l s14c : Nat), cell h32 b1 0 = some (.slice s14 s14l s14c) ∧
Post (.tuple #[(.slice s14 s14l s14c), (.slice none 0 0)]) h32)) (
∃ (s15 : Option Addr) (s15l s15c : Nat), cell h31 b1 0 = some (.slice s15 s15l s15c) ∧
Post (.tuple #[(.slice s15 s15l s15c), (.slice none 0 0)]) h31)) (
∃ (s16 : Option Addr) (s16l s16c : Nat), cell h30 b1 0 = some (.slice s16 s16l s16c) ∧
Post (.tuple #[(.slice s16 s16l s16c), (.slice none 0 0)]) h30)) (
∃ (s17 : Option Addr) (s17l s17c : Nat), cell h30 b1 0 = some (.slice s17 s17l s17c) ∧
Post (.tuple #[(.slice s17 s17l s17c), (.slice none 0 0)]) h30))) (
Runs Tryz.prog 70 #[(.slice b bL bC)] h21 fun r25 h35 =>
∃ cs22 : List Value,
∃ n36 : Int,
r25 = (.tuple #[(.agg (cs22).toArray), (.int .i64 n36)]) ∧
∀ (b5 : Nat) (h36 : Heap), b5 = h35.size → h36 = h35.push (.cells ([(.int .u8 (0 : Int)), (.int .u8 (0 : Int)), (.int .u8 (0 : Int)), (.int .u8 (0 : Int)), (.int .u8 (0 : Int)), (.int .u8 (0 : Int)), (.int .u8 (0 : Int)), (.int .u8 (0 : Int)), (.int .u8 (0 : Int)), (.int .u8 (0 : Int)), (.int .u8 (0 : Int)), (.int .u8 (0 : Int)), (.int .u8 (0 : Int)), (.int .u8 (0 : Int)), (.int .u8 (0 : Int)), (.int .u8 (0 : Int)), (.int .u8 (0 : Int)), (.int .u8 (0 : Int)), (.bool false), (.int .i64 (0 : Int)), (.int .i64 (0 : Int))] : List Value).toArray 81) →
(((cs22)).length = 21 ∧ wrs h36 b5 0 21 ∧ ∀ u ∈ ((cs22) : List Value), u.oneCell' = true) ∧ ∀ h37 : Heap, h37 = setr h36 b5 0 (cs22) →
bcase (decide (n36 = (0 : Int))) (
∃ t10 : Bool, cell h37 b5 18 = some (.bool t10) ∧
bcase t10 (
∃ cs23 : List Value, row h37 b5 0 6 = some cs23 ∧
∃ cs24 : List Value, row h37 s 0 6 = some cs24 ∧
Runs Tryz.prog 57 #[(.agg (cs23).toArray), (.agg (cs24).toArray)] h37 fun r26 h38 =>
∃ t11 : Bool,
r26 = (.bool t11) ∧
bcase t11 (
∃ cs25 : List Value, row h38 b5 12 6 = some cs25 ∧
∃ cs26 : List Value, row h38 s 6 6 = some cs26 ∧
Runs Tryz.prog 57 #[(.agg (cs25).toArray), (.agg (cs26).toArray)] h38 fun r27 h39 =>
∃ t12 : Bool,
r27 = (.bool t12) ∧
bcase t12 (
∃ n37 : Int, cell h39 b5 19 = some (.int .i64 n37) ∧
(0 ≤ n37 ∧ n37 < ((8 : Nat) : Int)) ∧
Runs Tryz.prog 54 #[(.pointer (some ⟨s, (13 + ((n37).toNat * 8)), none⟩)), (.pointer (some ⟨b1, 0, none⟩))] h39 fun r28 h40 =>
∃ n38 : Int, cell h40 b5 19 = some (.int .i64 n38) ∧
(0 ≤ n38 ∧ n38 < ((8 : Nat) : Int)) ∧
((([(.bool false), (.int .i64 (0 : Int)), (.int .i64 (0 : Int)), (.slice none 0 0), (.int .i64 (0 : Int)), (.int .u64 (0 : Int)), (.bool false), (.int .i64 (0 : Int))] : List Value)).length = 8 ∧ wrs h40 s (13 + ((n38).toNat * 8)) 8 ∧ ∀ u ∈ (([(.bool false), (.int .i64 (0 : Int)), (.int .i64 (0 : Int)), (.slice none 0 0), (.int .i64 (0 : Int)), (.int .u64 (0 : Int)), (.bool false), (.int .i64 (0 : Int))] : List Value) : List Value), u.oneCell' = true) ∧ ∀ h41 : Heap, h41 = setr h40 s (13 + ((n38).toNat * 8)) ([(.bool false), (.int .i64 (0 : Int)), (.int .i64 (0 : Int)), (.slice none 0 0), (.int .i64 (0 : Int)), (.int .u64 (0 : Int)), (.bool false), (.int .i64 (0 : Int))] : List Value) →
∃ (s18 : Option Addr) (s18l s18c : Nat), cell h41 b1 0 = some (.slice s18 s18l s18c) ∧
Post (.tuple #[(.slice s18 s18l s18c), (.slice none 0 0)]) h41) (
∃ (s19 : Option Addr) (s19l s19c : Nat), cell h39 b1 0 = some (.slice s19 s19l s19c) ∧
Post (.tuple #[(.slice s19 s19l s19c), (.slice none 0 0)]) h39)) (
∃ (s20 : Option Addr) (s20l s20c : Nat), cell h38 b1 0 = some (.slice s20 s20l s20c) ∧
Post (.tuple #[(.slice s20 s20l s20c), (.slice none 0 0)]) h38)) (
∃ (s21 : Option Addr) (s21l s21c : Nat), cell h37 b1 0 = some (.slice s21 s21l s21c) ∧
Post (.tuple #[(.slice s21 s21l s21c), (.slice none 0 0)]) h37)) (
∃ (s22 : Option Addr) (s22l s22c : Nat), cell h37 b1 0 = some (.slice s22 s22l s22c) ∧
Post (.tuple #[(.slice s22 s22l s22c), (.slice none 0 0)]) h37))) (
Runs Tryz.prog 70 #[(.slice b bL bC)] h20 fun r29 h42 =>
∃ cs27 : List Value,
∃ n39 : Int,
r29 = (.tuple #[(.agg (cs27).toArray), (.int .i64 n39)]) ∧
∀ (b6 : Nat) (h43 : Heap), b6 = h42.size → h43 = h42.push (.cells ([(.int .u8 (0 : Int)), (.int .u8 (0 : Int)), (.int .u8 (0 : Int)), (.int .u8 (0 : Int)), (.int .u8 (0 : Int)), (.int .u8 (0 : Int)), (.int .u8 (0 : Int)), (.int .u8 (0 : Int)), (.int .u8 (0 : Int)), (.int .u8 (0 : Int)), (.int .u8 (0 : Int)), (.int .u8 (0 : Int)), (.int .u8 (0 : Int)), (.int .u8 (0 : Int)), (.int .u8 (0 : Int)), (.int .u8 (0 : Int)), (.int .u8 (0 : Int)), (.int .u8 (0 : Int)), (.bool false), (.int .i64 (0 : Int)), (.int .i64 (0 : Int))] : List Value).toArray 81) →
(((cs27)).length = 21 ∧ wrs h43 b6 0 21 ∧ ∀ u ∈ ((cs27) : List Value), u.oneCell' = true) ∧ ∀ h44 : Heap, h44 = setr h43 b6 0 (cs27) →
bcase (decide (n39 = (0 : Int))) (
∃ t13 : Bool, cell h44 b6 18 = some (.bool t13) ∧
bcase t13 (
∃ cs28 : List Value, row h44 b6 0 6 = some cs28 ∧
∃ cs29 : List Value, row h44 s 0 6 = some cs29 ∧
Runs Tryz.prog 57 #[(.agg (cs28).toArray), (.agg (cs29).toArray)] h44 fun r30 h45 =>
∃ t14 : Bool,
r30 = (.bool t14) ∧
bcase t14 (
∃ cs30 : List Value, row h45 b6 12 6 = some cs30 ∧
∃ cs31 : List Value, row h45 s 6 6 = some cs31 ∧
Runs Tryz.prog 57 #[(.agg (cs30).toArray), (.agg (cs31).toArray)] h45 fun r31 h46 =>
∃ t15 : Bool,
r31 = (.bool t15) ∧
bcase t15 (
∃ n40 : Int, cell h46 b6 19 = some (.int .i64 n40) ∧
(0 ≤ n40 ∧ n40 < ((8 : Nat) : Int)) ∧
Runs Tryz.prog 54 #[(.pointer (some ⟨s, (13 + ((n40).toNat * 8)), none⟩)), (.pointer (some ⟨b1, 0, none⟩))] h46 fun r32 h47 =>
∃ n41 : Int, cell h47 b6 19 = some (.int .i64 n41) ∧
(0 ≤ n41 ∧ n41 < ((8 : Nat) : Int)) ∧
((([(.bool false), (.int .i64 (0 : Int)), (.int .i64 (0 : Int)), (.slice none 0 0), (.int .i64 (0 : Int)), (.int .u64 (0 : Int)), (.bool false), (.int .i64 (0 : Int))] : List Value)).length = 8 ∧ wrs h47 s (13 + ((n41).toNat * 8)) 8 ∧ ∀ u ∈ (([(.bool false), (.int .i64 (0 : Int)), (.int .i64 (0 : Int)), (.slice none 0 0), (.int .i64 (0 : Int)), (.int .u64 (0 : Int)), (.bool false), (.int .i64 (0 : Int))] : List Value) : List Value), u.oneCell' = true) ∧ ∀ h48 : Heap, h48 = setr h47 s (13 + ((n41).toNat * 8)) ([(.bool false), (.int .i64 (0 : Int)), (.int .i64 (0 : Int)), (.slice none 0 0), (.int .i64 (0 : Int)), (.int .u64 (0 : Int)), (.bool false), (.int .i64 (0 : Int))] : List Value) →
∃ (s23 : Option Addr) (s23l s23c : Nat), cell h48 b1 0 = some (.slice s23 s23l s23c) ∧
Post (.tuple #[(.slice s23 s23l s23c), (.slice none 0 0)]) h48) (
∃ (s24 : Option Addr) (s24l s24c : Nat), cell h46 b1 0 = some (.slice s24 s24l s24c) ∧
Post (.tuple #[(.slice s24 s24l s24c), (.slice none 0 0)]) h46)) (
∃ (s25 : Option Addr) (s25l s25c : Nat), cell h45 b1 0 = some (.slice s25 s25l s25c) ∧
Post (.tuple #[(.slice s25 s25l s25c), (.slice none 0 0)]) h45)) (
∃ (s26 : Option Addr) (s26l s26c : Nat), cell h44 b1 0 = some (.slice s26 s26l s26c) ∧
Post (.tuple #[(.slice s26 s26l s26c), (.slice none 0 0)]) h44)) (
∃ (s27 : Option Addr) (s27l s27c : Nat), cell h44 b1 0 = some (.slice s27 s27l s27c) ∧
Post (.tuple #[(.slice s27 s27l s27c), (.slice none 0 0)]) h44))) (
Runs Tryz.prog 70 #[(.slice b bL bC)] h20 fun r33 h49 =>
∃ cs32 : List Value,
∃ n42 : Int,
r33 = (.tuple #[(.agg (cs32).toArray), (.int .i64 n42)]) ∧
∀ (b7 : Nat) (h50 : Heap), b7 = h49.size → h50 = h49.push (.cells ([(.int .u8 (0 : Int)), (.int .u8 (0 : Int)), (.int .u8 (0 : Int)), (.int .u8 (0 : Int)), (.int .u8 (0 : Int)), (.int .u8 (0 : Int)), (.int .u8 (0 : Int)), (.int .u8 (0 : Int)), (.int .u8 (0 : Int)), (.int .u8 (0 : Int)), (.int .u8 (0 : Int)), (.int .u8 (0 : Int)), (.int .u8 (0 : Int)), (.int .u8 (0 : Int)), (.int .u8 (0 : Int)), (.int .u8 (0 : Int)), (.int .u8 (0 : Int)), (.int .u8 (0 : Int)), (.bool false), (.int .i64 (0 : Int)), (.int .i64 (0 : Int))] : List Value).toArray 81) →
(((cs32)).length = 21 ∧ wrs h50 b7 0 21 ∧ ∀ u ∈ ((cs32) : List Value), u.oneCell' = true) ∧ ∀ h51 : Heap, h51 = setr h50 b7 0 (cs32) →
bcase (decide (n42 = (0 : Int))) (
∃ t16 : Bool, cell h51 b7 18 = some (.bool t16) ∧
bcase t16 (
∃ cs33 : List Value, row h51 b7 0 6 = some cs33 ∧
∃ cs34 : List Value, row h51 s 0 6 = some cs34 ∧
Runs Tryz.prog 57 #[(.agg (cs33).toArray), (.agg (cs34).toArray)] h51 fun r34 h52 =>
∃ t17 : Bool,
r34 = (.bool t17) ∧
bcase t17 (
∃ cs35 : List Value, row h52 b7 12 6 = some cs35 ∧
∃ cs36 : List Value, row h52 s 6 6 = some cs36 ∧
Runs Tryz.prog 57 #[(.agg (cs35).toArray), (.agg (cs36).toArray)] h52 fun r35 h53 =>
∃ t18 : Bool,
r35 = (.bool t18) ∧
bcase t18 (
∃ n43 : Int, cell h53 b7 19 = some (.int .i64 n43) ∧
(0 ≤ n43 ∧ n43 < ((8 : Nat) : Int)) ∧
Runs Tryz.prog 54 #[(.pointer (some ⟨s, (13 + ((n43).toNat * 8)), none⟩)), (.pointer (some ⟨b1, 0, none⟩))] h53 fun r36 h54 =>
∃ n44 : Int, cell h54 b7 19 = some (.int .i64 n44) ∧
(0 ≤ n44 ∧ n44 < ((8 : Nat) : Int)) ∧
((([(.bool false), (.int .i64 (0 : Int)), (.int .i64 (0 : Int)), (.slice none 0 0), (.int .i64 (0 : Int)), (.int .u64 (0 : Int)), (.bool false), (.int .i64 (0 : Int))] : List Value)).length = 8 ∧ wrs h54 s (13 + ((n44).toNat * 8)) 8 ∧ ∀ u ∈ (([(.bool false), (.int .i64 (0 : Int)), (.int .i64 (0 : Int)), (.slice none 0 0), (.int .i64 (0 : Int)), (.int .u64 (0 : Int)), (.bool false), (.int .i64 (0 : Int))] : List Value) : List Value), u.oneCell' = true) ∧ ∀ h55 : Heap, h55 = setr h54 s (13 + ((n44).toNat * 8)) ([(.bool false), (.int .i64 (0 : Int)), (.int .i64 (0 : Int)), (.slice none 0 0), (.int .i64 (0 : Int)), (.int .u64 (0 : Int)), (.bool false), (.int .i64 (0 : Int))] : List Value) →
∃ (s28 : Option Addr) (s28l s28c : Nat), cell h55 b1 0 = some (.slice s28 s28l s28c) ∧
Post (.tuple #[(.slice s28 s28l s28c), (.slice none 0 0)]) h55) (
∃ (s29 : Option Addr) (s29l s29c : Nat), cell h53 b1 0 = some (.slice s29 s29l s29c) ∧
Post (.tuple #[(.slice s29 s29l s29c), (.slice none 0 0)]) h53)) (
∃ (s30 : Option Addr) (s30l s30c : Nat), cell h52 b1 0 = some (.slice s30 s30l s30c) ∧
Post (.tuple #[(.slice s30 s30l s30c), (.slice none 0 0)]) h52)) (
∃ (s31 : Option Addr) (s31l s31c : Nat), cell h51 b1 0 = some (.slice s31 s31l s31c) ∧
Post (.tuple #[(.slice s31 s31l s31c), (.slice none 0 0)]) h51)) (
∃ (s32 : Option Addr) (s32l s32c : Nat), cell h51 b1 0 = some (.slice s32 s32l s32c) ∧
Post (.tuple #[(.slice s32 s32l s32c), (.slice none 0 0)]) h51)))) :
    Runs Tryz.prog 33 #[(.pointer (some ⟨s, 0, none⟩)), (.slice b bL bC)] h0 Post :=
  runs_of (args := [(.pointer (some ⟨s, 0, none⟩)), (.slice b bL bC)]) (fun n => ⟨true, false⟩) (fun _ => []) (fun _ => none) (fun _ => []) Tryz.func33 rfl (by rw [Tryz.ntmps33]; simp) (Eq.mp (by kernel_rfl) H)

theorem vc_muezzinref24_Station_Got (s : Nat) (tid : Int) (seq : Int) (h0 : Heap) (Post : Value → Heap → Prop) (H :
bcase (decide (tid < (0 : Int))) (
Post (.bool false) h0) (
bcase (decide ((8 : Int) ≤ tid)) (
Post (.bool false) h0) (
bcase (decide (seq < (0 : Int))) (
Post (.bool false) h0) (
bcase (decide ((4096 : Int) ≤ seq)) (
Post (.bool false) h0) (
(0 ≤ tid ∧ tid < ((8 : Nat) : Int)) ∧
∃ t1 : Bool, cell h0 s (13 + ((tid).toNat * 8)) = some (.bool t1) ∧
bcase (!t1) (
∃ t2 : Bool, cell h0 s ((13 + ((tid).toNat * 8)) + 6) = some (.bool t2) ∧
bcase t2 (
∃ n1 : Int, cell h0 s ((13 + ((tid).toNat * 8)) + 7) = some (.int .i64 n1) ∧
Post (.bool (decide (n1 = seq))) h0) (
Post (.bool false) h0)) (
∃ n2 : Int, cell h0 s ((13 + ((tid).toNat * 8)) + 4) = some (.int .i64 n2) ∧
Runs Tryz.prog 35 #[(.int .i64 n2), (.int .i64 seq)] h0 fun r1 h1 =>
∃ n3 : Int,
r1 = (.int .i64 n3) ∧
bcase (decide (n3 < (64 : Int))) (
∃ n4 : Int, cell h1 s ((13 + ((tid).toNat * 8)) + 5) = some (.int .u64 n4) ∧
fits .u64 n3 ∧
(0 ≤ n3 ∧ n3 ≤ kbits .u64) ∧
Post (.bool (decide ((bits .and .u64 (n4 / (pow2 n3)) (1 : Int)) = (1 : Int)))) h1) (
Post (.bool false) h1))))))) :
    Runs Tryz.prog 17 #[(.pointer (some ⟨s, 0, none⟩)), (.int .i64 tid), (.int .i64 seq)] h0 Post :=
  runs_of (args := [(.pointer (some ⟨s, 0, none⟩)), (.int .i64 tid), (.int .i64 seq)]) (fun n => ⟨true, false⟩) (fun _ => []) (fun _ => none) (fun _ => []) Tryz.func17 rfl (by rw [Tryz.ntmps17]; simp) (Eq.mp (by kernel_rfl) H)

theorem vc_muezzinref24_Station_Waits (s : Nat) (tid : Int) (h0 : Heap) (Post : Value → Heap → Prop) (H :
bcase (decide (tid < (0 : Int))) (
Post (.int .i64 (0 : Int)) h0) (
bcase (decide ((8 : Int) ≤ tid)) (
Post (.int .i64 (0 : Int)) h0) (
(0 ≤ tid ∧ tid < ((8 : Nat) : Int)) ∧
∃ (s1 : Option Addr) (s1l s1c : Nat), cell h0 s ((13 + ((tid).toNat * 8)) + 3) = some (.slice s1 s1l s1c) ∧
Post (.int .i64 ((s1l : Nat) : Int)) h0))) :
    Runs Tryz.prog 15 #[(.pointer (some ⟨s, 0, none⟩)), (.int .i64 tid)] h0 Post :=
  runs_of (args := [(.pointer (some ⟨s, 0, none⟩)), (.int .i64 tid)]) (fun n => ⟨true, false⟩) (fun _ => []) (fun _ => none) (fun _ => []) Tryz.func15 rfl (by rw [Tryz.ntmps15]; simp) (Eq.mp (by kernel_rfl) H)

theorem vc_muezzinref24_Station_Session (s : Nat) (tid : Int) (h0 : Heap) (Post : Value → Heap → Prop) (H :
bcase (decide (tid < (0 : Int))) (
Post (.tuple #[(.int .i64 (0 : Int)), (.int .i64 (0 : Int)), (.bool false)]) h0) (
bcase (decide ((8 : Int) ≤ tid)) (
Post (.tuple #[(.int .i64 (0 : Int)), (.int .i64 (0 : Int)), (.bool false)]) h0) (
(0 ≤ tid ∧ tid < ((8 : Nat) : Int)) ∧
∃ t1 : Bool, cell h0 s (13 + ((tid).toNat * 8)) = some (.bool t1) ∧
bcase (!t1) (
Post (.tuple #[(.int .i64 (0 : Int)), (.int .i64 (0 : Int)), (.bool false)]) h0) (
(0 ≤ tid ∧ tid < ((8 : Nat) : Int)) ∧
∃ n1 : Int, cell h0 s ((13 + ((tid).toNat * 8)) + 1) = some (.int .i64 n1) ∧
(0 ≤ tid ∧ tid < ((8 : Nat) : Int)) ∧
∃ n2 : Int, cell h0 s ((13 + ((tid).toNat * 8)) + 2) = some (.int .i64 n2) ∧
Post (.tuple #[(.int .i64 n1), (.int .i64 n2), (.bool true)]) h0)))) :
    Runs Tryz.prog 14 #[(.pointer (some ⟨s, 0, none⟩)), (.int .i64 tid)] h0 Post :=
  runs_of (args := [(.pointer (some ⟨s, 0, none⟩)), (.int .i64 tid)]) (fun n => ⟨true, false⟩) (fun _ => []) (fun _ => none) (fun _ => []) Tryz.func14 rfl (by rw [Tryz.ntmps14]; simp) (Eq.mp (by kernel_rfl) H)

theorem vc_muezzinref24_Station_Leave (s : Nat) (h0 : Heap) (Post : Value → Heap → Prop) (H :
∀ (b1 : Nat) (h1 : Heap), b1 = h0.size → h1 = h0.push (.cells ([(.slice none 0 0)] : List Value).toArray 46) →
∃ (I1 : Int → Heap → Prop) (m1 : Int → Heap → Nat), I1 (0 : Int) h1 ∧ ∀ _ : Env,
∀ (t_1 : Int) (h2 : Heap), I1 t_1 h2 →
bcase (decide (t_1 < (8 : Int))) (
(0 ≤ t_1 ∧ t_1 < ((8 : Nat) : Int)) ∧
Runs Tryz.prog 54 #[(.pointer (some ⟨s, (13 + ((t_1).toNat * 8)), none⟩)), (.pointer (some ⟨b1, 0, none⟩))] h2 fun r1 h3 =>
(0 ≤ t_1 ∧ t_1 < ((8 : Nat) : Int)) ∧
((([(.bool false), (.int .i64 (0 : Int)), (.int .i64 (0 : Int)), (.slice none 0 0), (.int .i64 (0 : Int)), (.int .u64 (0 : Int)), (.bool false), (.int .i64 (0 : Int))] : List Value)).length = 8 ∧ wrs h3 s (13 + ((t_1).toNat * 8)) 8 ∧ ∀ u ∈ (([(.bool false), (.int .i64 (0 : Int)), (.int .i64 (0 : Int)), (.slice none 0 0), (.int .i64 (0 : Int)), (.int .u64 (0 : Int)), (.bool false), (.int .i64 (0 : Int))] : List Value) : List Value), u.oneCell' = true) ∧ ∀ h4 : Heap, h4 = setr h3 s (13 + ((t_1).toNat * 8)) ([(.bool false), (.int .i64 (0 : Int)), (.int .i64 (0 : Int)), (.slice none 0 0), (.int .i64 (0 : Int)), (.int .u64 (0 : Int)), (.bool false), (.int .i64 (0 : Int))] : List Value) →
fits .i64 (t_1 + (1 : Int)) ∧
I1 (t_1 + (1 : Int)) h4 ∧ m1 (t_1 + (1 : Int)) h4 < m1 t_1 h2) (
∃ (s1 : Option Addr) (s1l s1c : Nat), cell h2 b1 0 = some (.slice s1 s1l s1c) ∧
Post (.slice s1 s1l s1c) h2)) :
    Runs Tryz.prog 29 #[(.pointer (some ⟨s, 0, none⟩))] h0 Post :=
  runs_of (args := [(.pointer (some ⟨s, 0, none⟩))]) (fun n => ⟨true, false⟩) (fun n => match n with | 0 => [(4, .int .i64)] | _ => []) (fun _ => none) (fun _ => []) Tryz.func29 rfl (by rw [Tryz.ntmps29]; simp) (Eq.mp (by kernel_rfl) H)
end Go.Proofs.YtepodifionoigaaGreatDoor
set_option linter.unusedVariables false
set_option linter.unusedSimpArgs false
set_option maxRecDepth 100000
namespace Go.Proofs.YtepodifionoigaaGreatDoor
open Go.Vc
theorem vc_ctl_long (b : Option Addr) (bL bC : Nat) (kind : Int) (n : Int) (h0 : Heap) (Post : Value → Heap → Prop) (H :
bcase (decide ((0 : Int) < ((bL : Nat) : Int))) (
(0 ≤ (0 : Int) ∧ (0 : Int) < ((bL : Nat) : Int)) ∧
onAddr b fun b1 o1 =>
∃ n1 : Int, cell h0 b1 o1 = some (.int .u8 n1) ∧
bcase (!decide (n1 = kind)) (
∃ v1 : Value, cell h0 2 0 = some v1 ∧
Post v1 h0) (
bcase (decide (((bL : Nat) : Int) < n)) (
∃ v2 : Value, cell h0 1 0 = some v2 ∧
Post v2 h0) (
bcase (decide (n < ((bL : Nat) : Int))) (
∃ v3 : Value, cell h0 3 0 = some v3 ∧
Post v3 h0) (
Post .nilIface h0)))) (
bcase (decide (((bL : Nat) : Int) < n)) (
∃ v4 : Value, cell h0 1 0 = some v4 ∧
Post v4 h0) (
bcase (decide (n < ((bL : Nat) : Int))) (
∃ v5 : Value, cell h0 3 0 = some v5 ∧
Post v5 h0) (
Post .nilIface h0)))) :
    Runs Tryz.prog 91 #[(.slice b bL bC), (.int .u8 kind), (.int .i64 n)] h0 Post :=
  runs_of (args := [(.slice b bL bC), (.int .u8 kind), (.int .i64 n)]) (fun n => ⟨true, false⟩) (fun _ => []) (fun _ => none) (fun _ => []) Tryz.func91 rfl (by rw [Tryz.ntmps91]; simp) (Eq.mp (by kernel_rfl) H)

theorem vc_ctl_asked (b : Option Addr) (bL bC : Nat) (h0 : Heap) (Post : Value → Heap → Prop) (H :
∀ (b1 : Nat) (h1 : Heap), b1 = h0.size → h1 = h0.push (.cells ([(.int .u8 (0 : Int)), (.int .u8 (0 : Int)), (.int .u8 (0 : Int)), (.int .u8 (0 : Int)), (.int .u8 (0 : Int)), (.int .u8 (0 : Int)), (.int .u8 (0 : Int)), (.int .u8 (0 : Int)), (.int .u8 (0 : Int)), (.int .u8 (0 : Int)), (.int .u8 (0 : Int)), (.int .u8 (0 : Int)), (.int .i64 (0 : Int)), (.int .i64 (0 : Int))] : List Value).toArray 75) →
∃ J1 : Option Addr → Heap → Prop, (
(0 ≤ (16 : Int) ∧ (16 : Int) ≤ ((bL : Nat) : Int)) ∧
(0 ≤ (18 : Int) ∧ (18 : Int) ≤ ((bL : Nat) : Int)) ∧
(
Runs Tryz.prog 110 #[(.slice (slcAddr b 16 bC 16) (bL - 16) (bC - 16))] h1 fun r1 h2 =>
∃ n1 : Int,
r1 = (.int .i64 n1) ∧
(0 ≤ n1 ∧ 0 < (4096 : Int) ∧ fits .i64 (n1 / (4096 : Int))) ∧
(
Runs Tryz.prog 110 #[(.slice (slcAddr b 18 bC 18) (bL - 18) (bC - 18))] h2 fun r2 h3 =>
∃ n2 : Int,
r2 = (.int .i64 n2) ∧
(0 ≤ n2 ∧ 0 < (16 : Int) ∧ fits .i64 (n2 / (16 : Int))) ∧
∀ (b2 : Nat) (h4 : Heap), b2 = h3.size → h4 = h3.push (.cells ([(.int .u8 (0 : Int)), (.int .u8 (0 : Int)), (.int .u8 (0 : Int)), (.int .u8 (0 : Int)), (.int .u8 (0 : Int)), (.int .u8 (0 : Int)), (.int .u8 (0 : Int)), (.int .u8 (0 : Int)), (.int .u8 (0 : Int)), (.int .u8 (0 : Int)), (.int .u8 (0 : Int)), (.int .u8 (0 : Int)), (.int .i64 (0 : Int)), (.int .i64 (0 : Int))] : List Value).toArray 75) →
((([(.int .u8 (0 : Int)), (.int .u8 (0 : Int)), (.int .u8 (0 : Int)), (.int .u8 (0 : Int)), (.int .u8 (0 : Int)), (.int .u8 (0 : Int)), (.int .u8 (0 : Int)), (.int .u8 (0 : Int)), (.int .u8 (0 : Int)), (.int .u8 (0 : Int)), (.int .u8 (0 : Int)), (.int .u8 (0 : Int)), (.int .i64 (n1 / (4096 : Int))), (.int .i64 (n2 / (16 : Int)))] : List Value)).length = 14 ∧ wrs h4 b2 0 14 ∧ ∀ u ∈ (([(.int .u8 (0 : Int)), (.int .u8 (0 : Int)), (.int .u8 (0 : Int)), (.int .u8 (0 : Int)), (.int .u8 (0 : Int)), (.int .u8 (0 : Int)), (.int .u8 (0 : Int)), (.int .u8 (0 : Int)), (.int .u8 (0 : Int)), (.int .u8 (0 : Int)), (.int .u8 (0 : Int)), (.int .u8 (0 : Int)), (.int .i64 (n1 / (4096 : Int))), (.int .i64 (n2 / (16 : Int)))] : List Value) : List Value), u.oneCell' = true) ∧ ∀ h5 : Heap, h5 = setr h4 b2 0 ([(.int .u8 (0 : Int)), (.int .u8 (0 : Int)), (.int .u8 (0 : Int)), (.int .u8 (0 : Int)), (.int .u8 (0 : Int)), (.int .u8 (0 : Int)), (.int .u8 (0 : Int)), (.int .u8 (0 : Int)), (.int .u8 (0 : Int)), (.int .u8 (0 : Int)), (.int .u8 (0 : Int)), (.int .u8 (0 : Int)), (.int .i64 (n1 / (4096 : Int))), (.int .i64 (n2 / (16 : Int)))] : List Value) →
J1 (some ⟨b2, 0, none⟩) h5) ∧
(
∀ (b3 : Nat) (h6 : Heap), b3 = h2.size → h6 = h2.push (.cells ([(.int .u8 (0 : Int)), (.int .u8 (0 : Int)), (.int .u8 (0 : Int)), (.int .u8 (0 : Int)), (.int .u8 (0 : Int)), (.int .u8 (0 : Int)), (.int .u8 (0 : Int)), (.int .u8 (0 : Int)), (.int .u8 (0 : Int)), (.int .u8 (0 : Int)), (.int .u8 (0 : Int)), (.int .u8 (0 : Int)), (.int .i64 (0 : Int)), (.int .i64 (0 : Int))] : List Value).toArray 75) →
Runs Tryz.prog 110 #[(.slice (slcAddr b 18 bC 18) (bL - 18) (bC - 18))] h6 fun r3 h7 =>
∃ n3 : Int,
r3 = (.int .i64 n3) ∧
(0 ≤ n3 ∧ 0 < (16 : Int) ∧ fits .i64 (n3 / (16 : Int))) ∧
((([(.int .u8 (0 : Int)), (.int .u8 (0 : Int)), (.int .u8 (0 : Int)), (.int .u8 (0 : Int)), (.int .u8 (0 : Int)), (.int .u8 (0 : Int)), (.int .u8 (0 : Int)), (.int .u8 (0 : Int)), (.int .u8 (0 : Int)), (.int .u8 (0 : Int)), (.int .u8 (0 : Int)), (.int .u8 (0 : Int)), (.int .i64 (n1 / (4096 : Int))), (.int .i64 (n3 / (16 : Int)))] : List Value)).length = 14 ∧ wrs h7 b3 0 14 ∧ ∀ u ∈ (([(.int .u8 (0 : Int)), (.int .u8 (0 : Int)), (.int .u8 (0 : Int)), (.int .u8 (0 : Int)), (.int .u8 (0 : Int)), (.int .u8 (0 : Int)), (.int .u8 (0 : Int)), (.int .u8 (0 : Int)), (.int .u8 (0 : Int)), (.int .u8 (0 : Int)), (.int .u8 (0 : Int)), (.int .u8 (0 : Int)), (.int .i64 (n1 / (4096 : Int))), (.int .i64 (n3 / (16 : Int)))] : List Value) : List Value), u.oneCell' = true) ∧ ∀ h8 : Heap, h8 = setr h7 b3 0 ([(.int .u8 (0 : Int)), (.int .u8 (0 : Int)), (.int .u8 (0 : Int)), (.int .u8 (0 : Int)), (.int .u8 (0 : Int)), (.int .u8 (0 : Int)), (.int .u8 (0 : Int)), (.int .u8 (0 : Int)), (.int .u8 (0 : Int)), (.int .u8 (0 : Int)), (.int .u8 (0 : Int)), (.int .u8 (0 : Int)), (.int .i64 (n1 / (4096 : Int))), (.int .i64 (n3 / (16 : Int)))] : List Value) →
J1 (some ⟨b3, 0, none⟩) h8)) ∧
(
∀ (b4 : Nat) (h9 : Heap), b4 = h1.size → h9 = h1.push (.cells ([(.int .u8 (0 : Int)), (.int .u8 (0 : Int)), (.int .u8 (0 : Int)), (.int .u8 (0 : Int)), (.int .u8 (0 : Int)), (.int .u8 (0 : Int)), (.int .u8 (0 : Int)), (.int .u8 (0 : Int)), (.int .u8 (0 : Int)), (.int .u8 (0 : Int)), (.int .u8 (0 : Int)), (.int .u8 (0 : Int)), (.int .i64 (0 : Int)), (.int .i64 (0 : Int))] : List Value).toArray 75) →
Runs Tryz.prog 110 #[(.slice (slcAddr b 16 bC 16) (bL - 16) (bC - 16))] h9 fun r4 h10 =>
∃ n4 : Int,
r4 = (.int .i64 n4) ∧
(0 ≤ n4 ∧ 0 < (4096 : Int) ∧ fits .i64 (n4 / (4096 : Int))) ∧
Runs Tryz.prog 110 #[(.slice (slcAddr b 18 bC 18) (bL - 18) (bC - 18))] h10 fun r5 h11 =>
∃ n5 : Int,
r5 = (.int .i64 n5) ∧
(0 ≤ n5 ∧ 0 < (16 : Int) ∧ fits .i64 (n5 / (16 : Int))) ∧
((([(.int .u8 (0 : Int)), (.int .u8 (0 : Int)), (.int .u8 (0 : Int)), (.int .u8 (0 : Int)), (.int .u8 (0 : Int)), (.int .u8 (0 : Int)), (.int .u8 (0 : Int)), (.int .u8 (0 : Int)), (.int .u8 (0 : Int)), (.int .u8 (0 : Int)), (.int .u8 (0 : Int)), (.int .u8 (0 : Int)), (.int .i64 (n4 / (4096 : Int))), (.int .i64 (n5 / (16 : Int)))] : List Value)).length = 14 ∧ wrs h11 b4 0 14 ∧ ∀ u ∈ (([(.int .u8 (0 : Int)), (.int .u8 (0 : Int)), (.int .u8 (0 : Int)), (.int .u8 (0 : Int)), (.int .u8 (0 : Int)), (.int .u8 (0 : Int)), (.int .u8 (0 : Int)), (.int .u8 (0 : Int)), (.int .u8 (0 : Int)), (.int .u8 (0 : Int)), (.int .u8 (0 : Int)), (.int .u8 (0 : Int)), (.int .i64 (n4 / (4096 : Int))), (.int .i64 (n5 / (16 : Int)))] : List Value) : List Value), u.oneCell' = true) ∧ ∀ h12 : Heap, h12 = setr h11 b4 0 ([(.int .u8 (0 : Int)), (.int .u8 (0 : Int)), (.int .u8 (0 : Int)), (.int .u8 (0 : Int)), (.int .u8 (0 : Int)), (.int .u8 (0 : Int)), (.int .u8 (0 : Int)), (.int .u8 (0 : Int)), (.int .u8 (0 : Int)), (.int .u8 (0 : Int)), (.int .u8 (0 : Int)), (.int .u8 (0 : Int)), (.int .i64 (n4 / (4096 : Int))), (.int .i64 (n5 / (16 : Int)))] : List Value) →
J1 (some ⟨b4, 0, none⟩) h12)) ∧ ∀ _ : Env,
∀ (f_1 : Option Addr) (h13 : Heap), J1 f_1 h13 →
onAddr f_1 fun b5 o1 =>
(0 ≤ (4 : Int) ∧ (4 : Int) ≤ ((bL : Nat) : Int)) ∧
∃ news1 : List Value, (src h13 (slcAddr b 4 bC 4) ((min (bL - 4) 6) * 1) news1 ∧ ∀ u ∈ news1, u.oneCell' = true) ∧
wrs h13 b5 o1 news1.length ∧ ∀ h14 : Heap, h14 = setr h13 b5 o1 news1 →
onAddr f_1 fun b6 o2 =>
(0 ≤ (10 : Int) ∧ (10 : Int) ≤ ((bL : Nat) : Int)) ∧
∃ news2 : List Value, (src h14 (slcAddr b 10 bC 10) ((min (bL - 10) 6) * 1) news2 ∧ ∀ u ∈ news2, u.oneCell' = true) ∧
wrs h14 b6 (o2 + 6) news2.length ∧ ∀ h15 : Heap, h15 = setr h14 b6 (o2 + 6) news2 →
onAddr f_1 fun b7 o3 =>
∃ cs1 : List Value, row h15 b7 o3 14 = some cs1 ∧
(((cs1)).length = 14 ∧ wrs h15 b1 0 14 ∧ ∀ u ∈ ((cs1) : List Value), u.oneCell' = true) ∧ ∀ h16 : Heap, h16 = setr h15 b1 0 (cs1) →
∃ cs2 : List Value, row h16 b1 0 14 = some cs2 ∧
Post (.agg (cs2).toArray) h16) :
    Runs Tryz.prog 92 #[(.slice b bL bC)] h0 Post :=
  runs_of (args := [(.slice b bL bC)]) (fun n => ⟨true, false⟩) (fun _ => []) (fun n => match n with | 2 => some [(3, .ptr)] | _ => none) (fun _ => []) Tryz.func92 rfl (by rw [Tryz.ntmps92]; simp) (Eq.mp (by kernel_rfl) H)

theorem vc_ctl_number (b : Option Addr) (bL bC : Nat) (h0 : Heap) (Post : Value → Heap → Prop) (H :
(0 ≤ (0 : Int) ∧ (0 : Int) < ((bL : Nat) : Int)) ∧
onAddr b fun b1 o1 =>
∃ n1 : Int, cell h0 b1 o1 = some (.int .u8 n1) ∧
fits .i64 n1 ∧
(0 ≤ (1 : Int) ∧ (1 : Int) < ((bL : Nat) : Int)) ∧
onAddr b fun b2 o2 =>
∃ n2 : Int, cell h0 b2 (o2 + 1) = some (.int .u8 n2) ∧
fits .i64 n2 ∧
(0 ≤ (8 : Int) ∧ (8 : Int) ≤ kbits .i64) ∧
fits .i64 (n2 * (256 : Int)) ∧
Post (.int .i64 (bits .or .i64 n1 (n2 * (256 : Int)))) h0) :
    Runs Tryz.prog 110 #[(.slice b bL bC)] h0 Post :=
  runs_of (args := [(.slice b bL bC)]) (fun n => ⟨true, false⟩) (fun _ => []) (fun _ => none) (fun _ => []) Tryz.func110 rfl (by rw [Tryz.ntmps110]; simp) (Eq.mp (by kernel_rfl) H)

theorem vc_ctl_BarBytes (f : List Value) (h0 : Heap) (Post : Value → Heap → Prop) (H :
∀ (b1 : Nat) (h1 : Heap), b1 = h0.size → h1 = h0.push (.cells (f).toArray 75) →
∃ cs1 : List Value, row h1 b1 0 6 = some cs1 ∧
∃ cs2 : List Value, row h1 b1 6 6 = some cs2 ∧
∃ n1 : Int, cell h1 b1 12 = some (.int .i64 n1) ∧
∃ n2 : Int, cell h1 b1 13 = some (.int .i64 n2) ∧
Runs Tryz.prog 105 #[(.int .u8 (132 : Int)), (.agg (cs1).toArray), (.agg (cs2).toArray), (.int .i64 n1), (.int .i64 n2)] h1 fun r1 h2 =>
∃ (s1 : Option Addr) (s1l s1c : Nat),
∃ v1 : Value,
r1 = (.tuple #[(.slice s1 s1l s1c), v1]) ∧
Post (.tuple #[(.slice s1 s1l s1c), v1]) h2) :
    Runs Tryz.prog 93 #[(.agg (f).toArray)] h0 Post :=
  runs_of (args := [(.agg (f).toArray)]) (fun n => ⟨true, false⟩) (fun _ => []) (fun _ => none) (fun _ => []) Tryz.func93 rfl (by rw [Tryz.ntmps93]; simp) (Eq.mp (by kernel_rfl) H)

theorem vc_ctl_ReadBar (b : Option Addr) (bL bC : Nat) (h0 : Heap) (Post : Value → Heap → Prop) (H :
∀ (b1 : Nat) (h1 : Heap), b1 = h0.size → h1 = h0.push (.cells ([(.int .u8 (0 : Int)), (.int .u8 (0 : Int)), (.int .u8 (0 : Int)), (.int .u8 (0 : Int)), (.int .u8 (0 : Int)), (.int .u8 (0 : Int)), (.int .u8 (0 : Int)), (.int .u8 (0 : Int)), (.int .u8 (0 : Int)), (.int .u8 (0 : Int)), (.int .u8 (0 : Int)), (.int .u8 (0 : Int)), (.int .i64 (0 : Int)), (.int .i64 (0 : Int))] : List Value).toArray 75) →
Runs Tryz.prog 91 #[(.slice b bL bC), (.int .u8 (132 : Int)), (.int .i64 (20 : Int))] h1 fun r1 h2 =>
∃ v1 : Value,
r1 = v1 ∧
∃ t1 : Bool, ifeqH Tryz.prog h2 true (v1) (.nilIface) = some t1 ∧
bcase (!t1) (
((([(.int .u8 (0 : Int)), (.int .u8 (0 : Int)), (.int .u8 (0 : Int)), (.int .u8 (0 : Int)), (.int .u8 (0 : Int)), (.int .u8 (0 : Int)), (.int .u8 (0 : Int)), (.int .u8 (0 : Int)), (.int .u8 (0 : Int)), (.int .u8 (0 : Int)), (.int .u8 (0 : Int)), (.int .u8 (0 : Int)), (.int .i64 (0 : Int)), (.int .i64 (0 : Int))] : List Value)).length = 14 ∧ wrs h2 b1 0 14 ∧ ∀ u ∈ (([(.int .u8 (0 : Int)), (.int .u8 (0 : Int)), (.int .u8 (0 : Int)), (.int .u8 (0 : Int)), (.int .u8 (0 : Int)), (.int .u8 (0 : Int)), (.int .u8 (0 : Int)), (.int .u8 (0 : Int)), (.int .u8 (0 : Int)), (.int .u8 (0 : Int)), (.int .u8 (0 : Int)), (.int .u8 (0 : Int)), (.int .i64 (0 : Int)), (.int .i64 (0 : Int))] : List Value) : List Value), u.oneCell' = true) ∧ ∀ h3 : Heap, h3 = setr h2 b1 0 ([(.int .u8 (0 : Int)), (.int .u8 (0 : Int)), (.int .u8 (0 : Int)), (.int .u8 (0 : Int)), (.int .u8 (0 : Int)), (.int .u8 (0 : Int)), (.int .u8 (0 : Int)), (.int .u8 (0 : Int)), (.int .u8 (0 : Int)), (.int .u8 (0 : Int)), (.int .u8 (0 : Int)), (.int .u8 (0 : Int)), (.int .i64 (0 : Int)), (.int .i64 (0 : Int))] : List Value) →
∃ cs1 : List Value, row h3 b1 0 14 = some cs1 ∧
Post (.tuple #[(.agg (cs1).toArray), v1]) h3) (
Runs Tryz.prog 92 #[(.slice b bL bC)] h2 fun r2 h4 =>
∃ cs2 : List Value,
r2 = (.agg (cs2).toArray) ∧
∀ (b2 : Nat) (h5 : Heap), b2 = h4.size → h5 = h4.push (.cells ([(.int .u8 (0 : Int)), (.int .u8 (0 : Int)), (.int .u8 (0 : Int)), (.int .u8 (0 : Int)), (.int .u8 (0 : Int)), (.int .u8 (0 : Int)), (.int .u8 (0 : Int)), (.int .u8 (0 : Int)), (.int .u8 (0 : Int)), (.int .u8 (0 : Int)), (.int .u8 (0 : Int)), (.int .u8 (0 : Int)), (.int .i64 (0 : Int)), (.int .i64 (0 : Int))] : List Value).toArray 75) →
(((cs2)).length = 14 ∧ wrs h5 b2 0 14 ∧ ∀ u ∈ ((cs2) : List Value), u.oneCell' = true) ∧ ∀ h6 : Heap, h6 = setr h5 b2 0 (cs2) →
∃ cs3 : List Value, row h6 b2 0 14 = some cs3 ∧
Runs Tryz.prog 93 #[(.agg (cs3).toArray)] h6 fun r3 h7 =>
∃ (s1 : Option Addr) (s1l s1c : Nat),
∃ v2 : Value,
r3 = (.tuple #[(.slice s1 s1l s1c), v2]) ∧
∃ t2 : Bool, ifeqH Tryz.prog h7 true (v2) (.nilIface) = some t2 ∧
bcase (!t2) (
∃ v3 : Value, cell h7 3 0 = some v3 ∧
((([(.int .u8 (0 : Int)), (.int .u8 (0 : Int)), (.int .u8 (0 : Int)), (.int .u8 (0 : Int)), (.int .u8 (0 : Int)), (.int .u8 (0 : Int)), (.int .u8 (0 : Int)), (.int .u8 (0 : Int)), (.int .u8 (0 : Int)), (.int .u8 (0 : Int)), (.int .u8 (0 : Int)), (.int .u8 (0 : Int)), (.int .i64 (0 : Int)), (.int .i64 (0 : Int))] : List Value)).length = 14 ∧ wrs h7 b1 0 14 ∧ ∀ u ∈ (([(.int .u8 (0 : Int)), (.int .u8 (0 : Int)), (.int .u8 (0 : Int)), (.int .u8 (0 : Int)), (.int .u8 (0 : Int)), (.int .u8 (0 : Int)), (.int .u8 (0 : Int)), (.int .u8 (0 : Int)), (.int .u8 (0 : Int)), (.int .u8 (0 : Int)), (.int .u8 (0 : Int)), (.int .u8 (0 : Int)), (.int .i64 (0 : Int)), (.int .i64 (0 : Int))] : List Value) : List Value), u.oneCell' = true) ∧ ∀ h8 : Heap, h8 = setr h7 b1 0 ([(.int .u8 (0 : Int)), (.int .u8 (0 : Int)), (.int .u8 (0 : Int)), (.int .u8 (0 : Int)), (.int .u8 (0 : Int)), (.int .u8 (0 : Int)), (.int .u8 (0 : Int)), (.int .u8 (0 : Int)), (.int .u8 (0 : Int)), (.int .u8 (0 : Int)), (.int .u8 (0 : Int)), (.int .u8 (0 : Int)), (.int .i64 (0 : Int)), (.int .i64 (0 : Int))] : List Value) →
cell h8 3 0 = some v3 ∧
∃ cs4 : List Value, row h8 b1 0 14 = some cs4 ∧
Post (.tuple #[(.agg (cs4).toArray), v3]) h8) (
Runs Tryz.prog 94 #[(.slice s1 s1l s1c), (.slice b bL bC)] h7 fun r4 h9 =>
∃ t3 : Bool,
r4 = (.bool t3) ∧
bcase (!t3) (
∃ v4 : Value, cell h9 3 0 = some v4 ∧
((([(.int .u8 (0 : Int)), (.int .u8 (0 : Int)), (.int .u8 (0 : Int)), (.int .u8 (0 : Int)), (.int .u8 (0 : Int)), (.int .u8 (0 : Int)), (.int .u8 (0 : Int)), (.int .u8 (0 : Int)), (.int .u8 (0 : Int)), (.int .u8 (0 : Int)), (.int .u8 (0 : Int)), (.int .u8 (0 : Int)), (.int .i64 (0 : Int)), (.int .i64 (0 : Int))] : List Value)).length = 14 ∧ wrs h9 b1 0 14 ∧ ∀ u ∈ (([(.int .u8 (0 : Int)), (.int .u8 (0 : Int)), (.int .u8 (0 : Int)), (.int .u8 (0 : Int)), (.int .u8 (0 : Int)), (.int .u8 (0 : Int)), (.int .u8 (0 : Int)), (.int .u8 (0 : Int)), (.int .u8 (0 : Int)), (.int .u8 (0 : Int)), (.int .u8 (0 : Int)), (.int .u8 (0 : Int)), (.int .i64 (0 : Int)), (.int .i64 (0 : Int))] : List Value) : List Value), u.oneCell' = true) ∧ ∀ h10 : Heap, h10 = setr h9 b1 0 ([(.int .u8 (0 : Int)), (.int .u8 (0 : Int)), (.int .u8 (0 : Int)), (.int .u8 (0 : Int)), (.int .u8 (0 : Int)), (.int .u8 (0 : Int)), (.int .u8 (0 : Int)), (.int .u8 (0 : Int)), (.int .u8 (0 : Int)), (.int .u8 (0 : Int)), (.int .u8 (0 : Int)), (.int .u8 (0 : Int)), (.int .i64 (0 : Int)), (.int .i64 (0 : Int))] : List Value) →
cell h10 3 0 = some v4 ∧
∃ cs5 : List Value, row h10 b1 0 14 = some cs5 ∧
Post (.tuple #[(.agg (cs5).toArray), v4]) h10) (
∃ cs6 : List Value, row h9 b2 0 14 = some cs6 ∧
(((cs6)).length = 14 ∧ wrs h9 b1 0 14 ∧ ∀ u ∈ ((cs6) : List Value), u.oneCell' = true) ∧ ∀ h11 : Heap, h11 = setr h9 b1 0 (cs6) →
∃ cs7 : List Value, row h11 b1 0 14 = some cs7 ∧
Post (.tuple #[(.agg (cs7).toArray), .nilIface]) h11)))) :
    Runs Tryz.prog 60 #[(.slice b bL bC)] h0 Post :=
  runs_of (args := [(.slice b bL bC)]) (fun n => ⟨true, false⟩) (fun _ => []) (fun _ => none) (fun _ => []) Tryz.func60 rfl (by rw [Tryz.ntmps60]; simp) (Eq.mp (by kernel_rfl) H)

theorem vc_act_long (b : Option Addr) (bL bC : Nat) (n : Int) (whats : Option Addr) (whatsL whatsC : Nat) (h0 : Heap) (Post : Value → Heap → Prop) (H :
bcase (decide (((bL : Nat) : Int) < (26 : Int))) (
∃ v1 : Value, cell h0 1 0 = some v1 ∧
Post v1 h0) (
(0 ≤ (0 : Int) ∧ (0 : Int) < ((bL : Nat) : Int)) ∧
onAddr b fun b1 o1 =>
∃ n1 : Int, cell h0 b1 o1 = some (.int .u8 n1) ∧
bcase (!decide (n1 = (208 : Int))) (
∃ v2 : Value, cell h0 2 0 = some v2 ∧
Post v2 h0) (
(0 ≤ (24 : Int) ∧ (24 : Int) < ((bL : Nat) : Int)) ∧
onAddr b fun b2 o2 =>
∃ n2 : Int, cell h0 b2 (o2 + 24) = some (.int .u8 n2) ∧
bcase (!decide (n2 = (3 : Int))) (
∃ v3 : Value, cell h0 2 0 = some v3 ∧
Post v3 h0) (
(0 ≤ (25 : Int) ∧ (25 : Int) < ((bL : Nat) : Int)) ∧
onAddr b fun b3 o3 =>
∃ n3 : Int, cell h0 b3 (o3 + 25) = some (.int .u8 n3) ∧
Runs Tryz.prog 111 #[(.slice whats whatsL whatsC), (.int .u8 n3)] h0 fun r1 h1 =>
∃ n4 : Int,
r1 = (.int .i64 n4) ∧
bcase (decide (n4 < (0 : Int))) (
∃ v4 : Value, cell h1 2 0 = some v4 ∧
Post v4 h1) (
bcase (decide (((bL : Nat) : Int) < n)) (
∃ v5 : Value, cell h1 1 0 = some v5 ∧
Post v5 h1) (
bcase (decide (n < ((bL : Nat) : Int))) (
∃ v6 : Value, cell h1 3 0 = some v6 ∧
Post v6 h1) (
Post .nilIface h1))))))) :
    Runs Tryz.prog 96 #[(.slice b bL bC), (.int .i64 n), (.slice whats whatsL whatsC)] h0 Post :=
  runs_of (args := [(.slice b bL bC), (.int .i64 n), (.slice whats whatsL whatsC)]) (fun n => ⟨true, false⟩) (fun _ => []) (fun _ => none) (fun _ => []) Tryz.func96 rfl (by rw [Tryz.ntmps96]; simp) (Eq.mp (by kernel_rfl) H)

theorem vc_act_addrs (b : Option Addr) (bL bC : Nat) (h0 : Heap) (Post : Value → Heap → Prop) (H :
∀ (b1 : Nat) (h1 : Heap), b1 = h0.size → h1 = h0.push (.cells ([(.int .u8 (0 : Int)), (.int .u8 (0 : Int)), (.int .u8 (0 : Int)), (.int .u8 (0 : Int)), (.int .u8 (0 : Int)), (.int .u8 (0 : Int))] : List Value).toArray 30) →
∀ (b2 : Nat) (h2 : Heap), b2 = h1.size → h2 = h1.push (.cells ([(.int .u8 (0 : Int)), (.int .u8 (0 : Int)), (.int .u8 (0 : Int)), (.int .u8 (0 : Int)), (.int .u8 (0 : Int)), (.int .u8 (0 : Int))] : List Value).toArray 30) →
∀ (b3 : Nat) (h3 : Heap), b3 = h2.size → h3 = h2.push (.cells ([(.int .u8 (0 : Int)), (.int .u8 (0 : Int)), (.int .u8 (0 : Int)), (.int .u8 (0 : Int)), (.int .u8 (0 : Int)), (.int .u8 (0 : Int))] : List Value).toArray 30) →
∀ (b4 : Nat) (h4 : Heap), b4 = h3.size → h4 = h3.push (.cells ([(.int .u8 (0 : Int)), (.int .u8 (0 : Int)), (.int .u8 (0 : Int)), (.int .u8 (0 : Int)), (.int .u8 (0 : Int)), (.int .u8 (0 : Int)), (.int .u8 (0 : Int)), (.int .u8 (0 : Int)), (.int .u8 (0 : Int)), (.int .u8 (0 : Int)), (.int .u8 (0 : Int)), (.int .u8 (0 : Int)), (.int .u8 (0 : Int)), (.int .u8 (0 : Int)), (.int .u8 (0 : Int)), (.int .u8 (0 : Int)), (.int .u8 (0 : Int)), (.int .u8 (0 : Int))] : List Value).toArray 168) →
∃ (I1 : Int → Heap → Prop) (m1 : Int → Heap → Nat), I1 (0 : Int) h4 ∧ ∀ _ : Env,
∀ (x1 : Int) (h5 : Heap), I1 x1 h5 →
bcase (decide (x1 < (3 : Int))) (
(0 ≤ x1 ∧ x1 < ((3 : Nat) : Int)) ∧
fits .i64 (x1 * (6 : Int)) ∧
fits .i64 ((4 : Int) + (x1 * (6 : Int))) ∧
(0 ≤ ((4 : Int) + (x1 * (6 : Int))) ∧ ((4 : Int) + (x1 * (6 : Int))) ≤ ((bL : Nat) : Int)) ∧
∃ news1 : List Value, (src h5 (slcAddr b (((4 : Int) + (x1 * (6 : Int)))).toNat bC ((((4 : Int) + (x1 * (6 : Int)))).toNat * 1)) ((min (bL - (((4 : Int) + (x1 * (6 : Int)))).toNat) 6) * 1) news1 ∧ ∀ u ∈ news1, u.oneCell' = true) ∧
wrs h5 b4 (0 + ((x1).toNat * 6)) news1.length ∧ ∀ h6 : Heap, h6 = setr h5 b4 (0 + ((x1).toNat * 6)) news1 →
fits .i64 (x1 + (1 : Int)) ∧
I1 (x1 + (1 : Int)) h6 ∧ m1 (x1 + (1 : Int)) h6 < m1 x1 h5) (
(0 ≤ (0 : Int) ∧ (0 : Int) < ((3 : Nat) : Int)) ∧
∃ cs1 : List Value, row h5 b4 0 6 = some cs1 ∧
(0 ≤ (1 : Int) ∧ (1 : Int) < ((3 : Nat) : Int)) ∧
∃ cs2 : List Value, row h5 b4 6 6 = some cs2 ∧
(0 ≤ (2 : Int) ∧ (2 : Int) < ((3 : Nat) : Int)) ∧
∃ cs3 : List Value, row h5 b4 12 6 = some cs3 ∧
(((cs1)).length = 6 ∧ wrs h5 b1 0 6 ∧ ∀ u ∈ ((cs1) : List Value), u.oneCell' = true) ∧ ∀ h7 : Heap, h7 = setr h5 b1 0 (cs1) →
row h7 b4 12 6 = some (cs3) ∧
row h7 b4 6 6 = some (cs2) ∧
(((cs2)).length = 6 ∧ wrs h7 b2 0 6 ∧ ∀ u ∈ ((cs2) : List Value), u.oneCell' = true) ∧ ∀ h8 : Heap, h8 = setr h7 b2 0 (cs2) →
row h8 b4 12 6 = some (cs3) ∧
(((cs3)).length = 6 ∧ wrs h8 b3 0 6 ∧ ∀ u ∈ ((cs3) : List Value), u.oneCell' = true) ∧ ∀ h9 : Heap, h9 = setr h8 b3 0 (cs3) →
∃ cs4 : List Value, row h9 b1 0 6 = some cs4 ∧
∃ cs5 : List Value, row h9 b2 0 6 = some cs5 ∧
∃ cs6 : List Value, row h9 b3 0 6 = some cs6 ∧
Post (.tuple #[(.agg (cs4).toArray), (.agg (cs5).toArray), (.agg (cs6).toArray)]) h9)) :
    Runs Tryz.prog 97 #[(.slice b bL bC)] h0 Post :=
  runs_of (args := [(.slice b bL bC)]) (fun n => ⟨true, false⟩) (fun n => match n with | 0 => [(7, .int .i64)] | _ => []) (fun _ => none) (fun _ => []) Tryz.func97 rfl (by rw [Tryz.ntmps97]; simp) (Eq.mp (by kernel_rfl) H)

theorem vc_act_number (b : Option Addr) (bL bC : Nat) (h0 : Heap) (Post : Value → Heap → Prop) (H :
(0 ≤ (0 : Int) ∧ (0 : Int) < ((bL : Nat) : Int)) ∧
onAddr b fun b1 o1 =>
∃ n1 : Int, cell h0 b1 o1 = some (.int .u8 n1) ∧
fits .i64 n1 ∧
(0 ≤ (1 : Int) ∧ (1 : Int) < ((bL : Nat) : Int)) ∧
onAddr b fun b2 o2 =>
∃ n2 : Int, cell h0 b2 (o2 + 1) = some (.int .u8 n2) ∧
fits .i64 n2 ∧
(0 ≤ (8 : Int) ∧ (8 : Int) ≤ kbits .i64) ∧
fits .i64 (n2 * (256 : Int)) ∧
Post (.int .i64 (bits .or .i64 n1 (n2 * (256 : Int)))) h0) :
    Runs Tryz.prog 98 #[(.slice b bL bC)] h0 Post :=
  runs_of (args := [(.slice b bL bC)]) (fun n => ⟨true, false⟩) (fun _ => []) (fun _ => none) (fun _ => []) Tryz.func98 rfl (by rw [Tryz.ntmps98]; simp) (Eq.mp (by kernel_rfl) H)

theorem vc_act_AddBytes (f : List Value) (h0 : Heap) (Post : Value → Heap → Prop) (H :
∀ (b1 : Nat) (h1 : Heap), b1 = h0.size → h1 = h0.push (.cells (f).toArray 78) →
∃ J1 : Heap → Prop, (
∃ n1 : Int, cell h1 b1 19 = some (.int .i64 n1) ∧
Runs Tryz.prog 112 #[(.int .i64 n1), (.int .i64 (255 : Int))] h1 fun r1 h2 =>
∃ t1 : Bool,
r1 = (.bool t1) ∧
bcase (!t1) (
∃ v1 : Value, cell h2 0 0 = some v1 ∧
Post (.tuple #[(.slice none 0 0), v1]) h2) (
∃ n2 : Int, cell h2 b1 20 = some (.int .i64 n2) ∧
Runs Tryz.prog 112 #[(.int .i64 n2), (.int .i64 (7 : Int))] h2 fun r2 h3 =>
∃ t2 : Bool,
r2 = (.bool t2) ∧
bcase (!t2) (
∃ v2 : Value, cell h3 0 0 = some v2 ∧
Post (.tuple #[(.slice none 0 0), v2]) h3) (
∃ n3 : Int, cell h3 b1 21 = some (.int .i64 n3) ∧
Runs Tryz.prog 112 #[(.int .i64 n3), (.int .i64 (1023 : Int))] h3 fun r3 h4 =>
∃ t3 : Bool,
r3 = (.bool t3) ∧
bcase (!t3) (
∃ v3 : Value, cell h4 0 0 = some v3 ∧
Post (.tuple #[(.slice none 0 0), v3]) h4) (
∃ n4 : Int, cell h4 b1 22 = some (.int .i64 n4) ∧
Runs Tryz.prog 112 #[(.int .i64 n4), (.int .i64 (65535 : Int))] h4 fun r4 h5 =>
∃ t4 : Bool,
r4 = (.bool t4) ∧
bcase (!t4) (
∃ v4 : Value, cell h5 0 0 = some v4 ∧
Post (.tuple #[(.slice none 0 0), v4]) h5) (
∃ n5 : Int, cell h5 b1 24 = some (.int .i64 n5) ∧
Runs Tryz.prog 112 #[(.int .i64 n5), (.int .i64 (65535 : Int))] h5 fun r5 h6 =>
∃ t5 : Bool,
r5 = (.bool t5) ∧
bcase (!t5) (
∃ v5 : Value, cell h6 0 0 = some v5 ∧
Post (.tuple #[(.slice none 0 0), v5]) h6) (
∃ n6 : Int, cell h6 b1 23 = some (.int .i64 n6) ∧
Runs Tryz.prog 112 #[(.int .i64 n6), (.int .i64 (4095 : Int))] h6 fun r6 h7 =>
∃ t6 : Bool,
r6 = (.bool t6) ∧
bcase (!t6) (
∃ v6 : Value, cell h7 0 0 = some v6 ∧
Post (.tuple #[(.slice none 0 0), v6]) h7) (
∃ t7 : Bool, cell h7 b1 18 = some (.bool t7) ∧
bcase (!t7) (
∃ n7 : Int, cell h7 b1 24 = some (.int .i64 n7) ∧
bcase (!decide (n7 = (0 : Int))) (
∃ v7 : Value, cell h7 0 0 = some v7 ∧
Post (.tuple #[(.slice none 0 0), v7]) h7) (
∃ t8 : Bool, cell h7 b1 18 = some (.bool t8) ∧
bcase t8 (
∃ n8 : Int, cell h7 b1 23 = some (.int .i64 n8) ∧
bcase (!decide (n8 = (0 : Int))) (
∃ v8 : Value, cell h7 0 0 = some v8 ∧
Post (.tuple #[(.slice none 0 0), v8]) h7) (
J1 h7)) (
J1 h7))) (
∃ t9 : Bool, cell h7 b1 18 = some (.bool t9) ∧
bcase t9 (
∃ n9 : Int, cell h7 b1 23 = some (.int .i64 n9) ∧
bcase (!decide (n9 = (0 : Int))) (
∃ v9 : Value, cell h7 0 0 = some v9 ∧
Post (.tuple #[(.slice none 0 0), v9]) h7) (
J1 h7)) (
J1 h7))))))))) ∧ ∀ _ : Env,
∀ (h8 : Heap), J1 h8 →
∃ t10 : Bool, cell h8 b1 18 = some (.bool t10) ∧
bcase t10 (
∃ J2 : Option Addr → Nat → Nat → Heap → Prop, (
∃ cs1 : List Value, row h8 b1 0 6 = some cs1 ∧
∃ cs2 : List Value, row h8 b1 6 6 = some cs2 ∧
∃ cs3 : List Value, row h8 b1 12 6 = some cs3 ∧
∃ n10 : Int, cell h8 b1 19 = some (.int .i64 n10) ∧
fits .u8 n10 ∧
(
Runs Tryz.prog 113 #[(.agg (cs1).toArray), (.agg (cs2).toArray), (.agg (cs3).toArray), (.int .u8 (1 : Int))] h8 fun r7 h9 =>
∃ (s1 : Option Addr) (s1l s1c : Nat),
r7 = (.slice s1 s1l s1c) ∧
cell h9 b1 19 = some (.int .i64 n10) ∧
∀ (b2 : Nat) (h10 : Heap), b2 = h9.size → h10 = h9.push (.cells ([(.int .u8 n10)] : List Value).toArray 5) →
∃ news1 : List Value, (row h10 b2 0 1 = some news1 ∧ ∀ u ∈ news1, u.oneCell' = true) ∧
appK h10 s1 s1l s1c 1 1 5 1 news1 fun (a1 : Option Addr) (cap1 : Nat) (h11 : Heap) =>
J2 a1 (s1l + 1) cap1 h11) ∧
(
∀ (b3 : Nat) (h12 : Heap), b3 = h8.size → h12 = h8.push (.cells ([(.int .u8 n10)] : List Value).toArray 5) →
Runs Tryz.prog 113 #[(.agg (cs1).toArray), (.agg (cs2).toArray), (.agg (cs3).toArray), (.int .u8 (1 : Int))] h12 fun r8 h13 =>
∃ (s2 : Option Addr) (s2l s2c : Nat),
r8 = (.slice s2 s2l s2c) ∧
∃ news2 : List Value, (row h13 b3 0 1 = some news2 ∧ ∀ u ∈ news2, u.oneCell' = true) ∧
appK h13 s2 s2l s2c 1 1 5 1 news2 fun (a2 : Option Addr) (cap2 : Nat) (h14 : Heap) =>
J2 a2 (s2l + 1) cap2 h14)) ∧ ∀ _ : Env,
∀ (b_1 : Option Addr) (b_1l b_1c : Nat) (h15 : Heap), J2 b_1 b_1l b_1c h15 →
∃ J3 : Option Addr → Nat → Nat → Heap → Prop, (
∃ t11 : Bool, cell h15 b1 18 = some (.bool t11) ∧
bcase t11 (
∃ n11 : Int, cell h15 b1 24 = some (.int .i64 n11) ∧
Runs Tryz.prog 114 #[(.int .i64 n11)] h15 fun r9 h16 =>
∃ (s3 : Option Addr) (s3l s3c : Nat),
r9 = (.slice s3 s3l s3c) ∧
∃ news3 : List Value, (src h16 s3 (s3l * 1) news3 ∧ ∀ u ∈ news3, u.oneCell' = true) ∧
appK h16 b_1 b_1l b_1c s3l 1 5 1 news3 fun (a3 : Option Addr) (cap3 : Nat) (h17 : Heap) =>
J3 a3 (b_1l + s3l) cap3 h17) (
J3 b_1 b_1l b_1c h15)) ∧ ∀ _ : Env,
∀ (b_2 : Option Addr) (b_2l b_2c : Nat) (h18 : Heap), J3 b_2 b_2l b_2c h18 →
∃ n12 : Int, cell h18 b1 20 = some (.int .i64 n12) ∧
fits .i64 (n12 * (4 : Int)) ∧
fits .i64 ((2 : Int) + (n12 * (4 : Int))) ∧
∃ n13 : Int, cell h18 b1 21 = some (.int .i64 n13) ∧
fits .i64 (n13 * (64 : Int)) ∧
fits .i64 (((2 : Int) + (n12 * (4 : Int))) + (n13 * (64 : Int))) ∧
Runs Tryz.prog 114 #[(.int .i64 (((2 : Int) + (n12 * (4 : Int))) + (n13 * (64 : Int))))] h18 fun r10 h19 =>
∃ (s4 : Option Addr) (s4l s4c : Nat),
r10 = (.slice s4 s4l s4c) ∧
∃ news4 : List Value, (src h19 s4 (s4l * 1) news4 ∧ ∀ u ∈ news4, u.oneCell' = true) ∧
appK h19 b_2 b_2l b_2c s4l 1 5 1 news4 fun (a4 : Option Addr) (cap4 : Nat) (h20 : Heap) =>
∃ n14 : Int, cell h20 b1 22 = some (.int .i64 n14) ∧
Runs Tryz.prog 114 #[(.int .i64 n14)] h20 fun r11 h21 =>
∃ (s5 : Option Addr) (s5l s5c : Nat),
r11 = (.slice s5 s5l s5c) ∧
∃ news5 : List Value, (src h21 s5 (s5l * 1) news5 ∧ ∀ u ∈ news5, u.oneCell' = true) ∧
appK h21 a4 (b_2l + s4l) cap4 s5l 1 5 1 news5 fun (a5 : Option Addr) (cap5 : Nat) (h22 : Heap) =>
∃ t12 : Bool, cell h22 b1 18 = some (.bool t12) ∧
bcase (!t12) (
∃ n15 : Int, cell h22 b1 23 = some (.int .i64 n15) ∧
fits .i64 (n15 * (16 : Int)) ∧
Runs Tryz.prog 114 #[(.int .i64 (n15 * (16 : Int)))] h22 fun r12 h23 =>
∃ (s6 : Option Addr) (s6l s6c : Nat),
r12 = (.slice s6 s6l s6c) ∧
∃ news6 : List Value, (src h23 s6 (s6l * 1) news6 ∧ ∀ u ∈ news6, u.oneCell' = true) ∧
appK h23 a5 ((b_2l + s4l) + s5l) cap5 s6l 1 5 1 news6 fun (a6 : Option Addr) (cap6 : Nat) (h24 : Heap) =>
Post (.tuple #[(.slice a6 (((b_2l + s4l) + s5l) + s6l) cap6), .nilIface]) h24) (
Post (.tuple #[(.slice a5 ((b_2l + s4l) + s5l) cap5), .nilIface]) h22)) (
∃ J4 : Option Addr → Nat → Nat → Heap → Prop, (
∃ cs4 : List Value, row h8 b1 0 6 = some cs4 ∧
∃ cs5 : List Value, row h8 b1 6 6 = some cs5 ∧
∃ cs6 : List Value, row h8 b1 12 6 = some cs6 ∧
∃ n16 : Int, cell h8 b1 19 = some (.int .i64 n16) ∧
fits .u8 n16 ∧
(
Runs Tryz.prog 113 #[(.agg (cs4).toArray), (.agg (cs5).toArray), (.agg (cs6).toArray), (.int .u8 (0 : Int))] h8 fun r13 h25 =>
∃ (s7 : Option Addr) (s7l s7c : Nat),
r13 = (.slice s7 s7l s7c) ∧
cell h25 b1 19 = some (.int .i64 n16) ∧
∀ (b4 : Nat) (h26 : Heap), b4 = h25.size → h26 = h25.push (.cells ([(.int .u8 n16)] : List Value).toArray 5) →
∃ news7 : List Value, (row h26 b4 0 1 = some news7 ∧ ∀ u ∈ news7, u.oneCell' = true) ∧
appK h26 s7 s7l s7c 1 1 5 1 news7 fun (a7 : Option Addr) (cap7 : Nat) (h27 : Heap) =>
J4 a7 (s7l + 1) cap7 h27) ∧
(
∀ (b5 : Nat) (h28 : Heap), b5 = h8.size → h28 = h8.push (.cells ([(.int .u8 n16)] : List Value).toArray 5) →
Runs Tryz.prog 113 #[(.agg (cs4).toArray), (.agg (cs5).toArray), (.agg (cs6).toArray), (.int .u8 (0 : Int))] h28 fun r14 h29 =>
∃ (s8 : Option Addr) (s8l s8c : Nat),
r14 = (.slice s8 s8l s8c) ∧
∃ news8 : List Value, (row h29 b5 0 1 = some news8 ∧ ∀ u ∈ news8, u.oneCell' = true) ∧
appK h29 s8 s8l s8c 1 1 5 1 news8 fun (a8 : Option Addr) (cap8 : Nat) (h30 : Heap) =>
J4 a8 (s8l + 1) cap8 h30)) ∧ ∀ _ : Env,
∀ (b_3 : Option Addr) (b_3l b_3c : Nat) (h31 : Heap), J4 b_3 b_3l b_3c h31 →
∃ J5 : Option Addr → Nat → Nat → Heap → Prop, (
∃ t13 : Bool, cell h31 b1 18 = some (.bool t13) ∧
bcase t13 (
∃ n17 : Int, cell h31 b1 24 = some (.int .i64 n17) ∧
Runs Tryz.prog 114 #[(.int .i64 n17)] h31 fun r15 h32 =>
∃ (s9 : Option Addr) (s9l s9c : Nat),
r15 = (.slice s9 s9l s9c) ∧
∃ news9 : List Value, (src h32 s9 (s9l * 1) news9 ∧ ∀ u ∈ news9, u.oneCell' = true) ∧
appK h32 b_3 b_3l b_3c s9l 1 5 1 news9 fun (a9 : Option Addr) (cap9 : Nat) (h33 : Heap) =>
J5 a9 (b_3l + s9l) cap9 h33) (
J5 b_3 b_3l b_3c h31)) ∧ ∀ _ : Env,
∀ (b_4 : Option Addr) (b_4l b_4c : Nat) (h34 : Heap), J5 b_4 b_4l b_4c h34 →
∃ n18 : Int, cell h34 b1 20 = some (.int .i64 n18) ∧
fits .i64 (n18 * (4 : Int)) ∧
fits .i64 ((2 : Int) + (n18 * (4 : Int))) ∧
∃ n19 : Int, cell h34 b1 21 = some (.int .i64 n19) ∧
fits .i64 (n19 * (64 : Int)) ∧
fits .i64 (((2 : Int) + (n18 * (4 : Int))) + (n19 * (64 : Int))) ∧
Runs Tryz.prog 114 #[(.int .i64 (((2 : Int) + (n18 * (4 : Int))) + (n19 * (64 : Int))))] h34 fun r16 h35 =>
∃ (s10 : Option Addr) (s10l s10c : Nat),
r16 = (.slice s10 s10l s10c) ∧
∃ news10 : List Value, (src h35 s10 (s10l * 1) news10 ∧ ∀ u ∈ news10, u.oneCell' = true) ∧
appK h35 b_4 b_4l b_4c s10l 1 5 1 news10 fun (a10 : Option Addr) (cap10 : Nat) (h36 : Heap) =>
∃ n20 : Int, cell h36 b1 22 = some (.int .i64 n20) ∧
Runs Tryz.prog 114 #[(.int .i64 n20)] h36 fun r17 h37 =>
∃ (s11 : Option Addr) (s11l s11c : Nat),
r17 = (.slice s11 s11l s11c) ∧
∃ news11 : List Value, (src h37 s11 (s11l * 1) news11 ∧ ∀ u ∈ news11, u.oneCell' = true) ∧
appK h37 a10 (b_4l + s10l) cap10 s11l 1 5 1 news11 fun (a11 : Option Addr) (cap11 : Nat) (h38 : Heap) =>
∃ t14 : Bool, cell h38 b1 18 = some (.bool t14) ∧
bcase (!t14) (
∃ n21 : Int, cell h38 b1 23 = some (.int .i64 n21) ∧
fits .i64 (n21 * (16 : Int)) ∧
Runs Tryz.prog 114 #[(.int .i64 (n21 * (16 : Int)))] h38 fun r18 h39 =>
∃ (s12 : Option Addr) (s12l s12c : Nat),
r18 = (.slice s12 s12l s12c) ∧
∃ news12 : List Value, (src h39 s12 (s12l * 1) news12 ∧ ∀ u ∈ news12, u.oneCell' = true) ∧
appK h39 a11 ((b_4l + s10l) + s11l) cap11 s12l 1 5 1 news12 fun (a12 : Option Addr) (cap12 : Nat) (h40 : Heap) =>
Post (.tuple #[(.slice a12 (((b_4l + s10l) + s11l) + s12l) cap12), .nilIface]) h40) (
Post (.tuple #[(.slice a11 ((b_4l + s10l) + s11l) cap11), .nilIface]) h38))) :
    Runs Tryz.prog 99 #[(.agg (f).toArray)] h0 Post :=
  runs_of (args := [(.agg (f).toArray)]) (fun n => ⟨true, false⟩) (fun _ => []) (fun n => match n with | 3 => some [] | 7 => some [(5, .slice)] | 9 => some [(5, .slice)] | _ => none) (fun _ => []) Tryz.func99 rfl (by rw [Tryz.ntmps99]; simp) (Eq.mp (by kernel_rfl) H)

theorem vc_act_DelBytes (f : List Value) (h0 : Heap) (Post : Value → Heap → Prop) (H :
∀ (b1 : Nat) (h1 : Heap), b1 = h0.size → h1 = h0.push (.cells (f).toArray 81) →
∃ J1 : Heap → Prop, (
∃ n1 : Int, cell h1 b1 19 = some (.int .i64 n1) ∧
Runs Tryz.prog 112 #[(.int .i64 n1), (.int .i64 (7 : Int))] h1 fun r1 h2 =>
∃ t1 : Bool,
r1 = (.bool t1) ∧
bcase (!t1) (
∃ v1 : Value, cell h2 0 0 = some v1 ∧
Post (.tuple #[(.slice none 0 0), v1]) h2) (
∃ n2 : Int, cell h2 b1 20 = some (.int .i64 n2) ∧
Runs Tryz.prog 112 #[(.int .i64 n2), (.int .i64 (65535 : Int))] h2 fun r2 h3 =>
∃ t2 : Bool,
r2 = (.bool t2) ∧
bcase (!t2) (
∃ v2 : Value, cell h3 0 0 = some v2 ∧
Post (.tuple #[(.slice none 0 0), v2]) h3) (
J1 h3))) ∧ ∀ _ : Env,
∀ (h4 : Heap), J1 h4 →
∃ n3 : Int, cell h4 b1 19 = some (.int .i64 n3) ∧
fits .i64 (n3 * (4096 : Int)) ∧
∃ J2 : Int → Heap → Prop, (
∃ t3 : Bool, cell h4 b1 18 = some (.bool t3) ∧
bcase t3 (
fits .i64 ((n3 * (4096 : Int)) + (2048 : Int)) ∧
J2 ((n3 * (4096 : Int)) + (2048 : Int)) h4) (
J2 (n3 * (4096 : Int)) h4)) ∧ ∀ _ : Env,
∀ (n_1 : Int) (h5 : Heap), J2 n_1 h5 →
∃ cs1 : List Value, row h5 b1 0 6 = some cs1 ∧
∃ cs2 : List Value, row h5 b1 6 6 = some cs2 ∧
∃ cs3 : List Value, row h5 b1 12 6 = some cs3 ∧
∃ n4 : Int, cell h5 b1 20 = some (.int .i64 n4) ∧
Runs Tryz.prog 113 #[(.agg (cs1).toArray), (.agg (cs2).toArray), (.agg (cs3).toArray), (.int .u8 (2 : Int))] h5 fun r3 h6 =>
∃ (s1 : Option Addr) (s1l s1c : Nat),
r3 = (.slice s1 s1l s1c) ∧
cell h6 b1 20 = some (.int .i64 n4) ∧
Runs Tryz.prog 114 #[(.int .i64 n_1)] h6 fun r4 h7 =>
∃ (s2 : Option Addr) (s2l s2c : Nat),
r4 = (.slice s2 s2l s2c) ∧
cell h7 b1 20 = some (.int .i64 n4) ∧
∃ news1 : List Value, (src h7 s2 (s2l * 1) news1 ∧ ∀ u ∈ news1, u.oneCell' = true) ∧
appK h7 s1 s1l s1c s2l 1 5 1 news1 fun (a1 : Option Addr) (cap1 : Nat) (h8 : Heap) =>
cell h8 b1 20 = some (.int .i64 n4) ∧
Runs Tryz.prog 114 #[(.int .i64 n4)] h8 fun r5 h9 =>
∃ (s3 : Option Addr) (s3l s3c : Nat),
r5 = (.slice s3 s3l s3c) ∧
∃ news2 : List Value, (src h9 s3 (s3l * 1) news2 ∧ ∀ u ∈ news2, u.oneCell' = true) ∧
appK h9 a1 (s1l + s2l) cap1 s3l 1 5 1 news2 fun (a2 : Option Addr) (cap2 : Nat) (h10 : Heap) =>
Post (.tuple #[(.slice a2 ((s1l + s2l) + s3l) cap2), .nilIface]) h10) :
    Runs Tryz.prog 100 #[(.agg (f).toArray)] h0 Post :=
  runs_of (args := [(.agg (f).toArray)]) (fun n => ⟨true, false⟩) (fun _ => []) (fun n => match n with | 3 => some [] | 6 => some [(4, .int .i64)] | _ => none) (fun _ => []) Tryz.func100 rfl (by rw [Tryz.ntmps100]; simp) (Eq.mp (by kernel_rfl) H)

theorem vc_act_ReadAdd (b : Option Addr) (bL bC : Nat) (h0 : Heap) (Post : Value → Heap → Prop) (H :
∀ (b1 : Nat) (h1 : Heap), b1 = h0.size → h1 = h0.push (.cells ([(.int .u8 (0 : Int)), (.int .u8 (0 : Int)), (.int .u8 (0 : Int)), (.int .u8 (0 : Int)), (.int .u8 (0 : Int)), (.int .u8 (0 : Int)), (.int .u8 (0 : Int)), (.int .u8 (0 : Int)), (.int .u8 (0 : Int)), (.int .u8 (0 : Int)), (.int .u8 (0 : Int)), (.int .u8 (0 : Int)), (.int .u8 (0 : Int)), (.int .u8 (0 : Int)), (.int .u8 (0 : Int)), (.int .u8 (0 : Int)), (.int .u8 (0 : Int)), (.int .u8 (0 : Int)), (.bool false), (.int .i64 (0 : Int)), (.int .i64 (0 : Int)), (.int .i64 (0 : Int)), (.int .i64 (0 : Int)), (.int .i64 (0 : Int)), (.int .i64 (0 : Int))] : List Value).toArray 78) →
∀ (b2 : Nat) (h2 : Heap), b2 = h1.size → h2 = h1.push (.cells ([(.int .u8 (0 : Int)), (.int .u8 (1 : Int))] : List Value).toArray 5) →
Runs Tryz.prog 96 #[(.slice b bL bC), (.int .i64 (33 : Int)), (.slice (some ⟨b2, 0, none⟩) 2 2)] h2 fun r1 h3 =>
∃ v1 : Value,
r1 = v1 ∧
∃ t1 : Bool, ifeqH Tryz.prog h3 true (v1) (.nilIface) = some t1 ∧
bcase (!t1) (
((([(.int .u8 (0 : Int)), (.int .u8 (0 : Int)), (.int .u8 (0 : Int)), (.int .u8 (0 : Int)), (.int .u8 (0 : Int)), (.int .u8 (0 : Int)), (.int .u8 (0 : Int)), (.int .u8 (0 : Int)), (.int .u8 (0 : Int)), (.int .u8 (0 : Int)), (.int .u8 (0 : Int)), (.int .u8 (0 : Int)), (.int .u8 (0 : Int)), (.int .u8 (0 : Int)), (.int .u8 (0 : Int)), (.int .u8 (0 : Int)), (.int .u8 (0 : Int)), (.int .u8 (0 : Int)), (.bool false), (.int .i64 (0 : Int)), (.int .i64 (0 : Int)), (.int .i64 (0 : Int)), (.int .i64 (0 : Int)), (.int .i64 (0 : Int)), (.int .i64 (0 : Int))] : List Value)).length = 25 ∧ wrs h3 b1 0 25 ∧ ∀ u ∈ (([(.int .u8 (0 : Int)), (.int .u8 (0 : Int)), (.int .u8 (0 : Int)), (.int .u8 (0 : Int)), (.int .u8 (0 : Int)), (.int .u8 (0 : Int)), (.int .u8 (0 : Int)), (.int .u8 (0 : Int)), (.int .u8 (0 : Int)), (.int .u8 (0 : Int)), (.int .u8 (0 : Int)), (.int .u8 (0 : Int)), (.int .u8 (0 : Int)), (.int .u8 (0 : Int)), (.int .u8 (0 : Int)), (.int .u8 (0 : Int)), (.int .u8 (0 : Int)), (.int .u8 (0 : Int)), (.bool false), (.int .i64 (0 : Int)), (.int .i64 (0 : Int)), (.int .i64 (0 : Int)), (.int .i64 (0 : Int)), (.int .i64 (0 : Int)), (.int .i64 (0 : Int))] : List Value) : List Value), u.oneCell' = true) ∧ ∀ h4 : Heap, h4 = setr h3 b1 0 ([(.int .u8 (0 : Int)), (.int .u8 (0 : Int)), (.int .u8 (0 : Int)), (.int .u8 (0 : Int)), (.int .u8 (0 : Int)), (.int .u8 (0 : Int)), (.int .u8 (0 : Int)), (.int .u8 (0 : Int)), (.int .u8 (0 : Int)), (.int .u8 (0 : Int)), (.int .u8 (0 : Int)), (.int .u8 (0 : Int)), (.int .u8 (0 : Int)), (.int .u8 (0 : Int)), (.int .u8 (0 : Int)), (.int .u8 (0 : Int)), (.int .u8 (0 : Int)), (.int .u8 (0 : Int)), (.bool false), (.int .i64 (0 : Int)), (.int .i64 (0 : Int)), (.int .i64 (0 : Int)), (.int .i64 (0 : Int)), (.int .i64 (0 : Int)), (.int .i64 (0 : Int))] : List Value) →
∃ cs1 : List Value, row h4 b1 0 25 = some cs1 ∧
Post (.tuple #[(.agg (cs1).toArray), v1]) h4) (
∃ J1 : Option Addr → Heap → Prop, (
(0 ≤ (25 : Int) ∧ (25 : Int) < ((bL : Nat) : Int)) ∧
onAddr b fun b3 o1 =>
∃ n1 : Int, cell h3 b3 (o1 + 25) = some (.int .u8 n1) ∧
(0 ≤ (26 : Int) ∧ (26 : Int) < ((bL : Nat) : Int)) ∧
onAddr b fun b4 o2 =>
∃ n2 : Int, cell h3 b4 (o2 + 26) = some (.int .u8 n2) ∧
fits .i64 n2 ∧
∀ (b5 : Nat) (h5 : Heap), b5 = h3.size → h5 = h3.push (.cells ([(.int .u8 (0 : Int)), (.int .u8 (0 : Int)), (.int .u8 (0 : Int)), (.int .u8 (0 : Int)), (.int .u8 (0 : Int)), (.int .u8 (0 : Int)), (.int .u8 (0 : Int)), (.int .u8 (0 : Int)), (.int .u8 (0 : Int)), (.int .u8 (0 : Int)), (.int .u8 (0 : Int)), (.int .u8 (0 : Int)), (.int .u8 (0 : Int)), (.int .u8 (0 : Int)), (.int .u8 (0 : Int)), (.int .u8 (0 : Int)), (.int .u8 (0 : Int)), (.int .u8 (0 : Int)), (.bool false), (.int .i64 (0 : Int)), (.int .i64 (0 : Int)), (.int .i64 (0 : Int)), (.int .i64 (0 : Int)), (.int .i64 (0 : Int)), (.int .i64 (0 : Int))] : List Value).toArray 78) →
((([(.int .u8 (0 : Int)), (.int .u8 (0 : Int)), (.int .u8 (0 : Int)), (.int .u8 (0 : Int)), (.int .u8 (0 : Int)), (.int .u8 (0 : Int)), (.int .u8 (0 : Int)), (.int .u8 (0 : Int)), (.int .u8 (0 : Int)), (.int .u8 (0 : Int)), (.int .u8 (0 : Int)), (.int .u8 (0 : Int)), (.int .u8 (0 : Int)), (.int .u8 (0 : Int)), (.int .u8 (0 : Int)), (.int .u8 (0 : Int)), (.int .u8 (0 : Int)), (.int .u8 (0 : Int)), (.bool (decide (n1 = (1 : Int)))), (.int .i64 n2), (.int .i64 (0 : Int)), (.int .i64 (0 : Int)), (.int .i64 (0 : Int)), (.int .i64 (0 : Int)), (.int .i64 (0 : Int))] : List Value)).length = 25 ∧ wrs h5 b5 0 25 ∧ ∀ u ∈ (([(.int .u8 (0 : Int)), (.int .u8 (0 : Int)), (.int .u8 (0 : Int)), (.int .u8 (0 : Int)), (.int .u8 (0 : Int)), (.int .u8 (0 : Int)), (.int .u8 (0 : Int)), (.int .u8 (0 : Int)), (.int .u8 (0 : Int)), (.int .u8 (0 : Int)), (.int .u8 (0 : Int)), (.int .u8 (0 : Int)), (.int .u8 (0 : Int)), (.int .u8 (0 : Int)), (.int .u8 (0 : Int)), (.int .u8 (0 : Int)), (.int .u8 (0 : Int)), (.int .u8 (0 : Int)), (.bool (decide (n1 = (1 : Int)))), (.int .i64 n2), (.int .i64 (0 : Int)), (.int .i64 (0 : Int)), (.int .i64 (0 : Int)), (.int .i64 (0 : Int)), (.int .i64 (0 : Int))] : List Value) : List Value), u.oneCell' = true) ∧ ∀ h6 : Heap, h6 = setr h5 b5 0 ([(.int .u8 (0 : Int)), (.int .u8 (0 : Int)), (.int .u8 (0 : Int)), (.int .u8 (0 : Int)), (.int .u8 (0 : Int)), (.int .u8 (0 : Int)), (.int .u8 (0 : Int)), (.int .u8 (0 : Int)), (.int .u8 (0 : Int)), (.int .u8 (0 : Int)), (.int .u8 (0 : Int)), (.int .u8 (0 : Int)), (.int .u8 (0 : Int)), (.int .u8 (0 : Int)), (.int .u8 (0 : Int)), (.int .u8 (0 : Int)), (.int .u8 (0 : Int)), (.int .u8 (0 : Int)), (.bool (decide (n1 = (1 : Int)))), (.int .i64 n2), (.int .i64 (0 : Int)), (.int .i64 (0 : Int)), (.int .i64 (0 : Int)), (.int .i64 (0 : Int)), (.int .i64 (0 : Int))] : List Value) →
J1 (some ⟨b5, 0, none⟩) h6) ∧ ∀ _ : Env,
∀ (f_1 : Option Addr) (h7 : Heap), J1 f_1 h7 →
∃ J2 : Heap → Prop, (
Runs Tryz.prog 97 #[(.slice b bL bC)] h7 fun r2 h8 =>
∃ cs2 : List Value,
∃ cs3 : List Value,
∃ cs4 : List Value,
r2 = (.tuple #[(.agg (cs2).toArray), (.agg (cs3).toArray), (.agg (cs4).toArray)]) ∧
onAddr f_1 fun b6 o3 =>
(((cs2)).length = 6 ∧ wrs h8 b6 o3 6 ∧ ∀ u ∈ ((cs2) : List Value), u.oneCell' = true) ∧ ∀ h9 : Heap, h9 = setr h8 b6 o3 (cs2) →
onAddr f_1 fun b7 o4 =>
(((cs3)).length = 6 ∧ wrs h9 b7 (o4 + 6) 6 ∧ ∀ u ∈ ((cs3) : List Value), u.oneCell' = true) ∧ ∀ h10 : Heap, h10 = setr h9 b7 (o4 + 6) (cs3) →
onAddr f_1 fun b8 o5 =>
(((cs4)).length = 6 ∧ wrs h10 b8 (o5 + 12) 6 ∧ ∀ u ∈ ((cs4) : List Value), u.oneCell' = true) ∧ ∀ h11 : Heap, h11 = setr h10 b8 (o5 + 12) (cs4) →
J2 h11) ∧ ∀ _ : Env,
∀ (h12 : Heap), J2 h12 →
(0 ≤ (27 : Int) ∧ (27 : Int) ≤ ((bL : Nat) : Int)) ∧
∃ J3 : Option Addr → Nat → Nat → Heap → Prop, (
onAddr f_1 fun b9 o6 =>
∃ t2 : Bool, cell h12 b9 (o6 + 18) = some (.bool t2) ∧
bcase t2 (
Runs Tryz.prog 98 #[(.slice (slcAddr b 27 bC 27) (bL - 27) (bC - 27))] h12 fun r3 h13 =>
∃ n3 : Int,
r3 = (.int .i64 n3) ∧
onAddr f_1 fun b10 o7 =>
wr h13 b10 (o7 + 24) ∧ ∀ h14 : Heap, h14 = setc h13 b10 (o7 + 24) (.int .i64 n3) →
(0 ≤ (2 : Int) ∧ (2 : Int) ≤ (((bL - 27) : Nat) : Int)) ∧
J3 (slcAddr (slcAddr b 27 bC 27) 2 (bC - 27) 2) ((bL - 27) - 2) ((bC - 27) - 2) h14) (
J3 (slcAddr b 27 bC 27) (bL - 27) (bC - 27) h12)) ∧ ∀ _ : Env,
∀ (l_1 : Option Addr) (l_1l l_1c : Nat) (h15 : Heap), J3 l_1 l_1l l_1c h15 →
Runs Tryz.prog 98 #[(.slice l_1 l_1l l_1c)] h15 fun r4 h16 =>
∃ n4 : Int,
r4 = (.int .i64 n4) ∧
(0 ≤ n4 ∧ 0 < (64 : Int)) ∧
(0 ≤ (n4 % (64 : Int)) ∧ 0 < (4 : Int) ∧ fits .i64 ((n4 % (64 : Int)) / (4 : Int))) ∧
(0 ≤ n4 ∧ 0 < (64 : Int) ∧ fits .i64 (n4 / (64 : Int))) ∧
(0 ≤ (2 : Int) ∧ (2 : Int) ≤ ((l_1l : Nat) : Int)) ∧
Runs Tryz.prog 98 #[(.slice (slcAddr l_1 2 l_1c 2) (l_1l - 2) (l_1c - 2))] h16 fun r5 h17 =>
∃ n5 : Int,
r5 = (.int .i64 n5) ∧
onAddr f_1 fun b11 o8 =>
wr h17 b11 (o8 + 20) ∧ ∀ h18 : Heap, h18 = setc h17 b11 (o8 + 20) (.int .i64 ((n4 % (64 : Int)) / (4 : Int))) →
onAddr f_1 fun b12 o9 =>
wr h18 b12 (o9 + 21) ∧ ∀ h19 : Heap, h19 = setc h18 b12 (o9 + 21) (.int .i64 (n4 / (64 : Int))) →
onAddr f_1 fun b13 o10 =>
wr h19 b13 (o10 + 22) ∧ ∀ h20 : Heap, h20 = setc h19 b13 (o10 + 22) (.int .i64 n5) →
∃ J4 : Heap → Prop, (
onAddr f_1 fun b14 o11 =>
∃ t3 : Bool, cell h20 b14 (o11 + 18) = some (.bool t3) ∧
bcase (!t3) (
(0 ≤ (4 : Int) ∧ (4 : Int) ≤ ((l_1l : Nat) : Int)) ∧
Runs Tryz.prog 98 #[(.slice (slcAddr l_1 4 l_1c 4) (l_1l - 4) (l_1c - 4))] h20 fun r6 h21 =>
∃ n6 : Int,
r6 = (.int .i64 n6) ∧
(0 ≤ n6 ∧ 0 < (16 : Int) ∧ fits .i64 (n6 / (16 : Int))) ∧
onAddr f_1 fun b15 o12 =>
wr h21 b15 (o12 + 23) ∧ ∀ h22 : Heap, h22 = setc h21 b15 (o12 + 23) (.int .i64 (n6 / (16 : Int))) →
J4 h22) (
J4 h20)) ∧ ∀ _ : Env,
∀ (h23 : Heap), J4 h23 →
onAddr f_1 fun b16 o13 =>
∃ cs5 : List Value, row h23 b16 o13 25 = some cs5 ∧
Runs Tryz.prog 99 #[(.agg (cs5).toArray)] h23 fun r7 h24 =>
∃ (s1 : Option Addr) (s1l s1c : Nat),
∃ v2 : Value,
r7 = (.tuple #[(.slice s1 s1l s1c), v2]) ∧
∃ t4 : Bool, ifeqH Tryz.prog h24 true (v2) (.nilIface) = some t4 ∧
bcase (!t4) (
∃ v3 : Value, cell h24 3 0 = some v3 ∧
((([(.int .u8 (0 : Int)), (.int .u8 (0 : Int)), (.int .u8 (0 : Int)), (.int .u8 (0 : Int)), (.int .u8 (0 : Int)), (.int .u8 (0 : Int)), (.int .u8 (0 : Int)), (.int .u8 (0 : Int)), (.int .u8 (0 : Int)), (.int .u8 (0 : Int)), (.int .u8 (0 : Int)), (.int .u8 (0 : Int)), (.int .u8 (0 : Int)), (.int .u8 (0 : Int)), (.int .u8 (0 : Int)), (.int .u8 (0 : Int)), (.int .u8 (0 : Int)), (.int .u8 (0 : Int)), (.bool false), (.int .i64 (0 : Int)), (.int .i64 (0 : Int)), (.int .i64 (0 : Int)), (.int .i64 (0 : Int)), (.int .i64 (0 : Int)), (.int .i64 (0 : Int))] : List Value)).length = 25 ∧ wrs h24 b1 0 25 ∧ ∀ u ∈ (([(.int .u8 (0 : Int)), (.int .u8 (0 : Int)), (.int .u8 (0 : Int)), (.int .u8 (0 : Int)), (.int .u8 (0 : Int)), (.int .u8 (0 : Int)), (.int .u8 (0 : Int)), (.int .u8 (0 : Int)), (.int .u8 (0 : Int)), (.int .u8 (0 : Int)), (.int .u8 (0 : Int)), (.int .u8 (0 : Int)), (.int .u8 (0 : Int)), (.int .u8 (0 : Int)), (.int .u8 (0 : Int)), (.int .u8 (0 : Int)), (.int .u8 (0 : Int)), (.int .u8 (0 : Int)), (.bool false), (.int .i64 (0 : Int)), (.int .i64 (0 : Int)), (.int .i64 (0 : Int)), (.int .i64 (0 : Int)), (.int .i64 (0 : Int)), (.int .i64 (0 : Int))] : List Value) : List Value), u.oneCell' = true) ∧ ∀ h25 : Heap, h25 = setr h24 b1 0 ([(.int .u8 (0 : Int)), (.int .u8 (0 : Int)), (.int .u8 (0 : Int)), (.int .u8 (0 : Int)), (.int .u8 (0 : Int)), (.int .u8 (0 : Int)), (.int .u8 (0 : Int)), (.int .u8 (0 : Int)), (.int .u8 (0 : Int)), (.int .u8 (0 : Int)), (.int .u8 (0 : Int)), (.int .u8 (0 : Int)), (.int .u8 (0 : Int)), (.int .u8 (0 : Int)), (.int .u8 (0 : Int)), (.int .u8 (0 : Int)), (.int .u8 (0 : Int)), (.int .u8 (0 : Int)), (.bool false), (.int .i64 (0 : Int)), (.int .i64 (0 : Int)), (.int .i64 (0 : Int)), (.int .i64 (0 : Int)), (.int .i64 (0 : Int)), (.int .i64 (0 : Int))] : List Value) →
cell h25 3 0 = some v3 ∧
∃ cs6 : List Value, row h25 b1 0 25 = some cs6 ∧
Post (.tuple #[(.agg (cs6).toArray), v3]) h25) (
Runs Tryz.prog 94 #[(.slice s1 s1l s1c), (.slice b bL bC)] h24 fun r8 h26 =>
∃ t5 : Bool,
r8 = (.bool t5) ∧
bcase (!t5) (
∃ v4 : Value, cell h26 3 0 = some v4 ∧
((([(.int .u8 (0 : Int)), (.int .u8 (0 : Int)), (.int .u8 (0 : Int)), (.int .u8 (0 : Int)), (.int .u8 (0 : Int)), (.int .u8 (0 : Int)), (.int .u8 (0 : Int)), (.int .u8 (0 : Int)), (.int .u8 (0 : Int)), (.int .u8 (0 : Int)), (.int .u8 (0 : Int)), (.int .u8 (0 : Int)), (.int .u8 (0 : Int)), (.int .u8 (0 : Int)), (.int .u8 (0 : Int)), (.int .u8 (0 : Int)), (.int .u8 (0 : Int)), (.int .u8 (0 : Int)), (.bool false), (.int .i64 (0 : Int)), (.int .i64 (0 : Int)), (.int .i64 (0 : Int)), (.int .i64 (0 : Int)), (.int .i64 (0 : Int)), (.int .i64 (0 : Int))] : List Value)).length = 25 ∧ wrs h26 b1 0 25 ∧ ∀ u ∈ (([(.int .u8 (0 : Int)), (.int .u8 (0 : Int)), (.int .u8 (0 : Int)), (.int .u8 (0 : Int)), (.int .u8 (0 : Int)), (.int .u8 (0 : Int)), (.int .u8 (0 : Int)), (.int .u8 (0 : Int)), (.int .u8 (0 : Int)), (.int .u8 (0 : Int)), (.int .u8 (0 : Int)), (.int .u8 (0 : Int)), (.int .u8 (0 : Int)), (.int .u8 (0 : Int)), (.int .u8 (0 : Int)), (.int .u8 (0 : Int)), (.int .u8 (0 : Int)), (.int .u8 (0 : Int)), (.bool false), (.int .i64 (0 : Int)), (.int .i64 (0 : Int)), (.int .i64 (0 : Int)), (.int .i64 (0 : Int)), (.int .i64 (0 : Int)), (.int .i64 (0 : Int))] : List Value) : List Value), u.oneCell' = true) ∧ ∀ h27 : Heap, h27 = setr h26 b1 0 ([(.int .u8 (0 : Int)), (.int .u8 (0 : Int)), (.int .u8 (0 : Int)), (.int .u8 (0 : Int)), (.int .u8 (0 : Int)), (.int .u8 (0 : Int)), (.int .u8 (0 : Int)), (.int .u8 (0 : Int)), (.int .u8 (0 : Int)), (.int .u8 (0 : Int)), (.int .u8 (0 : Int)), (.int .u8 (0 : Int)), (.int .u8 (0 : Int)), (.int .u8 (0 : Int)), (.int .u8 (0 : Int)), (.int .u8 (0 : Int)), (.int .u8 (0 : Int)), (.int .u8 (0 : Int)), (.bool false), (.int .i64 (0 : Int)), (.int .i64 (0 : Int)), (.int .i64 (0 : Int)), (.int .i64 (0 : Int)), (.int .i64 (0 : Int)), (.int .i64 (0 : Int))] : List Value) →
cell h27 3 0 = some v4 ∧
∃ cs7 : List Value, row h27 b1 0 25 = some cs7 ∧
Post (.tuple #[(.agg (cs7).toArray), v4]) h27) (
onAddr f_1 fun b17 o14 =>
∃ cs8 : List Value, row h26 b17 o14 25 = some cs8 ∧
(((cs8)).length = 25 ∧ wrs h26 b1 0 25 ∧ ∀ u ∈ ((cs8) : List Value), u.oneCell' = true) ∧ ∀ h28 : Heap, h28 = setr h26 b1 0 (cs8) →
∃ cs9 : List Value, row h28 b1 0 25 = some cs9 ∧
Post (.tuple #[(.agg (cs9).toArray), .nilIface]) h28)))) :
    Runs Tryz.prog 62 #[(.slice b bL bC)] h0 Post :=
  runs_of (args := [(.slice b bL bC)]) (fun n => ⟨true, false⟩) (fun _ => []) (fun n => match n with | 5 => some [(5, .ptr)] | 6 => some [] | 10 => some [(6, .slice)] | 14 => some [] | _ => none) (fun _ => []) Tryz.func62 rfl (by rw [Tryz.ntmps62]; simp) (Eq.mp (by kernel_rfl) H)

theorem vc_act_ReadDel (b : Option Addr) (bL bC : Nat) (h0 : Heap) (Post : Value → Heap → Prop) (H :
∀ (b1 : Nat) (h1 : Heap), b1 = h0.size → h1 = h0.push (.cells ([(.int .u8 (0 : Int)), (.int .u8 (0 : Int)), (.int .u8 (0 : Int)), (.int .u8 (0 : Int)), (.int .u8 (0 : Int)), (.int .u8 (0 : Int)), (.int .u8 (0 : Int)), (.int .u8 (0 : Int)), (.int .u8 (0 : Int)), (.int .u8 (0 : Int)), (.int .u8 (0 : Int)), (.int .u8 (0 : Int)), (.int .u8 (0 : Int)), (.int .u8 (0 : Int)), (.int .u8 (0 : Int)), (.int .u8 (0 : Int)), (.int .u8 (0 : Int)), (.int .u8 (0 : Int)), (.bool false), (.int .i64 (0 : Int)), (.int .i64 (0 : Int))] : List Value).toArray 81) →
∀ (b2 : Nat) (h2 : Heap), b2 = h1.size → h2 = h1.push (.cells ([(.int .u8 (2 : Int))] : List Value).toArray 5) →
Runs Tryz.prog 96 #[(.slice b bL bC), (.int .i64 (30 : Int)), (.slice (some ⟨b2, 0, none⟩) 1 1)] h2 fun r1 h3 =>
∃ v1 : Value,
r1 = v1 ∧
∃ t1 : Bool, ifeqH Tryz.prog h3 true (v1) (.nilIface) = some t1 ∧
bcase (!t1) (
((([(.int .u8 (0 : Int)), (.int .u8 (0 : Int)), (.int .u8 (0 : Int)), (.int .u8 (0 : Int)), (.int .u8 (0 : Int)), (.int .u8 (0 : Int)), (.int .u8 (0 : Int)), (.int .u8 (0 : Int)), (.int .u8 (0 : Int)), (.int .u8 (0 : Int)), (.int .u8 (0 : Int)), (.int .u8 (0 : Int)), (.int .u8 (0 : Int)), (.int .u8 (0 : Int)), (.int .u8 (0 : Int)), (.int .u8 (0 : Int)), (.int .u8 (0 : Int)), (.int .u8 (0 : Int)), (.bool false), (.int .i64 (0 : Int)), (.int .i64 (0 : Int))] : List Value)).length = 21 ∧ wrs h3 b1 0 21 ∧ ∀ u ∈ (([(.int .u8 (0 : Int)), (.int .u8 (0 : Int)), (.int .u8 (0 : Int)), (.int .u8 (0 : Int)), (.int .u8 (0 : Int)), (.int .u8 (0 : Int)), (.int .u8 (0 : Int)), (.int .u8 (0 : Int)), (.int .u8 (0 : Int)), (.int .u8 (0 : Int)), (.int .u8 (0 : Int)), (.int .u8 (0 : Int)), (.int .u8 (0 : Int)), (.int .u8 (0 : Int)), (.int .u8 (0 : Int)), (.int .u8 (0 : Int)), (.int .u8 (0 : Int)), (.int .u8 (0 : Int)), (.bool false), (.int .i64 (0 : Int)), (.int .i64 (0 : Int))] : List Value) : List Value), u.oneCell' = true) ∧ ∀ h4 : Heap, h4 = setr h3 b1 0 ([(.int .u8 (0 : Int)), (.int .u8 (0 : Int)), (.int .u8 (0 : Int)), (.int .u8 (0 : Int)), (.int .u8 (0 : Int)), (.int .u8 (0 : Int)), (.int .u8 (0 : Int)), (.int .u8 (0 : Int)), (.int .u8 (0 : Int)), (.int .u8 (0 : Int)), (.int .u8 (0 : Int)), (.int .u8 (0 : Int)), (.int .u8 (0 : Int)), (.int .u8 (0 : Int)), (.int .u8 (0 : Int)), (.int .u8 (0 : Int)), (.int .u8 (0 : Int)), (.int .u8 (0 : Int)), (.bool false), (.int .i64 (0 : Int)), (.int .i64 (0 : Int))] : List Value) →
∃ cs1 : List Value, row h4 b1 0 21 = some cs1 ∧
Post (.tuple #[(.agg (cs1).toArray), v1]) h4) (
(0 ≤ (26 : Int) ∧ (26 : Int) ≤ ((bL : Nat) : Int)) ∧
Runs Tryz.prog 98 #[(.slice (slcAddr b 26 bC 26) (bL - 26) (bC - 26))] h3 fun r2 h5 =>
∃ n1 : Int,
r2 = (.int .i64 n1) ∧
(0 ≤ n1 ∧ 0 < (4096 : Int) ∧ fits .i64 (n1 / (4096 : Int))) ∧
(0 ≤ (28 : Int) ∧ (28 : Int) ≤ ((bL : Nat) : Int)) ∧
Runs Tryz.prog 98 #[(.slice (slcAddr b 28 bC 28) (bL - 28) (bC - 28))] h5 fun r3 h6 =>
∃ n2 : Int,
r3 = (.int .i64 n2) ∧
∀ (b3 : Nat) (h7 : Heap), b3 = h6.size → h7 = h6.push (.cells ([(.int .u8 (0 : Int)), (.int .u8 (0 : Int)), (.int .u8 (0 : Int)), (.int .u8 (0 : Int)), (.int .u8 (0 : Int)), (.int .u8 (0 : Int)), (.int .u8 (0 : Int)), (.int .u8 (0 : Int)), (.int .u8 (0 : Int)), (.int .u8 (0 : Int)), (.int .u8 (0 : Int)), (.int .u8 (0 : Int)), (.int .u8 (0 : Int)), (.int .u8 (0 : Int)), (.int .u8 (0 : Int)), (.int .u8 (0 : Int)), (.int .u8 (0 : Int)), (.int .u8 (0 : Int)), (.bool false), (.int .i64 (0 : Int)), (.int .i64 (0 : Int))] : List Value).toArray 81) →
((([(.int .u8 (0 : Int)), (.int .u8 (0 : Int)), (.int .u8 (0 : Int)), (.int .u8 (0 : Int)), (.int .u8 (0 : Int)), (.int .u8 (0 : Int)), (.int .u8 (0 : Int)), (.int .u8 (0 : Int)), (.int .u8 (0 : Int)), (.int .u8 (0 : Int)), (.int .u8 (0 : Int)), (.int .u8 (0 : Int)), (.int .u8 (0 : Int)), (.int .u8 (0 : Int)), (.int .u8 (0 : Int)), (.int .u8 (0 : Int)), (.int .u8 (0 : Int)), (.int .u8 (0 : Int)), (.bool (decide ((0 : Int) < (bits .and .i64 n1 (2048 : Int))))), (.int .i64 (n1 / (4096 : Int))), (.int .i64 n2)] : List Value)).length = 21 ∧ wrs h7 b3 0 21 ∧ ∀ u ∈ (([(.int .u8 (0 : Int)), (.int .u8 (0 : Int)), (.int .u8 (0 : Int)), (.int .u8 (0 : Int)), (.int .u8 (0 : Int)), (.int .u8 (0 : Int)), (.int .u8 (0 : Int)), (.int .u8 (0 : Int)), (.int .u8 (0 : Int)), (.int .u8 (0 : Int)), (.int .u8 (0 : Int)), (.int .u8 (0 : Int)), (.int .u8 (0 : Int)), (.int .u8 (0 : Int)), (.int .u8 (0 : Int)), (.int .u8 (0 : Int)), (.int .u8 (0 : Int)), (.int .u8 (0 : Int)), (.bool (decide ((0 : Int) < (bits .and .i64 n1 (2048 : Int))))), (.int .i64 (n1 / (4096 : Int))), (.int .i64 n2)] : List Value) : List Value), u.oneCell' = true) ∧ ∀ h8 : Heap, h8 = setr h7 b3 0 ([(.int .u8 (0 : Int)), (.int .u8 (0 : Int)), (.int .u8 (0 : Int)), (.int .u8 (0 : Int)), (.int .u8 (0 : Int)), (.int .u8 (0 : Int)), (.int .u8 (0 : Int)), (.int .u8 (0 : Int)), (.int .u8 (0 : Int)), (.int .u8 (0 : Int)), (.int .u8 (0 : Int)), (.int .u8 (0 : Int)), (.int .u8 (0 : Int)), (.int .u8 (0 : Int)), (.int .u8 (0 : Int)), (.int .u8 (0 : Int)), (.int .u8 (0 : Int)), (.int .u8 (0 : Int)), (.bool (decide ((0 : Int) < (bits .and .i64 n1 (2048 : Int))))), (.int .i64 (n1 / (4096 : Int))), (.int .i64 n2)] : List Value) →
Runs Tryz.prog 97 #[(.slice b bL bC)] h8 fun r4 h9 =>
∃ cs2 : List Value,
∃ cs3 : List Value,
∃ cs4 : List Value,
r4 = (.tuple #[(.agg (cs2).toArray), (.agg (cs3).toArray), (.agg (cs4).toArray)]) ∧
(((cs2)).length = 6 ∧ wrs h9 b3 0 6 ∧ ∀ u ∈ ((cs2) : List Value), u.oneCell' = true) ∧ ∀ h10 : Heap, h10 = setr h9 b3 0 (cs2) →
(((cs3)).length = 6 ∧ wrs h10 b3 6 6 ∧ ∀ u ∈ ((cs3) : List Value), u.oneCell' = true) ∧ ∀ h11 : Heap, h11 = setr h10 b3 6 (cs3) →
(((cs4)).length = 6 ∧ wrs h11 b3 12 6 ∧ ∀ u ∈ ((cs4) : List Value), u.oneCell' = true) ∧ ∀ h12 : Heap, h12 = setr h11 b3 12 (cs4) →
∃ cs5 : List Value, row h12 b3 0 21 = some cs5 ∧
Runs Tryz.prog 100 #[(.agg (cs5).toArray)] h12 fun r5 h13 =>
∃ (s1 : Option Addr) (s1l s1c : Nat),
∃ v2 : Value,
r5 = (.tuple #[(.slice s1 s1l s1c), v2]) ∧
∃ t2 : Bool, ifeqH Tryz.prog h13 true (v2) (.nilIface) = some t2 ∧
bcase (!t2) (
∃ v3 : Value, cell h13 3 0 = some v3 ∧
((([(.int .u8 (0 : Int)), (.int .u8 (0 : Int)), (.int .u8 (0 : Int)), (.int .u8 (0 : Int)), (.int .u8 (0 : Int)), (.int .u8 (0 : Int)), (.int .u8 (0 : Int)), (.int .u8 (0 : Int)), (.int .u8 (0 : Int)), (.int .u8 (0 : Int)), (.int .u8 (0 : Int)), (.int .u8 (0 : Int)), (.int .u8 (0 : Int)), (.int .u8 (0 : Int)), (.int .u8 (0 : Int)), (.int .u8 (0 : Int)), (.int .u8 (0 : Int)), (.int .u8 (0 : Int)), (.bool false), (.int .i64 (0 : Int)), (.int .i64 (0 : Int))] : List Value)).length = 21 ∧ wrs h13 b1 0 21 ∧ ∀ u ∈ (([(.int .u8 (0 : Int)), (.int .u8 (0 : Int)), (.int .u8 (0 : Int)), (.int .u8 (0 : Int)), (.int .u8 (0 : Int)), (.int .u8 (0 : Int)), (.int .u8 (0 : Int)), (.int .u8 (0 : Int)), (.int .u8 (0 : Int)), (.int .u8 (0 : Int)), (.int .u8 (0 : Int)), (.int .u8 (0 : Int)), (.int .u8 (0 : Int)), (.int .u8 (0 : Int)), (.int .u8 (0 : Int)), (.int .u8 (0 : Int)), (.int .u8 (0 : Int)), (.int .u8 (0 : Int)), (.bool false), (.int .i64 (0 : Int)), (.int .i64 (0 : Int))] : List Value) : List Value), u.oneCell' = true) ∧ ∀ h14 : Heap, h14 = setr h13 b1 0 ([(.int .u8 (0 : Int)), (.int .u8 (0 : Int)), (.int .u8 (0 : Int)), (.int .u8 (0 : Int)), (.int .u8 (0 : Int)), (.int .u8 (0 : Int)), (.int .u8 (0 : Int)), (.int .u8 (0 : Int)), (.int .u8 (0 : Int)), (.int .u8 (0 : Int)), (.int .u8 (0 : Int)), (.int .u8 (0 : Int)), (.int .u8 (0 : Int)), (.int .u8 (0 : Int)), (.int .u8 (0 : Int)), (.int .u8 (0 : Int)), (.int .u8 (0 : Int)), (.int .u8 (0 : Int)), (.bool false), (.int .i64 (0 : Int)), (.int .i64 (0 : Int))] : List Value) →
cell h14 3 0 = some v3 ∧
∃ cs6 : List Value, row h14 b1 0 21 = some cs6 ∧
Post (.tuple #[(.agg (cs6).toArray), v3]) h14) (
Runs Tryz.prog 94 #[(.slice s1 s1l s1c), (.slice b bL bC)] h13 fun r6 h15 =>
∃ t3 : Bool,
r6 = (.bool t3) ∧
bcase (!t3) (
∃ v4 : Value, cell h15 3 0 = some v4 ∧
((([(.int .u8 (0 : Int)), (.int .u8 (0 : Int)), (.int .u8 (0 : Int)), (.int .u8 (0 : Int)), (.int .u8 (0 : Int)), (.int .u8 (0 : Int)), (.int .u8 (0 : Int)), (.int .u8 (0 : Int)), (.int .u8 (0 : Int)), (.int .u8 (0 : Int)), (.int .u8 (0 : Int)), (.int .u8 (0 : Int)), (.int .u8 (0 : Int)), (.int .u8 (0 : Int)), (.int .u8 (0 : Int)), (.int .u8 (0 : Int)), (.int .u8 (0 : Int)), (.int .u8 (0 : Int)), (.bool false), (.int .i64 (0 : Int)), (.int .i64 (0 : Int))] : List Value)).length = 21 ∧ wrs h15 b1 0 21 ∧ ∀ u ∈ (([(.int .u8 (0 : Int)), (.int .u8 (0 : Int)), (.int .u8 (0 : Int)), (.int .u8 (0 : Int)), (.int .u8 (0 : Int)), (.int .u8 (0 : Int)), (.int .u8 (0 : Int)), (.int .u8 (0 : Int)), (.int .u8 (0 : Int)), (.int .u8 (0 : Int)), (.int .u8 (0 : Int)), (.int .u8 (0 : Int)), (.int .u8 (0 : Int)), (.int .u8 (0 : Int)), (.int .u8 (0 : Int)), (.int .u8 (0 : Int)), (.int .u8 (0 : Int)), (.int .u8 (0 : Int)), (.bool false), (.int .i64 (0 : Int)), (.int .i64 (0 : Int))] : List Value) : List Value), u.oneCell' = true) ∧ ∀ h16 : Heap, h16 = setr h15 b1 0 ([(.int .u8 (0 : Int)), (.int .u8 (0 : Int)), (.int .u8 (0 : Int)), (.int .u8 (0 : Int)), (.int .u8 (0 : Int)), (.int .u8 (0 : Int)), (.int .u8 (0 : Int)), (.int .u8 (0 : Int)), (.int .u8 (0 : Int)), (.int .u8 (0 : Int)), (.int .u8 (0 : Int)), (.int .u8 (0 : Int)), (.int .u8 (0 : Int)), (.int .u8 (0 : Int)), (.int .u8 (0 : Int)), (.int .u8 (0 : Int)), (.int .u8 (0 : Int)), (.int .u8 (0 : Int)), (.bool false), (.int .i64 (0 : Int)), (.int .i64 (0 : Int))] : List Value) →
cell h16 3 0 = some v4 ∧
∃ cs7 : List Value, row h16 b1 0 21 = some cs7 ∧
Post (.tuple #[(.agg (cs7).toArray), v4]) h16) (
∃ cs8 : List Value, row h15 b3 0 21 = some cs8 ∧
(((cs8)).length = 21 ∧ wrs h15 b1 0 21 ∧ ∀ u ∈ ((cs8) : List Value), u.oneCell' = true) ∧ ∀ h17 : Heap, h17 = setr h15 b1 0 (cs8) →
∃ cs9 : List Value, row h17 b1 0 21 = some cs9 ∧
Post (.tuple #[(.agg (cs9).toArray), .nilIface]) h17)))) :
    Runs Tryz.prog 64 #[(.slice b bL bC)] h0 Post :=
  runs_of (args := [(.slice b bL bC)]) (fun n => ⟨true, false⟩) (fun _ => []) (fun _ => none) (fun _ => []) Tryz.func64 rfl (by rw [Tryz.ntmps64]; simp) (Eq.mp (by kernel_rfl) H)

theorem vc_act_top (n : Int) (most : Int) (h0 : Heap) (Post : Value → Heap → Prop) (H :
bcase (decide ((0 : Int) ≤ n)) (
Post (.bool (decide (n ≤ most))) h0) (
Post (.bool false) h0)) :
    Runs Tryz.prog 112 #[(.int .i64 n), (.int .i64 most)] h0 Post :=
  runs_of (args := [(.int .i64 n), (.int .i64 most)]) (fun n => ⟨true, false⟩) (fun _ => []) (fun _ => none) (fun _ => []) Tryz.func112 rfl (by rw [Tryz.ntmps112]; simp) (Eq.mp (by kernel_rfl) H)

theorem vc_act_front (to_ : List Value) (from_ : List Value) (bss : List Value) (what : Int) (h0 : Heap) (Post : Value → Heap → Prop) (H :
∀ (b1 : Nat) (h1 : Heap), b1 = h0.size → h1 = h0.push (.cells (to_).toArray 30) →
∀ (b2 : Nat) (h2 : Heap), b2 = h1.size → h2 = h1.push (.cells (from_).toArray 30) →
∀ (b3 : Nat) (h3 : Heap), b3 = h2.size → h3 = h2.push (.cells (bss).toArray 30) →
∀ (b4 : Nat) (h4 : Heap), b4 = h3.size → h4 = h3.push (.cells ([(.int .u8 (208 : Int)), (.int .u8 (0 : Int)), (.int .u8 (0 : Int)), (.int .u8 (0 : Int))] : List Value).toArray 5) →
∃ cs1 : List Value, row h4 b1 0 6 = some cs1 ∧
∃ cs2 : List Value, row h4 b2 0 6 = some cs2 ∧
∃ cs3 : List Value, row h4 b3 0 6 = some cs3 ∧
(cs1).length = 6 ∧
(cs2).length = 6 ∧
(cs3).length = 6 ∧
∀ (b5 : Nat) (h5 : Heap), b5 = h4.size → h5 = h4.push (.cells (((cs1) ++ ((cs2) ++ ((cs3) ++ [])))).toArray 30) →
∃ (I1 : Option Addr → Nat → Nat → Int → Heap → Prop) (m1 : Option Addr → Nat → Nat → Int → Heap → Nat), I1 (some ⟨b4, 0, none⟩) 4 4 (0 : Int) h5 ∧ ∀ _ : Env,
∀ (b_1 : Option Addr) (b_1l b_1c : Nat) (x2 : Int) (h6 : Heap), I1 b_1 b_1l b_1c x2 h6 →
bcase (decide (x2 < ((3 : Nat) : Int))) (
(0 ≤ x2 ∧ x2 < ((3 : Nat) : Int)) ∧
∃ cs4 : List Value, row h6 b5 (0 + ((x2).toNat * 6)) 6 = some cs4 ∧
∀ (b6 : Nat) (h7 : Heap), b6 = h6.size → h7 = h6.push (.cells ([(.int .u8 (0 : Int)), (.int .u8 (0 : Int)), (.int .u8 (0 : Int)), (.int .u8 (0 : Int)), (.int .u8 (0 : Int)), (.int .u8 (0 : Int))] : List Value).toArray 30) →
(((cs4)).length = 6 ∧ wrs h7 b6 0 6 ∧ ∀ u ∈ ((cs4) : List Value), u.oneCell' = true) ∧ ∀ h8 : Heap, h8 = setr h7 b6 0 (cs4) →
∃ news1 : List Value, (row h8 b6 0 6 = some news1 ∧ ∀ u ∈ news1, u.oneCell' = true) ∧
appK h8 b_1 b_1l b_1c 6 1 5 1 news1 fun (a1 : Option Addr) (cap1 : Nat) (h9 : Heap) =>
fits .i64 (x2 + (1 : Int)) ∧
I1 a1 (b_1l + 6) cap1 (x2 + (1 : Int)) h9 ∧ m1 a1 (b_1l + 6) cap1 (x2 + (1 : Int)) h9 < m1 b_1 b_1l b_1c x2 h6) (
∀ (b7 : Nat) (h10 : Heap), b7 = h6.size → h10 = h6.push (.cells ([(.int .u8 (0 : Int)), (.int .u8 (0 : Int)), (.int .u8 (3 : Int)), (.int .u8 what)] : List Value).toArray 5) →
∃ news2 : List Value, (row h10 b7 0 4 = some news2 ∧ ∀ u ∈ news2, u.oneCell' = true) ∧
appK h10 b_1 b_1l b_1c 4 1 5 1 news2 fun (a2 : Option Addr) (cap2 : Nat) (h11 : Heap) =>
Post (.slice a2 (b_1l + 4) cap2) h11)) :
    Runs Tryz.prog 113 #[(.agg (to_).toArray), (.agg (from_).toArray), (.agg (bss).toArray), (.int .u8 what)] h0 Post :=
  runs_of (args := [(.agg (to_).toArray), (.agg (from_).toArray), (.agg (bss).toArray), (.int .u8 what)]) (fun n => ⟨true, false⟩) (fun n => match n with | 0 => [(9, .slice), (18, .int .i64)] | _ => []) (fun _ => none) (fun _ => []) Tryz.func113 rfl (by rw [Tryz.ntmps113]; simp) (Eq.mp (by kernel_rfl) H)

theorem vc_act_two (n : Int) (h0 : Heap) (Post : Value → Heap → Prop) (H :
(0 ≤ (8 : Int) ∧ (8 : Int) ≤ kbits .i64) ∧
∀ (b1 : Nat) (h1 : Heap), b1 = h0.size → h1 = h0.push (.cells ([(.int .u8 (IntKind.u8.wrap n)), (.int .u8 (IntKind.u8.wrap (n / (256 : Int))))] : List Value).toArray 5) →
Post (.slice (some ⟨b1, 0, none⟩) 2 2) h1) :
    Runs Tryz.prog 114 #[(.int .i64 n)] h0 Post :=
  runs_of (args := [(.int .i64 n)]) (fun n => ⟨false, false⟩) (fun _ => []) (fun _ => none) (fun _ => []) Tryz.func114 rfl (by rw [Tryz.ntmps114]; simp) (Eq.mp (by kernel_rfl) H)

theorem vc_muezzinref1_AddBytes (f : List Value) (h0 : Heap) (Post : Value → Heap → Prop) (H :
∀ (b1 : Nat) (h1 : Heap), b1 = h0.size → h1 = h0.push (.cells (f).toArray 78) →
∃ J1 : Heap → Prop, (
∃ n1 : Int, cell h1 b1 19 = some (.int .i64 n1) ∧
Runs Tryz.prog 47 #[(.int .i64 n1), (.int .i64 (255 : Int))] h1 fun r1 h2 =>
∃ t1 : Bool,
r1 = (.bool t1) ∧
bcase t1 (
Post (.tuple #[(.slice none 0 0), (.int .i64 (103 : Int))]) h2) (
∃ n2 : Int, cell h2 b1 20 = some (.int .i64 n2) ∧
Runs Tryz.prog 47 #[(.int .i64 n2), (.int .i64 (7 : Int))] h2 fun r2 h3 =>
∃ t2 : Bool,
r2 = (.bool t2) ∧
bcase t2 (
Post (.tuple #[(.slice none 0 0), (.int .i64 (103 : Int))]) h3) (
∃ n3 : Int, cell h3 b1 21 = some (.int .i64 n3) ∧
Runs Tryz.prog 47 #[(.int .i64 n3), (.int .i64 (1023 : Int))] h3 fun r3 h4 =>
∃ t3 : Bool,
r3 = (.bool t3) ∧
bcase t3 (
Post (.tuple #[(.slice none 0 0), (.int .i64 (103 : Int))]) h4) (
∃ n4 : Int, cell h4 b1 22 = some (.int .i64 n4) ∧
Runs Tryz.prog 47 #[(.int .i64 n4), (.int .i64 (65535 : Int))] h4 fun r4 h5 =>
∃ t4 : Bool,
r4 = (.bool t4) ∧
bcase t4 (
Post (.tuple #[(.slice none 0 0), (.int .i64 (103 : Int))]) h5) (
∃ n5 : Int, cell h5 b1 24 = some (.int .i64 n5) ∧
Runs Tryz.prog 47 #[(.int .i64 n5), (.int .i64 (65535 : Int))] h5 fun r5 h6 =>
∃ t5 : Bool,
r5 = (.bool t5) ∧
bcase t5 (
Post (.tuple #[(.slice none 0 0), (.int .i64 (103 : Int))]) h6) (
∃ n6 : Int, cell h6 b1 23 = some (.int .i64 n6) ∧
Runs Tryz.prog 47 #[(.int .i64 n6), (.int .i64 (4095 : Int))] h6 fun r6 h7 =>
∃ t6 : Bool,
r6 = (.bool t6) ∧
bcase t6 (
Post (.tuple #[(.slice none 0 0), (.int .i64 (103 : Int))]) h7) (
∃ t7 : Bool, cell h7 b1 18 = some (.bool t7) ∧
bcase (!t7) (
∃ n7 : Int, cell h7 b1 24 = some (.int .i64 n7) ∧
bcase (!decide (n7 = (0 : Int))) (
Post (.tuple #[(.slice none 0 0), (.int .i64 (103 : Int))]) h7) (
∃ t8 : Bool, cell h7 b1 18 = some (.bool t8) ∧
bcase t8 (
∃ n8 : Int, cell h7 b1 23 = some (.int .i64 n8) ∧
bcase (!decide (n8 = (0 : Int))) (
Post (.tuple #[(.slice none 0 0), (.int .i64 (103 : Int))]) h7) (
J1 h7)) (
J1 h7))) (
∃ t9 : Bool, cell h7 b1 18 = some (.bool t9) ∧
bcase t9 (
∃ n9 : Int, cell h7 b1 23 = some (.int .i64 n9) ∧
bcase (!decide (n9 = (0 : Int))) (
Post (.tuple #[(.slice none 0 0), (.int .i64 (103 : Int))]) h7) (
J1 h7)) (
J1 h7))))))))) ∧ ∀ _ : Env,
∀ (h8 : Heap), J1 h8 →
∃ cs1 : List Value, row h8 b1 0 6 = some cs1 ∧
∃ cs2 : List Value, row h8 b1 6 6 = some cs2 ∧
∃ cs3 : List Value, row h8 b1 12 6 = some cs3 ∧
Runs Tryz.prog 50 #[(.agg (cs1).toArray), (.agg (cs2).toArray), (.agg (cs3).toArray)] h8 fun r7 h9 =>
∃ (s1 : Option Addr) (s1l s1c : Nat),
r7 = (.slice s1 s1l s1c) ∧
∃ t10 : Bool, cell h9 b1 18 = some (.bool t10) ∧
bcase t10 (
∃ n10 : Int, cell h9 b1 19 = some (.int .i64 n10) ∧
fits .u8 n10 ∧
∃ n11 : Int, cell h9 b1 24 = some (.int .i64 n11) ∧
∃ n12 : Int, cell h9 b1 20 = some (.int .i64 n12) ∧
fits .i64 (n12 * (4 : Int)) ∧
fits .i64 ((2 : Int) + (n12 * (4 : Int))) ∧
∃ n13 : Int, cell h9 b1 21 = some (.int .i64 n13) ∧
fits .i64 (n13 * (64 : Int)) ∧
fits .i64 (((2 : Int) + (n12 * (4 : Int))) + (n13 * (64 : Int))) ∧
∃ n14 : Int, cell h9 b1 22 = some (.int .i64 n14) ∧
∀ (b2 : Nat) (h10 : Heap), b2 = h9.size → h10 = h9.push (.cells ([(.int .u8 (1 : Int)), (.int .u8 n10)] : List Value).toArray 5) →
∃ news1 : List Value, (row h10 b2 0 2 = some news1 ∧ ∀ u ∈ news1, u.oneCell' = true) ∧
appK h10 s1 s1l s1c 2 1 5 1 news1 fun (a1 : Option Addr) (cap1 : Nat) (h11 : Heap) =>
cell h11 b1 22 = some (.int .i64 n14) ∧
cell h11 b1 21 = some (.int .i64 n13) ∧
cell h11 b1 20 = some (.int .i64 n12) ∧
cell h11 b1 24 = some (.int .i64 n11) ∧
Runs Tryz.prog 45 #[(.slice a1 (s1l + 2) cap1), (.int .i64 n11)] h11 fun r8 h12 =>
∃ (s2 : Option Addr) (s2l s2c : Nat),
r8 = (.slice s2 s2l s2c) ∧
cell h12 b1 22 = some (.int .i64 n14) ∧
cell h12 b1 21 = some (.int .i64 n13) ∧
cell h12 b1 20 = some (.int .i64 n12) ∧
Runs Tryz.prog 45 #[(.slice s2 s2l s2c), (.int .i64 (((2 : Int) + (n12 * (4 : Int))) + (n13 * (64 : Int))))] h12 fun r9 h13 =>
∃ (s3 : Option Addr) (s3l s3c : Nat),
r9 = (.slice s3 s3l s3c) ∧
cell h13 b1 22 = some (.int .i64 n14) ∧
Runs Tryz.prog 45 #[(.slice s3 s3l s3c), (.int .i64 n14)] h13 fun r10 h14 =>
∃ (s4 : Option Addr) (s4l s4c : Nat),
r10 = (.slice s4 s4l s4c) ∧
Post (.tuple #[(.slice s4 s4l s4c), (.int .i64 (0 : Int))]) h14) (
∃ n15 : Int, cell h9 b1 19 = some (.int .i64 n15) ∧
fits .u8 n15 ∧
∃ n16 : Int, cell h9 b1 20 = some (.int .i64 n16) ∧
fits .i64 (n16 * (4 : Int)) ∧
fits .i64 ((2 : Int) + (n16 * (4 : Int))) ∧
∃ n17 : Int, cell h9 b1 21 = some (.int .i64 n17) ∧
fits .i64 (n17 * (64 : Int)) ∧
fits .i64 (((2 : Int) + (n16 * (4 : Int))) + (n17 * (64 : Int))) ∧
∃ n18 : Int, cell h9 b1 22 = some (.int .i64 n18) ∧
∃ n19 : Int, cell h9 b1 23 = some (.int .i64 n19) ∧
fits .i64 (n19 * (16 : Int)) ∧
∀ (b3 : Nat) (h15 : Heap), b3 = h9.size → h15 = h9.push (.cells ([(.int .u8 (0 : Int)), (.int .u8 n15)] : List Value).toArray 5) →
∃ news2 : List Value, (row h15 b3 0 2 = some news2 ∧ ∀ u ∈ news2, u.oneCell' = true) ∧
appK h15 s1 s1l s1c 2 1 5 1 news2 fun (a2 : Option Addr) (cap2 : Nat) (h16 : Heap) =>
cell h16 b1 23 = some (.int .i64 n19) ∧
cell h16 b1 22 = some (.int .i64 n18) ∧
cell h16 b1 21 = some (.int .i64 n17) ∧
cell h16 b1 20 = some (.int .i64 n16) ∧
Runs Tryz.prog 45 #[(.slice a2 (s1l + 2) cap2), (.int .i64 (((2 : Int) + (n16 * (4 : Int))) + (n17 * (64 : Int))))] h16 fun r11 h17 =>
∃ (s5 : Option Addr) (s5l s5c : Nat),
r11 = (.slice s5 s5l s5c) ∧
cell h17 b1 23 = some (.int .i64 n19) ∧
cell h17 b1 22 = some (.int .i64 n18) ∧
Runs Tryz.prog 45 #[(.slice s5 s5l s5c), (.int .i64 n18)] h17 fun r12 h18 =>
∃ (s6 : Option Addr) (s6l s6c : Nat),
r12 = (.slice s6 s6l s6c) ∧
cell h18 b1 23 = some (.int .i64 n19) ∧
Runs Tryz.prog 45 #[(.slice s6 s6l s6c), (.int .i64 (n19 * (16 : Int)))] h18 fun r13 h19 =>
∃ (s7 : Option Addr) (s7l s7c : Nat),
r13 = (.slice s7 s7l s7c) ∧
Post (.tuple #[(.slice s7 s7l s7c), (.int .i64 (0 : Int))]) h19)) :
    Runs Tryz.prog 25 #[(.agg (f).toArray)] h0 Post :=
  runs_of (args := [(.agg (f).toArray)]) (fun n => ⟨true, false⟩) (fun _ => []) (fun n => match n with | 3 => some [] | _ => none) (fun _ => []) Tryz.func25 rfl (by rw [Tryz.ntmps25]; simp) (Eq.mp (by kernel_rfl) H)

theorem vc_muezzinref1_BarBytes (f : List Value) (h0 : Heap) (Post : Value → Heap → Prop) (H :
∀ (b1 : Nat) (h1 : Heap), b1 = h0.size → h1 = h0.push (.cells (f).toArray 75) →
∃ n1 : Int, cell h1 b1 12 = some (.int .i64 n1) ∧
Runs Tryz.prog 47 #[(.int .i64 n1), (.int .i64 (7 : Int))] h1 fun r1 h2 =>
∃ t1 : Bool,
r1 = (.bool t1) ∧
bcase t1 (
Post (.tuple #[(.slice none 0 0), (.int .i64 (103 : Int))]) h2) (
∃ n2 : Int, cell h2 b1 13 = some (.int .i64 n2) ∧
Runs Tryz.prog 47 #[(.int .i64 n2), (.int .i64 (4095 : Int))] h2 fun r2 h3 =>
∃ t2 : Bool,
r2 = (.bool t2) ∧
bcase t2 (
Post (.tuple #[(.slice none 0 0), (.int .i64 (103 : Int))]) h3) (
∃ cs1 : List Value, row h3 b1 0 6 = some cs1 ∧
∃ cs2 : List Value, row h3 b1 6 6 = some cs2 ∧
∃ n3 : Int, cell h3 b1 12 = some (.int .i64 n3) ∧
fits .i64 (n3 * (4096 : Int)) ∧
fits .i64 ((4 : Int) + (n3 * (4096 : Int))) ∧
∃ n4 : Int, cell h3 b1 13 = some (.int .i64 n4) ∧
fits .i64 (n4 * (16 : Int)) ∧
∀ (b2 : Nat) (h4 : Heap), b2 = h3.size → h4 = h3.push (.cells ([(.int .u8 (132 : Int)), (.int .u8 (0 : Int)), (.int .u8 (0 : Int)), (.int .u8 (0 : Int))] : List Value).toArray 5) →
Runs Tryz.prog 48 #[(.slice (some ⟨b2, 0, none⟩) 4 4), (.agg (cs1).toArray)] h4 fun r3 h5 =>
∃ (s1 : Option Addr) (s1l s1c : Nat),
r3 = (.slice s1 s1l s1c) ∧
cell h5 b1 13 = some (.int .i64 n4) ∧
cell h5 b1 12 = some (.int .i64 n3) ∧
row h5 b1 6 6 = some (cs2) ∧
Runs Tryz.prog 48 #[(.slice s1 s1l s1c), (.agg (cs2).toArray)] h5 fun r4 h6 =>
∃ (s2 : Option Addr) (s2l s2c : Nat),
r4 = (.slice s2 s2l s2c) ∧
cell h6 b1 13 = some (.int .i64 n4) ∧
cell h6 b1 12 = some (.int .i64 n3) ∧
Runs Tryz.prog 45 #[(.slice s2 s2l s2c), (.int .i64 ((4 : Int) + (n3 * (4096 : Int))))] h6 fun r5 h7 =>
∃ (s3 : Option Addr) (s3l s3c : Nat),
r5 = (.slice s3 s3l s3c) ∧
cell h7 b1 13 = some (.int .i64 n4) ∧
Runs Tryz.prog 45 #[(.slice s3 s3l s3c), (.int .i64 (n4 * (16 : Int)))] h7 fun r6 h8 =>
∃ (s4 : Option Addr) (s4l s4c : Nat),
r6 = (.slice s4 s4l s4c) ∧
Post (.tuple #[(.slice s4 s4l s4c), (.int .i64 (0 : Int))]) h8))) :
    Runs Tryz.prog 23 #[(.agg (f).toArray)] h0 Post :=
  runs_of (args := [(.agg (f).toArray)]) (fun n => ⟨true, false⟩) (fun _ => []) (fun _ => none) (fun _ => []) Tryz.func23 rfl (by rw [Tryz.ntmps23]; simp) (Eq.mp (by kernel_rfl) H)

theorem vc_muezzinref1_DelBytes (f : List Value) (h0 : Heap) (Post : Value → Heap → Prop) (H :
∀ (b1 : Nat) (h1 : Heap), b1 = h0.size → h1 = h0.push (.cells (f).toArray 81) →
∃ n1 : Int, cell h1 b1 19 = some (.int .i64 n1) ∧
Runs Tryz.prog 47 #[(.int .i64 n1), (.int .i64 (7 : Int))] h1 fun r1 h2 =>
∃ t1 : Bool,
r1 = (.bool t1) ∧
bcase t1 (
Post (.tuple #[(.slice none 0 0), (.int .i64 (103 : Int))]) h2) (
∃ n2 : Int, cell h2 b1 20 = some (.int .i64 n2) ∧
Runs Tryz.prog 47 #[(.int .i64 n2), (.int .i64 (65535 : Int))] h2 fun r2 h3 =>
∃ t2 : Bool,
r2 = (.bool t2) ∧
bcase t2 (
Post (.tuple #[(.slice none 0 0), (.int .i64 (103 : Int))]) h3) (
∃ cs1 : List Value, row h3 b1 0 6 = some cs1 ∧
∃ cs2 : List Value, row h3 b1 6 6 = some cs2 ∧
∃ cs3 : List Value, row h3 b1 12 6 = some cs3 ∧
∃ t3 : Bool, cell h3 b1 18 = some (.bool t3) ∧
∃ n3 : Int, cell h3 b1 19 = some (.int .i64 n3) ∧
fits .i64 (n3 * (4096 : Int)) ∧
∃ n4 : Int, cell h3 b1 20 = some (.int .i64 n4) ∧
(
Runs Tryz.prog 50 #[(.agg (cs1).toArray), (.agg (cs2).toArray), (.agg (cs3).toArray)] h3 fun r3 h4 =>
∃ (s1 : Option Addr) (s1l s1c : Nat),
r3 = (.slice s1 s1l s1c) ∧
cell h4 b1 20 = some (.int .i64 n4) ∧
cell h4 b1 19 = some (.int .i64 n3) ∧
cell h4 b1 18 = some (.bool t3) ∧
∀ (b2 : Nat) (h5 : Heap), b2 = h4.size → h5 = h4.push (.cells ([(.int .u8 (2 : Int))] : List Value).toArray 5) →
∃ news1 : List Value, (row h5 b2 0 1 = some news1 ∧ ∀ u ∈ news1, u.oneCell' = true) ∧
appK h5 s1 s1l s1c 1 1 5 1 news1 fun (a1 : Option Addr) (cap1 : Nat) (h6 : Heap) =>
cell h6 b1 20 = some (.int .i64 n4) ∧
cell h6 b1 19 = some (.int .i64 n3) ∧
cell h6 b1 18 = some (.bool t3) ∧
Runs Tryz.prog 51 #[(.bool t3), (.int .i64 (2048 : Int))] h6 fun r4 h7 =>
∃ n5 : Int,
r4 = (.int .i64 n5) ∧
cell h7 b1 20 = some (.int .i64 n4) ∧
cell h7 b1 19 = some (.int .i64 n3) ∧
fits .i64 (n5 + (n3 * (4096 : Int))) ∧
Runs Tryz.prog 45 #[(.slice a1 (s1l + 1) cap1), (.int .i64 (n5 + (n3 * (4096 : Int))))] h7 fun r5 h8 =>
∃ (s2 : Option Addr) (s2l s2c : Nat),
r5 = (.slice s2 s2l s2c) ∧
cell h8 b1 20 = some (.int .i64 n4) ∧
Runs Tryz.prog 45 #[(.slice s2 s2l s2c), (.int .i64 n4)] h8 fun r6 h9 =>
∃ (s3 : Option Addr) (s3l s3c : Nat),
r6 = (.slice s3 s3l s3c) ∧
Post (.tuple #[(.slice s3 s3l s3c), (.int .i64 (0 : Int))]) h9) ∧
(
∀ (b3 : Nat) (h10 : Heap), b3 = h3.size → h10 = h3.push (.cells ([(.int .u8 (2 : Int))] : List Value).toArray 5) →
Runs Tryz.prog 50 #[(.agg (cs1).toArray), (.agg (cs2).toArray), (.agg (cs3).toArray)] h10 fun r7 h11 =>
∃ (s4 : Option Addr) (s4l s4c : Nat),
r7 = (.slice s4 s4l s4c) ∧
cell h11 b1 20 = some (.int .i64 n4) ∧
cell h11 b1 19 = some (.int .i64 n3) ∧
cell h11 b1 18 = some (.bool t3) ∧
∃ news2 : List Value, (row h11 b3 0 1 = some news2 ∧ ∀ u ∈ news2, u.oneCell' = true) ∧
appK h11 s4 s4l s4c 1 1 5 1 news2 fun (a2 : Option Addr) (cap2 : Nat) (h12 : Heap) =>
cell h12 b1 20 = some (.int .i64 n4) ∧
cell h12 b1 19 = some (.int .i64 n3) ∧
cell h12 b1 18 = some (.bool t3) ∧
Runs Tryz.prog 51 #[(.bool t3), (.int .i64 (2048 : Int))] h12 fun r8 h13 =>
∃ n6 : Int,
r8 = (.int .i64 n6) ∧
cell h13 b1 20 = some (.int .i64 n4) ∧
cell h13 b1 19 = some (.int .i64 n3) ∧
fits .i64 (n6 + (n3 * (4096 : Int))) ∧
Runs Tryz.prog 45 #[(.slice a2 (s4l + 1) cap2), (.int .i64 (n6 + (n3 * (4096 : Int))))] h13 fun r9 h14 =>
∃ (s5 : Option Addr) (s5l s5c : Nat),
r9 = (.slice s5 s5l s5c) ∧
cell h14 b1 20 = some (.int .i64 n4) ∧
Runs Tryz.prog 45 #[(.slice s5 s5l s5c), (.int .i64 n4)] h14 fun r10 h15 =>
∃ (s6 : Option Addr) (s6l s6c : Nat),
r10 = (.slice s6 s6l s6c) ∧
Post (.tuple #[(.slice s6 s6l s6c), (.int .i64 (0 : Int))]) h15)))) :
    Runs Tryz.prog 26 #[(.agg (f).toArray)] h0 Post :=
  runs_of (args := [(.agg (f).toArray)]) (fun n => ⟨true, false⟩) (fun _ => []) (fun _ => none) (fun _ => []) Tryz.func26 rfl (by rw [Tryz.ntmps26]; simp) (Eq.mp (by kernel_rfl) H)

theorem vc_muezzinref1_ReadAdd (b : Option Addr) (bL bC : Nat) (h0 : Heap) (Post : Value → Heap → Prop) (H :
∀ (b1 : Nat) (h1 : Heap), b1 = h0.size → h1 = h0.push (.cells ([(.int .u8 (0 : Int)), (.int .u8 (0 : Int)), (.int .u8 (0 : Int)), (.int .u8 (0 : Int)), (.int .u8 (0 : Int)), (.int .u8 (0 : Int)), (.int .u8 (0 : Int)), (.int .u8 (0 : Int)), (.int .u8 (0 : Int)), (.int .u8 (0 : Int)), (.int .u8 (0 : Int)), (.int .u8 (0 : Int)), (.int .u8 (0 : Int)), (.int .u8 (0 : Int)), (.int .u8 (0 : Int)), (.int .u8 (0 : Int)), (.int .u8 (0 : Int)), (.int .u8 (0 : Int)), (.bool false), (.int .i64 (0 : Int)), (.int .i64 (0 : Int)), (.int .i64 (0 : Int)), (.int .i64 (0 : Int)), (.int .i64 (0 : Int)), (.int .i64 (0 : Int))] : List Value).toArray 78) →
Runs Tryz.prog 102 #[(.slice b bL bC), (.int .u8 (0 : Int)), (.int .u8 (1 : Int)), (.int .i64 (33 : Int))] h1 fun r1 h2 =>
∃ n1 : Int,
r1 = (.int .i64 n1) ∧
bcase (!decide (n1 = (0 : Int))) (
((([(.int .u8 (0 : Int)), (.int .u8 (0 : Int)), (.int .u8 (0 : Int)), (.int .u8 (0 : Int)), (.int .u8 (0 : Int)), (.int .u8 (0 : Int)), (.int .u8 (0 : Int)), (.int .u8 (0 : Int)), (.int .u8 (0 : Int)), (.int .u8 (0 : Int)), (.int .u8 (0 : Int)), (.int .u8 (0 : Int)), (.int .u8 (0 : Int)), (.int .u8 (0 : Int)), (.int .u8 (0 : Int)), (.int .u8 (0 : Int)), (.int .u8 (0 : Int)), (.int .u8 (0 : Int)), (.bool false), (.int .i64 (0 : Int)), (.int .i64 (0 : Int)), (.int .i64 (0 : Int)), (.int .i64 (0 : Int)), (.int .i64 (0 : Int)), (.int .i64 (0 : Int))] : List Value)).length = 25 ∧ wrs h2 b1 0 25 ∧ ∀ u ∈ (([(.int .u8 (0 : Int)), (.int .u8 (0 : Int)), (.int .u8 (0 : Int)), (.int .u8 (0 : Int)), (.int .u8 (0 : Int)), (.int .u8 (0 : Int)), (.int .u8 (0 : Int)), (.int .u8 (0 : Int)), (.int .u8 (0 : Int)), (.int .u8 (0 : Int)), (.int .u8 (0 : Int)), (.int .u8 (0 : Int)), (.int .u8 (0 : Int)), (.int .u8 (0 : Int)), (.int .u8 (0 : Int)), (.int .u8 (0 : Int)), (.int .u8 (0 : Int)), (.int .u8 (0 : Int)), (.bool false), (.int .i64 (0 : Int)), (.int .i64 (0 : Int)), (.int .i64 (0 : Int)), (.int .i64 (0 : Int)), (.int .i64 (0 : Int)), (.int .i64 (0 : Int))] : List Value) : List Value), u.oneCell' = true) ∧ ∀ h3 : Heap, h3 = setr h2 b1 0 ([(.int .u8 (0 : Int)), (.int .u8 (0 : Int)), (.int .u8 (0 : Int)), (.int .u8 (0 : Int)), (.int .u8 (0 : Int)), (.int .u8 (0 : Int)), (.int .u8 (0 : Int)), (.int .u8 (0 : Int)), (.int .u8 (0 : Int)), (.int .u8 (0 : Int)), (.int .u8 (0 : Int)), (.int .u8 (0 : Int)), (.int .u8 (0 : Int)), (.int .u8 (0 : Int)), (.int .u8 (0 : Int)), (.int .u8 (0 : Int)), (.int .u8 (0 : Int)), (.int .u8 (0 : Int)), (.bool false), (.int .i64 (0 : Int)), (.int .i64 (0 : Int)), (.int .i64 (0 : Int)), (.int .i64 (0 : Int)), (.int .i64 (0 : Int)), (.int .i64 (0 : Int))] : List Value) →
∃ cs1 : List Value, row h3 b1 0 25 = some cs1 ∧
Post (.tuple #[(.agg (cs1).toArray), (.int .i64 n1)]) h3) (
∃ J1 : Option Addr → Heap → Prop, (
(0 ≤ (4 : Int) ∧ (4 : Int) ≤ ((bL : Nat) : Int)) ∧
(0 ≤ (10 : Int) ∧ (10 : Int) ≤ ((bL : Nat) : Int)) ∧
(0 ≤ (16 : Int) ∧ (16 : Int) ≤ ((bL : Nat) : Int)) ∧
(0 ≤ (26 : Int) ∧ (26 : Int) < ((bL : Nat) : Int)) ∧
onAddr b fun b2 o1 =>
∃ n2 : Int, cell h2 b2 (o1 + 26) = some (.int .u8 n2) ∧
fits .i64 n2 ∧
(
Runs Tryz.prog 87 #[(.slice (slcAddr b 4 bC 4) (bL - 4) (bC - 4))] h2 fun r2 h4 =>
∃ cs2 : List Value,
r2 = (.agg (cs2).toArray) ∧
cell h4 b2 (o1 + 26) = some (.int .u8 n2) ∧
(
Runs Tryz.prog 87 #[(.slice (slcAddr b 10 bC 10) (bL - 10) (bC - 10))] h4 fun r3 h5 =>
∃ cs3 : List Value,
r3 = (.agg (cs3).toArray) ∧
cell h5 b2 (o1 + 26) = some (.int .u8 n2) ∧
(
Runs Tryz.prog 87 #[(.slice (slcAddr b 16 bC 16) (bL - 16) (bC - 16))] h5 fun r4 h6 =>
∃ cs4 : List Value,
r4 = (.agg (cs4).toArray) ∧
cell h6 b2 (o1 + 26) = some (.int .u8 n2) ∧
(cs2).length = 6 ∧
(cs3).length = 6 ∧
(cs4).length = 6 ∧
∀ (b3 : Nat) (h7 : Heap), b3 = h6.size → h7 = h6.push (.cells ([(.int .u8 (0 : Int)), (.int .u8 (0 : Int)), (.int .u8 (0 : Int)), (.int .u8 (0 : Int)), (.int .u8 (0 : Int)), (.int .u8 (0 : Int)), (.int .u8 (0 : Int)), (.int .u8 (0 : Int)), (.int .u8 (0 : Int)), (.int .u8 (0 : Int)), (.int .u8 (0 : Int)), (.int .u8 (0 : Int)), (.int .u8 (0 : Int)), (.int .u8 (0 : Int)), (.int .u8 (0 : Int)), (.int .u8 (0 : Int)), (.int .u8 (0 : Int)), (.int .u8 (0 : Int)), (.bool false), (.int .i64 (0 : Int)), (.int .i64 (0 : Int)), (.int .i64 (0 : Int)), (.int .i64 (0 : Int)), (.int .i64 (0 : Int)), (.int .i64 (0 : Int))] : List Value).toArray 78) →
(((((cs2) ++ ((cs3) ++ ((cs4) ++ ([(.bool false), (.int .i64 n2), (.int .i64 (0 : Int)), (.int .i64 (0 : Int)), (.int .i64 (0 : Int)), (.int .i64 (0 : Int)), (.int .i64 (0 : Int))] : List Value)))))).length = 25 ∧ wrs h7 b3 0 25 ∧ ∀ u ∈ ((((cs2) ++ ((cs3) ++ ((cs4) ++ ([(.bool false), (.int .i64 n2), (.int .i64 (0 : Int)), (.int .i64 (0 : Int)), (.int .i64 (0 : Int)), (.int .i64 (0 : Int)), (.int .i64 (0 : Int))] : List Value))))) : List Value), u.oneCell' = true) ∧ ∀ h8 : Heap, h8 = setr h7 b3 0 (((cs2) ++ ((cs3) ++ ((cs4) ++ ([(.bool false), (.int .i64 n2), (.int .i64 (0 : Int)), (.int .i64 (0 : Int)), (.int .i64 (0 : Int)), (.int .i64 (0 : Int)), (.int .i64 (0 : Int))] : List Value))))) →
J1 (some ⟨b3, 0, none⟩) h8) ∧
(
∀ (b4 : Nat) (h9 : Heap), b4 = h5.size → h9 = h5.push (.cells ([(.int .u8 (0 : Int)), (.int .u8 (0 : Int)), (.int .u8 (0 : Int)), (.int .u8 (0 : Int)), (.int .u8 (0 : Int)), (.int .u8 (0 : Int)), (.int .u8 (0 : Int)), (.int .u8 (0 : Int)), (.int .u8 (0 : Int)), (.int .u8 (0 : Int)), (.int .u8 (0 : Int)), (.int .u8 (0 : Int)), (.int .u8 (0 : Int)), (.int .u8 (0 : Int)), (.int .u8 (0 : Int)), (.int .u8 (0 : Int)), (.int .u8 (0 : Int)), (.int .u8 (0 : Int)), (.bool false), (.int .i64 (0 : Int)), (.int .i64 (0 : Int)), (.int .i64 (0 : Int)), (.int .i64 (0 : Int)), (.int .i64 (0 : Int)), (.int .i64 (0 : Int))] : List Value).toArray 78) →
Runs Tryz.prog 87 #[(.slice (slcAddr b 16 bC 16) (bL - 16) (bC - 16))] h9 fun r5 h10 =>
∃ cs5 : List Value,
r5 = (.agg (cs5).toArray) ∧
cell h10 b2 (o1 + 26) = some (.int .u8 n2) ∧
(cs2).length = 6 ∧
(cs3).length = 6 ∧
(cs5).length = 6 ∧
(((((cs2) ++ ((cs3) ++ ((cs5) ++ ([(.bool false), (.int .i64 n2), (.int .i64 (0 : Int)), (.int .i64 (0 : Int)), (.int .i64 (0 : Int)), (.int .i64 (0 : Int)), (.int .i64 (0 : Int))] : List Value)))))).length = 25 ∧ wrs h10 b4 0 25 ∧ ∀ u ∈ ((((cs2) ++ ((cs3) ++ ((cs5) ++ ([(.bool false), (.int .i64 n2), (.int .i64 (0 : Int)), (.int .i64 (0 : Int)), (.int .i64 (0 : Int)), (.int .i64 (0 : Int)), (.int .i64 (0 : Int))] : List Value))))) : List Value), u.oneCell' = true) ∧ ∀ h11 : Heap, h11 = setr h10 b4 0 (((cs2) ++ ((cs3) ++ ((cs5) ++ ([(.bool false), (.int .i64 n2), (.int .i64 (0 : Int)), (.int .i64 (0 : Int)), (.int .i64 (0 : Int)), (.int .i64 (0 : Int)), (.int .i64 (0 : Int))] : List Value))))) →
J1 (some ⟨b4, 0, none⟩) h11)) ∧
(
∀ (b5 : Nat) (h12 : Heap), b5 = h4.size → h12 = h4.push (.cells ([(.int .u8 (0 : Int)), (.int .u8 (0 : Int)), (.int .u8 (0 : Int)), (.int .u8 (0 : Int)), (.int .u8 (0 : Int)), (.int .u8 (0 : Int)), (.int .u8 (0 : Int)), (.int .u8 (0 : Int)), (.int .u8 (0 : Int)), (.int .u8 (0 : Int)), (.int .u8 (0 : Int)), (.int .u8 (0 : Int)), (.int .u8 (0 : Int)), (.int .u8 (0 : Int)), (.int .u8 (0 : Int)), (.int .u8 (0 : Int)), (.int .u8 (0 : Int)), (.int .u8 (0 : Int)), (.bool false), (.int .i64 (0 : Int)), (.int .i64 (0 : Int)), (.int .i64 (0 : Int)), (.int .i64 (0 : Int)), (.int .i64 (0 : Int)), (.int .i64 (0 : Int))] : List Value).toArray 78) →
Runs Tryz.prog 87 #[(.slice (slcAddr b 10 bC 10) (bL - 10) (bC - 10))] h12 fun r6 h13 =>
∃ cs6 : List Value,
r6 = (.agg (cs6).toArray) ∧
cell h13 b2 (o1 + 26) = some (.int .u8 n2) ∧
Runs Tryz.prog 87 #[(.slice (slcAddr b 16 bC 16) (bL - 16) (bC - 16))] h13 fun r7 h14 =>
∃ cs7 : List Value,
r7 = (.agg (cs7).toArray) ∧
cell h14 b2 (o1 + 26) = some (.int .u8 n2) ∧
(cs2).length = 6 ∧
(cs6).length = 6 ∧
(cs7).length = 6 ∧
(((((cs2) ++ ((cs6) ++ ((cs7) ++ ([(.bool false), (.int .i64 n2), (.int .i64 (0 : Int)), (.int .i64 (0 : Int)), (.int .i64 (0 : Int)), (.int .i64 (0 : Int)), (.int .i64 (0 : Int))] : List Value)))))).length = 25 ∧ wrs h14 b5 0 25 ∧ ∀ u ∈ ((((cs2) ++ ((cs6) ++ ((cs7) ++ ([(.bool false), (.int .i64 n2), (.int .i64 (0 : Int)), (.int .i64 (0 : Int)), (.int .i64 (0 : Int)), (.int .i64 (0 : Int)), (.int .i64 (0 : Int))] : List Value))))) : List Value), u.oneCell' = true) ∧ ∀ h15 : Heap, h15 = setr h14 b5 0 (((cs2) ++ ((cs6) ++ ((cs7) ++ ([(.bool false), (.int .i64 n2), (.int .i64 (0 : Int)), (.int .i64 (0 : Int)), (.int .i64 (0 : Int)), (.int .i64 (0 : Int)), (.int .i64 (0 : Int))] : List Value))))) →
J1 (some ⟨b5, 0, none⟩) h15)) ∧
(
∀ (b6 : Nat) (h16 : Heap), b6 = h2.size → h16 = h2.push (.cells ([(.int .u8 (0 : Int)), (.int .u8 (0 : Int)), (.int .u8 (0 : Int)), (.int .u8 (0 : Int)), (.int .u8 (0 : Int)), (.int .u8 (0 : Int)), (.int .u8 (0 : Int)), (.int .u8 (0 : Int)), (.int .u8 (0 : Int)), (.int .u8 (0 : Int)), (.int .u8 (0 : Int)), (.int .u8 (0 : Int)), (.int .u8 (0 : Int)), (.int .u8 (0 : Int)), (.int .u8 (0 : Int)), (.int .u8 (0 : Int)), (.int .u8 (0 : Int)), (.int .u8 (0 : Int)), (.bool false), (.int .i64 (0 : Int)), (.int .i64 (0 : Int)), (.int .i64 (0 : Int)), (.int .i64 (0 : Int)), (.int .i64 (0 : Int)), (.int .i64 (0 : Int))] : List Value).toArray 78) →
Runs Tryz.prog 87 #[(.slice (slcAddr b 4 bC 4) (bL - 4) (bC - 4))] h16 fun r8 h17 =>
∃ cs8 : List Value,
r8 = (.agg (cs8).toArray) ∧
cell h17 b2 (o1 + 26) = some (.int .u8 n2) ∧
Runs Tryz.prog 87 #[(.slice (slcAddr b 10 bC 10) (bL - 10) (bC - 10))] h17 fun r9 h18 =>
∃ cs9 : List Value,
r9 = (.agg (cs9).toArray) ∧
cell h18 b2 (o1 + 26) = some (.int .u8 n2) ∧
Runs Tryz.prog 87 #[(.slice (slcAddr b 16 bC 16) (bL - 16) (bC - 16))] h18 fun r10 h19 =>
∃ cs10 : List Value,
r10 = (.agg (cs10).toArray) ∧
cell h19 b2 (o1 + 26) = some (.int .u8 n2) ∧
(cs8).length = 6 ∧
(cs9).length = 6 ∧
(cs10).length = 6 ∧
(((((cs8) ++ ((cs9) ++ ((cs10) ++ ([(.bool false), (.int .i64 n2), (.int .i64 (0 : Int)), (.int .i64 (0 : Int)), (.int .i64 (0 : Int)), (.int .i64 (0 : Int)), (.int .i64 (0 : Int))] : List Value)))))).length = 25 ∧ wrs h19 b6 0 25 ∧ ∀ u ∈ ((((cs8) ++ ((cs9) ++ ((cs10) ++ ([(.bool false), (.int .i64 n2), (.int .i64 (0 : Int)), (.int .i64 (0 : Int)), (.int .i64 (0 : Int)), (.int .i64 (0 : Int)), (.int .i64 (0 : Int))] : List Value))))) : List Value), u.oneCell' = true) ∧ ∀ h20 : Heap, h20 = setr h19 b6 0 (((cs8) ++ ((cs9) ++ ((cs10) ++ ([(.bool false), (.int .i64 n2), (.int .i64 (0 : Int)), (.int .i64 (0 : Int)), (.int .i64 (0 : Int)), (.int .i64 (0 : Int)), (.int .i64 (0 : Int))] : List Value))))) →
J1 (some ⟨b6, 0, none⟩) h20)) ∧ ∀ _ : Env,
∀ (f_1 : Option Addr) (h21 : Heap), J1 f_1 h21 →
∃ J2 : Int → Heap → Prop, (
(0 ≤ (25 : Int) ∧ (25 : Int) < ((bL : Nat) : Int)) ∧
onAddr b fun b7 o2 =>
∃ n3 : Int, cell h21 b7 (o2 + 25) = some (.int .u8 n3) ∧
bcase (decide (n3 = (1 : Int))) (
onAddr f_1 fun b8 o3 =>
wr h21 b8 (o3 + 18) ∧ ∀ h22 : Heap, h22 = setc h21 b8 (o3 + 18) (.bool true) →
(0 ≤ (27 : Int) ∧ (27 : Int) ≤ ((bL : Nat) : Int)) ∧
Runs Tryz.prog 85 #[(.slice (slcAddr b 27 bC 27) (bL - 27) (bC - 27))] h22 fun r11 h23 =>
∃ n4 : Int,
r11 = (.int .i64 n4) ∧
onAddr f_1 fun b9 o4 =>
wr h23 b9 (o4 + 24) ∧ ∀ h24 : Heap, h24 = setc h23 b9 (o4 + 24) (.int .i64 n4) →
(0 ≤ (29 : Int) ∧ (29 : Int) ≤ ((bL : Nat) : Int)) ∧
Runs Tryz.prog 85 #[(.slice (slcAddr b 29 bC 29) (bL - 29) (bC - 29))] h24 fun r12 h25 =>
∃ n5 : Int,
r12 = (.int .i64 n5) ∧
(0 ≤ (31 : Int) ∧ (31 : Int) ≤ ((bL : Nat) : Int)) ∧
Runs Tryz.prog 85 #[(.slice (slcAddr b 31 bC 31) (bL - 31) (bC - 31))] h25 fun r13 h26 =>
∃ n6 : Int,
r13 = (.int .i64 n6) ∧
onAddr f_1 fun b10 o5 =>
wr h26 b10 (o5 + 22) ∧ ∀ h27 : Heap, h27 = setc h26 b10 (o5 + 22) (.int .i64 n6) →
J2 n5 h27) (
(0 ≤ (27 : Int) ∧ (27 : Int) ≤ ((bL : Nat) : Int)) ∧
Runs Tryz.prog 85 #[(.slice (slcAddr b 27 bC 27) (bL - 27) (bC - 27))] h21 fun r14 h28 =>
∃ n7 : Int,
r14 = (.int .i64 n7) ∧
(0 ≤ (29 : Int) ∧ (29 : Int) ≤ ((bL : Nat) : Int)) ∧
Runs Tryz.prog 85 #[(.slice (slcAddr b 29 bC 29) (bL - 29) (bC - 29))] h28 fun r15 h29 =>
∃ n8 : Int,
r15 = (.int .i64 n8) ∧
onAddr f_1 fun b11 o6 =>
wr h29 b11 (o6 + 22) ∧ ∀ h30 : Heap, h30 = setc h29 b11 (o6 + 22) (.int .i64 n8) →
(0 ≤ (31 : Int) ∧ (31 : Int) ≤ ((bL : Nat) : Int)) ∧
Runs Tryz.prog 85 #[(.slice (slcAddr b 31 bC 31) (bL - 31) (bC - 31))] h30 fun r16 h31 =>
∃ n9 : Int,
r16 = (.int .i64 n9) ∧
(0 ≤ n9 ∧ 0 < (16 : Int) ∧ fits .i64 (n9 / (16 : Int))) ∧
onAddr f_1 fun b12 o7 =>
wr h31 b12 (o7 + 23) ∧ ∀ h32 : Heap, h32 = setc h31 b12 (o7 + 23) (.int .i64 (n9 / (16 : Int))) →
J2 n7 h32)) ∧ ∀ _ : Env,
∀ (params_1 : Int) (h33 : Heap), J2 params_1 h33 →
(0 ≤ params_1 ∧ 0 < (4 : Int) ∧ fits .i64 (params_1 / (4 : Int))) ∧
(0 ≤ (params_1 / (4 : Int)) ∧ 0 < (16 : Int)) ∧
onAddr f_1 fun b13 o8 =>
wr h33 b13 (o8 + 20) ∧ ∀ h34 : Heap, h34 = setc h33 b13 (o8 + 20) (.int .i64 ((params_1 / (4 : Int)) % (16 : Int))) →
(0 ≤ params_1 ∧ 0 < (64 : Int) ∧ fits .i64 (params_1 / (64 : Int))) ∧
onAddr f_1 fun b14 o9 =>
wr h34 b14 (o9 + 21) ∧ ∀ h35 : Heap, h35 = setc h34 b14 (o9 + 21) (.int .i64 (params_1 / (64 : Int))) →
onAddr f_1 fun b15 o10 =>
∃ cs11 : List Value, row h35 b15 o10 25 = some cs11 ∧
Runs Tryz.prog 25 #[(.agg (cs11).toArray)] h35 fun r17 h36 =>
∃ (s1 : Option Addr) (s1l s1c : Nat),
∃ n10 : Int,
r17 = (.tuple #[(.slice s1 s1l s1c), (.int .i64 n10)]) ∧
bcase (!decide (n10 = (0 : Int))) (
((([(.int .u8 (0 : Int)), (.int .u8 (0 : Int)), (.int .u8 (0 : Int)), (.int .u8 (0 : Int)), (.int .u8 (0 : Int)), (.int .u8 (0 : Int)), (.int .u8 (0 : Int)), (.int .u8 (0 : Int)), (.int .u8 (0 : Int)), (.int .u8 (0 : Int)), (.int .u8 (0 : Int)), (.int .u8 (0 : Int)), (.int .u8 (0 : Int)), (.int .u8 (0 : Int)), (.int .u8 (0 : Int)), (.int .u8 (0 : Int)), (.int .u8 (0 : Int)), (.int .u8 (0 : Int)), (.bool false), (.int .i64 (0 : Int)), (.int .i64 (0 : Int)), (.int .i64 (0 : Int)), (.int .i64 (0 : Int)), (.int .i64 (0 : Int)), (.int .i64 (0 : Int))] : List Value)).length = 25 ∧ wrs h36 b1 0 25 ∧ ∀ u ∈ (([(.int .u8 (0 : Int)), (.int .u8 (0 : Int)), (.int .u8 (0 : Int)), (.int .u8 (0 : Int)), (.int .u8 (0 : Int)), (.int .u8 (0 : Int)), (.int .u8 (0 : Int)), (.int .u8 (0 : Int)), (.int .u8 (0 : Int)), (.int .u8 (0 : Int)), (.int .u8 (0 : Int)), (.int .u8 (0 : Int)), (.int .u8 (0 : Int)), (.int .u8 (0 : Int)), (.int .u8 (0 : Int)), (.int .u8 (0 : Int)), (.int .u8 (0 : Int)), (.int .u8 (0 : Int)), (.bool false), (.int .i64 (0 : Int)), (.int .i64 (0 : Int)), (.int .i64 (0 : Int)), (.int .i64 (0 : Int)), (.int .i64 (0 : Int)), (.int .i64 (0 : Int))] : List Value) : List Value), u.oneCell' = true) ∧ ∀ h37 : Heap, h37 = setr h36 b1 0 ([(.int .u8 (0 : Int)), (.int .u8 (0 : Int)), (.int .u8 (0 : Int)), (.int .u8 (0 : Int)), (.int .u8 (0 : Int)), (.int .u8 (0 : Int)), (.int .u8 (0 : Int)), (.int .u8 (0 : Int)), (.int .u8 (0 : Int)), (.int .u8 (0 : Int)), (.int .u8 (0 : Int)), (.int .u8 (0 : Int)), (.int .u8 (0 : Int)), (.int .u8 (0 : Int)), (.int .u8 (0 : Int)), (.int .u8 (0 : Int)), (.int .u8 (0 : Int)), (.int .u8 (0 : Int)), (.bool false), (.int .i64 (0 : Int)), (.int .i64 (0 : Int)), (.int .i64 (0 : Int)), (.int .i64 (0 : Int)), (.int .i64 (0 : Int)), (.int .i64 (0 : Int))] : List Value) →
∃ cs12 : List Value, row h37 b1 0 25 = some cs12 ∧
Post (.tuple #[(.agg (cs12).toArray), (.int .i64 (102 : Int))]) h37) (
Runs Tryz.prog 31 #[(.slice b bL bC), (.slice s1 s1l s1c)] h36 fun r18 h38 =>
∃ t1 : Bool,
r18 = (.bool t1) ∧
bcase (!t1) (
((([(.int .u8 (0 : Int)), (.int .u8 (0 : Int)), (.int .u8 (0 : Int)), (.int .u8 (0 : Int)), (.int .u8 (0 : Int)), (.int .u8 (0 : Int)), (.int .u8 (0 : Int)), (.int .u8 (0 : Int)), (.int .u8 (0 : Int)), (.int .u8 (0 : Int)), (.int .u8 (0 : Int)), (.int .u8 (0 : Int)), (.int .u8 (0 : Int)), (.int .u8 (0 : Int)), (.int .u8 (0 : Int)), (.int .u8 (0 : Int)), (.int .u8 (0 : Int)), (.int .u8 (0 : Int)), (.bool false), (.int .i64 (0 : Int)), (.int .i64 (0 : Int)), (.int .i64 (0 : Int)), (.int .i64 (0 : Int)), (.int .i64 (0 : Int)), (.int .i64 (0 : Int))] : List Value)).length = 25 ∧ wrs h38 b1 0 25 ∧ ∀ u ∈ (([(.int .u8 (0 : Int)), (.int .u8 (0 : Int)), (.int .u8 (0 : Int)), (.int .u8 (0 : Int)), (.int .u8 (0 : Int)), (.int .u8 (0 : Int)), (.int .u8 (0 : Int)), (.int .u8 (0 : Int)), (.int .u8 (0 : Int)), (.int .u8 (0 : Int)), (.int .u8 (0 : Int)), (.int .u8 (0 : Int)), (.int .u8 (0 : Int)), (.int .u8 (0 : Int)), (.int .u8 (0 : Int)), (.int .u8 (0 : Int)), (.int .u8 (0 : Int)), (.int .u8 (0 : Int)), (.bool false), (.int .i64 (0 : Int)), (.int .i64 (0 : Int)), (.int .i64 (0 : Int)), (.int .i64 (0 : Int)), (.int .i64 (0 : Int)), (.int .i64 (0 : Int))] : List Value) : List Value), u.oneCell' = true) ∧ ∀ h39 : Heap, h39 = setr h38 b1 0 ([(.int .u8 (0 : Int)), (.int .u8 (0 : Int)), (.int .u8 (0 : Int)), (.int .u8 (0 : Int)), (.int .u8 (0 : Int)), (.int .u8 (0 : Int)), (.int .u8 (0 : Int)), (.int .u8 (0 : Int)), (.int .u8 (0 : Int)), (.int .u8 (0 : Int)), (.int .u8 (0 : Int)), (.int .u8 (0 : Int)), (.int .u8 (0 : Int)), (.int .u8 (0 : Int)), (.int .u8 (0 : Int)), (.int .u8 (0 : Int)), (.int .u8 (0 : Int)), (.int .u8 (0 : Int)), (.bool false), (.int .i64 (0 : Int)), (.int .i64 (0 : Int)), (.int .i64 (0 : Int)), (.int .i64 (0 : Int)), (.int .i64 (0 : Int)), (.int .i64 (0 : Int))] : List Value) →
∃ cs13 : List Value, row h39 b1 0 25 = some cs13 ∧
Post (.tuple #[(.agg (cs13).toArray), (.int .i64 (102 : Int))]) h39) (
onAddr f_1 fun b16 o11 =>
∃ cs14 : List Value, row h38 b16 o11 25 = some cs14 ∧
(((cs14)).length = 25 ∧ wrs h38 b1 0 25 ∧ ∀ u ∈ ((cs14) : List Value), u.oneCell' = true) ∧ ∀ h40 : Heap, h40 = setr h38 b1 0 (cs14) →
∃ cs15 : List Value, row h40 b1 0 25 = some cs15 ∧
Post (.tuple #[(.agg (cs15).toArray), (.int .i64 (0 : Int))]) h40)))) :
    Runs Tryz.prog 69 #[(.slice b bL bC)] h0 Post :=
  runs_of (args := [(.slice b bL bC)]) (fun n => ⟨true, false⟩) (fun _ => []) (fun n => match n with | 5 => some [(5, .ptr)] | 14 => some [(6, .int .i64)] | _ => none) (fun _ => []) Tryz.func69 rfl (by rw [Tryz.ntmps69]; simp) (Eq.mp (by kernel_rfl) H)
end Go.Proofs.YtepodifionoigaaGreatDoor
