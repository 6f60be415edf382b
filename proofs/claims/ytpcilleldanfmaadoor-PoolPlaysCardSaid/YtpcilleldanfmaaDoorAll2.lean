/- The texts of this proof, laid together (part 2). -/
import Derived.Test.YtpcilleldanfmaaDoorAll1
import Derived.Test.YtpcilleldanfmaaDoorRows
import Derived.Shelf.Small.Bits
import Derived.Shelf.Strconv.Itoa0
import Derived.Shelf.Bits.Mul64
import Derived.Test.YtpcilleldanfmaaDoorProg
import Derived.Lib.ItoaNum
import Derived.Laws.Entries
/- The conditions for calls of functions of the program, in plain form: written by a program (vcgen) off the elaborated code; each is the reckoner's own, by the kernel. -/
set_option linter.unusedVariables false
set_option maxRecDepth 100000
namespace Go.Proofs.YtpcilleldanfmaaDoor
open Go.Vc
theorem vc_slices_Clone_byte (s : Option Addr) (sL sC : Nat) (h0 : Heap) (Post : Value → Heap → Prop) (H :
bcase (isNilAddr s) (
Post (.slice none 0 0) h0) (
∀ (b1 : Nat) (h1 : Heap), b1 = h0.size → h1 = h0.push (.cells ([] : List Value).toArray 5) →
∃ news1 : List Value, (src h1 s (sL * 1) news1 ∧ ∀ u ∈ news1, u.oneCell' = true) ∧
appK h1 (some ⟨b1, 0, none⟩) 0 0 sL 1 5 1 news1 fun (a1 : Option Addr) (cap1 : Nat) (h2 : Heap) =>
Post (.slice a1 (0 + sL) cap1) h2)) :
    Runs Tryd.prog 55 #[(.slice s sL sC)] h0 Post :=
  runs_of (args := [(.slice s sL sC)]) (fun n => ⟨true, false⟩) (fun _ => []) (fun _ => none) (fun _ => []) Tryd.func55 rfl (by rw [Tryd.ntmps55]; simp) (Eq.mp (by kernel_rfl) H)

theorem vc_slices_Contains_int (s : Option Addr) (sL sC : Nat) (v : Int) (h0 : Heap) (Post : Value → Heap → Prop) (H :
Runs Tryd.prog 75 #[(.slice s sL sC), (.int .i64 v)] h0 fun r1 h1 =>
∃ n1 : Int,
r1 = (.int .i64 n1) ∧
Post (.bool (decide ((0 : Int) ≤ n1))) h1) :
    Runs Tryd.prog 56 #[(.slice s sL sC), (.int .i64 v)] h0 Post :=
  runs_of (args := [(.slice s sL sC), (.int .i64 v)]) (fun n => ⟨true, false⟩) (fun _ => []) (fun _ => none) (fun _ => []) Tryd.func56 rfl (by rw [Tryd.ntmps56]; simp) (Eq.mp (by kernel_rfl) H)

theorem vc_slices_Index_int (s : Option Addr) (sL sC : Nat) (v : Int) (h0 : Heap) (Post : Value → Heap → Prop) (H :
∃ (I1 : Int → Heap → Prop) (m1 : Int → Heap → Nat), I1 (0 : Int) h0 ∧ ∀ _ : Env,
∀ (x1 : Int) (h1 : Heap), I1 x1 h1 →
bcase (decide (x1 < ((sL : Nat) : Int))) (
(0 ≤ x1 ∧ x1 < ((sL : Nat) : Int)) ∧
onAddr s fun b1 o1 =>
∃ n1 : Int, cell h1 b1 (o1 + (x1).toNat) = some (.int .i64 n1) ∧
bcase (decide (v = n1)) (
Post (.int .i64 x1) h1) (
fits .i64 (x1 + (1 : Int)) ∧
I1 (x1 + (1 : Int)) h1 ∧ m1 (x1 + (1 : Int)) h1 < m1 x1 h1)) (
Post (.int .i64 (-1 : Int)) h1)) :
    Runs Tryd.prog 75 #[(.slice s sL sC), (.int .i64 v)] h0 Post :=
  runs_of (args := [(.slice s sL sC), (.int .i64 v)]) (fun n => ⟨true, false⟩) (fun n => match n with | 0 => [(8, .int .i64)] | _ => []) (fun _ => none) (fun _ => []) Tryd.func75 rfl (by rw [Tryd.ntmps75]; simp) (Eq.mp (by kernel_rfl) H)

theorem vc_slices_Clone_int (s : Option Addr) (sL sC : Nat) (h0 : Heap) (Post : Value → Heap → Prop) (H :
bcase (isNilAddr s) (
Post (.slice none 0 0) h0) (
∀ (b1 : Nat) (h1 : Heap), b1 = h0.size → h1 = h0.push (.cells ([] : List Value).toArray 3) →
∃ news1 : List Value, (src h1 s (sL * 1) news1 ∧ ∀ u ∈ news1, u.oneCell' = true) ∧
appK h1 (some ⟨b1, 0, none⟩) 0 0 sL 1 3 8 news1 fun (a1 : Option Addr) (cap1 : Nat) (h2 : Heap) =>
Post (.slice a1 (0 + sL) cap1) h2)) :
    Runs Tryd.prog 65 #[(.slice s sL sC)] h0 Post :=
  runs_of (args := [(.slice s sL sC)]) (fun n => ⟨true, false⟩) (fun _ => []) (fun _ => none) (fun _ => []) Tryd.func65 rfl (by rw [Tryd.ntmps65]; simp) (Eq.mp (by kernel_rfl) H)

theorem vc_slices_Clone_Packet (s : Option Addr) (sL sC : Nat) (h0 : Heap) (Post : Value → Heap → Prop) (H :
bcase (isNilAddr s) (
Post (.slice none 0 0) h0) (
∀ (b1 : Nat) (h1 : Heap), b1 = h0.size → h1 = h0.push (.cells ([] : List Value).toArray 35) →
∃ news1 : List Value, (src h1 s (sL * 5) news1 ∧ ∀ u ∈ news1, u.oneCell' = true) ∧
appK h1 (some ⟨b1, 0, none⟩) 0 0 sL 5 35 56 news1 fun (a1 : Option Addr) (cap1 : Nat) (h2 : Heap) =>
Post (.slice a1 (0 + sL) cap1) h2)) :
    Runs Tryd.prog 78 #[(.slice s sL sC)] h0 Post :=
  runs_of (args := [(.slice s sL sC)]) (fun n => ⟨true, false⟩) (fun _ => []) (fun _ => none) (fun _ => []) Tryd.func78 rfl (by rw [Tryd.ntmps78]; simp) (Eq.mp (by kernel_rfl) H)

theorem vc_muezzinref_Has (l : Option Addr) (lL lC : Nat) (n : Int) (h0 : Heap) (Post : Value → Heap → Prop) (H :
∃ (I1 : Int → Heap → Prop) (m1 : Int → Heap → Nat), I1 (0 : Int) h0 ∧ ∀ _ : Env,
∀ (i_1 : Int) (h1 : Heap), I1 i_1 h1 →
bcase (decide (i_1 < ((lL : Nat) : Int))) (
(0 ≤ i_1 ∧ i_1 < ((lL : Nat) : Int)) ∧
onAddr l fun b1 o1 =>
∃ n1 : Int, cell h1 b1 (o1 + (i_1).toNat) = some (.int .i64 n1) ∧
bcase (decide (n1 = n)) (
Post (.bool true) h1) (
fits .i64 (i_1 + (1 : Int)) ∧
I1 (i_1 + (1 : Int)) h1 ∧ m1 (i_1 + (1 : Int)) h1 < m1 i_1 h1)) (
Post (.bool false) h1)) :
    Runs Tryd.prog 67 #[(.slice l lL lC), (.int .i64 n)] h0 Post :=
  runs_of (args := [(.slice l lL lC), (.int .i64 n)]) (fun n => ⟨true, false⟩) (fun n => match n with | 0 => [(5, .int .i64)] | _ => []) (fun _ => none) (fun _ => []) Tryd.func67 rfl (by rw [Tryd.ntmps67]; simp) (Eq.mp (by kernel_rfl) H)

theorem vc_muezzinref_Packets (l : Option Addr) (lL lC : Nat) (h0 : Heap) (Post : Value → Heap → Prop) (H :
(0 ≤ (0 : Int) ∧ (0 : Int) ≤ ((lL : Nat) : Int) ∧ ((56 : Nat) : Int) * ((lL : Nat) : Int) ≤ 281474976710656 ∧ ((lL : Nat) : Int) ≤ 9223372036854775807) ∧ ∀ (b1 : Nat) (h1 : Heap), b1 = h0.size → h1 = h0.push (.cells (joinL (List.replicate (((lL : Nat) : Int)).toNat [(.int .i64 (0 : Int)), (.int .u32 (0 : Int)), (.int .i64 (0 : Int)), (.int .i64 (0 : Int)), (.slice none 0 0)])).toArray 35) →
∃ (I1 : Option Addr → Nat → Nat → Int → Heap → Prop) (m1 : Option Addr → Nat → Nat → Int → Heap → Nat), I1 (some ⟨b1, 0, none⟩) 0 (((lL : Nat) : Int)).toNat (0 : Int) h1 ∧ ∀ _ : Env,
∀ (out_1 : Option Addr) (out_1l out_1c : Nat) (i_1 : Int) (h2 : Heap), I1 out_1 out_1l out_1c i_1 h2 →
bcase (decide (i_1 < ((lL : Nat) : Int))) (
(0 ≤ i_1 ∧ i_1 < ((lL : Nat) : Int)) ∧
onAddr l fun b2 o1 =>
∃ cs1 : List Value, row h2 b2 (o1 + ((i_1).toNat * 5)) 5 = some cs1 ∧
(cs1).length = 5 ∧
∀ (b3 : Nat) (h3 : Heap), b3 = h2.size → h3 = h2.push (.cells (((cs1) ++ [])).toArray 35) →
∃ news1 : List Value, (row h3 b3 0 5 = some news1 ∧ ∀ u ∈ news1, u.oneCell' = true) ∧
appK h3 out_1 out_1l out_1c 1 5 35 56 news1 fun (a1 : Option Addr) (cap1 : Nat) (h4 : Heap) =>
fits .i64 (i_1 + (1 : Int)) ∧
I1 a1 (out_1l + 1) cap1 (i_1 + (1 : Int)) h4 ∧ m1 a1 (out_1l + 1) cap1 (i_1 + (1 : Int)) h4 < m1 out_1 out_1l out_1c i_1 h2) (
Post (.slice out_1 out_1l out_1c) h2)) :
    Runs Tryd.prog 70 #[(.slice l lL lC)] h0 Post :=
  runs_of (args := [(.slice l lL lC)]) (fun n => ⟨true, false⟩) (fun n => match n with | 0 => [(3, .slice), (4, .int .i64)] | _ => []) (fun _ => none) (fun _ => []) Tryd.func70 rfl (by rw [Tryd.ntmps70]; simp) (Eq.mp (by kernel_rfl) H)

theorem vc_muezzinref_SameBytes (a : Option Addr) (aL aC : Nat) (b : Option Addr) (bL bC : Nat) (h0 : Heap) (Post : Value → Heap → Prop) (H :
bcase (!decide (((aL : Nat) : Int) = ((bL : Nat) : Int))) (
Post (.bool false) h0) (
∃ (I1 : Int → Heap → Prop) (m1 : Int → Heap → Nat), I1 (0 : Int) h0 ∧ ∀ _ : Env,
∀ (i_1 : Int) (h1 : Heap), I1 i_1 h1 →
bcase (decide (i_1 < ((aL : Nat) : Int))) (
(0 ≤ i_1 ∧ i_1 < ((aL : Nat) : Int)) ∧
onAddr a fun b1 o1 =>
∃ n1 : Int, cell h1 b1 (o1 + (i_1).toNat) = some (.int .u8 n1) ∧
(0 ≤ i_1 ∧ i_1 < ((bL : Nat) : Int)) ∧
onAddr b fun b2 o2 =>
∃ n2 : Int, cell h1 b2 (o2 + (i_1).toNat) = some (.int .u8 n2) ∧
bcase (!(decide (n1 = n2))) (
Post (.bool false) h1) (
fits .i64 (i_1 + (1 : Int)) ∧
I1 (i_1 + (1 : Int)) h1 ∧ m1 (i_1 + (1 : Int)) h1 < m1 i_1 h1)) (
Post (.bool true) h1))) :
    Runs Tryd.prog 50 #[(.slice a aL aC), (.slice b bL bC)] h0 Post :=
  runs_of (args := [(.slice a aL aC), (.slice b bL bC)]) (fun n => ⟨true, false⟩) (fun n => match n with | 0 => [(5, .int .i64)] | _ => []) (fun _ => none) (fun _ => []) Tryd.func50 rfl (by rw [Tryd.ntmps50]; simp) (Eq.mp (by kernel_rfl) H)

theorem vc_muezzinref_Bytes (l : Option Addr) (lL lC : Nat) (h0 : Heap) (Post : Value → Heap → Prop) (H :
(0 ≤ (0 : Int) ∧ (0 : Int) ≤ ((lL : Nat) : Int) ∧ ((1 : Nat) : Int) * ((lL : Nat) : Int) ≤ 281474976710656 ∧ ((lL : Nat) : Int) ≤ 9223372036854775807) ∧ ∀ (b1 : Nat) (h1 : Heap), b1 = h0.size → h1 = h0.push (.cells (joinL (List.replicate (((lL : Nat) : Int)).toNat [(.int .u8 (0 : Int))])).toArray 5) →
∃ (I1 : Option Addr → Nat → Nat → Int → Heap → Prop) (m1 : Option Addr → Nat → Nat → Int → Heap → Nat), I1 (some ⟨b1, 0, none⟩) 0 (((lL : Nat) : Int)).toNat (0 : Int) h1 ∧ ∀ _ : Env,
∀ (out_1 : Option Addr) (out_1l out_1c : Nat) (i_1 : Int) (h2 : Heap), I1 out_1 out_1l out_1c i_1 h2 →
bcase (decide (i_1 < ((lL : Nat) : Int))) (
(0 ≤ i_1 ∧ i_1 < ((lL : Nat) : Int)) ∧
onAddr l fun b2 o1 =>
∃ n1 : Int, cell h2 b2 (o1 + (i_1).toNat) = some (.int .u8 n1) ∧
∀ (b3 : Nat) (h3 : Heap), b3 = h2.size → h3 = h2.push (.cells ([(.int .u8 n1)] : List Value).toArray 5) →
∃ news1 : List Value, (row h3 b3 0 1 = some news1 ∧ ∀ u ∈ news1, u.oneCell' = true) ∧
appK h3 out_1 out_1l out_1c 1 1 5 1 news1 fun (a1 : Option Addr) (cap1 : Nat) (h4 : Heap) =>
fits .i64 (i_1 + (1 : Int)) ∧
I1 a1 (out_1l + 1) cap1 (i_1 + (1 : Int)) h4 ∧ m1 a1 (out_1l + 1) cap1 (i_1 + (1 : Int)) h4 < m1 out_1 out_1l out_1c i_1 h2) (
Post (.slice out_1 out_1l out_1c) h2)) :
    Runs Tryd.prog 82 #[(.slice l lL lC)] h0 Post :=
  runs_of (args := [(.slice l lL lC)]) (fun n => ⟨true, false⟩) (fun n => match n with | 0 => [(3, .slice), (4, .int .i64)] | _ => []) (fun _ => none) (fun _ => []) Tryd.func82 rfl (by rw [Tryd.ntmps82]; simp) (Eq.mp (by kernel_rfl) H)

theorem vc_muezzinref_SamePacket (a : List Value) (b : List Value) (h0 : Heap) (Post : Value → Heap → Prop) (H :
∀ (b1 : Nat) (h1 : Heap), b1 = h0.size → h1 = h0.push (.cells (a).toArray 35) →
∀ (b2 : Nat) (h2 : Heap), b2 = h1.size → h2 = h1.push (.cells (b).toArray 35) →
∃ n1 : Int, cell h2 b1 0 = some (.int .i64 n1) ∧
∃ n2 : Int, cell h2 b2 0 = some (.int .i64 n2) ∧
bcase (decide (n1 = n2)) (
∃ n3 : Int, cell h2 b1 1 = some (.int .u32 n3) ∧
∃ n4 : Int, cell h2 b2 1 = some (.int .u32 n4) ∧
bcase (decide (n3 = n4)) (
∃ n5 : Int, cell h2 b1 2 = some (.int .i64 n5) ∧
∃ n6 : Int, cell h2 b2 2 = some (.int .i64 n6) ∧
bcase (decide (n5 = n6)) (
∃ n7 : Int, cell h2 b1 3 = some (.int .i64 n7) ∧
∃ n8 : Int, cell h2 b2 3 = some (.int .i64 n8) ∧
bcase (decide (n7 = n8)) (
∃ (s1 : Option Addr) (s1l s1c : Nat), cell h2 b1 4 = some (.slice s1 s1l s1c) ∧
∃ (s2 : Option Addr) (s2l s2c : Nat), cell h2 b2 4 = some (.slice s2 s2l s2c) ∧
Runs Tryd.prog 50 #[(.slice s1 s1l s1c), (.slice s2 s2l s2c)] h2 fun r1 h3 =>
∃ t1 : Bool,
r1 = (.bool t1) ∧
Post (.bool t1) h3) (
Post (.bool false) h2)) (
Post (.bool false) h2)) (
Post (.bool false) h2)) (
Post (.bool false) h2)) :
    Runs Tryd.prog 23 #[(.agg (a).toArray), (.agg (b).toArray)] h0 Post :=
  runs_of (args := [(.agg (a).toArray), (.agg (b).toArray)]) (fun n => ⟨true, false⟩) (fun _ => []) (fun _ => none) (fun _ => []) Tryd.func23 rfl (by rw [Tryd.ntmps23]; simp) (Eq.mp (by kernel_rfl) H)

theorem vc_muezzinref_SamePackets (a : Option Addr) (aL aC : Nat) (b : Option Addr) (bL bC : Nat) (h0 : Heap) (Post : Value → Heap → Prop) (H :
bcase (!decide (((aL : Nat) : Int) = ((bL : Nat) : Int))) (
Post (.bool false) h0) (
∃ (I1 : Int → Heap → Prop) (m1 : Int → Heap → Nat), I1 (0 : Int) h0 ∧ ∀ _ : Env,
∀ (i_1 : Int) (h1 : Heap), I1 i_1 h1 →
bcase (decide (i_1 < ((aL : Nat) : Int))) (
(0 ≤ i_1 ∧ i_1 < ((aL : Nat) : Int)) ∧
onAddr a fun b1 o1 =>
∃ cs1 : List Value, row h1 b1 (o1 + ((i_1).toNat * 5)) 5 = some cs1 ∧
(0 ≤ i_1 ∧ i_1 < ((bL : Nat) : Int)) ∧
onAddr b fun b2 o2 =>
∃ cs2 : List Value, row h1 b2 (o2 + ((i_1).toNat * 5)) 5 = some cs2 ∧
Runs Tryd.prog 23 #[(.agg (cs1).toArray), (.agg (cs2).toArray)] h1 fun r1 h2 =>
∃ t1 : Bool,
r1 = (.bool t1) ∧
bcase (!t1) (
Post (.bool false) h2) (
fits .i64 (i_1 + (1 : Int)) ∧
I1 (i_1 + (1 : Int)) h2 ∧ m1 (i_1 + (1 : Int)) h2 < m1 i_1 h1)) (
Post (.bool true) h1))) :
    Runs Tryd.prog 21 #[(.slice a aL aC), (.slice b bL bC)] h0 Post :=
  runs_of (args := [(.slice a aL aC), (.slice b bL bC)]) (fun n => ⟨true, false⟩) (fun n => match n with | 0 => [(5, .int .i64)] | _ => []) (fun _ => none) (fun _ => []) Tryd.func21 rfl (by rw [Tryd.ntmps21]; simp) (Eq.mp (by kernel_rfl) H)

theorem vc_muezzinref_Packet (p : List Value) (h0 : Heap) (Post : Value → Heap → Prop) (H :
∀ (b1 : Nat) (h1 : Heap), b1 = h0.size → h1 = h0.push (.cells (p).toArray 35) →
∀ (b2 : Nat) (h2 : Heap), b2 = h1.size → h2 = h1.push (.cells ([(.int .i64 (0 : Int)), (.int .u32 (0 : Int)), (.int .i64 (0 : Int)), (.int .i64 (0 : Int)), (.slice none 0 0)] : List Value).toArray 35) →
∃ (s1 : Option Addr) (s1l s1c : Nat), cell h2 b1 4 = some (.slice s1 s1l s1c) ∧
Runs Tryd.prog 82 #[(.slice s1 s1l s1c)] h2 fun r1 h3 =>
∃ (s2 : Option Addr) (s2l s2c : Nat),
r1 = (.slice s2 s2l s2c) ∧
wr h3 b1 4 ∧ ∀ h4 : Heap, h4 = setc h3 b1 4 (.slice s2 s2l s2c) →
∃ cs1 : List Value, row h4 b1 0 5 = some cs1 ∧
(((cs1)).length = 5 ∧ wrs h4 b2 0 5 ∧ ∀ u ∈ ((cs1) : List Value), u.oneCell' = true) ∧ ∀ h5 : Heap, h5 = setr h4 b2 0 (cs1) →
∃ cs2 : List Value, row h5 b2 0 5 = some cs2 ∧
Post (.agg (cs2).toArray) h5) :
    Runs Tryd.prog 66 #[(.agg (p).toArray)] h0 Post :=
  runs_of (args := [(.agg (p).toArray)]) (fun n => ⟨true, false⟩) (fun _ => []) (fun _ => none) (fun _ => []) Tryd.func66 rfl (by rw [Tryd.ntmps66]; simp) (Eq.mp (by kernel_rfl) H)

theorem vc_muezzinref_Del (l : Option Addr) (lL lC : Nat) (n : Int) (h0 : Heap) (Post : Value → Heap → Prop) (H :
∃ (I1 : Option Addr → Nat → Nat → Int → Heap → Prop) (m1 : Option Addr → Nat → Nat → Int → Heap → Nat), I1 none 0 0 (0 : Int) h0 ∧ ∀ _ : Env,
∀ (out_1 : Option Addr) (out_1l out_1c : Nat) (i_1 : Int) (h1 : Heap), I1 out_1 out_1l out_1c i_1 h1 →
bcase (decide (i_1 < ((lL : Nat) : Int))) (
(0 ≤ i_1 ∧ i_1 < ((lL : Nat) : Int)) ∧
onAddr l fun b1 o1 =>
∃ n1 : Int, cell h1 b1 (o1 + (i_1).toNat) = some (.int .i64 n1) ∧
bcase (!decide (n1 = n)) (
(0 ≤ i_1 ∧ i_1 < ((lL : Nat) : Int)) ∧
onAddr l fun b2 o2 =>
∃ n2 : Int, cell h1 b2 (o2 + (i_1).toNat) = some (.int .i64 n2) ∧
∀ (b3 : Nat) (h2 : Heap), b3 = h1.size → h2 = h1.push (.cells ([(.int .i64 n2)] : List Value).toArray 3) →
∃ news1 : List Value, (row h2 b3 0 1 = some news1 ∧ ∀ u ∈ news1, u.oneCell' = true) ∧
appK h2 out_1 out_1l out_1c 1 1 3 8 news1 fun (a1 : Option Addr) (cap1 : Nat) (h3 : Heap) =>
fits .i64 (i_1 + (1 : Int)) ∧
I1 a1 (out_1l + 1) cap1 (i_1 + (1 : Int)) h3 ∧ m1 a1 (out_1l + 1) cap1 (i_1 + (1 : Int)) h3 < m1 out_1 out_1l out_1c i_1 h1) (
fits .i64 (i_1 + (1 : Int)) ∧
I1 out_1 out_1l out_1c (i_1 + (1 : Int)) h1 ∧ m1 out_1 out_1l out_1c (i_1 + (1 : Int)) h1 < m1 out_1 out_1l out_1c i_1 h1)) (
Post (.slice out_1 out_1l out_1c) h1)) :
    Runs Tryd.prog 71 #[(.slice l lL lC), (.int .i64 n)] h0 Post :=
  runs_of (args := [(.slice l lL lC), (.int .i64 n)]) (fun n => ⟨true, false⟩) (fun n => match n with | 0 => [(5, .slice), (6, .int .i64)] | _ => []) (fun _ => none) (fun _ => []) Tryd.func71 rfl (by rw [Tryd.ntmps71]; simp) (Eq.mp (by kernel_rfl) H)
end Go.Proofs.YtpcilleldanfmaaDoor

/- Contracts of functions that read, copy, compare slices: of the library and of muezzinref. -/
set_option linter.unusedVariables false
set_option linter.unusedSimpArgs false
namespace Go.Proofs.YtpcilleldanfmaaDoor
open Go.Vc

section
variable {W W' : Wd} {h h' : Heap} {G L : List Grp} {E : Grp} {s a b : Option Addr} {l c cap sz e bytes n : Nat} {cs vs : List Value} {xs ys : List Int} {x : Int}
/-- What was made beside what we have. -/
theorem _root_.Go.Vc.Me.beside (m : Me W h G) (k : Me (Wd.of h) h' L) : Me W h' (L ++ G) := by
  refine ⟨fun b x e => k.keep b x (m.keep b x e), fun x hx => ?_, fun x hx => ?_, ?_⟩
  · rw [List.flatten_append] at hx
    rcases List.mem_append.1 hx with hx | hx
    · exact k.has x hx
    · exact k.keep _ _ (m.has x hx)
  · rw [List.flatten_append] at hx
    rcases List.mem_append.1 hx with hx | hx
    · have := k.off x hx
      cases hW : W x.1 with
      | none => rfl
      | some y => rw [show Wd.of h x.1 = some y from m.keep _ _ hW] at this; cases this
    · exact m.off x hx
  · rw [List.flatten_append, List.map_append]
    refine List.nodup_append.2 ⟨k.nd, m.nd, fun i hi j hj hij => ?_⟩
    subst hij
    obtain ⟨x, hx, rfl⟩ := List.mem_map.1 hi
    obtain ⟨y, hy, hxy⟩ := List.mem_map.1 hj
    have h1 := k.off x hx
    have h2 : h[y.1]? = _ := m.has y hy
    rw [hxy] at h2
    rw [show Wd.of h x.1 = _ from h2] at h1; cases h1
theorem _root_.Go.Vc.Ow.bts (o : Ow a l c 1 (ints .u8 xs) E) (hl : xs.length = l) (hE : ∀ x ∈ E, W x.1 = some (.cells x.2.1.toArray x.2.2)) : Bts W (.slice a l c) xs := by
  subst hl
  refine ⟨a, c, rfl, o.le, ?_⟩
  rcases o with ⟨rfl, h1, rfl, h2, rfl⟩ | ⟨b, o, j, rest, t, T, rfl, h1, h2, h3, h4, rfl⟩
  · exact h2
  · show wrow W b o xs.length = some _
    have hb := hE _ (List.mem_singleton.2 rfl)
    dsimp only at hb
    refine wrow_of (by simp [ints]) fun k v hk => ?_
    unfold wcell
    rw [hb]
    have hkl := (List.getElem?_eq_some_iff.1 hk).1
    simp only [List.getElem?_toArray]
    rw [← h4, List.getElem?_append_right (by omega), Nat.add_sub_cancel_left, List.getElem?_append_left hkl]
    exact hk
/-- What a copy yields: a slice of its own with those cells. -/
def Made (h : Heap) (l sz : Nat) (cs : List Value) (v : Value) (h' : Heap) : Prop := ∃ a c E, v = .slice a l c ∧ Me (Wd.of h) h' [E] ∧ Ow a l c sz cs E
theorem clone_k {l sz bytes : Nat} (hs : src h s (l * sz) cs) (hl : cs.length = l * sz) (h1 : ∀ u ∈ cs, u.oneCell' = true) (hb : l * bytes ≤ 140737488355328) (hb0 : 0 < bytes) (hz : 0 < sz) :
    bcase (isNilAddr s) (Made h l sz cs (.slice none 0 0) h) (∀ (b1 : Nat) (h1 : Heap), b1 = h.size → h1 = h.push (.cells ([] : List Value).toArray e) →
      ∃ news1 : List Value, (src h1 s (l * sz) news1 ∧ ∀ u ∈ news1, u.oneCell' = true) ∧ appK h1 (some ⟨b1, 0, none⟩) 0 0 l sz e bytes news1 fun (a1 : Option Addr) (cap1 : Nat) (h2 : Heap) => Made h l sz cs (.slice a1 (0 + l) cap1) h2) := by
  refine bcase_intro (fun hn => ?_) fun hn => ?_
  · cases s with
    | some p => simp [isNilAddr] at hn
    | none =>
      have : cs = [] := hs
      subst this
      have h0 : l * sz = 0 := by simpa using hl.symm
      obtain rfl : l = 0 := by
        rcases Nat.mul_eq_zero.1 h0 with h | h
        · exact h
        · omega
      exact ⟨none, 0, [], rfl, (Me.start h).nilI, Ow.nil⟩
  · intro b1 h1' e1 e2
    have m := (Me.start h).push e2 e1
    have k := m.kept (Wd.le.refl _)
    refine ⟨cs, ⟨k.src hs, h1⟩, ?_⟩
    refine (Ow.fresh0 (l := 0) (sz := sz) (by simp)).app m 0 rfl hl (by simpa using hb) hb0 fun a' c' E' h' m' o' => ?_
    rw [Nat.zero_add] at o' ⊢
    exact ⟨a', c', E', rfl, by simpa using m', by simpa using o'⟩
end
theorem clone_byte_c {h : Heap} {s : Option Addr} {l c : Nat} {cs : List Value} (hs : src h s l cs) (hl : cs.length = l) (h1 : ∀ u ∈ cs, u.oneCell' = true) (hb : l ≤ 140737488355328) :
    Runs Tryd.prog 55 #[.slice s l c] h (Made h l 1 cs) :=
  vc_slices_Clone_byte _ _ _ _ _ (clone_k (l := l) (sz := 1) (bytes := 1) (cs := cs) (by simpa using hs) (by simpa using hl) h1 (by omega) (by decide) (by decide))
theorem clone_int_c {h : Heap} {s : Option Addr} {l c : Nat} {cs : List Value} (hs : src h s l cs) (hl : cs.length = l) (h1 : ∀ u ∈ cs, u.oneCell' = true) (hb : l * 8 ≤ 140737488355328) :
    Runs Tryd.prog 65 #[.slice s l c] h (Made h l 1 cs) :=
  vc_slices_Clone_int _ _ _ _ _ (clone_k (l := l) (sz := 1) (bytes := 8) (cs := cs) (by simpa using hs) (by simpa using hl) h1 (by omega) (by decide) (by decide))
theorem clone_packet_c {h : Heap} {s : Option Addr} {l c : Nat} {cs : List Value} (hs : src h s (l * 5) cs) (hl : cs.length = l * 5) (h1 : ∀ u ∈ cs, u.oneCell' = true) (hb : l * 56 ≤ 140737488355328) :
    Runs Tryd.prog 78 #[.slice s l c] h (Made h l 5 cs) :=
  vc_slices_Clone_Packet _ _ _ _ _ (clone_k (l := l) (sz := 5) (bytes := 56) hs hl h1 hb (by decide) (by decide))

/-- Where a number stands first; -1. -/
def idxZ (x : Int) (xs : List Int) : Int := if x ∈ xs then (xs.idxOf x : Nat) else -1
theorem idxOf_at {x : Int} : ∀ {xs : List Int} {k : Nat}, xs[k]? = some x → (∀ j, j < k → xs[j]? ≠ some x) → xs.idxOf x = k
  | [], k, h, _ => by simp at h
  | y :: ys, 0, h, _ => by simp at h; subst h; simp
  | y :: ys, k + 1, h, hn => by
    have hy : ¬ y = x := fun e => hn 0 (by omega) (by simp [e])
    rw [List.idxOf_cons]
    have h1 := idxOf_at (xs := ys) (k := k) (by simpa using h) (fun j hj => by have := hn (j + 1) (by omega); simpa using this)
    have h2 : (y == x) = false := by simpa using hy
    simp [h2, h1]
theorem idxZ_found {x : Int} {xs : List Int} {k : Nat} (hk : xs[k]? = some x) (hn : ∀ j, j < k → xs[j]? ≠ some x) : idxZ x xs = k := by
  unfold idxZ
  rw [if_pos (List.mem_of_getElem? hk), idxOf_at hk hn]
theorem idxZ_none {x : Int} {xs : List Int} (hn : ∀ j, j < xs.length → xs[j]? ≠ some x) : x ∉ xs ∧ idxZ x xs = -1 := by
  have hm : x ∉ xs := fun hc => by
    obtain ⟨j, hj⟩ := List.mem_iff_getElem?.1 hc
    exact hn j (List.getElem?_eq_some_iff.1 hj).1 hj
  exact ⟨hm, by unfold idxZ; rw [if_neg hm]⟩
section
variable {h : Heap} {s : Option Addr} {l c : Nat} {xs ys : List Int} {x : Int}
theorem index_int_c (hs : src h s l (ints .i64 xs)) (hl : xs.length = l) (hb : l ≤ 4611686018427387904) :
    Runs Tryd.prog 75 #[.slice s l c, .int .i64 x] h fun v h' => v = .int .i64 (idxZ x xs) ∧ h' = h := by
  refine vc_slices_Index_int _ _ _ _ _ _ ⟨fun i h' => h' = h ∧ ∃ k : Nat, i = k ∧ k ≤ l ∧ ∀ j, j < k → xs[j]? ≠ some x, fun i _ => ((l : Int) - i).toNat, ⟨rfl, 0, rfl, by omega, fun j hj => by omega⟩, fun _ => ?_⟩
  rintro _ h1 ⟨rfl, k, rfl, hk, hn⟩
  refine dcase_intro (fun q => ?_) fun q => ?_
  · obtain ⟨y, hy⟩ : ∃ y, xs[k]? = some y := ⟨_, List.getElem?_eq_getElem (by omega)⟩
    obtain ⟨b, o, rfl, hc⟩ := src_cell hs (ints_get (k := .i64) hy)
    refine ⟨⟨by omega, by omega⟩, y, by simpa using hc, dcase_intro (fun q1 => ⟨?_, rfl⟩) fun q1 => ⟨by simp only [fits]; omega, ⟨rfl, k + 1, by omega, by omega, fun j hj => ?_⟩, by dsimp only; omega⟩⟩
    · subst q1; rw [idxZ_found hy hn]
    · rcases Nat.lt_succ_iff_lt_or_eq.1 hj with h | rfl
      · exact hn j h
      · rw [hy]; intro e; cases e; exact q1 rfl
  · obtain rfl : k = l := by omega
    exact ⟨by rw [(idxZ_none (by rw [hl]; exact hn)).2], rfl⟩
theorem contains_int_c (hs : src h s l (ints .i64 xs)) (hl : xs.length = l) (hb : l ≤ 4611686018427387904) :
    Runs Tryd.prog 56 #[.slice s l c, .int .i64 x] h fun v h' => v = .bool (decide (x ∈ xs)) ∧ h' = h := by
  refine vc_slices_Contains_int _ _ _ _ _ _ ((index_int_c hs hl hb).ret ⟨_, rfl, ?_, rfl⟩)
  congr 1
  unfold idxZ
  split <;> rename_i hm <;> simp [hm]
theorem has_c (hs : src h s l (ints .i64 xs)) (hl : xs.length = l) (hb : l ≤ 4611686018427387904) :
    Runs Tryd.prog 67 #[.slice s l c, .int .i64 x] h fun v h' => v = .bool (decide (x ∈ xs)) ∧ h' = h := by
  refine vc_muezzinref_Has _ _ _ _ _ _ ⟨fun i h' => h' = h ∧ ∃ k : Nat, i = k ∧ k ≤ l ∧ ∀ j, j < k → xs[j]? ≠ some x, fun i _ => ((l : Int) - i).toNat, ⟨rfl, 0, rfl, by omega, fun j hj => by omega⟩, fun _ => ?_⟩
  rintro _ h1 ⟨rfl, k, rfl, hk, hn⟩
  refine dcase_intro (fun q => ?_) fun q => ?_
  · obtain ⟨y, hy⟩ : ∃ y, xs[k]? = some y := ⟨_, List.getElem?_eq_getElem (by omega)⟩
    obtain ⟨b, o, rfl, hc⟩ := src_cell hs (ints_get (k := .i64) hy)
    refine ⟨⟨by omega, by omega⟩, y, by simpa using hc, dcase_intro (fun q1 => ⟨?_, rfl⟩) fun q1 => ⟨by simp only [fits]; omega, ⟨rfl, k + 1, by omega, by omega, fun j hj => ?_⟩, by dsimp only; omega⟩⟩
    · subst q1; simp [List.mem_of_getElem? hy]
    · rcases Nat.lt_succ_iff_lt_or_eq.1 hj with h | rfl
      · exact hn j h
      · rw [hy]; intro e; cases e; exact q1 rfl
  · obtain rfl : k = l := by omega
    exact ⟨by simp [(idxZ_none (x := x) (by rw [hl]; exact hn)).1], rfl⟩
end
end Go.Proofs.YtpcilleldanfmaaDoor

/- Packets: as records, as cells; what muezzinref does with them and with lists. -/
set_option linter.unusedVariables false
set_option linter.unusedSimpArgs false
namespace Go.Proofs.YtpcilleldanfmaaDoor
open Go.Vc

structure Pk where
  id : Int
  flow : Int
  tid : Int
  at_ : Int
  body : List Int
deriving DecidableEq
def PkV (W : Wd) (p : Pk) (cs : List Value) : Prop := ∃ a c, cs = [.int .i64 p.id, .int .u32 p.flow, .int .i64 p.tid, .int .i64 p.at_, .slice a p.body.length c] ∧ Bts W (.slice a p.body.length c) p.body
def pk0 : Pk := ⟨0, 0, 0, 0, []⟩
section
variable {W W' : Wd} {h h' : Heap} {G : List Grp} {p q : Pk} {cs ds vs us : List Value} {ps qs : List Pk} {a b : Option Addr} {l r c d : Nat} {xs ys : List Int} {x : Int}
theorem PkV.len (hp : PkV W p cs) : cs.length = 5 := by obtain ⟨a, c, rfl, _⟩ := hp; rfl
theorem PkV.one (hp : PkV W p cs) : ∀ u ∈ cs, u.oneCell' = true := by obtain ⟨a, c, rfl, _⟩ := hp; simp [Value.oneCell']
theorem PkV.le (hl : W.le W') (hp : PkV W p cs) : PkV W' p cs := by obtain ⟨a, c, e, hb⟩ := hp; exact ⟨a, c, e, hb.le hl⟩
theorem PkV.zero : PkV W pk0 [.int .i64 0, .int .u32 0, .int .i64 0, .int .i64 0, .slice none 0 0] := ⟨none, 0, rfl, Bts.nil⟩
theorem _root_.Go.Vc.Bts.src (hb : Bts (Wd.of h) (.slice a l c) xs) : src h a l (ints .u8 xs) ∧ xs.length = l := by
  obtain ⟨a', c', e, h1, h2⟩ := hb
  cases e
  exact ⟨of_src.1 h2, rfl⟩
theorem sameBytes_c (ha : src h a l (ints .u8 xs)) (hla : xs.length = l) (hb : src h b r (ints .u8 ys)) (hlb : ys.length = r) (hl : l ≤ 4611686018427387904) :
    Runs Tryd.prog 50 #[.slice a l c, .slice b r d] h fun v h' => v = .bool (decide (xs = ys)) ∧ h' = h := by
  refine vc_muezzinref_SameBytes _ _ _ _ _ _ _ _ ?_
  refine bcase_intro (fun q => ⟨?_, rfl⟩) fun q => ?_
  · have : xs ≠ ys := fun e => by subst e; simp at q; omega
    simp [this]
  have hlr : l = r := by simp at q; omega
  subst hlr
  refine ⟨fun i h' => h' = h ∧ ∃ k : Nat, i = k ∧ k ≤ l ∧ xs.take k = ys.take k, fun i _ => ((l : Int) - i).toNat, ⟨rfl, 0, rfl, by omega, rfl⟩, fun _ => ?_⟩
  rintro _ h1 ⟨rfl, k, rfl, hk, hn⟩
  refine dcase_intro (fun q => ?_) fun q => ?_
  · obtain ⟨x, hx⟩ : ∃ y, xs[k]? = some y := ⟨_, List.getElem?_eq_getElem (by omega)⟩
    obtain ⟨y, hy⟩ : ∃ y, ys[k]? = some y := ⟨_, List.getElem?_eq_getElem (by omega)⟩
    obtain ⟨b1, o1, rfl, hc⟩ := src_cell ha (ints_get (k := .u8) hx)
    obtain ⟨b2, o2, rfl, hd⟩ := src_cell hb (ints_get (k := .u8) hy)
    refine ⟨⟨by omega, by omega⟩, x, by simpa using hc, ⟨by omega, by omega⟩, y, by simpa using hd, bcase_intro (fun q1 => ⟨?_, rfl⟩) fun q1 => ⟨by simp only [fits]; omega, ⟨rfl, k + 1, by omega, by omega, ?_⟩, by dsimp only; omega⟩⟩
    · have : xs ≠ ys := fun e => by subst e; rw [hx] at hy; cases hy; simp at q1
      simp [this]
    · rw [List.take_add_one, List.take_add_one, hx, hy, hn]
      simp at q1
      rw [q1]
  · obtain rfl : k = l := by omega
    rw [List.take_of_length_le (by omega), List.take_of_length_le (by omega)] at hn
    exact ⟨by simp [hn], rfl⟩
theorem samePacket_c (hp : PkV (Wd.of h) p cs) (hq : PkV (Wd.of h) q ds) (hl : p.body.length ≤ 1099511627776) :
    Runs Tryd.prog 23 #[.agg cs.toArray, .agg ds.toArray] h fun v h' => v = .bool (decide (p = q)) ∧ Kept h h' := by
  obtain ⟨a, c, rfl, hbp⟩ := hp
  obtain ⟨b, d, rfl, hbq⟩ := hq
  refine vc_muezzinref_SamePacket _ _ _ _ ?_
  intro b1 h1 e1 e2 b2 h2 e3 e4
  have m := ((Me.start h).push e2 e1).push e4 e3
  clear e1 e2 e3 e4
  have k := m.kept (Wd.le.refl _)
  have no : ∀ {P : Prop} [Decidable P], ¬ P → Value.bool false = .bool (decide P) := fun h => by simp [h]
  obtain ⟨id1, flow1, tid1, at1, body1⟩ := p
  obtain ⟨id2, flow2, tid2, at2, body2⟩ := q
  simp only [Pk.mk.injEq] at *
  refine ⟨_, m.cell 1 rfl rfl, _, m.cell 0 rfl rfl, dcase_intro (fun q1 => ?_) fun q1 => ⟨no fun e => q1 e.1, k⟩⟩
  refine ⟨_, m.cell 1 rfl rfl, _, m.cell 0 rfl rfl, dcase_intro (fun q2 => ?_) fun q2 => ⟨no fun e => q2 e.2.1, k⟩⟩
  refine ⟨_, m.cell 1 rfl rfl, _, m.cell 0 rfl rfl, dcase_intro (fun q3 => ?_) fun q3 => ⟨no fun e => q3 e.2.2.1, k⟩⟩
  refine ⟨_, m.cell 1 rfl rfl, _, m.cell 0 rfl rfl, dcase_intro (fun q4 => ?_) fun q4 => ⟨no fun e => q4 e.2.2.2.1, k⟩⟩
  refine ⟨_, _, _, m.cell 1 rfl rfl, _, _, _, m.cell 0 rfl rfl, ?_⟩
  obtain ⟨ha, hla⟩ := (hbp.le k.le).src
  obtain ⟨hb, hlb⟩ := (hbq.le k.le).src
  refine (sameBytes_c ha hla hb hlb (by omega)).ret ⟨_, rfl, ?_, k⟩
  subst q1 q2 q3 q4
  simp
theorem samePackets_c (ha : src h a (l * 5) vs) (hps : Sq (PkV (Wd.of h)) ps vs) (hla : ps.length = l) (hb : src h b (r * 5) us) (hqs : Sq (PkV (Wd.of h)) qs us) (hlb : qs.length = r) (hl : l ≤ 1099511627776) (hlen : ∀ p ∈ ps, p.body.length ≤ 1099511627776) :
    Runs Tryd.prog 21 #[.slice a l c, .slice b r d] h fun v h' => v = .bool (decide (ps = qs)) ∧ Kept h h' := by
  refine vc_muezzinref_SamePackets _ _ _ _ _ _ _ _ ?_
  refine bcase_intro (fun q => ⟨?_, Kept.refl _⟩) fun q => ?_
  · have : ps ≠ qs := fun e => by subst e; simp at q; omega
    simp [this]
  have hlr : l = r := by simp at q; omega
  subst hlr
  refine ⟨fun i h' => Kept h h' ∧ ∃ k : Nat, i = k ∧ k ≤ l ∧ ps.take k = qs.take k, fun i _ => ((l : Int) - i).toNat, ⟨Kept.refl _, 0, rfl, by omega, rfl⟩, fun _ => ?_⟩
  rintro _ h1 ⟨kk, k, rfl, hk, hn⟩
  refine dcase_intro (fun q => ?_) fun q => ?_
  · obtain ⟨x, hx⟩ : ∃ y, ps[k]? = some y := ⟨_, List.getElem?_eq_getElem (by omega)⟩
    obtain ⟨y, hy⟩ : ∃ y, qs[k]? = some y := ⟨_, List.getElem?_eq_getElem (by omega)⟩
    obtain ⟨cs1, hcs1, e1, l1⟩ := hps.get (fun _ _ => PkV.len) hx
    obtain ⟨cs2, hcs2, e2, l2⟩ := hqs.get (fun _ _ => PkV.len) hy
    obtain ⟨b1, o1, rfl, hc⟩ := src_part (kk.src ha) l1 (by decide) e1
    obtain ⟨b2, o2, rfl, hd⟩ := src_part (kk.src hb) l2 (by decide) e2
    refine ⟨⟨by omega, by omega⟩, _, hc, ⟨by omega, by omega⟩, _, hd, (samePacket_c (hcs1.le kk.le) (hcs2.le kk.le) (hlen x (List.mem_of_getElem? hx))).mono ?_⟩
    rintro _ h2 ⟨rfl, k2⟩
    refine ⟨_, rfl, bcase_intro (fun q1 => ⟨?_, kk.trans k2⟩) fun q1 => ⟨by simp only [fits]; omega, ⟨kk.trans k2, k + 1, by omega, by omega, ?_⟩, by dsimp only; omega⟩⟩
    · have : ps ≠ qs := fun e => by subst e; rw [hx] at hy; cases hy; simp at q1
      simp [this]
    · rw [List.take_add_one, List.take_add_one, hx, hy, hn]
      simp at q1
      rw [q1]
  · obtain rfl : k = l := by omega
    rw [List.take_of_length_le (by omega), List.take_of_length_le (by omega)] at hn
    exact ⟨by simp [hn], kk⟩
theorem joinL_rep (n : Nat) (z : List Value) : (joinL (List.replicate n z)).length = n * z.length := by
  induction n with
  | zero => simp [joinL]
  | succ n ih => simp [List.replicate_succ, joinL, ih, Nat.add_mul, Nat.add_comm]
theorem take_snoc {α : Type} {xs : List α} {k : Nat} {x : α} (hx : xs[k]? = some x) : xs.take k ++ [x] = xs.take (k + 1) := by
  rw [List.take_add_one, hx]; rfl
theorem take_rows {vs : List Value} {k n : Nat} {cs : List Value} (h : (vs.drop (k * n)).take n = cs) : vs.take (k * n) ++ cs = vs.take ((k + 1) * n) := by
  subst h
  rw [show (k + 1) * n = k * n + n by rw [Nat.add_mul]; omega, List.take_add]
theorem bytes_c (ha : src h a l (ints .u8 xs)) (hla : xs.length = l) (hl : l ≤ 1099511627776) :
    Runs Tryd.prog 82 #[.slice a l c] h (Made h l 1 (ints .u8 xs)) := by
  refine vc_muezzinref_Bytes _ _ _ _ _ ⟨by omega, ?_⟩
  intro b1 h1 e1 e2
  have m := (Me.start h).push e2 e1
  clear e1 e2
  refine ⟨fun s n c i h' => ∃ (k : Nat) (E : Grp), i = k ∧ k ≤ l ∧ n = k ∧ Me (Wd.of h) h' [E] ∧ Ow s k c 1 (ints .u8 (xs.take k)) E, fun _ _ _ i _ => ((l : Int) - i).toNat,
    ⟨0, _, rfl, by omega, rfl, m, ?_⟩, fun _ => ?_⟩
  · have := Ow.fresh (b := b1) (l := 0) (c := l) (sz := 1) (vs := []) (rest := joinL (List.replicate l [.int .u8 0])) (T := 5) (by simp) (by rw [joinL_rep]; simp) (by omega)
    simpa [ints] using this
  clear m
  rintro s n c _ h2 ⟨k, E, rfl, hk, hn, m, o⟩
  subst n
  refine dcase_intro (fun q => ?_) fun q => ?_
  · obtain ⟨x, hx⟩ : ∃ y, xs[k]? = some y := ⟨_, List.getElem?_eq_getElem (by omega)⟩
    have kk := m.kept (Wd.le.refl _)
    obtain ⟨b2, o2, rfl, hc⟩ := src_cell (kk.src ha) (ints_get (k := .u8) hx)
    refine ⟨⟨by omega, by omega⟩, x, by simpa using hc, ?_⟩
    refine o.app1 m 0 rfl rfl (by simp [Value.oneCell']) (by omega) (by decide) fun a' c' E' h' m' o' => ?_
    refine ⟨by simp only [fits]; omega, ⟨k + 1, E', by omega, by omega, rfl, by simpa using m', ?_⟩, by dsimp only; omega⟩
    rw [← take_snoc hx, ints_app]; exact o'
  · obtain rfl : k = l := by omega
    rw [List.take_of_length_le (by omega)] at o
    exact ⟨_, _, _, rfl, m, o⟩
theorem packets_c (ha : src h a (l * 5) vs) (hla : vs.length = l * 5) (h1 : ∀ u ∈ vs, u.oneCell' = true) (hl : l ≤ 1099511627776) :
    Runs Tryd.prog 70 #[.slice a l c] h (Made h l 5 vs) := by
  refine vc_muezzinref_Packets _ _ _ _ _ ⟨by omega, ?_⟩
  intro b1 h1' e1 e2
  have m := (Me.start h).push e2 e1
  clear e1 e2
  refine ⟨fun s n c i h' => ∃ (k : Nat) (E : Grp), i = k ∧ k ≤ l ∧ n = k ∧ Me (Wd.of h) h' [E] ∧ Ow s k c 5 (vs.take (k * 5)) E, fun _ _ _ i _ => ((l : Int) - i).toNat,
    ⟨0, _, rfl, by omega, rfl, m, ?_⟩, fun _ => ?_⟩
  · have := Ow.fresh (b := b1) (l := 0) (c := l) (sz := 5) (vs := []) (rest := joinL (List.replicate l [.int .i64 0, .int .u32 0, .int .i64 0, .int .i64 0, .slice none 0 0])) (T := 35) (by simp) (by rw [joinL_rep]; simp) (by omega)
    simpa using this
  clear m
  rintro s n c _ h2 ⟨k, E, rfl, hk, hn, m, o⟩
  subst n
  refine dcase_intro (fun q => ?_) fun q => ?_
  · have kk := m.kept (Wd.le.refl _)
    obtain ⟨b2, o2, rfl, hc⟩ := src_part (n := 5) (k := k * 5) (kk.src ha) (by omega) (by decide) rfl
    refine ⟨⟨by omega, by omega⟩, _, hc, by simp; omega, ?_⟩
    refine o.app1 m 0 rfl (by simp; omega) (fun u hu => h1 u ?_) (by omega) (by decide) fun a' c' E' h' m' o' => ?_
    · simp at hu; exact List.mem_of_mem_drop (List.mem_of_mem_take hu)
    refine ⟨by simp only [fits]; omega, ⟨k + 1, E', by omega, by omega, rfl, by simpa using m', ?_⟩, by dsimp only; omega⟩
    rw [List.append_nil] at o'
    rw [← take_rows (n := 5) rfl]; exact o'
  · obtain rfl : k = l := by omega
    rw [List.take_of_length_le (by omega)] at o
    exact ⟨_, _, _, rfl, m, o⟩
theorem packet_c (hp : PkV (Wd.of h) p cs) (hl : p.body.length ≤ 1099511627776) :
    Runs Tryd.prog 66 #[.agg cs.toArray] h fun v h' => ∃ W' ds, (Wd.of h).le W' ∧ v = .agg ds.toArray ∧ PkV W' p ds ∧ Me W' h' [] := by
  obtain ⟨a, c, rfl, hbp⟩ := hp
  refine vc_muezzinref_Packet _ _ _ ?_
  intro b1 h1 e1 e2 b2 h2 e3 e4
  have m := ((Me.start h).push e2 e1).push e4 e3
  clear e1 e2 e3 e4
  have k := m.kept (Wd.le.refl _)
  obtain ⟨ha, hla⟩ := (hbp.le k.le).src
  refine ⟨_, _, _, m.cell 1 rfl rfl, (bytes_c ha hla hl).mono ?_⟩
  rintro _ h3 ⟨a', c', E, rfl, mk, o⟩
  replace m := m.beside mk
  refine ⟨_, _, _, rfl, m.wrb 2 rfl rfl, ?_⟩
  intro h4 e1
  replace m := m.setc 2 rfl e1
  refine ⟨_, m.rowb 2 rfl rfl rfl, ⟨rfl, m.wrsb 1 rfl rfl, by simp [Value.oneCell']⟩, ?_⟩
  intro h5 e2
  replace m := m.setr 1 rfl e2
  refine ⟨_, m.rowb 1 rfl rfl rfl, ?_⟩
  obtain ⟨W', hle, hE, m'⟩ := Me.give (E := E) m
  exact ⟨W', _, hle, rfl, ⟨a', c', rfl, o.bts rfl hE⟩, (m'.free 0 rfl).free 0 rfl⟩
/-- Without a number. -/
def delZ (x : Int) (xs : List Int) : List Int := xs.filter (fun y => !decide (y = x))
theorem del_c (ha : src h a l (ints .i64 xs)) (hla : xs.length = l) (hl : l ≤ 1099511627776) :
    Runs Tryd.prog 71 #[.slice a l c, .int .i64 x] h (Made h (delZ x xs).length 1 (ints .i64 (delZ x xs))) := by
  refine vc_muezzinref_Del _ _ _ _ _ _ ?_
  refine ⟨fun s n c i h' => ∃ (k : Nat) (E : Grp), i = k ∧ k ≤ l ∧ n = (delZ x (xs.take k)).length ∧ Me (Wd.of h) h' [E] ∧ Ow s n c 1 (ints .i64 (delZ x (xs.take k))) E, fun _ _ _ i _ => ((l : Int) - i).toNat,
    ⟨0, [], rfl, by omega, rfl, (Me.start h).nilI, Ow.nil⟩, fun _ => ?_⟩
  rintro s n c _ h2 ⟨k, E, rfl, hk, hn, m, o⟩
  subst n
  refine dcase_intro (fun q => ?_) fun q => ?_
  · obtain ⟨y, hx⟩ : ∃ y, xs[k]? = some y := ⟨_, List.getElem?_eq_getElem (by omega)⟩
    have kk := m.kept (Wd.le.refl _)
    obtain ⟨b2, o2, rfl, hc⟩ := src_cell (kk.src ha) (ints_get (k := .i64) hx)
    have hlt : (delZ x (xs.take k)).length ≤ l := Nat.le_trans (List.length_filter_le _ _) (by simp; omega)
    refine ⟨⟨by omega, by omega⟩, y, by simpa using hc, bcase_intro (fun q1 => ?_) fun q1 => ?_⟩
    · refine ⟨⟨by omega, by omega⟩, y, by simpa using hc, ?_⟩
      have e : delZ x (xs.take (k + 1)) = delZ x (xs.take k) ++ [y] := by
        rw [← take_snoc hx]; unfold delZ; rw [List.filter_append]; simp at q1; simp [q1]
      refine o.app1 m 0 rfl rfl (by simp [Value.oneCell']) (by omega) (by decide) fun a' c' E' h' m' o' => ?_
      refine ⟨by simp only [fits]; omega, ⟨k + 1, E', by omega, by omega, by rw [e]; simp, by simpa using m', ?_⟩, by dsimp only; omega⟩
      rw [e, ints_app]; exact o'
    · have e : delZ x (xs.take (k + 1)) = delZ x (xs.take k) := by
        rw [← take_snoc hx]; unfold delZ; rw [List.filter_append]; simp at q1; simp [q1]
      exact ⟨by simp only [fits]; omega, ⟨k + 1, E, by omega, by omega, by rw [e], m, by rw [e]; exact o⟩, by dsimp only; omega⟩
  · obtain rfl : k = l := by omega
    have e : xs.take k = xs := List.take_of_length_le (by omega)
    rw [e] at o ⊢
    exact ⟨_, _, _, rfl, m, o⟩
end
end Go.Proofs.YtpcilleldanfmaaDoor

/- The conditions for calls of functions of the program, in plain form: written by a program (vcgen) off the elaborated code; each is the reckoner's own, by the kernel. -/
set_option linter.unusedVariables false
set_option maxRecDepth 100000
namespace Go.Proofs.YtpcilleldanfmaaDoor
open Go.Vc
theorem vc_codel_Codel_Pull (c : List Value) (now : Int) (target : Int) (interval : Int) (bytes : Int) (l : Option Addr) (lL lC : Nat) (h0 : Heap) (Post : Value → Heap → Prop) (H :
∀ (b1 : Nat) (h1 : Heap), b1 = h0.size → h1 = h0.push (.cells (c).toArray 91) →
∀ (b2 : Nat) (h2 : Heap), b2 = h1.size → h2 = h1.push (.cells ([(.int .i64 (0 : Int)), (.int .i64 (0 : Int)), (.int .u32 (0 : Int)), (.int .u32 (0 : Int)), (.bool false)] : List Value).toArray 91) →
∃ cs1 : List Value, row h2 b1 0 5 = some cs1 ∧
(cs1).length = 5 ∧
∀ (b3 : Nat) (h3 : Heap), b3 = h2.size → h3 = h2.push (.cells (((cs1) ++ ([(.int .i64 now), (.int .i64 (min (max target (0 : Int)) (1073741824 : Int))), (.int .i64 (min (max interval (0 : Int)) (1073741824 : Int))), (.int .i64 bytes), (.slice l lL lC), (.int .i64 (0 : Int))] : List Value))).toArray 144) →
Runs Tryd.prog 86 #[(.pointer (some ⟨b3, 0, none⟩))] h3 fun r1 h4 =>
∃ t1 : Bool,
r1 = (.bool t1) ∧
∃ cs2 : List Value, row h4 b3 0 5 = some cs2 ∧
∃ n1 : Int, cell h4 b3 10 = some (.int .i64 n1) ∧
(((cs2)).length = 5 ∧ wrs h4 b2 0 5 ∧ ∀ u ∈ ((cs2) : List Value), u.oneCell' = true) ∧ ∀ h5 : Heap, h5 = setr h4 b2 0 (cs2) →
cell h5 b3 10 = some (.int .i64 n1) ∧
∃ cs3 : List Value, row h5 b2 0 5 = some cs3 ∧
Post (.tuple #[(.agg (cs3).toArray), (.int .i64 n1), (.bool t1)]) h5) :
    Runs Tryd.prog 77 #[(.agg (c).toArray), (.int .i64 now), (.int .i64 target), (.int .i64 interval), (.int .i64 bytes), (.slice l lL lC)] h0 Post :=
  runs_of (args := [(.agg (c).toArray), (.int .i64 now), (.int .i64 target), (.int .i64 interval), (.int .i64 bytes), (.slice l lL lC)]) (fun n => ⟨true, false⟩) (fun _ => []) (fun _ => none) (fun _ => []) Tryd.func77 rfl (by rw [Tryd.ntmps77]; simp) (Eq.mp (by kernel_rfl) H)

theorem vc_codel_state_run (s : Option Addr) (h0 : Heap) (Post : Value → Heap → Prop) (H :
Runs Tryd.prog 91 #[(.pointer s)] h0 fun r1 h1 =>
∃ t1 : Bool,
∃ t2 : Bool,
r1 = (.tuple #[(.bool t1), (.bool t2)]) ∧
bcase (!t1) (
onAddr s fun b1 o1 =>
wr h1 b1 (o1 + 4) ∧ ∀ h2 : Heap, h2 = setc h1 b1 (o1 + 4) (.bool false) →
Post (.bool false) h2) (
onAddr s fun b2 o2 =>
∃ t3 : Bool, cell h1 b2 (o2 + 4) = some (.bool t3) ∧
bcase t3 (
bcase (!t2) (
onAddr s fun b3 o3 =>
wr h1 b3 (o3 + 4) ∧ ∀ h3 : Heap, h3 = setc h1 b3 (o3 + 4) (.bool false) →
Post (.bool true) h3) (
onAddr s fun b4 o4 =>
∃ t4 : Bool, cell h1 b4 (o4 + 4) = some (.bool t4) ∧
bcase t4 (
Runs Tryd.prog 92 #[(.pointer s)] h1 fun r2 h4 =>
∃ t5 : Bool,
r2 = (.bool t5) ∧
Post (.bool t5) h4) (
bcase t2 (
Runs Tryd.prog 93 #[(.pointer s)] h1 fun r3 h5 =>
∃ t6 : Bool,
r3 = (.bool t6) ∧
Post (.bool t6) h5) (
Post (.bool true) h1)))) (
onAddr s fun b5 o5 =>
∃ t7 : Bool, cell h1 b5 (o5 + 4) = some (.bool t7) ∧
bcase t7 (
Runs Tryd.prog 92 #[(.pointer s)] h1 fun r4 h6 =>
∃ t8 : Bool,
r4 = (.bool t8) ∧
Post (.bool t8) h6) (
bcase t2 (
Runs Tryd.prog 93 #[(.pointer s)] h1 fun r5 h7 =>
∃ t9 : Bool,
r5 = (.bool t9) ∧
Post (.bool t9) h7) (
Post (.bool true) h1))))) :
    Runs Tryd.prog 86 #[(.pointer s)] h0 Post :=
  runs_of (args := [(.pointer s)]) (fun n => ⟨true, false⟩) (fun _ => []) (fun _ => none) (fun _ => []) Tryd.func86 rfl (by rw [Tryd.ntmps86]; simp) (Eq.mp (by kernel_rfl) H)

theorem vc_codel_state_look (s : Option Addr) (h0 : Heap) (Post : Value → Heap → Prop) (H :
onAddr s fun b1 o1 =>
∃ n1 : Int, cell h0 b1 (o1 + 10) = some (.int .i64 n1) ∧
onAddr s fun b2 o2 =>
∃ (s1 : Option Addr) (s1l s1c : Nat), cell h0 b2 (o2 + 9) = some (.slice s1 s1l s1c) ∧
bcase (decide (((s1l : Nat) : Int) ≤ n1)) (
onAddr s fun b3 o3 =>
wr h0 b3 o3 ∧ ∀ h1 : Heap, h1 = setc h0 b3 o3 (.int .i64 (0 : Int)) →
Post (.tuple #[(.bool false), (.bool false)]) h1) (
onAddr s fun b4 o4 =>
∃ (s2 : Option Addr) (s2l s2c : Nat), cell h0 b4 (o4 + 9) = some (.slice s2 s2l s2c) ∧
onAddr s fun b5 o5 =>
∃ n2 : Int, cell h0 b5 (o5 + 10) = some (.int .i64 n2) ∧
(0 ≤ n2 ∧ n2 < ((s2l : Nat) : Int)) ∧
onAddr s2 fun b6 o6 =>
∃ cs1 : List Value, row h0 b6 (o6 + ((n2).toNat * 2)) 2 = some cs1 ∧
∀ (b7 : Nat) (h2 : Heap), b7 = h0.size → h2 = h0.push (.cells ([(.int .i64 (0 : Int)), (.int .i64 (0 : Int))] : List Value).toArray 125) →
(((cs1)).length = 2 ∧ wrs h2 b7 0 2 ∧ ∀ u ∈ ((cs1) : List Value), u.oneCell' = true) ∧ ∀ h3 : Heap, h3 = setr h2 b7 0 (cs1) →
onAddr s fun b8 o7 =>
∃ n3 : Int, cell h3 b8 (o7 + 8) = some (.int .i64 n3) ∧
∃ n4 : Int, cell h3 b7 1 = some (.int .i64 n4) ∧
fits .i64 (n3 - (max n4 (0 : Int))) ∧
onAddr s fun b9 o8 =>
wr h3 b9 (o8 + 8) ∧ ∀ h4 : Heap, h4 = setc h3 b9 (o8 + 8) (.int .i64 (n3 - (max n4 (0 : Int)))) →
onAddr s fun b10 o9 =>
∃ n5 : Int, cell h4 b10 (o9 + 5) = some (.int .i64 n5) ∧
∃ n6 : Int, cell h4 b7 0 = some (.int .i64 n6) ∧
fits .i64 (n5 - n6) ∧
onAddr s fun b11 o10 =>
∃ n7 : Int, cell h4 b11 (o10 + 6) = some (.int .i64 n7) ∧
bcase (decide ((n5 - n6) < n7)) (
onAddr s fun b12 o11 =>
wr h4 b12 o11 ∧ ∀ h5 : Heap, h5 = setc h4 b12 o11 (.int .i64 (0 : Int)) →
Post (.tuple #[(.bool true), (.bool false)]) h5) (
onAddr s fun b13 o12 =>
∃ n8 : Int, cell h4 b13 (o12 + 8) = some (.int .i64 n8) ∧
bcase (decide (n8 ≤ (1514 : Int))) (
onAddr s fun b14 o13 =>
wr h4 b14 o13 ∧ ∀ h6 : Heap, h6 = setc h4 b14 o13 (.int .i64 (0 : Int)) →
Post (.tuple #[(.bool true), (.bool false)]) h6) (
onAddr s fun b15 o14 =>
∃ n9 : Int, cell h4 b15 o14 = some (.int .i64 n9) ∧
bcase (decide (n9 = (0 : Int))) (
onAddr s fun b16 o15 =>
∃ n10 : Int, cell h4 b16 (o15 + 5) = some (.int .i64 n10) ∧
onAddr s fun b17 o16 =>
∃ n11 : Int, cell h4 b17 (o16 + 7) = some (.int .i64 n11) ∧
fits .i64 (n10 + n11) ∧
onAddr s fun b18 o17 =>
wr h4 b18 o17 ∧ ∀ h7 : Heap, h7 = setc h4 b18 o17 (.int .i64 (n10 + n11)) →
Post (.tuple #[(.bool true), (.bool false)]) h7) (
onAddr s fun b19 o18 =>
∃ n12 : Int, cell h4 b19 (o18 + 5) = some (.int .i64 n12) ∧
onAddr s fun b20 o19 =>
∃ n13 : Int, cell h4 b20 o19 = some (.int .i64 n13) ∧
Post (.tuple #[(.bool true), (.bool (decide (n13 ≤ n12)))]) h4))))) :
    Runs Tryd.prog 91 #[(.pointer s)] h0 Post :=
  runs_of (args := [(.pointer s)]) (fun n => ⟨true, false⟩) (fun _ => []) (fun _ => none) (fun _ => []) Tryd.func91 rfl (by rw [Tryd.ntmps91]; simp) (Eq.mp (by kernel_rfl) H)

theorem vc_codel_state_more (s : Option Addr) (h0 : Heap) (Post : Value → Heap → Prop) (H :
∃ (I1 : Bool → Heap → Prop) (m1 : Bool → Heap → Nat), I1 true h0 ∧ ∀ _ : Env,
∀ (is_1 : Bool) (h1 : Heap), I1 is_1 h1 →
onAddr s fun b1 o1 =>
∃ n1 : Int, cell h1 b1 (o1 + 5) = some (.int .i64 n1) ∧
onAddr s fun b2 o2 =>
∃ n2 : Int, cell h1 b2 (o2 + 1) = some (.int .i64 n2) ∧
bcase (decide (n2 ≤ n1)) (
onAddr s fun b3 o3 =>
∃ t1 : Bool, cell h1 b3 (o3 + 4) = some (.bool t1) ∧
bcase t1 (
onAddr s fun b4 o4 =>
∃ n3 : Int, cell h1 b4 (o4 + 10) = some (.int .i64 n3) ∧
fits .i64 (n3 + (1 : Int)) ∧
onAddr s fun b5 o5 =>
wr h1 b5 (o5 + 10) ∧ ∀ h2 : Heap, h2 = setc h1 b5 (o5 + 10) (.int .i64 (n3 + (1 : Int))) →
∃ J1 : Heap → Prop, (
onAddr s fun b6 o6 =>
∃ n4 : Int, cell h2 b6 (o6 + 2) = some (.int .u32 n4) ∧
bcase (decide (n4 < (4294967295 : Int))) (
onAddr s fun b7 o7 =>
∃ n5 : Int, cell h2 b7 (o7 + 2) = some (.int .u32 n5) ∧
fits .u32 (n5 + (1 : Int)) ∧
onAddr s fun b8 o8 =>
wr h2 b8 (o8 + 2) ∧ ∀ h3 : Heap, h3 = setc h2 b8 (o8 + 2) (.int .u32 (n5 + (1 : Int))) →
J1 h3) (
J1 h2)) ∧ ∀ _ : Env,
∀ (h4 : Heap), J1 h4 →
Runs Tryd.prog 91 #[(.pointer s)] h4 fun r1 h5 =>
∃ t2 : Bool,
∃ t3 : Bool,
r1 = (.tuple #[(.bool t2), (.bool t3)]) ∧
bcase (!t2) (
onAddr s fun b9 o9 =>
wr h5 b9 (o9 + 4) ∧ ∀ h6 : Heap, h6 = setc h5 b9 (o9 + 4) (.bool false) →
I1 t2 h6 ∧ m1 t2 h6 < m1 is_1 h1) (
bcase (!t3) (
onAddr s fun b10 o10 =>
wr h5 b10 (o10 + 4) ∧ ∀ h7 : Heap, h7 = setc h5 b10 (o10 + 4) (.bool false) →
I1 t2 h7 ∧ m1 t2 h7 < m1 is_1 h1) (
onAddr s fun b11 o11 =>
∃ n6 : Int, cell h5 b11 (o11 + 1) = some (.int .i64 n6) ∧
onAddr s fun b12 o12 =>
∃ n7 : Int, cell h5 b12 (o12 + 7) = some (.int .i64 n7) ∧
onAddr s fun b13 o13 =>
∃ n8 : Int, cell h5 b13 (o13 + 2) = some (.int .u32 n8) ∧
Runs Tryd.prog 95 #[(.int .i64 n6), (.int .i64 n7), (.int .u32 n8)] h5 fun r2 h8 =>
∃ n9 : Int,
r2 = (.int .i64 n9) ∧
onAddr s fun b14 o14 =>
wr h8 b14 (o14 + 1) ∧ ∀ h9 : Heap, h9 = setc h8 b14 (o14 + 1) (.int .i64 n9) →
I1 t2 h9 ∧ m1 t2 h9 < m1 is_1 h1))) (
Post (.bool is_1) h1)) (
Post (.bool is_1) h1)) :
    Runs Tryd.prog 92 #[(.pointer s)] h0 Post :=
  runs_of (args := [(.pointer s)]) (fun n => ⟨true, false⟩) (fun n => match n with | 0 => [(3, .bool)] | _ => []) (fun n => match n with | 6 => some [] | _ => none) (fun _ => []) Tryd.func92 rfl (by rw [Tryd.ntmps92]; simp) (Eq.mp (by kernel_rfl) H)

theorem vc_codel_state_begins (s : Option Addr) (h0 : Heap) (Post : Value → Heap → Prop) (H :
onAddr s fun b1 o1 =>
∃ n1 : Int, cell h0 b1 (o1 + 10) = some (.int .i64 n1) ∧
fits .i64 (n1 + (1 : Int)) ∧
onAddr s fun b2 o2 =>
wr h0 b2 (o2 + 10) ∧ ∀ h1 : Heap, h1 = setc h0 b2 (o2 + 10) (.int .i64 (n1 + (1 : Int))) →
Runs Tryd.prog 91 #[(.pointer s)] h1 fun r1 h2 =>
∃ t1 : Bool,
∃ t2 : Bool,
r1 = (.tuple #[(.bool t1), (.bool t2)]) ∧
onAddr s fun b3 o3 =>
wr h2 b3 (o3 + 4) ∧ ∀ h3 : Heap, h3 = setc h2 b3 (o3 + 4) (.bool true) →
onAddr s fun b4 o4 =>
∃ n2 : Int, cell h3 b4 (o4 + 2) = some (.int .u32 n2) ∧
onAddr s fun b5 o5 =>
∃ n3 : Int, cell h3 b5 (o5 + 3) = some (.int .u32 n3) ∧
onAddr s fun b6 o6 =>
wr h3 b6 (o6 + 2) ∧ ∀ h4 : Heap, h4 = setc h3 b6 (o6 + 2) (.int .u32 (1 : Int)) →
∃ J1 : Heap → Prop, (
bcase (decide ((1 : Int) < (IntKind.u32.wrap (n2 - n3)))) (
onAddr s fun b7 o7 =>
∃ n4 : Int, cell h4 b7 (o7 + 5) = some (.int .i64 n4) ∧
onAddr s fun b8 o8 =>
∃ n5 : Int, cell h4 b8 (o8 + 1) = some (.int .i64 n5) ∧
fits .i64 (n4 - n5) ∧
onAddr s fun b9 o9 =>
∃ n6 : Int, cell h4 b9 (o9 + 7) = some (.int .i64 n6) ∧
fits .i64 ((16 : Int) * n6) ∧
bcase (decide ((n4 - n5) < ((16 : Int) * n6))) (
onAddr s fun b10 o10 =>
wr h4 b10 (o10 + 2) ∧ ∀ h5 : Heap, h5 = setc h4 b10 (o10 + 2) (.int .u32 (IntKind.u32.wrap (n2 - n3))) →
J1 h5) (
J1 h4)) (
J1 h4)) ∧ ∀ _ : Env,
∀ (h6 : Heap), J1 h6 →
onAddr s fun b11 o11 =>
∃ n7 : Int, cell h6 b11 (o11 + 2) = some (.int .u32 n7) ∧
onAddr s fun b12 o12 =>
wr h6 b12 (o12 + 3) ∧ ∀ h7 : Heap, h7 = setc h6 b12 (o12 + 3) (.int .u32 n7) →
onAddr s fun b13 o13 =>
∃ n8 : Int, cell h7 b13 (o13 + 5) = some (.int .i64 n8) ∧
onAddr s fun b14 o14 =>
∃ n9 : Int, cell h7 b14 (o14 + 7) = some (.int .i64 n9) ∧
onAddr s fun b15 o15 =>
∃ n10 : Int, cell h7 b15 (o15 + 2) = some (.int .u32 n10) ∧
Runs Tryd.prog 95 #[(.int .i64 n8), (.int .i64 n9), (.int .u32 n10)] h7 fun r2 h8 =>
∃ n11 : Int,
r2 = (.int .i64 n11) ∧
onAddr s fun b16 o16 =>
wr h8 b16 (o16 + 1) ∧ ∀ h9 : Heap, h9 = setc h8 b16 (o16 + 1) (.int .i64 n11) →
Post (.bool t1) h9) :
    Runs Tryd.prog 93 #[(.pointer s)] h0 Post :=
  runs_of (args := [(.pointer s)]) (fun n => ⟨!memB n [4], false⟩) (fun _ => []) (fun n => match n with | 8 => some [] | _ => none) (fun _ => []) Tryd.func93 rfl (by rw [Tryd.ntmps93]; simp) (Eq.mp (by kernel_rfl) H)

theorem vc_muezzinref8_Pull (c : List Value) (now : Int) (target : Int) (interval : Int) (bytes : Int) (l : Option Addr) (lL lC : Nat) (h0 : Heap) (Post : Value → Heap → Prop) (H :
∀ (b1 : Nat) (h1 : Heap), b1 = h0.size → h1 = h0.push (.cells (c).toArray 109) →
∀ (b2 : Nat) (h2 : Heap), b2 = h1.size → h2 = h1.push (.cells ([(.int .i64 (0 : Int)), (.int .i64 (0 : Int)), (.int .u32 (0 : Int)), (.int .u32 (0 : Int)), (.bool false)] : List Value).toArray 109) →
∃ cs1 : List Value, row h2 b1 0 5 = some cs1 ∧
Runs Tryd.prog 83 #[(.int .i64 target), (.int .i64 (0 : Int)), (.int .i64 (1073741824 : Int))] h2 fun r1 h3 =>
∃ n1 : Int,
r1 = (.int .i64 n1) ∧
row h3 b1 0 5 = some (cs1) ∧
Runs Tryd.prog 83 #[(.int .i64 interval), (.int .i64 (0 : Int)), (.int .i64 (1073741824 : Int))] h3 fun r2 h4 =>
∃ n2 : Int,
r2 = (.int .i64 n2) ∧
row h4 b1 0 5 = some (cs1) ∧
(cs1).length = 5 ∧
∀ (b3 : Nat) (h5 : Heap), b3 = h4.size → h5 = h4.push (.cells (((cs1) ++ ([(.int .i64 now), (.int .i64 n1), (.int .i64 n2), (.int .i64 bytes), (.slice l lL lC), (.int .i64 (0 : Int))] : List Value))).toArray 138) →
Runs Tryd.prog 84 #[(.pointer (some ⟨b3, 0, none⟩))] h5 fun r3 h6 =>
∃ t1 : Bool,
∃ t2 : Bool,
r3 = (.tuple #[(.bool t1), (.bool t2)]) ∧
bcase (!t1) (
wr h6 b3 4 ∧ ∀ h7 : Heap, h7 = setc h6 b3 4 (.bool false) →
∃ cs2 : List Value, row h7 b3 0 5 = some cs2 ∧
(((cs2)).length = 5 ∧ wrs h7 b2 0 5 ∧ ∀ u ∈ ((cs2) : List Value), u.oneCell' = true) ∧ ∀ h8 : Heap, h8 = setr h7 b2 0 (cs2) →
∃ cs3 : List Value, row h8 b2 0 5 = some cs3 ∧
Post (.tuple #[(.agg (cs3).toArray), (.int .i64 (0 : Int)), (.bool false)]) h8) (
∃ t3 : Bool, cell h6 b3 4 = some (.bool t3) ∧
bcase t3 (
bcase (!t2) (
wr h6 b3 4 ∧ ∀ h9 : Heap, h9 = setc h6 b3 4 (.bool false) →
∃ cs4 : List Value, row h9 b3 0 5 = some cs4 ∧
(((cs4)).length = 5 ∧ wrs h9 b2 0 5 ∧ ∀ u ∈ ((cs4) : List Value), u.oneCell' = true) ∧ ∀ h10 : Heap, h10 = setr h9 b2 0 (cs4) →
∃ cs5 : List Value, row h10 b2 0 5 = some cs5 ∧
Post (.tuple #[(.agg (cs5).toArray), (.int .i64 (0 : Int)), (.bool true)]) h10) (
∃ (I1 : Bool → Heap → Prop) (m1 : Bool → Heap → Nat), I1 t1 h6 ∧ ∀ _ : Env,
∀ (is_1 : Bool) (h11 : Heap), I1 is_1 h11 →
∃ t4 : Bool, cell h11 b3 4 = some (.bool t4) ∧
bcase t4 (
∃ n3 : Int, cell h11 b3 5 = some (.int .i64 n3) ∧
∃ n4 : Int, cell h11 b3 1 = some (.int .i64 n4) ∧
bcase (decide (n4 ≤ n3)) (
∃ n5 : Int, cell h11 b3 10 = some (.int .i64 n5) ∧
fits .i64 (n5 + (1 : Int)) ∧
wr h11 b3 10 ∧ ∀ h12 : Heap, h12 = setc h11 b3 10 (.int .i64 (n5 + (1 : Int))) →
∃ J1 : Heap → Prop, (
∃ n6 : Int, cell h12 b3 2 = some (.int .u32 n6) ∧
bcase (decide (n6 < (4294967295 : Int))) (
∃ n7 : Int, cell h12 b3 2 = some (.int .u32 n7) ∧
fits .u32 (n7 + (1 : Int)) ∧
wr h12 b3 2 ∧ ∀ h13 : Heap, h13 = setc h12 b3 2 (.int .u32 (n7 + (1 : Int))) →
J1 h13) (
J1 h12)) ∧ ∀ _ : Env,
∀ (h14 : Heap), J1 h14 →
Runs Tryd.prog 84 #[(.pointer (some ⟨b3, 0, none⟩))] h14 fun r4 h15 =>
∃ t5 : Bool,
∃ t6 : Bool,
r4 = (.tuple #[(.bool t5), (.bool t6)]) ∧
bcase (!t5) (
wr h15 b3 4 ∧ ∀ h16 : Heap, h16 = setc h15 b3 4 (.bool false) →
I1 t5 h16 ∧ m1 t5 h16 < m1 is_1 h11) (
bcase (!t6) (
wr h15 b3 4 ∧ ∀ h17 : Heap, h17 = setc h15 b3 4 (.bool false) →
I1 t5 h17 ∧ m1 t5 h17 < m1 is_1 h11) (
∃ n8 : Int, cell h15 b3 1 = some (.int .i64 n8) ∧
∃ n9 : Int, cell h15 b3 7 = some (.int .i64 n9) ∧
∃ n10 : Int, cell h15 b3 2 = some (.int .u32 n10) ∧
Runs Tryd.prog 85 #[(.int .i64 n8), (.int .i64 n9), (.int .u32 n10)] h15 fun r5 h18 =>
∃ n11 : Int,
r5 = (.int .i64 n11) ∧
wr h18 b3 1 ∧ ∀ h19 : Heap, h19 = setc h18 b3 1 (.int .i64 n11) →
I1 t5 h19 ∧ m1 t5 h19 < m1 is_1 h11))) (
∃ cs6 : List Value, row h11 b3 0 5 = some cs6 ∧
∃ n12 : Int, cell h11 b3 10 = some (.int .i64 n12) ∧
(((cs6)).length = 5 ∧ wrs h11 b2 0 5 ∧ ∀ u ∈ ((cs6) : List Value), u.oneCell' = true) ∧ ∀ h20 : Heap, h20 = setr h11 b2 0 (cs6) →
cell h20 b3 10 = some (.int .i64 n12) ∧
∃ cs7 : List Value, row h20 b2 0 5 = some cs7 ∧
Post (.tuple #[(.agg (cs7).toArray), (.int .i64 n12), (.bool is_1)]) h20)) (
∃ cs8 : List Value, row h11 b3 0 5 = some cs8 ∧
∃ n13 : Int, cell h11 b3 10 = some (.int .i64 n13) ∧
(((cs8)).length = 5 ∧ wrs h11 b2 0 5 ∧ ∀ u ∈ ((cs8) : List Value), u.oneCell' = true) ∧ ∀ h21 : Heap, h21 = setr h11 b2 0 (cs8) →
cell h21 b3 10 = some (.int .i64 n13) ∧
∃ cs9 : List Value, row h21 b2 0 5 = some cs9 ∧
Post (.tuple #[(.agg (cs9).toArray), (.int .i64 n13), (.bool is_1)]) h21))) (
bcase t2 (
wr h6 b3 10 ∧ ∀ h22 : Heap, h22 = setc h6 b3 10 (.int .i64 (1 : Int)) →
Runs Tryd.prog 84 #[(.pointer (some ⟨b3, 0, none⟩))] h22 fun r6 h23 =>
∃ t7 : Bool,
∃ t8 : Bool,
r6 = (.tuple #[(.bool t7), (.bool t8)]) ∧
wr h23 b3 4 ∧ ∀ h24 : Heap, h24 = setc h23 b3 4 (.bool true) →
∃ n14 : Int, cell h24 b3 2 = some (.int .u32 n14) ∧
∃ n15 : Int, cell h24 b3 3 = some (.int .u32 n15) ∧
∃ J2 : Int → Heap → Prop, (
bcase (decide ((IntKind.u32.wrap (n14 - n15)) ≤ (1 : Int))) (
J2 (1 : Int) h24) (
∃ n16 : Int, cell h24 b3 5 = some (.int .i64 n16) ∧
∃ n17 : Int, cell h24 b3 1 = some (.int .i64 n17) ∧
fits .i64 (n16 - n17) ∧
∃ n18 : Int, cell h24 b3 7 = some (.int .i64 n18) ∧
fits .i64 ((16 : Int) * n18) ∧
bcase (decide (((16 : Int) * n18) ≤ (n16 - n17))) (
J2 (1 : Int) h24) (
J2 (IntKind.u32.wrap (n14 - n15)) h24))) ∧ ∀ _ : Env,
∀ (n_1 : Int) (h25 : Heap), J2 n_1 h25 →
wr h25 b3 2 ∧ ∀ h26 : Heap, h26 = setc h25 b3 2 (.int .u32 n_1) →
wr h26 b3 3 ∧ ∀ h27 : Heap, h27 = setc h26 b3 3 (.int .u32 n_1) →
∃ n19 : Int, cell h27 b3 5 = some (.int .i64 n19) ∧
∃ n20 : Int, cell h27 b3 7 = some (.int .i64 n20) ∧
Runs Tryd.prog 85 #[(.int .i64 n19), (.int .i64 n20), (.int .u32 n_1)] h27 fun r7 h28 =>
∃ n21 : Int,
r7 = (.int .i64 n21) ∧
wr h28 b3 1 ∧ ∀ h29 : Heap, h29 = setc h28 b3 1 (.int .i64 n21) →
∃ cs10 : List Value, row h29 b3 0 5 = some cs10 ∧
∃ n22 : Int, cell h29 b3 10 = some (.int .i64 n22) ∧
(((cs10)).length = 5 ∧ wrs h29 b2 0 5 ∧ ∀ u ∈ ((cs10) : List Value), u.oneCell' = true) ∧ ∀ h30 : Heap, h30 = setr h29 b2 0 (cs10) →
cell h30 b3 10 = some (.int .i64 n22) ∧
∃ cs11 : List Value, row h30 b2 0 5 = some cs11 ∧
Post (.tuple #[(.agg (cs11).toArray), (.int .i64 n22), (.bool t7)]) h30) (
∃ cs12 : List Value, row h6 b3 0 5 = some cs12 ∧
∃ n23 : Int, cell h6 b3 10 = some (.int .i64 n23) ∧
(((cs12)).length = 5 ∧ wrs h6 b2 0 5 ∧ ∀ u ∈ ((cs12) : List Value), u.oneCell' = true) ∧ ∀ h31 : Heap, h31 = setr h6 b2 0 (cs12) →
cell h31 b3 10 = some (.int .i64 n23) ∧
∃ cs13 : List Value, row h31 b2 0 5 = some cs13 ∧
Post (.tuple #[(.agg (cs13).toArray), (.int .i64 n23), (.bool t1)]) h31)))) :
    Runs Tryd.prog 72 #[(.agg (c).toArray), (.int .i64 now), (.int .i64 target), (.int .i64 interval), (.int .i64 bytes), (.slice l lL lC)] h0 Post :=
  runs_of (args := [(.agg (c).toArray), (.int .i64 now), (.int .i64 target), (.int .i64 interval), (.int .i64 bytes), (.slice l lL lC)]) (fun n => ⟨!memB n [23], false⟩) (fun n => match n with | 0 => [(16, .bool)] | _ => []) (fun n => match n with | 14 => some [] | 26 => some [(18, .int .u32)] | _ => none) (fun _ => []) Tryd.func72 rfl (by rw [Tryd.ntmps72]; simp) (Eq.mp (by kernel_rfl) H)

theorem vc_muezzinref8_pull_look (p : Option Addr) (h0 : Heap) (Post : Value → Heap → Prop) (H :
onAddr p fun b1 o1 =>
∃ n1 : Int, cell h0 b1 (o1 + 10) = some (.int .i64 n1) ∧
onAddr p fun b2 o2 =>
∃ (s1 : Option Addr) (s1l s1c : Nat), cell h0 b2 (o2 + 9) = some (.slice s1 s1l s1c) ∧
bcase (decide (((s1l : Nat) : Int) ≤ n1)) (
onAddr p fun b3 o3 =>
wr h0 b3 o3 ∧ ∀ h1 : Heap, h1 = setc h0 b3 o3 (.int .i64 (0 : Int)) →
Post (.tuple #[(.bool false), (.bool false)]) h1) (
onAddr p fun b4 o4 =>
∃ n2 : Int, cell h0 b4 (o4 + 8) = some (.int .i64 n2) ∧
onAddr p fun b5 o5 =>
∃ (s2 : Option Addr) (s2l s2c : Nat), cell h0 b5 (o5 + 9) = some (.slice s2 s2l s2c) ∧
onAddr p fun b6 o6 =>
∃ n3 : Int, cell h0 b6 (o6 + 10) = some (.int .i64 n3) ∧
(0 ≤ n3 ∧ n3 < ((s2l : Nat) : Int)) ∧
onAddr s2 fun b7 o7 =>
∃ n4 : Int, cell h0 b7 ((o7 + ((n3).toNat * 2)) + 1) = some (.int .i64 n4) ∧
fits .i64 (n2 - (max n4 (0 : Int))) ∧
onAddr p fun b8 o8 =>
wr h0 b8 (o8 + 8) ∧ ∀ h2 : Heap, h2 = setc h0 b8 (o8 + 8) (.int .i64 (n2 - (max n4 (0 : Int)))) →
onAddr p fun b9 o9 =>
∃ n5 : Int, cell h2 b9 (o9 + 5) = some (.int .i64 n5) ∧
onAddr p fun b10 o10 =>
∃ (s3 : Option Addr) (s3l s3c : Nat), cell h2 b10 (o10 + 9) = some (.slice s3 s3l s3c) ∧
onAddr p fun b11 o11 =>
∃ n6 : Int, cell h2 b11 (o11 + 10) = some (.int .i64 n6) ∧
(0 ≤ n6 ∧ n6 < ((s3l : Nat) : Int)) ∧
onAddr s3 fun b12 o12 =>
∃ n7 : Int, cell h2 b12 (o12 + ((n6).toNat * 2)) = some (.int .i64 n7) ∧
fits .i64 (n5 - n7) ∧
onAddr p fun b13 o13 =>
∃ n8 : Int, cell h2 b13 (o13 + 6) = some (.int .i64 n8) ∧
bcase (decide ((n5 - n7) < n8)) (
onAddr p fun b14 o14 =>
wr h2 b14 o14 ∧ ∀ h3 : Heap, h3 = setc h2 b14 o14 (.int .i64 (0 : Int)) →
Post (.tuple #[(.bool true), (.bool false)]) h3) (
onAddr p fun b15 o15 =>
∃ n9 : Int, cell h2 b15 (o15 + 8) = some (.int .i64 n9) ∧
bcase (decide (n9 ≤ (1514 : Int))) (
onAddr p fun b16 o16 =>
wr h2 b16 o16 ∧ ∀ h4 : Heap, h4 = setc h2 b16 o16 (.int .i64 (0 : Int)) →
Post (.tuple #[(.bool true), (.bool false)]) h4) (
onAddr p fun b17 o17 =>
∃ n10 : Int, cell h2 b17 o17 = some (.int .i64 n10) ∧
bcase (decide (n10 = (0 : Int))) (
onAddr p fun b18 o18 =>
∃ n11 : Int, cell h2 b18 (o18 + 5) = some (.int .i64 n11) ∧
onAddr p fun b19 o19 =>
∃ n12 : Int, cell h2 b19 (o19 + 7) = some (.int .i64 n12) ∧
fits .i64 (n11 + n12) ∧
onAddr p fun b20 o20 =>
wr h2 b20 o20 ∧ ∀ h5 : Heap, h5 = setc h2 b20 o20 (.int .i64 (n11 + n12)) →
Post (.tuple #[(.bool true), (.bool false)]) h5) (
onAddr p fun b21 o21 =>
∃ n13 : Int, cell h2 b21 (o21 + 5) = some (.int .i64 n13) ∧
onAddr p fun b22 o22 =>
∃ n14 : Int, cell h2 b22 o22 = some (.int .i64 n14) ∧
Post (.tuple #[(.bool true), (.bool (decide (n14 ≤ n13)))]) h2))))) :
    Runs Tryd.prog 84 #[(.pointer p)] h0 Post :=
  runs_of (args := [(.pointer p)]) (fun n => ⟨true, false⟩) (fun _ => []) (fun _ => none) (fun _ => []) Tryd.func84 rfl (by rw [Tryd.ntmps84]; simp) (Eq.mp (by kernel_rfl) H)
end Go.Proofs.YtpcilleldanfmaaDoor

/- Roots of whole numbers, and one over a root of 32 bits, as plain mathematics. -/
namespace Go.Proofs.YtpcilleldanfmaaDoor
/-- The greatest number whose square is not above n. -/
def isq : Nat → Nat
  | 0 => 0
  | n + 1 => if (isq n + 1) * (isq n + 1) ≤ n + 1 then isq n + 1 else isq n
theorem sq_lt {a b : Nat} (h : a * a < b * b) : a < b := by
  rcases Nat.lt_or_ge a b with h' | h'
  · exact h'
  · exact absurd (Nat.mul_le_mul h' h') (by omega)
theorem isq_spec : ∀ n, isq n * isq n ≤ n ∧ n < (isq n + 1) * (isq n + 1)
  | 0 => by decide
  | n + 1 => by
    obtain ⟨h1, h2⟩ := isq_spec n
    unfold isq
    split
    · rename_i h
      refine ⟨h, ?_⟩
      have e : (isq n + 1 + 1) * (isq n + 1 + 1) = (isq n + 1) * (isq n + 1) + 2 * (isq n + 1) + 1 := by
        rw [Nat.mul_add, Nat.add_mul]; omega
      omega
    · rename_i h
      exact ⟨by omega, by omega⟩
theorem isq_unique {n r : Nat} (h1 : r * r ≤ n) (h2 : n < (r + 1) * (r + 1)) : r = isq n := by
  obtain ⟨h3, h4⟩ := isq_spec n
  have a := sq_lt (show r * r < (isq n + 1) * (isq n + 1) by omega)
  have b := sq_lt (show isq n * isq n < (r + 1) * (r + 1) by omega)
  omega
theorem isq_mono {m n : Nat} (h : m ≤ n) : isq m ≤ isq n := by
  obtain ⟨h1, h2⟩ := isq_spec m
  obtain ⟨h3, h4⟩ := isq_spec n
  have := sq_lt (show isq m * isq m < (isq n + 1) * (isq n + 1) by omega)
  omega
theorem isq_sq (s : Nat) : isq (s * s) = s := by
  refine (isq_unique (Nat.le_refl _) ?_).symm
  have e : (s + 1) * (s + 1) = s * s + 2 * s + 1 := by rw [Nat.mul_add, Nat.add_mul]; omega
  omega
theorem isq_quarter (n : Nat) : isq (n / 4) = isq n / 2 := by
  obtain ⟨h1, h2⟩ := isq_spec n
  refine (isq_unique ?_ ?_).symm
  · have e1 : 4 * (isq n / 2 * (isq n / 2)) = (2 * (isq n / 2)) * (2 * (isq n / 2)) := by
      rw [Nat.mul_mul_mul_comm]
    have e2 : (2 * (isq n / 2)) * (2 * (isq n / 2)) ≤ isq n * isq n := Nat.mul_le_mul (by omega) (by omega)
    omega
  · have e1 : 4 * ((isq n / 2 + 1) * (isq n / 2 + 1)) = (2 * (isq n / 2 + 1)) * (2 * (isq n / 2 + 1)) := by
      rw [Nat.mul_mul_mul_comm]
    have e2 : (isq n + 1) * (isq n + 1) ≤ (2 * (isq n / 2 + 1)) * (2 * (isq n / 2 + 1)) := Nat.mul_le_mul (by omega) (by omega)
    omega
theorem isq_lt {n b : Nat} (h : n < b * b) : isq n < b := by
  obtain ⟨h1, _⟩ := isq_spec n
  exact sq_lt (by omega)
theorem isq_ge {n b : Nat} (h : b * b ≤ n) : b ≤ isq n := by
  obtain ⟨_, h2⟩ := isq_spec n
  have := sq_lt (show b * b < (isq n + 1) * (isq n + 1) by omega)
  omega

/-- One over the root of a count, of 32 bits. -/
def invN (c : Nat) : Nat := if c ≤ 1 then 4294967296 else isq (18446744073709551616 / c)
theorem invN_small {c : Nat} (h : c ≤ 1) : invN c = 4294967296 := by unfold invN; rw [if_pos h]
theorem invN_one : invN 1 = isq (18446744073709551616 / 1) := by
  have h1 : isq (4294967296 * 4294967296) = 4294967296 := isq_sq _
  have h2 : (18446744073709551616 : Nat) / 1 = 4294967296 * 4294967296 := by omega
  rw [invN_small (Nat.le_refl 1), h2, h1]
theorem invN_pos {c : Nat} (h : 1 ≤ c) : invN c = isq (18446744073709551616 / c) := by
  by_cases e : c = 1
  · subst e; exact invN_one
  · unfold invN; rw [if_neg (by omega)]
theorem invN_anti {a b : Nat} (h : a ≤ b) : invN b ≤ invN a := by
  by_cases ha : a = 0
  · subst ha
    by_cases hb : b ≤ 1
    · rw [invN_small hb, invN_small (Nat.zero_le 1)]; exact Nat.le_refl _
    · rw [show invN 0 = invN 1 by rw [invN_small (Nat.zero_le 1), invN_small (Nat.le_refl 1)], invN_pos (by omega), invN_pos (by omega)]
      exact isq_mono (Nat.div_le_div_left (by omega) (by omega))
  · rw [invN_pos (by omega), invN_pos (by omega)]
    exact isq_mono (Nat.div_le_div_left h (by omega))
theorem invN_le (c : Nat) : invN c ≤ 4294967296 := invN_anti (Nat.zero_le c)
theorem invN_ge {c : Nat} (h : c ≤ 4294967296) : 65536 ≤ invN c := by
  have : invN 4294967296 = 65536 := by
    have := isq_sq 65536
    rw [invN_pos (by omega), show (18446744073709551616 : Nat) / 4294967296 = 65536 * 65536 by omega, this]
  have := invN_anti h
  omega
theorem invN_four {c : Nat} (h : 1 ≤ c) : invN (c * 4) = invN c / 2 := by
  rw [invN_pos (by omega), invN_pos h, ← isq_quarter, Nat.div_div_eq_div_mul]
theorem invN_pow (k : Nat) (hk : k ≤ 16) : invN (2 ^ (2 * k)) = 2 ^ (32 - k) := by
  have h1 : 1 ≤ 2 ^ (2 * k) := Nat.one_le_two_pow
  rw [invN_pos h1]
  have e : (18446744073709551616 : Nat) = 2 ^ (64 - 2 * k) * 2 ^ (2 * k) := by rw [← Nat.pow_add, show 64 - 2 * k + 2 * k = 64 by omega]
  rw [e, Nat.mul_div_cancel _ (by omega), show 64 - 2 * k = (32 - k) + (32 - k) by omega, Nat.pow_add, isq_sq]
/-- When it is time again. -/
def clampZ (n hi : Int) : Int := min (max n 0) hi
def nextZ (a i : Int) (c : Nat) : Int := clampZ a 1125899906842624 + clampZ i 1073741824 * (invN c : Int) / 4294967296
theorem clampZ_bd (n : Int) {hi : Int} (h : 0 ≤ hi) : 0 ≤ clampZ n hi ∧ clampZ n hi ≤ hi := by unfold clampZ; omega
theorem prod_bd (i : Int) (c : Nat) : 0 ≤ clampZ i 1073741824 * (invN c : Int) ∧ clampZ i 1073741824 * (invN c : Int) ≤ 4611686018427387904 := by
  obtain ⟨h1, h2⟩ := clampZ_bd i (show (0 : Int) ≤ 1073741824 by decide)
  have h3 := invN_le c
  have h4 : clampZ i 1073741824 * (invN c : Int) ≤ 1073741824 * 4294967296 := Int.mul_le_mul h2 (by omega) (by omega) (by omega)
  exact ⟨Int.mul_nonneg h1 (by omega), by omega⟩
end Go.Proofs.YtpcilleldanfmaaDoor

/- A queue that is looked at (chapter 11), as plain mathematics: both the program's and the document's pull go this way. -/
set_option linter.unusedVariables false
namespace Go.Proofs.YtpcilleldanfmaaDoor
structure CSt where
  first : Int
  drop : Int
  count : Int
  last : Int
  dropping : Bool
  bytes : Int
  pos : Nat
deriving DecidableEq
/-- The next one is looked at: the state, whether there is one, whether it is late. -/
def lookZ (now tg iv : Int) (l : List (Int × Int)) (s : CSt) : CSt × Bool × Bool :=
  match l[s.pos]? with
  | none => ({ s with first := 0 }, false, false)
  | some x =>
    if now - x.1 < tg ∨ s.bytes - max x.2 0 ≤ 1514 then ({ s with bytes := s.bytes - max x.2 0, first := 0 }, true, false)
    else if s.first = 0 then ({ s with bytes := s.bytes - max x.2 0, first := now + iv }, true, false)
    else ({ s with bytes := s.bytes - max x.2 0 }, true, decide (s.first ≤ now))
def upC (c : Int) : Int := if c < 4294967295 then c + 1 else c
def moreZ (now tg iv : Int) (l : List (Int × Int)) : Nat → CSt → Bool → CSt × Bool
  | 0, s, is => (s, is)
  | n + 1, s, is =>
    if s.drop ≤ now ∧ s.dropping = true then
      match lookZ now tg iv l { s with pos := s.pos + 1, count := upC s.count } with
      | (t, is, late) =>
        if is = true ∧ late = true then moreZ now tg iv l n { t with drop := nextZ t.drop iv t.count.toNat } is
        else moreZ now tg iv l n { t with dropping := false } is
    else (s, is)
def wrap32 (n : Int) : Int := n % 4294967296
def deltaZ (now iv : Int) (s : CSt) : Int := if 1 < wrap32 (s.count - s.last) ∧ now - s.drop < 16 * iv then wrap32 (s.count - s.last) else 1
def beginsZ (now tg iv : Int) (l : List (Int × Int)) (s : CSt) : CSt × Bool :=
  match lookZ now tg iv l { s with pos := s.pos + 1 } with
  | (t, is, _) => ({ t with dropping := true, count := deltaZ now iv t, last := deltaZ now iv t, drop := nextZ now iv (deltaZ now iv t).toNat }, is)
def runZ (now tg iv : Int) (l : List (Int × Int)) (s : CSt) : CSt × Bool :=
  match lookZ now tg iv l s with
  | (t, is, late) =>
    if is = false then ({ t with dropping := false }, false)
    else if t.dropping = true then
      if late = false then ({ t with dropping := false }, true) else moreZ now tg iv l (l.length + 1) t true
    else if late = true then beginsZ now tg iv l t else (t, true)

/-- What a state may be, behind a look. -/
structure COk (l : List (Int × Int)) (s : CSt) : Prop where
  f0 : 0 ≤ s.first
  f1 : s.first ≤ 2251799813685248
  d0 : 0 ≤ s.drop
  d1 : s.drop ≤ 2251799813685248
  c0 : 0 ≤ s.count
  c1 : s.count < 4294967296
  l0 : 0 ≤ s.last
  l1 : s.last < 4294967296
  b0 : -(1048576 * ((s.pos : Int) + 1)) ≤ s.bytes
  b1 : s.bytes ≤ 1152921504606846976
  p : s.pos ≤ l.length
/-- What the times and the items may be. -/
structure CEn (now tg iv : Int) (l : List (Int × Int)) : Prop where
  n0 : 0 ≤ now
  n1 : now ≤ 1126999418470400
  t0 : 0 ≤ tg
  t1 : tg ≤ 1073741824
  i0 : 0 ≤ iv
  i1 : iv ≤ 1073741824
  len : l.length ≤ 1073741824
  a : ∀ x ∈ l, 0 ≤ x.1 ∧ x.1 ≤ 1126999418470400 ∧ x.2 ≤ 1048576
theorem nextZ_ok (a i : Int) (c : Nat) : 0 ≤ nextZ a i c ∧ nextZ a i c ≤ 2251799813685248 := by
  obtain ⟨h1, h2⟩ := prod_bd i c
  obtain ⟨h3, h4⟩ := clampZ_bd a (show (0 : Int) ≤ 1125899906842624 by decide)
  unfold nextZ
  exact ⟨by omega, by omega⟩
theorem upC_ok {c : Int} (h0 : 0 ≤ c) (h1 : c < 4294967296) : 0 ≤ upC c ∧ upC c < 4294967296 := by unfold upC; split <;> omega
/-- A look keeps all but the first time and the bytes. -/
theorem lookZ_same (now tg iv : Int) (l : List (Int × Int)) (s : CSt) : (lookZ now tg iv l s).1.drop = s.drop ∧ (lookZ now tg iv l s).1.count = s.count ∧ (lookZ now tg iv l s).1.last = s.last ∧
    (lookZ now tg iv l s).1.dropping = s.dropping ∧ (lookZ now tg iv l s).1.pos = s.pos := by
  unfold lookZ
  split
  · simp
  · split
    · simp
    · split <;> simp
theorem lookZ_is (now tg iv : Int) (l : List (Int × Int)) (s : CSt) : (lookZ now tg iv l s).2.1 = decide (s.pos < l.length) := by
  unfold lookZ
  split
  · rename_i h; have := List.getElem?_eq_none_iff.1 h; simp; omega
  · rename_i h; have := (List.getElem?_eq_some_iff.1 h).1; split
    · simp [this]
    · split <;> simp [this]
theorem lookZ_late (now tg iv : Int) (l : List (Int × Int)) (s : CSt) (h : (lookZ now tg iv l s).2.2 = true) : (lookZ now tg iv l s).2.1 = true := by
  rw [lookZ_is]
  unfold lookZ at h
  split at h
  · cases h
  · rename_i hx; simp [(List.getElem?_eq_some_iff.1 hx).1]
theorem lookZ_first {now tg iv : Int} {l : List (Int × Int)} {s : CSt} (hE : CEn now tg iv l) (h0 : 0 ≤ s.first) (h1 : s.first ≤ 2251799813685248) :
    0 ≤ (lookZ now tg iv l s).1.first ∧ (lookZ now tg iv l s).1.first ≤ 2251799813685248 := by
  obtain ⟨n0, n1, t0, t1, i0, i1, len, a⟩ := hE
  unfold lookZ
  split
  · simp
  · split
    · simp
    · split
      · exact ⟨by simp; omega, by simp; omega⟩
      · exact ⟨h0, h1⟩
theorem lookZ_bytes {now tg iv : Int} {l : List (Int × Int)} {s : CSt} (hE : CEn now tg iv l) : s.bytes - 1048576 ≤ (lookZ now tg iv l s).1.bytes ∧ (lookZ now tg iv l s).1.bytes ≤ s.bytes := by
  obtain ⟨n0, n1, t0, t1, i0, i1, len, a⟩ := hE
  unfold lookZ
  split
  · simp; omega
  · rename_i x hx
    have := a x (List.mem_of_getElem? hx)
    split
    · simp; omega
    · split
      · simp; omega
      · simp; omega
end Go.Proofs.YtpcilleldanfmaaDoor
namespace Go.Proofs.YtpcilleldanfmaaDoor
theorem moreZ_facts {now tg iv : Int} {l : List (Int × Int)} : ∀ (n : Nat) (s : CSt) (is : Bool), is = decide (s.pos < l.length) → (s.dropping = true → s.pos < l.length) → s.pos ≤ l.length →
    (moreZ now tg iv l n s is).2 = decide ((moreZ now tg iv l n s is).1.pos < l.length) ∧ s.pos ≤ (moreZ now tg iv l n s is).1.pos ∧ (moreZ now tg iv l n s is).1.pos ≤ l.length
  | 0, s, is, h1, h2, h3 => ⟨h1, Nat.le_refl _, h3⟩
  | n + 1, s, is, h1, h2, h3 => by
    simp only [moreZ]
    by_cases hc : s.drop ≤ now ∧ s.dropping = true
    · rw [if_pos hc]
      have hlt := h2 hc.2
      obtain ⟨e1, e2, e3, e4, e5⟩ := lookZ_same now tg iv l { s with pos := s.pos + 1, count := upC s.count }
      have his := lookZ_is now tg iv l { s with pos := s.pos + 1, count := upC s.count }
      generalize lookZ now tg iv l { s with pos := s.pos + 1, count := upC s.count } = r at *
      obtain ⟨t, i2, l2⟩ := r
      dsimp only at *
      by_cases hb : i2 = true ∧ l2 = true
      · rw [if_pos hb]
        have := moreZ_facts (now := now) (tg := tg) (iv := iv) (l := l) n { t with drop := nextZ t.drop iv t.count.toNat } i2 (by rw [his]; simp [e5]) (fun _ => by rw [hb.1] at his; simp at his ⊢; omega) (by simp; omega)
        exact ⟨this.1, by have := this.2.1; simp at this; omega, this.2.2⟩
      · rw [if_neg hb]
        have := moreZ_facts (now := now) (tg := tg) (iv := iv) (l := l) n { t with dropping := false } i2 (by rw [his]; simp [e5]) (fun h => by cases h) (by simp; omega)
        exact ⟨this.1, by have := this.2.1; simp at this; omega, this.2.2⟩
    · rw [if_neg hc]
      exact ⟨h1, Nat.le_refl _, h3⟩
theorem runZ_facts {now tg iv : Int} {l : List (Int × Int)} {s : CSt} {R : CSt × Bool} (hR : runZ now tg iv l s = R) (hp : s.pos = 0) :
    R.2 = decide (R.1.pos < l.length) ∧ R.1.pos ≤ l.length ∧ (R.2 = true ∨ R.1.dropping = false ∨ 0 < R.1.pos) := by
  unfold runZ at hR
  obtain ⟨e1, e2, e3, e4, e5⟩ := lookZ_same now tg iv l s
  have his := lookZ_is now tg iv l s
  generalize lookZ now tg iv l s = r at *
  obtain ⟨t, i2, l2⟩ := r
  dsimp only at *
  by_cases h1 : i2 = false
  · rw [if_pos h1] at hR
    subst hR
    rw [h1] at his
    simp at his
    exact ⟨by simp; omega, by simp; omega, by simp⟩
  · rw [if_neg h1] at hR
    have h1 : i2 = true := by simpa using h1
    rw [h1] at his
    simp at his
    by_cases h2 : t.dropping = true
    · rw [if_pos h2] at hR
      by_cases h3 : l2 = false
      · rw [if_pos h3] at hR; subst hR; exact ⟨by simp; omega, by simp; omega, by simp⟩
      · rw [if_neg h3] at hR
        obtain ⟨k1, k2, k3⟩ := moreZ_facts (now := now) (tg := tg) (iv := iv) (l := l) (l.length + 1) t true (by simp; omega) (fun _ => by omega) (by omega)
        rw [hR] at k1 k2 k3
        refine ⟨k1, k3, ?_⟩
        cases hm : R.2 with
        | true => exact .inl rfl
        | false => rw [hm] at k1; simp at k1; exact .inr (.inr (by omega))
    · rw [if_neg h2] at hR
      by_cases h3 : l2 = true
      · rw [if_pos h3] at hR
        unfold beginsZ at hR
        obtain ⟨e1, e2, e3, e4, e6⟩ := lookZ_same now tg iv l { t with pos := t.pos + 1 }
        have his2 := lookZ_is now tg iv l { t with pos := t.pos + 1 }
        generalize lookZ now tg iv l { t with pos := t.pos + 1 } = r at *
        obtain ⟨u, i3, l3⟩ := r
        dsimp only at *
        subst hR
        exact ⟨by simp [his2, e6], by simp; omega, .inr (.inr (by simp; omega))⟩
      · rw [if_neg h3] at hR; subst hR; exact ⟨by simp; omega, by simp; omega, by simp⟩
end Go.Proofs.YtpcilleldanfmaaDoor

/- The conditions for calls of functions of the program, in plain form: written by a program (vcgen) off the elaborated code; each is the reckoner's own, by the kernel. -/
set_option linter.unusedVariables false
set_option maxRecDepth 100000
namespace Go.Proofs.YtpcilleldanfmaaDoor
open Go.Vc
theorem vc_inv_Root (n : Int) (h0 : Heap) (Post : Value → Heap → Prop) (H :
∃ (I1 : Int → Int → Heap → Prop) (m1 : Int → Int → Heap → Nat), I1 (0 : Int) (2147483648 : Int) h0 ∧ ∀ _ : Env,
∀ (out_1 : Int) (bit_1 : Int) (h1 : Heap), I1 out_1 bit_1 h1 →
bcase (decide ((0 : Int) < bit_1)) (
fits .u64 (out_1 + bit_1) ∧
fits .u64 ((out_1 + bit_1) * (out_1 + bit_1)) ∧
bcase (decide (((out_1 + bit_1) * (out_1 + bit_1)) ≤ n)) (
(0 ≤ bit_1 ∧ 0 < (2 : Int) ∧ fits .u64 (bit_1 / (2 : Int))) ∧
I1 (out_1 + bit_1) (bit_1 / (2 : Int)) h1 ∧ m1 (out_1 + bit_1) (bit_1 / (2 : Int)) h1 < m1 out_1 bit_1 h1) (
(0 ≤ bit_1 ∧ 0 < (2 : Int) ∧ fits .u64 (bit_1 / (2 : Int))) ∧
I1 out_1 (bit_1 / (2 : Int)) h1 ∧ m1 out_1 (bit_1 / (2 : Int)) h1 < m1 out_1 bit_1 h1)) (
Post (.int .u64 out_1) h1)) :
    Runs Tryd.prog 98 #[(.int .u64 n)] h0 Post :=
  runs_of (args := [(.int .u64 n)]) (fun n => ⟨true, false⟩) (fun n => match n with | 0 => [(3, .int .u64), (4, .int .u64)] | _ => []) (fun _ => none) (fun _ => []) Tryd.func98 rfl (by rw [Tryd.ntmps98]; simp) (Eq.mp (by kernel_rfl) H)

theorem vc_inv_Inv (count : Int) (h0 : Heap) (Post : Value → Heap → Prop) (H :
bcase (decide (count ≤ (1 : Int))) (
Post (.int .u64 (4294967296 : Int)) h0) (
fits .u64 count ∧
Runs Tryd.prog 97 #[(.int .u64 (1 : Int)), (.int .u64 (0 : Int)), (.int .u64 count)] h0 fun r1 h1 =>
∃ n1 : Int,
∃ n2 : Int,
r1 = (.tuple #[(.int .u64 n1), (.int .u64 n2)]) ∧
Runs Tryd.prog 98 #[(.int .u64 n1)] h1 fun r2 h2 =>
∃ n3 : Int,
r2 = (.int .u64 n3) ∧
Post (.int .u64 n3) h2)) :
    Runs Tryd.prog 96 #[(.int .u32 count)] h0 Post :=
  runs_of (args := [(.int .u32 count)]) (fun n => ⟨true, false⟩) (fun _ => []) (fun _ => none) (fun _ => []) Tryd.func96 rfl (by rw [Tryd.ntmps96]; simp) (Eq.mp (by kernel_rfl) H)

theorem vc_inv_Next (at_ : Int) (interval : Int) (count : Int) (h0 : Heap) (Post : Value → Heap → Prop) (H :
fits .u64 (min (max interval (0 : Int)) (1073741824 : Int)) ∧
Runs Tryd.prog 96 #[(.int .u32 count)] h0 fun r1 h1 =>
∃ n1 : Int,
r1 = (.int .u64 n1) ∧
fits .u64 ((min (max interval (0 : Int)) (1073741824 : Int)) * n1) ∧
(0 ≤ (32 : Int) ∧ (32 : Int) ≤ kbits .u64) ∧
fits .i64 (((min (max interval (0 : Int)) (1073741824 : Int)) * n1) / (4294967296 : Int)) ∧
fits .i64 ((min (max at_ (0 : Int)) (1125899906842624 : Int)) + (((min (max interval (0 : Int)) (1073741824 : Int)) * n1) / (4294967296 : Int))) ∧
Post (.int .i64 ((min (max at_ (0 : Int)) (1125899906842624 : Int)) + (((min (max interval (0 : Int)) (1073741824 : Int)) * n1) / (4294967296 : Int)))) h1) :
    Runs Tryd.prog 95 #[(.int .i64 at_), (.int .i64 interval), (.int .u32 count)] h0 Post :=
  runs_of (args := [(.int .i64 at_), (.int .i64 interval), (.int .u32 count)]) (fun n => ⟨true, false⟩) (fun _ => []) (fun _ => none) (fun _ => []) Tryd.func95 rfl (by rw [Tryd.ntmps95]; simp) (Eq.mp (by kernel_rfl) H)

theorem vc_muezzinref8_Root (n : Int) (h0 : Heap) (Post : Value → Heap → Prop) (H :
∃ (I1 : Int → Int → Heap → Prop) (m1 : Int → Int → Heap → Nat), I1 (0 : Int) (31 : Int) h0 ∧ ∀ _ : Env,
∀ (x_1 : Int) (k_1 : Int) (h1 : Heap), I1 x_1 k_1 h1 →
bcase (decide ((0 : Int) ≤ k_1)) (
fits .u64 k_1 ∧
(0 ≤ k_1 ∧ k_1 ≤ kbits .u64) ∧
fits .u64 ((1 : Int) * (pow2 k_1)) ∧
fits .u64 (x_1 + ((1 : Int) * (pow2 k_1))) ∧
fits .u64 ((x_1 + ((1 : Int) * (pow2 k_1))) * (x_1 + ((1 : Int) * (pow2 k_1)))) ∧
bcase (decide (((x_1 + ((1 : Int) * (pow2 k_1))) * (x_1 + ((1 : Int) * (pow2 k_1)))) ≤ n)) (
fits .i64 (k_1 - (1 : Int)) ∧
I1 (x_1 + ((1 : Int) * (pow2 k_1))) (k_1 - (1 : Int)) h1 ∧ m1 (x_1 + ((1 : Int) * (pow2 k_1))) (k_1 - (1 : Int)) h1 < m1 x_1 k_1 h1) (
fits .i64 (k_1 - (1 : Int)) ∧
I1 x_1 (k_1 - (1 : Int)) h1 ∧ m1 x_1 (k_1 - (1 : Int)) h1 < m1 x_1 k_1 h1)) (
Post (.int .u64 x_1) h1)) :
    Runs Tryd.prog 94 #[(.int .u64 n)] h0 Post :=
  runs_of (args := [(.int .u64 n)]) (fun n => ⟨true, false⟩) (fun n => match n with | 0 => [(3, .int .u64), (4, .int .i64)] | _ => []) (fun _ => none) (fun _ => []) Tryd.func94 rfl (by rw [Tryd.ntmps94]; simp) (Eq.mp (by kernel_rfl) H)

theorem vc_muezzinref8_Inv (count : Int) (h0 : Heap) (Post : Value → Heap → Prop) (H :
bcase (decide (count ≤ (1 : Int))) (
Post (.int .u64 (4294967296 : Int)) h0) (
fits .u64 count ∧
(0 ≤ (18446744073709551615 : Int) ∧ 0 < count ∧ fits .u64 ((18446744073709551615 : Int) / count)) ∧
(0 ≤ (18446744073709551615 : Int) ∧ 0 < count) ∧
fits .u64 (count - (1 : Int)) ∧
bcase (decide (((18446744073709551615 : Int) % count) = (count - (1 : Int)))) (
fits .u64 (((18446744073709551615 : Int) / count) + (1 : Int)) ∧
Runs Tryd.prog 94 #[(.int .u64 (((18446744073709551615 : Int) / count) + (1 : Int)))] h0 fun r1 h1 =>
∃ n1 : Int,
r1 = (.int .u64 n1) ∧
Post (.int .u64 n1) h1) (
Runs Tryd.prog 94 #[(.int .u64 ((18446744073709551615 : Int) / count))] h0 fun r2 h2 =>
∃ n2 : Int,
r2 = (.int .u64 n2) ∧
Post (.int .u64 n2) h2))) :
    Runs Tryd.prog 90 #[(.int .u32 count)] h0 Post :=
  runs_of (args := [(.int .u32 count)]) (fun n => ⟨true, false⟩) (fun _ => []) (fun _ => none) (fun _ => []) Tryd.func90 rfl (by rw [Tryd.ntmps90]; simp) (Eq.mp (by kernel_rfl) H)

theorem vc_muezzinref8_Next (at_ : Int) (interval : Int) (count : Int) (h0 : Heap) (Post : Value → Heap → Prop) (H :
Runs Tryd.prog 83 #[(.int .i64 interval), (.int .i64 (0 : Int)), (.int .i64 (1073741824 : Int))] h0 fun r1 h1 =>
∃ n1 : Int,
r1 = (.int .i64 n1) ∧
fits .u64 n1 ∧
Runs Tryd.prog 90 #[(.int .u32 count)] h1 fun r2 h2 =>
∃ n2 : Int,
r2 = (.int .u64 n2) ∧
Runs Tryd.prog 89 #[(.int .u64 n1), (.int .u64 n2)] h2 fun r3 h3 =>
∃ n3 : Int,
∃ n4 : Int,
r3 = (.tuple #[(.int .u64 n3), (.int .u64 n4)]) ∧
Runs Tryd.prog 83 #[(.int .i64 at_), (.int .i64 (0 : Int)), (.int .i64 (1125899906842624 : Int))] h3 fun r4 h4 =>
∃ n5 : Int,
r4 = (.int .i64 n5) ∧
(0 ≤ (32 : Int) ∧ (32 : Int) ≤ kbits .u64) ∧
fits .u64 (n3 * (4294967296 : Int)) ∧
(0 ≤ (32 : Int) ∧ (32 : Int) ≤ kbits .u64) ∧
fits .i64 (bits .or .u64 (n3 * (4294967296 : Int)) (n4 / (4294967296 : Int))) ∧
fits .i64 (n5 + (bits .or .u64 (n3 * (4294967296 : Int)) (n4 / (4294967296 : Int)))) ∧
Post (.int .i64 (n5 + (bits .or .u64 (n3 * (4294967296 : Int)) (n4 / (4294967296 : Int))))) h4) :
    Runs Tryd.prog 85 #[(.int .i64 at_), (.int .i64 interval), (.int .u32 count)] h0 Post :=
  runs_of (args := [(.int .i64 at_), (.int .i64 interval), (.int .u32 count)]) (fun n => ⟨true, false⟩) (fun _ => []) (fun _ => none) (fun _ => []) Tryd.func85 rfl (by rw [Tryd.ntmps85]; simp) (Eq.mp (by kernel_rfl) H)

theorem vc_muezzinref8_clamp (n : Int) (low : Int) (high : Int) (h0 : Heap) (Post : Value → Heap → Prop) (H :
Post (.int .i64 (min (max n low) high)) h0) :
    Runs Tryd.prog 83 #[(.int .i64 n), (.int .i64 low), (.int .i64 high)] h0 Post :=
  runs_of (args := [(.int .i64 n), (.int .i64 low), (.int .i64 high)]) (fun n => ⟨true, false⟩) (fun _ => []) (fun _ => none) (fun _ => []) Tryd.func83 rfl (by rw [Tryd.ntmps83]; simp) (Eq.mp (by kernel_rfl) H)

theorem vc_math_bits_Div64 (hi : Int) (lo : Int) (y : Int) (h0 : Heap) (Post : Value → Heap → Prop) (H :
∀ quo_1 : Int, quo_1 = (0 : Int) →
∀ rem_1 : Int, rem_1 = (0 : Int) →
bcase (decide (y = (0 : Int))) (
∃ v1 : Value, cell h0 14 0 = some v1 ∧
False) (
bcase (decide (y ≤ hi)) (
∃ v2 : Value, cell h0 15 0 = some v2 ∧
False) (
bcase (decide (hi = (0 : Int))) (
(0 ≤ lo ∧ 0 < y ∧ fits .u64 (lo / y)) ∧
(0 ≤ lo ∧ 0 < y) ∧
∀ quo_2 : Int, quo_2 = (lo / y) →
∀ rem_2 : Int, rem_2 = (lo % y) →
Post (.tuple #[(.int .u64 quo_2), (.int .u64 rem_2)]) h0) (
Runs Tryd.prog 99 #[(.int .u64 y)] h0 fun r1 h1 =>
∃ n1 : Int,
r1 = (.int .i64 n1) ∧
fits .u64 n1 ∧
∀ s_1 : Int, s_1 = n1 →
(0 ≤ s_1 ∧ s_1 ≤ kbits .u64) ∧
fits .u64 (y * (pow2 s_1)) ∧
∀ y_1 : Int, y_1 = (y * (pow2 s_1)) →
(0 ≤ (32 : Int) ∧ (32 : Int) ≤ kbits .u64) ∧
∀ y1 : Int, y1 = (y_1 / (4294967296 : Int)) →
∀ y2 : Int, y2 = (bits .and .u64 y_1 (4294967295 : Int)) →
(0 ≤ s_1 ∧ s_1 ≤ kbits .u64) ∧
fits .u64 (hi * (pow2 s_1)) ∧
fits .u64 ((64 : Int) - s_1) ∧
(0 ≤ ((64 : Int) - s_1) ∧ ((64 : Int) - s_1) ≤ kbits .u64) ∧
∀ y3 : Int, y3 = (bits .or .u64 (hi * (pow2 s_1)) (lo / (pow2 ((64 : Int) - s_1)))) →
(0 ≤ s_1 ∧ s_1 ≤ kbits .u64) ∧
fits .u64 (lo * (pow2 s_1)) ∧
∀ y4 : Int, y4 = (lo * (pow2 s_1)) →
(0 ≤ (32 : Int) ∧ (32 : Int) ≤ kbits .u64) ∧
∀ y5 : Int, y5 = (y4 / (4294967296 : Int)) →
∀ y6 : Int, y6 = (bits .and .u64 y4 (4294967295 : Int)) →
(0 ≤ y3 ∧ 0 < y1 ∧ fits .u64 (y3 / y1)) ∧
∀ y7 : Int, y7 = (y3 / y1) →
fits .u64 (y7 * y1) ∧
fits .u64 (y3 - (y7 * y1)) ∧
∀ rhat_1 : Int, rhat_1 = (y3 - (y7 * y1)) →
∃ J1 : Int → Heap → Prop, (
∃ (I1 : Int → Int → Heap → Prop) (m1 : Int → Int → Heap → Nat), I1 y7 rhat_1 h1 ∧ ∀ _ : Env,
∀ (x1 : Int) (rhat_2 : Int) (h2 : Heap), I1 x1 rhat_2 h2 →
bcase (decide ((4294967296 : Int) ≤ x1)) (
fits .u64 (x1 - (1 : Int)) ∧
∀ y8 : Int, y8 = (x1 - (1 : Int)) →
fits .u64 (rhat_2 + y1) ∧
∀ rhat_3 : Int, rhat_3 = (rhat_2 + y1) →
bcase (decide ((4294967296 : Int) ≤ rhat_3)) (
J1 y8 h2) (
I1 y8 rhat_3 h2 ∧ m1 y8 rhat_3 h2 < m1 x1 rhat_2 h2)) (
fits .u64 (x1 * y2) ∧
fits .u64 ((4294967296 : Int) * rhat_2) ∧
fits .u64 (((4294967296 : Int) * rhat_2) + y5) ∧
bcase (decide ((((4294967296 : Int) * rhat_2) + y5) < (x1 * y2))) (
fits .u64 (x1 - (1 : Int)) ∧
∀ y9 : Int, y9 = (x1 - (1 : Int)) →
fits .u64 (rhat_2 + y1) ∧
∀ rhat_4 : Int, rhat_4 = (rhat_2 + y1) →
bcase (decide ((4294967296 : Int) ≤ rhat_4)) (
J1 y9 h2) (
I1 y9 rhat_4 h2 ∧ m1 y9 rhat_4 h2 < m1 x1 rhat_2 h2)) (
J1 x1 h2))) ∧ ∀ _ : Env,
∀ (x3 : Int) (h3 : Heap), J1 x3 h3 →
∀ y10 : Int, y10 = (IntKind.u64.wrap ((IntKind.u64.wrap ((IntKind.u64.wrap (y3 * (4294967296 : Int))) + y5)) - (IntKind.u64.wrap (x3 * y_1)))) →
(0 ≤ y10 ∧ 0 < y1 ∧ fits .u64 (y10 / y1)) ∧
∀ y11 : Int, y11 = (y10 / y1) →
fits .u64 (y11 * y1) ∧
fits .u64 (y10 - (y11 * y1)) ∧
∀ rhat_5 : Int, rhat_5 = (y10 - (y11 * y1)) →
∃ J2 : Int → Heap → Prop, (
∃ (I2 : Int → Int → Heap → Prop) (m2 : Int → Int → Heap → Nat), I2 rhat_5 y11 h3 ∧ ∀ _ : Env,
∀ (rhat_6 : Int) (x5 : Int) (h4 : Heap), I2 rhat_6 x5 h4 →
bcase (decide ((4294967296 : Int) ≤ x5)) (
fits .u64 (x5 - (1 : Int)) ∧
∀ y12 : Int, y12 = (x5 - (1 : Int)) →
fits .u64 (rhat_6 + y1) ∧
∀ rhat_7 : Int, rhat_7 = (rhat_6 + y1) →
bcase (decide ((4294967296 : Int) ≤ rhat_7)) (
J2 y12 h4) (
I2 rhat_7 y12 h4 ∧ m2 rhat_7 y12 h4 < m2 rhat_6 x5 h4)) (
fits .u64 (x5 * y2) ∧
fits .u64 ((4294967296 : Int) * rhat_6) ∧
fits .u64 (((4294967296 : Int) * rhat_6) + y6) ∧
bcase (decide ((((4294967296 : Int) * rhat_6) + y6) < (x5 * y2))) (
fits .u64 (x5 - (1 : Int)) ∧
∀ y13 : Int, y13 = (x5 - (1 : Int)) →
fits .u64 (rhat_6 + y1) ∧
∀ rhat_8 : Int, rhat_8 = (rhat_6 + y1) →
bcase (decide ((4294967296 : Int) ≤ rhat_8)) (
J2 y13 h4) (
I2 rhat_8 y13 h4 ∧ m2 rhat_8 y13 h4 < m2 rhat_6 x5 h4)) (
J2 x5 h4))) ∧ ∀ _ : Env,
∀ (x6 : Int) (h5 : Heap), J2 x6 h5 →
(0 ≤ s_1 ∧ s_1 ≤ kbits .u64) ∧
∀ quo_3 : Int, quo_3 = (IntKind.u64.wrap ((IntKind.u64.wrap (x3 * (4294967296 : Int))) + x6)) →
∀ rem_3 : Int, rem_3 = ((IntKind.u64.wrap ((IntKind.u64.wrap ((IntKind.u64.wrap (y10 * (4294967296 : Int))) + y6)) - (IntKind.u64.wrap (x6 * y_1)))) / (pow2 s_1)) →
Post (.tuple #[(.int .u64 quo_3), (.int .u64 rem_3)]) h5)))) :
    Runs Tryd.prog 97 #[(.int .u64 hi), (.int .u64 lo), (.int .u64 y)] h0 Post :=
  runs_of (args := [(.int .u64 hi), (.int .u64 lo), (.int .u64 y)]) (fun n => ⟨!memB n [21, 28], true⟩) (fun n => match n with | 0 => [(15, .int .u64), (16, .int .u64)] | 2 => [(16, .int .u64), (18, .int .u64)] | _ => []) (fun n => match n with | 21 => some [(15, .int .u64)] | 28 => some [(18, .int .u64)] | _ => none) (fun _ => []) Tryd.func97 rfl (by rw [Tryd.ntmps97]; simp) (Eq.mp (by kernel_rfl) H)
end Go.Proofs.YtpcilleldanfmaaDoor

/-
  DERIVED: THE SHELF's CONTRACTS AT THIS DUMP, IN PLAIN WORDS (tools/lay-plain.mjs out of 'TrydShelf.lean', which tools/lay-shelf.mjs wrote): THE SAME DECLARATIONS UNDER THE SAME NAMES: 'import', 'namespace', 'open', 'def', 'theorem' AND NOTHING ELSE: no command of the shelf's: FOR A HAND-IN. Each laying: the table of numbers ('.._ren') and one theorem, a field a fact of the dump's own or the kernel's comparison; each contract: ONE APPLICATION.
-/
namespace Go.Proofs
open Go.Shelf
def Tryd.lays134_ren : Go.Shelf.Ren := ⟨fun | 134 => 99 | 129 => 100 | n => n, fun | 53 => 149 | 3 => 3 | 4 => 4 | 46 => 101 | 5 => 5 | 9 => 9 | n => n, fun | n => n⟩
theorem Tryd.lays134 : Go.Proofs.Lays.n134 Tryd.prog Tryd.lays134_ren := {
  mixed := by kernel_rfl
  f129 := Tryd.func100.trans (congrArg some (by kernel_rfl))
  f134 := Tryd.func99.trans (congrArg some (by kernel_rfl))
  t3 := Tryd.underlying3
  a3 := Tryd.isAgg3
  z3 := Tryd.sizeOf3
  v3 := Tryd.zeroValue3
  t4 := Tryd.underlying4
  a4 := Tryd.isAgg4
  z4 := Tryd.sizeOf4
  v4 := Tryd.zeroValue4
  t5 := Tryd.underlying5
  a5 := Tryd.isAgg5
  z5 := Tryd.sizeOf5
  v5 := Tryd.zeroValue5
  t9 := Tryd.underlying9
  a9 := Tryd.isAgg9
  z9 := Tryd.sizeOf9
  v9 := Tryd.zeroValue9
  t46 := Tryd.underlying101
  a46 := Tryd.isAgg101
  z46 := Tryd.sizeOf101
  v46 := Tryd.zeroValue101
  t53 := Tryd.underlying149
  a53 := Tryd.isAgg149
  z53 := Tryd.sizeOf149
  v53 := Tryd.zeroValue149 }
/-- bits.LeadingZeros64: "LeadingZeros64 returns the number of leading zero bits in x; the result is 64 for x == 0.": IT RETURNS '64 - Lib.bitLen x'; the world is as it was. ITS CALLEE bits.Len64 IS MET BY ITS OWN CONTRACT OFF THE SHELF (lay that first): entered in place it sends the kernel out of memory. (LAID: no walk: one application.) -/
theorem Tryd.bits_LeadingZeros64 (x : Int) (w : World) (h0 : 0 ≤ x) (h1 : x ≤ 18446744073709551615) :
    Calls Tryd.prog 99 #[.int .u64 x] w fun e w' => e = .returned (.int .i64 (64 - (Lib.bitLen x.toNat : Int))) ∧ w' = w := Any.bits_LeadingZeros64 Tryd.lays134 x w h0 h1
def Tryd.lays129_ren : Go.Shelf.Ren := ⟨fun | 129 => 100 | n => n, fun | 53 => 149 | 3 => 3 | 4 => 4 | 46 => 101 | 5 => 5 | 9 => 9 | n => n, fun | n => n⟩
theorem Tryd.lays129 : Go.Proofs.Lays.n129 Tryd.prog Tryd.lays129_ren := {
  mixed := by kernel_rfl
  f129 := Tryd.func100.trans (congrArg some (by kernel_rfl))
  t3 := Tryd.underlying3
  a3 := Tryd.isAgg3
  z3 := Tryd.sizeOf3
  v3 := Tryd.zeroValue3
  t4 := Tryd.underlying4
  a4 := Tryd.isAgg4
  z4 := Tryd.sizeOf4
  v4 := Tryd.zeroValue4
  t5 := Tryd.underlying5
  a5 := Tryd.isAgg5
  z5 := Tryd.sizeOf5
  v5 := Tryd.zeroValue5
  t9 := Tryd.underlying9
  a9 := Tryd.isAgg9
  z9 := Tryd.sizeOf9
  v9 := Tryd.zeroValue9
  t46 := Tryd.underlying101
  a46 := Tryd.isAgg101
  z46 := Tryd.sizeOf101
  v46 := Tryd.zeroValue101
  t53 := Tryd.underlying149
  a53 := Tryd.isAgg149
  z53 := Tryd.sizeOf149
  v53 := Tryd.zeroValue149 }
/-- bits.Len64: "Len64 returns the minimum number of bits required to represent x; the result is 0 for x == 0.": IT RETURNS 'Lib.bitLen x'; the world is as it was. ('h0', 'h1': x is a uint64.) (LAID: no walk: one application.) -/
theorem Tryd.bits_Len64 (x : Int) (w : World) (h0 : 0 ≤ x) (h1 : x ≤ 18446744073709551615) :
    Calls Tryd.prog 100 #[.int .u64 x] w fun e w' => e = .returned (.int .i64 (Lib.bitLen x.toNat)) ∧ w' = w := Any.bits_Len64 Tryd.lays129 x w h0 h1
def Tryd.lays264_ren : Go.Shelf.Ren := ⟨fun | 264 => 89 | n => n, fun | 53 => 149 | 46 => 101 | n => n, fun | n => n⟩
theorem Tryd.lays264 : Go.Proofs.Lays.n264 Tryd.prog Tryd.lays264_ren := {
  mixed := by kernel_rfl
  f264 := Tryd.func89.trans (congrArg some (by kernel_rfl))
  t46 := Tryd.underlying101
  a46 := Tryd.isAgg101
  z46 := Tryd.sizeOf101
  v46 := Tryd.zeroValue101
  t53 := Tryd.underlying149
  a53 := Tryd.isAgg149
  z53 := Tryd.sizeOf149
  v53 := Tryd.zeroValue149 }
open Go.RowKit Go.Lib in
theorem Tryd.bits_Mul64 (x y : Nat) (hx : x < 18446744073709551616) (hy : y < 18446744073709551616) (w : World) :
    Calls Tryd.prog 89 #[.int .u64 x, .int .u64 y] w fun e w' => e = .returned (.tuple #[.int .u64 ((x * y / 18446744073709551616 : Nat) : Int), .int .u64 ((x * y % 18446744073709551616 : Nat) : Int)]) ∧ w' = w := Any.bits_Mul64 Tryd.lays264 x y hx hy w
end Go.Proofs

/- The contracts of the package inv, of the reference's copy, and of what they call of math/bits. -/
set_option linter.unusedVariables false
set_option linter.unusedSimpArgs false
namespace Go.Proofs.YtpcilleldanfmaaDoor
open Go.Vc Go.RowKit

theorem runs_of_calls {P : Program} {f : FuncId} {args : Array Value} {h : Heap} {v : Value} (hc : ∀ w : World, Calls P f args w fun e w' => e = .returned v ∧ w' = w) :
    Runs P f args h fun u h' => u = v ∧ h' = h :=
  fun w hw => (hc w).mono fun e w' ⟨he, hw'⟩ => ⟨v, he, ⟨rfl, by rw [hw', hw]⟩, by rw [hw']; exact Same.refl w⟩

theorem pow_cast (k : Nat) : ((2 ^ k : Nat) : Int) = (2 : Int) ^ k := by simp
theorem isq_int {n out : Int} (hn : 0 ≤ n) (ho : 0 ≤ out) (h1 : out * out ≤ n) (h2 : n < (out + 1) * (out + 1)) : out = (isq n.toNat : Int) := by
  obtain ⟨o, rfl⟩ := Int.eq_ofNat_of_zero_le ho
  obtain ⟨m, rfl⟩ := Int.eq_ofNat_of_zero_le hn
  have : o = isq m := isq_unique (by rw [← Int.natCast_mul] at h1; omega) (by
    have e : ((o : Int) + 1) * ((o : Int) + 1) = (((o + 1) * (o + 1) : Nat) : Int) := by rw [Int.natCast_mul]; rfl
    rw [e] at h2; omega)
  simp [← this]
/-- The loop's word: between out and out + p lies the root; p is a power of two. -/
def Rt (n out p : Int) : Prop := 0 ≤ out ∧ 0 < p ∧ out + p ≤ 4294967296 ∧ out * out ≤ n ∧ n < (out + p) * (out + p)
theorem Rt.bd {n out p : Int} (h : Rt n out (2 * p)) (hp : 0 < p) : 0 ≤ out + p ∧ out + p ≤ 4294967295 ∧ 0 ≤ (out + p) * (out + p) ∧ (out + p) * (out + p) ≤ 18446744065119617025 := by
  obtain ⟨h1, h2, h3, h4, h5⟩ := h
  refine ⟨by omega, by omega, Int.mul_nonneg (by omega) (by omega), ?_⟩
  have : (out + p) * (out + p) ≤ 4294967295 * 4294967295 := Int.mul_le_mul (by omega) (by omega) (by omega) (by omega)
  omega
theorem Rt.up {n out p : Int} (h : Rt n out (2 * p)) (hp : 0 < p) (hx : (out + p) * (out + p) ≤ n) : Rt n (out + p) p := by
  obtain ⟨h1, h2, h3, h4, h5⟩ := h
  exact ⟨by omega, hp, by omega, hx, by rw [show out + p + p = out + 2 * p by omega]; exact h5⟩
theorem Rt.down {n out p : Int} (h : Rt n out (2 * p)) (hp : 0 < p) (hx : ¬ (out + p) * (out + p) ≤ n) : Rt n out p := by
  obtain ⟨h1, h2, h3, h4, h5⟩ := h
  exact ⟨h1, hp, by omega, h4, by omega⟩
theorem Rt.start {n : Int} (h0 : 0 ≤ n) (h1 : n < 18446744073709551616) : Rt n 0 (2 ^ 32) := by
  rw [show (2 : Int) ^ 32 = 4294967296 by decide]
  exact ⟨by decide, by decide, by decide, by omega, by omega⟩
theorem root_c (n : Int) (h : Heap) (h0 : 0 ≤ n) (h1 : n < 18446744073709551616) : Runs Tryd.prog 98 #[.int .u64 n] h fun v h' => v = .int .u64 (isq n.toNat) ∧ h' = h := by
  refine vc_inv_Root _ _ _ ⟨fun out bit h' => h' = h ∧ ∃ k : Nat, k ≤ 32 ∧ bit = 2 ^ k / 2 ∧ Rt n out (2 ^ k), fun _ bit _ => bit.toNat, ⟨rfl, 32, by decide, by decide, Rt.start h0 h1⟩, fun _ => ?_⟩
  rintro out bit _ ⟨rfl, k, hk, rfl, hr⟩
  cases k with
  | zero =>
    refine dcase_neg (by decide) ⟨?_, rfl⟩
    obtain ⟨r1, r2, r3, r4, r5⟩ := hr
    congr 1
    exact isq_int h0 r1 r4 r5
  | succ k =>
    have e : (2 : Int) ^ (k + 1) = 2 * 2 ^ k := by rw [Int.pow_succ]; omega
    have hp : (0 : Int) < 2 ^ k := Int.pow_pos (by decide)
    rw [e] at hr
    have e2 : (2 : Int) ^ (k + 1) / 2 = 2 ^ k := by rw [e]; omega
    rw [e2]
    obtain ⟨b1, b2, b3, b4⟩ := hr.bd hp
    obtain ⟨c1, c2, c3, c4, c5⟩ := id hr
    refine dcase_pos hp ⟨by simp only [fits]; omega, by simp only [fits]; omega, dcase_intro (fun c => ?_) (fun c => ?_)⟩
    · exact ⟨⟨by omega, by decide, by simp only [fits]; omega⟩, ⟨rfl, k, by omega, rfl, hr.up hp c⟩, by dsimp only; omega⟩
    · exact ⟨⟨by omega, by decide, by simp only [fits]; omega⟩, ⟨rfl, k, by omega, rfl, hr.down hp c⟩, by dsimp only; omega⟩
theorem refroot_c (n : Int) (h : Heap) (h0 : 0 ≤ n) (h1 : n < 18446744073709551616) : Runs Tryd.prog 94 #[.int .u64 n] h fun v h' => v = .int .u64 (isq n.toNat) ∧ h' = h := by
  refine vc_muezzinref8_Root _ _ _ ⟨fun out j h' => h' = h ∧ ∃ k : Nat, k ≤ 32 ∧ j + 1 = k ∧ Rt n out (2 ^ k), fun _ j _ => (j + 1).toNat, ⟨rfl, 32, by decide, by decide, Rt.start h0 h1⟩, fun _ => ?_⟩
  rintro out j _ ⟨rfl, k, hk, hj, hr⟩
  cases k with
  | zero =>
    refine dcase_neg (by omega) ⟨?_, rfl⟩
    obtain ⟨r1, r2, r3, r4, r5⟩ := hr
    congr 1
    exact isq_int h0 r1 r4 r5
  | succ k =>
    obtain rfl : j = k := by omega
    have e : (2 : Int) ^ (k + 1) = 2 * 2 ^ k := by rw [Int.pow_succ]; omega
    have hp : (0 : Int) < 2 ^ k := Int.pow_pos (by decide)
    rw [e] at hr
    have e2 : (1 : Int) * pow2 (k : Int) = 2 ^ k := by unfold pow2; rw [Int.toNat_natCast]; omega
    rw [e2]
    obtain ⟨b1, b2, b3, b4⟩ := hr.bd hp
    obtain ⟨c1, c2, c3, c4, c5⟩ := id hr
    refine dcase_pos (by omega) ⟨by simp only [fits]; omega, ⟨by omega, by simp only [kbits]; omega⟩, by simp only [fits]; omega, by simp only [fits]; omega, by simp only [fits]; omega, dcase_intro (fun c => ?_) (fun c => ?_)⟩
    · exact ⟨by simp only [fits]; omega, ⟨rfl, k, by omega, by omega, hr.up hp c⟩, by dsimp only; omega⟩
    · exact ⟨by simp only [fits]; omega, ⟨rfl, k, by omega, by omega, hr.down hp c⟩, by dsimp only; omega⟩

theorem and_mask {a : Int} (h0 : 0 ≤ a) (h1 : a < 18446744073709551616) : bits .and .u64 a 4294967295 = a % 4294967296 := by
  obtain ⟨m, rfl⟩ := Int.eq_ofNat_of_zero_le h0
  have e : bits .and .u64 (m : Int) 4294967295 = IntKind.u64.wrap ((BitVec.ofInt 64 (m : Int) &&& BitVec.ofInt 64 4294967295).toNat : Int) := rfl
  have e2 : (BitVec.ofInt 64 (m : Int) &&& BitVec.ofInt 64 4294967295).toNat = m % 4294967296 := by
    rw [BitVec.toNat_and, BitVec.toNat_ofInt, BitVec.toNat_ofInt]
    have : ((m : Int) % (2 ^ 64 : Nat)).toNat = m := by omega
    rw [this]
    exact Nat.and_two_pow_sub_one_eq_mod m 32
  rw [e, e2, wrap_fits (show fits .u64 _ by simp only [fits]; omega)]
  omega
theorem or_zero {a : Int} (h0 : 0 ≤ a) (h1 : a < 18446744073709551616) : bits .or .u64 a 0 = a := by
  obtain ⟨m, rfl⟩ := Int.eq_ofNat_of_zero_le h0
  have e : bits .or .u64 (m : Int) 0 = IntKind.u64.wrap ((BitVec.ofInt 64 (m : Int) ||| BitVec.ofInt 64 0).toNat : Int) := rfl
  have e2 : (BitVec.ofInt 64 (m : Int) ||| BitVec.ofInt 64 0).toNat = m := by
    rw [show BitVec.ofInt 64 0 = 0#64 from rfl, BitVec.or_zero, BitVec.toNat_ofInt]
    omega
  rw [e, e2, wrap_fits (show fits .u64 _ by simp only [fits]; omega)]
theorem zero_or {a : Int} (h0 : 0 ≤ a) (h1 : a < 18446744073709551616) : bits .or .u64 0 a = a := by
  obtain ⟨m, rfl⟩ := Int.eq_ofNat_of_zero_le h0
  have e : bits .or .u64 0 (m : Int) = IntKind.u64.wrap ((BitVec.ofInt 64 0 ||| BitVec.ofInt 64 (m : Int)).toNat : Int) := rfl
  have e2 : (BitVec.ofInt 64 0 ||| BitVec.ofInt 64 (m : Int)).toNat = m := by
    rw [show BitVec.ofInt 64 0 = 0#64 from rfl, BitVec.zero_or, BitVec.toNat_ofInt]
    omega
  rw [e, e2, wrap_fits (show fits .u64 _ by simp only [fits]; omega)]

theorem lz_c (y : Int) (h : Heap) (h0 : 0 ≤ y) (h1 : y ≤ 18446744073709551615) : Runs Tryd.prog 99 #[.int .u64 y] h fun v h' => v = .int .i64 (64 - (Lib.bitLen y.toNat : Int)) ∧ h' = h :=
  runs_of_calls fun w => Tryd.bits_LeadingZeros64 y w h0 h1
theorem mul64_c (x y : Nat) (h : Heap) (hx : x < 18446744073709551616) (hy : y < 18446744073709551616) : Runs Tryd.prog 89 #[.int .u64 x, .int .u64 y] h
    fun v h' => v = .tuple #[.int .u64 ((x * y / 18446744073709551616 : Nat) : Int), .int .u64 ((x * y % 18446744073709551616 : Nat) : Int)] ∧ h' = h :=
  runs_of_calls fun w => Tryd.bits_Mul64 x y hx hy w
/-- The shift that brings y's first one to the front. -/
theorem shift_spec {y : Int} (h0 : 2 ≤ y) (h1 : y < 4294967296) : ∃ s : Nat, 64 - (Lib.bitLen y.toNat : Int) = s ∧ 32 ≤ s ∧ s ≤ 63 ∧ y * (4294967296 * 2 ^ (s - 32)) < 18446744073709551616 := by
  have b1 := Lib.bitLenAux_bounds 64 y.toNat (by omega) (by omega)
  have b2 := Lib.bitLen_le y.toNat 32 (by omega) (by omega)
  change 1 ≤ Lib.bitLen y.toNat ∧ _ ∧ y.toNat < 2 ^ Lib.bitLen y.toNat at b1
  obtain ⟨c1, c2, c3⟩ := b1
  generalize Lib.bitLen y.toNat = L at *
  refine ⟨64 - L, by omega, by omega, by omega, ?_⟩
  have e1 : y.toNat * (4294967296 * 2 ^ (64 - L - 32)) < 2 ^ L * (4294967296 * 2 ^ (64 - L - 32)) := Nat.mul_lt_mul_of_pos_right c3 (Nat.mul_pos (by decide) (Nat.pow_pos (by decide)))
  have e2 : 2 ^ L * (4294967296 * 2 ^ (64 - L - 32)) = 18446744073709551616 := by
    rw [show (4294967296 : Nat) = 2 ^ 32 by decide, ← Nat.pow_add, ← Nat.pow_add, show L + (32 + (64 - L - 32)) = 64 by omega]
  rw [e2] at e1
  have e3 : y = (y.toNat : Int) := by omega
  rw [e3, show (4294967296 : Int) * 2 ^ (64 - L - 32) = ((4294967296 * 2 ^ (64 - L - 32) : Nat) : Int) by simp, ← Int.natCast_mul]
  omega
/-- The quotient of 2^64, by long division with a shifted divisor. -/
theorem div_plain {y M : Int} (h0 : 2 ≤ y) (h1 : y < 4294967296) (hM : 0 < M) (hb : y * (4294967296 * M) < 18446744073709551616) :
    y * (4294967296 * M) / 4294967296 = y * M ∧ y * (4294967296 * M) % 4294967296 = 0 ∧ 4294967296 * M / (y * M) = 4294967296 / y ∧
    4294967296 * M - 4294967296 / y * (y * M) = 4294967296 % y * M ∧
    4294967296 % y * (4294967296 * M) / (y * M) = 4294967296 % y * 4294967296 / y ∧
    4294967296 / y * 4294967296 + 4294967296 % y * 4294967296 / y = 18446744073709551616 / y := by
  have hy : 0 < y := by omega
  have e1 : y * (4294967296 * M) = (y * M) * 4294967296 := by rw [Int.mul_left_comm, Int.mul_comm]
  refine ⟨by rw [e1]; exact Int.mul_ediv_cancel _ (by decide), by rw [e1]; exact Int.mul_emod_left _ _, ?_, ?_, ?_, ?_⟩
  · exact Int.mul_ediv_mul_of_pos_left _ _ hM
  · have := Int.mul_ediv_add_emod 4294967296 y
    have e : 4294967296 * M = (y * (4294967296 / y) + 4294967296 % y) * M := by rw [this]
    rw [Int.add_mul] at e
    have e3 : y * (4294967296 / y) * M = 4294967296 / y * (y * M) := by rw [Int.mul_comm y (4294967296 / y), Int.mul_assoc]
    omega
  · rw [← Int.mul_assoc]; exact Int.mul_ediv_mul_of_pos_left _ _ hM
  · have := Int.mul_ediv_add_emod 4294967296 y
    have e : (18446744073709551616 : Int) = 4294967296 % y * 4294967296 + y * (4294967296 / y * 4294967296) := by
      rw [← Int.mul_assoc, ← Int.add_mul]
      omega
    rw [e, Int.add_mul_ediv_left _ _ (by omega)]
    omega

theorem wrap_u64 (n : Int) : IntKind.u64.wrap n = n % 18446744073709551616 := by
  unfold IntKind.wrap; simp [IntKind.bits, IntKind.signed]
theorem pow2_split {s : Nat} (h : 32 ≤ s) : pow2 (s : Int) = 4294967296 * 2 ^ (s - 32) := by
  unfold pow2
  rw [Int.toNat_natCast, show (4294967296 : Int) = 2 ^ 32 by decide, ← Int.pow_add, show 32 + (s - 32) = s by omega]
/-- bits.Div64(1, 0, y) yields 2^64 / y (and some rest), for y from 2 to below 2^32. -/
theorem div64_c (y : Int) (h : Heap) (h0 : 2 ≤ y) (h1 : y < 4294967296) : Runs Tryd.prog 97 #[.int .u64 1, .int .u64 0, .int .u64 y] h
    fun v h' => (∃ r : Int, v = .tuple #[.int .u64 (18446744073709551616 / y), .int .u64 r]) ∧ h' = h := by
  obtain ⟨s, hs, s1, s2, hb⟩ := shift_spec h0 h1
  obtain ⟨M, hM⟩ : ∃ M : Int, M = 2 ^ (s - 32) := ⟨_, rfl⟩
  have hM0 : 0 < M := by rw [hM]; exact Int.pow_pos (by decide)
  rw [← hM] at hb
  have hp : pow2 (s : Int) = 4294967296 * M := by rw [pow2_split s1, hM]
  obtain ⟨d1, d2, d3, d4, d5, d6⟩ := div_plain h0 h1 hM0 hb
  have hq0 : 0 ≤ 4294967296 / y := Int.ediv_nonneg (by decide) (by omega)
  have hq1 : 4294967296 / y ≤ 2147483648 := Int.ediv_le_of_le_mul (by omega) (by omega)
  have hr0 : 0 ≤ 4294967296 % y := Int.emod_nonneg _ (by omega)
  have hr1 : 4294967296 % y < y := Int.emod_lt_of_pos _ (by omega)
  have hyM : 0 < y * M := Int.mul_pos (by omega) hM0
  have hyM1 : y * M < 4294967296 := by
    have : y * (4294967296 * M) = 4294967296 * (y * M) := by rw [Int.mul_left_comm]
    omega
  have hSM : M ≤ y * M := by
    have : 1 * M ≤ y * M := Int.mul_le_mul_of_nonneg_right (by omega) (by omega)
    omega
  have hrM : 4294967296 % y * M < y * M := Int.mul_lt_mul_of_pos_right hr1 hM0
  have hrM0 : 0 ≤ 4294967296 % y * M := Int.mul_nonneg hr0 (by omega)
  have hrS : 4294967296 % y * (4294967296 * M) = 4294967296 * (4294967296 % y * M) := by rw [Int.mul_left_comm]
  have hq2 : 4294967296 % y * 4294967296 / y < 4294967296 := by
    apply Int.ediv_lt_of_lt_mul (by omega)
    omega
  have hq3 : 0 ≤ 4294967296 % y * 4294967296 / y := Int.ediv_nonneg (by omega) (by omega)
  have hm1 : 0 ≤ 4294967296 / y * (y * M) := Int.mul_nonneg hq0 (by omega)
  refine vc_math_bits_Div64 _ _ _ _ _ ?_
  rintro _ rfl _ rfl
  refine dcase_neg (by omega) (dcase_neg (by omega) (dcase_neg (by decide) ((lz_c _ _ (by omega) (by omega)).ret ⟨_, rfl, ?_⟩)))
  rw [hs]
  refine ⟨by simp only [fits]; omega, ?_⟩
  rintro _ rfl
  rw [hp]
  refine ⟨⟨by omega, by simp only [kbits]; omega⟩, by simp only [fits]; omega, ?_⟩
  rintro _ rfl
  refine ⟨by decide, ?_⟩
  rintro _ rfl _ rfl
  rw [d1, and_mask (by omega) hb, d2]
  refine ⟨⟨by omega, by simp only [kbits]; omega⟩, by simp only [fits]; omega, by simp only [fits]; omega, ⟨by omega, by simp only [kbits]; omega⟩, ?_⟩
  rw [show (0 : Int) / pow2 (64 - (s : Int)) = 0 from Int.zero_ediv _, show (1 : Int) * (4294967296 * M) = 4294967296 * M by omega, or_zero (by omega) (by omega)]
  rintro _ rfl
  refine ⟨⟨by omega, by simp only [kbits]; omega⟩, by simp only [fits]; omega, ?_⟩
  rintro _ rfl
  refine ⟨by decide, ?_⟩
  rintro _ rfl _ rfl
  rw [show (0 : Int) * (4294967296 * M) = 0 by omega, show (0 : Int) / 4294967296 = 0 by decide, show bits .and .u64 0 4294967295 = 0 by decide]
  refine ⟨⟨by omega, by omega, by rw [d3]; simp only [fits]; omega⟩, ?_⟩
  rintro _ rfl
  rw [d3]
  refine ⟨by simp only [fits]; omega, by simp only [fits]; omega, ?_⟩
  rintro _ rfl
  rw [d4]
  refine ⟨fun q h' => q = 4294967296 / y ∧ h' = h, ⟨fun q r h' => q = 4294967296 / y ∧ r = 4294967296 % y * M ∧ h' = h, fun _ _ _ => 0, ⟨rfl, rfl, rfl⟩, fun _ => ?_⟩, fun _ => ?_⟩
  · rintro _ _ _ ⟨rfl, rfl, rfl⟩
    exact dcase_neg (by omega) ⟨by simp only [fits]; omega, by simp only [fits]; omega, by simp only [fits]; omega, dcase_neg (by omega) ⟨rfl, rfl⟩⟩
  · rintro _ h2 ⟨rfl, rfl⟩ _ rfl
    have e : IntKind.u64.wrap (IntKind.u64.wrap (IntKind.u64.wrap (4294967296 * M * 4294967296) + 0) - IntKind.u64.wrap (4294967296 / y * (y * (4294967296 * M)))) = 4294967296 % y * (4294967296 * M) := by
      simp only [wrap_u64]
      have k1 : 4294967296 / y * (y * (4294967296 * M)) = 4294967296 * (4294967296 / y * (y * M)) := by rw [Int.mul_left_comm y, Int.mul_left_comm]
      omega
    rw [e]
    refine ⟨⟨by omega, by omega, by rw [d5]; simp only [fits]; omega⟩, ?_⟩
    rintro _ rfl
    rw [d5]
    have hm : 4294967296 % y * 4294967296 / y * (y * M) ≤ 4294967296 % y * (4294967296 * M) := by
      rw [← d5]; exact Int.ediv_mul_le _ (by omega)
    have hm0 : 0 ≤ 4294967296 % y * 4294967296 / y * (y * M) := Int.mul_nonneg hq3 (by omega)
    have hlt : 4294967296 % y * (4294967296 * M) < 4294967296 % y * 4294967296 / y * (y * M) + y * M := by
      rw [← d5]
      have := Int.lt_ediv_add_one_mul_self (4294967296 % y * (4294967296 * M)) hyM
      rw [Int.add_mul] at this; omega
    refine ⟨by simp only [fits]; omega, by simp only [fits]; omega, ?_⟩
    rintro _ rfl
    refine ⟨fun q h' => q = 4294967296 % y * 4294967296 / y ∧ h' = h2, ⟨fun r q h' => q = 4294967296 % y * 4294967296 / y ∧ 0 ≤ r ∧ r < y * M ∧ h' = h2, fun _ _ _ => 0, ⟨rfl, by omega, by omega, rfl⟩, fun _ => ?_⟩, fun _ => ?_⟩
    · rintro _ _ _ ⟨rfl, k1, k2, rfl⟩
      exact dcase_neg (by omega) ⟨by simp only [fits]; omega, by simp only [fits]; omega, by simp only [fits]; omega, dcase_neg (by omega) ⟨rfl, rfl⟩⟩
    · rintro _ _ ⟨rfl, rfl⟩
      refine ⟨⟨by omega, by simp only [kbits]; omega⟩, ?_⟩
      rintro _ rfl _ rfl
      have k2 : IntKind.u64.wrap (IntKind.u64.wrap (4294967296 / y * 4294967296) + 4294967296 % y * 4294967296 / y) = 18446744073709551616 / y := by
        simp only [wrap_u64]; omega
      rw [k2]
      exact ⟨⟨_, rfl⟩, rfl⟩

theorem invN_int {c : Int} (h0 : 2 ≤ c) (h1 : c < 4294967296) : (isq (18446744073709551616 / c).toNat : Int) = (invN c.toNat : Int) := by
  obtain ⟨n, rfl⟩ := Int.eq_ofNat_of_zero_le (show 0 ≤ c by omega)
  rw [invN_pos (by simp; omega)]
  have : (18446744073709551616 / (n : Int)).toNat = 18446744073709551616 / n := by
    rw [show (18446744073709551616 : Int) = ((18446744073709551616 : Nat) : Int) by rfl, ← Int.natCast_ediv, Int.toNat_natCast]
  rw [this]; simp
theorem inv_c (c : Int) (h : Heap) (h0 : 0 ≤ c) (h1 : c < 4294967296) : Runs Tryd.prog 96 #[.int .u32 c] h fun v h' => v = .int .u64 (invN c.toNat) ∧ h' = h := by
  refine vc_inv_Inv _ _ _ (dcase_intro (fun k => ⟨by rw [invN_small (by omega)]; rfl, rfl⟩) fun k => ⟨by simp only [fits]; omega, (div64_c _ _ (by omega) h1).mono ?_⟩)
  rintro _ _ ⟨⟨r, rfl⟩, rfl⟩
  have q0 : 0 ≤ 18446744073709551616 / c := Int.ediv_nonneg (by decide) (by omega)
  have q1 : 18446744073709551616 / c ≤ 9223372036854775808 := Int.ediv_le_of_le_mul (by omega) (by omega)
  refine ⟨_, _, rfl, (root_c _ _ q0 (by omega)).ret ⟨_, rfl, ?_, rfl⟩⟩
  rw [invN_int (by omega) h1]
theorem refinv_c (c : Int) (h : Heap) (h0 : 0 ≤ c) (h1 : c < 4294967296) : Runs Tryd.prog 90 #[.int .u32 c] h fun v h' => v = .int .u64 (invN c.toNat) ∧ h' = h := by
  refine vc_muezzinref8_Inv _ _ _ (dcase_intro (fun k => ⟨by rw [invN_small (by omega)]; rfl, rfl⟩) fun k => ?_)
  have hc : 0 < c := by omega
  have q0 : 0 ≤ 18446744073709551615 / c := Int.ediv_nonneg (by decide) (by omega)
  have q1 : 18446744073709551615 / c ≤ 9223372036854775808 := Int.ediv_le_of_le_mul (by omega) (by omega)
  have q2 : 0 ≤ 18446744073709551616 / c := Int.ediv_nonneg (by decide) (by omega)
  have q3 : 18446744073709551616 / c ≤ 9223372036854775808 := Int.ediv_le_of_le_mul (by omega) (by omega)
  have r0 := Int.emod_nonneg 18446744073709551615 (show c ≠ 0 by omega)
  have r1 := Int.emod_lt_of_pos 18446744073709551615 hc
  have e := Int.mul_ediv_add_emod 18446744073709551615 c
  refine ⟨by simp only [fits]; omega, ⟨by decide, hc, by simp only [fits]; omega⟩, ⟨by decide, hc⟩, by simp only [fits]; omega, dcase_intro (fun k2 => ?_) (fun k2 => ?_)⟩
  · have e2 : 18446744073709551615 / c + 1 = 18446744073709551616 / c := by
      have : (18446744073709551616 : Int) = 0 + c * (18446744073709551615 / c + 1) := by rw [Int.mul_add]; omega
      rw [this, Int.add_mul_ediv_left _ _ (by omega), Int.zero_ediv]; omega
    rw [e2]
    refine ⟨by simp only [fits]; omega, (refroot_c _ _ q2 (by omega)).ret ⟨_, rfl, ?_, rfl⟩⟩
    rw [invN_int (by omega) h1]
  · have e2 : 18446744073709551615 / c = 18446744073709551616 / c := by
      have : (18446744073709551616 : Int) = (18446744073709551615 % c + 1) + c * (18446744073709551615 / c) := by omega
      rw [this, Int.add_mul_ediv_left _ _ (by omega), Int.ediv_eq_zero_of_lt (a := 18446744073709551615 % c + 1) (b := c) (show 0 ≤ 18446744073709551615 % c + 1 by omega) (show 18446744073709551615 % c + 1 < c by omega)]; omega
    rw [e2]
    refine (refroot_c _ _ q2 (by omega)).ret ⟨_, rfl, ?_, rfl⟩
    rw [invN_int (by omega) h1]
theorem next_c (a i c : Int) (h : Heap) (h0 : 0 ≤ c) (h1 : c < 4294967296) : Runs Tryd.prog 95 #[.int .i64 a, .int .i64 i, .int .u32 c] h fun v h' => v = .int .i64 (nextZ a i c.toNat) ∧ h' = h := by
  obtain ⟨p1, p2⟩ := prod_bd i c.toNat
  obtain ⟨c1, c2⟩ := clampZ_bd i (show (0 : Int) ≤ 1073741824 by decide)
  obtain ⟨c3, c4⟩ := clampZ_bd a (show (0 : Int) ≤ 1125899906842624 by decide)
  refine vc_inv_Next _ _ _ _ _ ?_
  rw [show min (max i 0) 1073741824 = clampZ i 1073741824 from rfl, show min (max a 0) 1125899906842624 = clampZ a 1125899906842624 from rfl]
  exact ⟨by simp only [fits]; omega, (inv_c _ _ h0 h1).ret ⟨_, rfl, by simp only [fits]; omega, ⟨by decide, by decide⟩, by simp only [fits]; omega, by simp only [fits]; omega, rfl, rfl⟩⟩
theorem refnext_c (a i c : Int) (h : Heap) (h0 : 0 ≤ c) (h1 : c < 4294967296) : Runs Tryd.prog 85 #[.int .i64 a, .int .i64 i, .int .u32 c] h fun v h' => v = .int .i64 (nextZ a i c.toNat) ∧ h' = h := by
  obtain ⟨p1, p2⟩ := prod_bd i c.toNat
  obtain ⟨c1, c2⟩ := clampZ_bd i (show (0 : Int) ≤ 1073741824 by decide)
  obtain ⟨c3, c4⟩ := clampZ_bd a (show (0 : Int) ≤ 1125899906842624 by decide)
  have cl : ∀ (n hi : Int) (h : Heap), Runs Tryd.prog 83 #[.int .i64 n, .int .i64 0, .int .i64 hi] h fun v h' => v = .int .i64 (clampZ n hi) ∧ h' = h := fun n hi h => vc_muezzinref8_clamp _ _ _ _ _ ⟨rfl, rfl⟩
  have hm : ∀ h, Runs Tryd.prog 89 #[.int .u64 (clampZ i 1073741824), .int .u64 (invN c.toNat)] h fun v h' => v = .tuple #[.int .u64 0, .int .u64 (clampZ i 1073741824 * (invN c.toNat : Int))] ∧ h' = h := by
    intro h
    obtain ⟨x, hx⟩ := Int.eq_ofNat_of_zero_le c1
    have hle := invN_le c.toNat
    have := mul64_c x (invN c.toNat) h (by omega) (by omega)
    rw [hx] at p1 p2 ⊢
    rw [← Int.natCast_mul] at p1 p2 ⊢
    have e1 : x * invN c.toNat / 18446744073709551616 = 0 := Nat.div_eq_of_lt (by omega)
    have e2 : x * invN c.toNat % 18446744073709551616 = x * invN c.toNat := Nat.mod_eq_of_lt (by omega)
    rw [e1, e2] at this
    exact this
  refine vc_muezzinref8_Next _ _ _ _ _ ((cl _ _ _).ret ⟨_, rfl, by simp only [fits]; omega, (refinv_c _ _ h0 h1).ret ⟨_, rfl, (hm _).ret ⟨_, _, rfl, (cl _ _ _).ret ⟨_, rfl, ⟨by decide, by decide⟩, by simp only [fits]; omega, ⟨by decide, by decide⟩, ?_⟩⟩⟩⟩)
  rw [show (0 : Int) * 4294967296 = 0 by decide, zero_or (by omega) (by omega)]
  exact ⟨by simp only [fits]; omega, by simp only [fits]; omega, rfl, rfl⟩
/-- A piece whose test is known. -/
theorem segT {Q : Bool → Heap → Prop} {h : Heap} {C : (Bool → Heap → Prop) → Prop} (hc : C fun x h' => x = true ∧ h' = h) (hr : Q true h) :
    ∃ J : Bool → Heap → Prop, C J ∧ ∀ _ : Env, ∀ (x : Bool) (h' : Heap), J x h' → Q x h' :=
  ⟨_, hc, fun _ => by rintro _ _ ⟨rfl, rfl⟩; exact hr⟩
end Go.Proofs.YtpcilleldanfmaaDoor

/- The contracts of the package codel and of the document's pull. -/
set_option linter.unusedVariables false
set_option linter.unusedSimpArgs false
namespace Go.Proofs.YtpcilleldanfmaaDoor
open Go.Vc


def itemV (x : Int × Int) : List Value := [.int .i64 x.1, .int .i64 x.2]
def flatI : List (Int × Int) → List Value
  | [] => []
  | x :: r => .int .i64 x.1 :: .int .i64 x.2 :: flatI r
theorem flatI_len : ∀ l : List (Int × Int), (flatI l).length = l.length * 2
  | [] => rfl
  | x :: r => by simp only [flatI, List.length_cons, flatI_len r]; omega
/-- A slice of items: where each lies. -/
def Itm (h : Heap) (a : Option Addr) (l : List (Int × Int)) : Prop :=
  ∀ (i : Nat) (x : Int × Int), l[i]? = some x → ∃ b o, a = some ⟨b, o, none⟩ ∧ row h b (o + i * 2) 2 = some [.int .i64 x.1, .int .i64 x.2]
theorem Itm.mem {h0 h : Heap} {S : List Nat} {L : List (Nat × List Value × TypeId)} {a : Option Addr} {l : List (Int × Int)} (hi : Itm h0 a l) (m : Mem h0 h S L) (hne : l ≠ [] → ∀ b ∈ blkOf a, b ∉ S) : Itm h a l := by
  intro i x hx
  obtain ⟨b, o, rfl, h2⟩ := hi i x hx
  exact ⟨b, o, rfl, m.row (hne (by rintro rfl; simp at hx) b (by simp [blkOf])) h2⟩
theorem Itm.lt {h : Heap} {a : Option Addr} {l : List (Int × Int)} (hi : Itm h a l) (hl : l ≠ []) : ∀ b ∈ blkOf a, b < h.size := by
  intro b hb
  obtain ⟨x, hx⟩ : ∃ x, l[0]? = some x := ⟨_, List.getElem?_eq_getElem (List.length_pos_iff.2 hl)⟩
  obtain ⟨c, o, rfl, h2⟩ := hi 0 x hx
  simp [blkOf] at hb; subst hb
  have h3 := (row_iff.1 h2).2 0 _ rfl
  rcases Nat.lt_or_ge b h.size with h' | h'
  · exact h'
  · unfold cell at h3; rw [Array.getElem?_eq_none h'] at h3; cases h3
theorem Itm.of_src {h : Heap} {a : Option Addr} {l : List (Int × Int)} (hs : ∀ l' : List Value, l' = flatI l → src h a (l.length * 2) l') : Itm h a l := by
  intro i x hx
  have hi := (List.getElem?_eq_some_iff.1 hx).1
  obtain ⟨b, o, h1, h2⟩ := src_at (k := i * 2) (n := 2) (hs _ rfl) (by rw [flatI_len]; omega) (by decide)
  refine ⟨b, o, h1, ?_⟩
  rw [h2]
  have key : ∀ {l : List (Int × Int)} {i : Nat}, l[i]? = some x → ((flatI l).drop (i * 2)).take 2 = [.int .i64 x.1, .int .i64 x.2] := by
    intro l
    induction l with
    | nil => intro i h; simp at h
    | cons y r ih =>
      intro i h
      cases i with
      | zero => simp at h; subst h; simp [flatI]
      | succ i =>
        rw [show (i + 1) * 2 = i * 2 + 2 by omega]
        simp only [flatI, List.drop_succ_cons]
        exact ih (by simpa using h)
  rw [key hx]
/-- The cells of a queue that is looked at. -/
def stV (now tg iv : Int) (a : Option Addr) (len cap : Nat) (s : CSt) : List Value :=
  [.int .i64 s.first, .int .i64 s.drop, .int .u32 s.count, .int .u32 s.last, .bool s.dropping, .int .i64 now, .int .i64 tg, .int .i64 iv, .int .i64 s.bytes, .slice a len cap, .int .i64 s.pos]

section
variable {now tg iv : Int} {a : Option Addr} {cap : Nat} {l : List (Int × Int)} {s : CSt} {h : Heap} {b : Nat} {T : TypeId}
theorem look_c (hE : CEn now tg iv l) (hb : Blk h b (stV now tg iv a l.length cap s) T) (hs : Itm h a l) (hne : l ≠ [] → b ∉ blkOf a)
    (f0 : 0 ≤ s.first) (f1 : s.first ≤ 2251799813685248) (b0 : -1152921504606846976 ≤ s.bytes) (b1 : s.bytes ≤ 1152921504606846976) :
    Runs Tryd.prog 91 #[.pointer (some ⟨b, 0, none⟩)] h fun v h' =>
      v = .tuple #[.bool (lookZ now tg iv l s).2.1, .bool (lookZ now tg iv l s).2.2] ∧ Mem h h' [b] [(b, stV now tg iv a l.length cap (lookZ now tg iv l s).1, T)] := by
  obtain ⟨n0, n1, t0, t1, i0, i1, len, ia⟩ := hE
  refine vc_codel_state_look _ _ _ ?_
  simp only [onAddr, Nat.zero_add]
  have m := Mem.start1 hb
  unfold stV at m
  refine ⟨_, Mem.cell m 0 rfl rfl, ?_⟩
  refine ⟨_, _, _, Mem.cell m 0 rfl rfl, ?_⟩
  refine dcase_intro (fun c => ?_) fun c => ?_
  · (refine Mem.store m 0 rfl (by simp only [List.length]; decide) ?_; clear m; intro _ m; simp only [List.set_cons_zero, List.set_cons_succ] at m)
    have e : l[s.pos]? = none := List.getElem?_eq_none (by omega)
    refine ⟨by simp only [lookZ, e], ?_⟩
    simp only [lookZ, e]; exact m
  · have hlt : s.pos < l.length := by omega
    obtain ⟨x, hx⟩ : ∃ x, l[s.pos]? = some x := ⟨_, List.getElem?_eq_getElem hlt⟩
    obtain ⟨x0, x1, x2⟩ := ia x (List.mem_of_getElem? hx)
    obtain ⟨ba, oa, rfl, hrow⟩ := hs _ _ hx
    refine ⟨_, _, _, Mem.cell m 0 rfl rfl, ?_⟩
    refine ⟨_, Mem.cell m 0 rfl rfl, ?_⟩
    refine ⟨⟨by omega, by omega⟩, ?_⟩
    simp only [Int.toNat_natCast]
    refine ⟨_, hrow, ?_⟩
    intro b7 h2 e7 e8
    replace m := m.push e8 e7
    refine ⟨⟨rfl, (m.blk 0 rfl).wrs (by decide), by simp [Value.oneCell']⟩, ?_⟩
    intro h3 e9
    replace m := m.setr 0 rfl e9
    simp only [List.set_cons_zero, List.set_cons_succ, setL] at m
    refine ⟨_, Mem.cell m 1 rfl rfl, ?_⟩
    refine ⟨_, Mem.cell m 0 rfl rfl, ?_⟩
    refine ⟨by simp only [fits]; omega, ?_⟩
    (refine Mem.store m 1 rfl (by simp only [List.length]; decide) ?_; clear m; intro _ m; simp only [List.set_cons_zero, List.set_cons_succ] at m)
    refine ⟨_, Mem.cell m 1 rfl rfl, ?_⟩
    refine ⟨_, Mem.cell m 0 rfl rfl, ?_⟩
    refine ⟨by simp only [fits]; omega, ?_⟩
    refine ⟨_, Mem.cell m 1 rfl rfl, ?_⟩
    refine dcase_intro (fun c1 => ?_) fun c1 => ?_
    · (refine Mem.store m 1 rfl (by simp only [List.length]; decide) ?_; clear m; intro _ m; simp only [List.set_cons_zero, List.set_cons_succ] at m)
      simp only [lookZ, hx]
      rw [if_pos (.inl c1)]
      exact ⟨rfl, m.forget 0⟩
    · refine ⟨_, Mem.cell m 1 rfl rfl, ?_⟩
      refine dcase_intro (fun c2 => ?_) fun c2 => ?_
      · (refine Mem.store m 1 rfl (by simp only [List.length]; decide) ?_; clear m; intro _ m; simp only [List.set_cons_zero, List.set_cons_succ] at m)
        simp only [lookZ, hx]
        rw [if_pos (.inr c2)]
        exact ⟨rfl, m.forget 0⟩
      · refine ⟨_, Mem.cell m 1 rfl rfl, ?_⟩
        simp only [lookZ, hx]
        rw [if_neg (by omega)]
        refine dcase_intro (fun c3 => ?_) fun c3 => ?_
        · refine ⟨_, Mem.cell m 1 rfl rfl, ?_⟩
          refine ⟨_, Mem.cell m 1 rfl rfl, ?_⟩
          refine ⟨by simp only [fits]; omega, ?_⟩
          (refine Mem.store m 1 rfl (by simp only [List.length]; decide) ?_; clear m; intro _ m; simp only [List.set_cons_zero, List.set_cons_succ] at m)
          rw [if_pos c3]
          exact ⟨rfl, m.forget 0⟩
        · refine ⟨_, Mem.cell m 1 rfl rfl, ?_⟩
          refine ⟨_, Mem.cell m 1 rfl rfl, ?_⟩
          rw [if_neg c3]
          exact ⟨rfl, m.forget 0⟩
theorem reflook_c (hE : CEn now tg iv l) (hb : Blk h b (stV now tg iv a l.length cap s) T) (hs : Itm h a l) (hne : l ≠ [] → b ∉ blkOf a)
    (f0 : 0 ≤ s.first) (f1 : s.first ≤ 2251799813685248) (b0 : -1152921504606846976 ≤ s.bytes) (b1 : s.bytes ≤ 1152921504606846976) :
    Runs Tryd.prog 84 #[.pointer (some ⟨b, 0, none⟩)] h fun v h' =>
      v = .tuple #[.bool (lookZ now tg iv l s).2.1, .bool (lookZ now tg iv l s).2.2] ∧ Mem h h' [b] [(b, stV now tg iv a l.length cap (lookZ now tg iv l s).1, T)] := by
  obtain ⟨n0, n1, t0, t1, i0, i1, len, ia⟩ := hE
  refine vc_muezzinref8_pull_look _ _ _ ?_
  simp only [onAddr, Nat.zero_add]
  have m := Mem.start1 hb
  unfold stV at m
  refine ⟨_, Mem.cell m 0 rfl rfl, ?_⟩
  refine ⟨_, _, _, Mem.cell m 0 rfl rfl, ?_⟩
  refine dcase_intro (fun c => ?_) fun c => ?_
  · (refine Mem.store m 0 rfl (by simp only [List.length]; decide) ?_; clear m; intro _ m; simp only [List.set_cons_zero, List.set_cons_succ] at m)
    have e : l[s.pos]? = none := List.getElem?_eq_none (by omega)
    refine ⟨by simp only [lookZ, e], ?_⟩
    simp only [lookZ, e]; exact m
  · have hlt : s.pos < l.length := by omega
    obtain ⟨x, hx⟩ : ∃ x, l[s.pos]? = some x := ⟨_, List.getElem?_eq_getElem hlt⟩
    obtain ⟨x0, x1, x2⟩ := ia x (List.mem_of_getElem? hx)
    obtain ⟨ba, oa, rfl, hrow⟩ := hs _ _ hx
    have hc0 := (row_iff.1 hrow).2 0 _ rfl
    have hc1 := (row_iff.1 hrow).2 1 _ rfl
    simp only [Nat.add_zero] at hc0
    have hba : ba ≠ b := fun e => hne (by rintro rfl; simp at hx) (by simp [blkOf, e])
    refine ⟨_, Mem.cell m 0 rfl rfl, ?_⟩
    refine ⟨_, _, _, Mem.cell m 0 rfl rfl, ?_⟩
    refine ⟨_, Mem.cell m 0 rfl rfl, ?_⟩
    refine ⟨⟨by omega, by omega⟩, ?_⟩
    simp only [Int.toNat_natCast]
    refine ⟨_, hc1, by simp only [fits]; omega, ?_⟩
    (refine Mem.store m 0 rfl (by simp only [List.length]; decide) ?_; clear m; intro _ m; simp only [List.set_cons_zero, List.set_cons_succ] at m)
    refine ⟨_, Mem.cell m 0 rfl rfl, ?_⟩
    refine ⟨_, _, _, Mem.cell m 0 rfl rfl, ?_⟩
    refine ⟨_, Mem.cell m 0 rfl rfl, ?_⟩
    refine ⟨⟨by omega, by omega⟩, ?_⟩
    simp only [Int.toNat_natCast]
    refine ⟨_, m.cell_old (by simpa using hba) hc0, by simp only [fits]; omega, ?_⟩
    refine ⟨_, Mem.cell m 0 rfl rfl, ?_⟩
    refine dcase_intro (fun c1 => ?_) fun c1 => ?_
    · (refine Mem.store m 0 rfl (by simp only [List.length]; decide) ?_; clear m; intro _ m; simp only [List.set_cons_zero, List.set_cons_succ] at m)
      simp only [lookZ, hx]
      rw [if_pos (.inl c1)]
      exact ⟨rfl, m⟩
    · refine ⟨_, Mem.cell m 0 rfl rfl, ?_⟩
      refine dcase_intro (fun c2 => ?_) fun c2 => ?_
      · (refine Mem.store m 0 rfl (by simp only [List.length]; decide) ?_; clear m; intro _ m; simp only [List.set_cons_zero, List.set_cons_succ] at m)
        simp only [lookZ, hx]
        rw [if_pos (.inr c2)]
        exact ⟨rfl, m⟩
      · refine ⟨_, Mem.cell m 0 rfl rfl, ?_⟩
        simp only [lookZ, hx]
        rw [if_neg (by omega)]
        refine dcase_intro (fun c3 => ?_) fun c3 => ?_
        · refine ⟨_, Mem.cell m 0 rfl rfl, ?_⟩
          refine ⟨_, Mem.cell m 0 rfl rfl, ?_⟩
          refine ⟨by simp only [fits]; omega, ?_⟩
          (refine Mem.store m 0 rfl (by simp only [List.length]; decide) ?_; clear m; intro _ m; simp only [List.set_cons_zero, List.set_cons_succ] at m)
          rw [if_pos c3]
          exact ⟨rfl, m⟩
        · refine ⟨_, Mem.cell m 0 rfl rfl, ?_⟩
          refine ⟨_, Mem.cell m 0 rfl rfl, ?_⟩
          rw [if_neg c3]
          exact ⟨rfl, m⟩
theorem apart1 (hne : l ≠ [] → b ∉ blkOf a) : l ≠ [] → ∀ c ∈ blkOf a, c ∉ [b] := fun hl c hc hcb => hne hl (by simp at hcb; exact hcb ▸ hc)
theorem COk.look (hE : CEn now tg iv l) (hk : COk l s) (hp : s.pos + 1 ≤ l.length) : COk l (lookZ now tg iv l { s with pos := s.pos + 1, count := upC s.count }).1 := by
  obtain ⟨e1, e2, e3, e4, e5⟩ := lookZ_same now tg iv l { s with pos := s.pos + 1, count := upC s.count }
  obtain ⟨f0, f1⟩ := lookZ_first (s := { s with pos := s.pos + 1, count := upC s.count }) hE hk.f0 hk.f1
  obtain ⟨b0, b1⟩ := lookZ_bytes (s := { s with pos := s.pos + 1, count := upC s.count }) hE
  obtain ⟨u0, u1⟩ := upC_ok hk.c0 hk.c1
  have := hk.b0
  have := hk.b1
  dsimp only at *
  exact ⟨f0, f1, by rw [e1]; exact hk.d0, by rw [e1]; exact hk.d1, by rw [e2]; exact u0, by rw [e2]; exact u1, by rw [e3]; exact hk.l0, by rw [e3]; exact hk.l1, by rw [e5]; omega, by omega, by rw [e5]; omega⟩
def posOf (h : Heap) (b : Nat) : Nat := match cell h b 10 with | some (.int _ n) => n.toNat | _ => 0
theorem more_c (hE : CEn now tg iv l) (hb : Blk h b (stV now tg iv a l.length cap s) T) (hs : Itm h a l) (hne : l ≠ [] → b ∉ blkOf a) (hk : COk l s) (hp : s.pos < l.length) :
    Runs Tryd.prog 92 #[.pointer (some ⟨b, 0, none⟩)] h fun v h' =>
      v = .bool (moreZ now tg iv l (l.length + 1) s true).2 ∧ Mem h h' [b] [(b, stV now tg iv a l.length cap (moreZ now tg iv l (l.length + 1) s true).1, T)] := by
  refine vc_codel_state_more _ _ _ ?_
  simp only [onAddr, Nat.zero_add]
  refine ⟨fun is h1 => ∃ t n, Mem h h1 [b] [(b, stV now tg iv a l.length cap t, T)] ∧ COk l t ∧ (t.dropping = true → t.pos < l.length) ∧ l.length + 1 ≤ n + t.pos ∧ moreZ now tg iv l n t is = moreZ now tg iv l (l.length + 1) s true,
    fun _ h1 => l.length + 1 - posOf h1 b, ⟨s, l.length + 1, Mem.start1 hb, hk, fun _ => hp, by omega, rfl⟩, fun _ => ?_⟩
  rintro is h1 ⟨t, n, m, kt, kp, kn, kr⟩
  rw [← kr]
  clear kr
  have hpos : posOf h1 b = t.pos := by unfold posOf; rw [m.cell (o := 10) 0 rfl rfl]; rfl
  dsimp only
  rw [hpos]
  have len := hE.len
  unfold stV at m
  refine ⟨_, Mem.cell m 0 rfl rfl, ?_⟩
  refine ⟨_, Mem.cell m 0 rfl rfl, ?_⟩
  have fin : ¬ (t.drop ≤ now ∧ t.dropping = true) → moreZ now tg iv l n t is = (t, is) := fun hc => by
    cases n with
    | zero => rfl
    | succ n => simp only [moreZ]; rw [if_neg hc]
  refine dcase_intro (fun c => ?_) fun c => ?_
  · refine ⟨_, Mem.cell m 0 rfl rfl, ?_⟩
    refine bcase_intro (fun c2 => ?_) fun c2 => ?_
    · have hlt := kp c2
      obtain ⟨n, rfl⟩ : ∃ k, n = k + 1 := ⟨n - 1, by omega⟩
      simp only [moreZ]
      rw [if_pos ⟨c, c2⟩]
      obtain ⟨e1, e2, e3, e4, e5⟩ := lookZ_same now tg iv l { t with pos := t.pos + 1, count := upC t.count }
      have hk2 := kt.look hE (by omega)
      have his := lookZ_is now tg iv l { t with pos := t.pos + 1, count := upC t.count }
      have hla := lookZ_late now tg iv l { t with pos := t.pos + 1, count := upC t.count }
      refine ⟨_, Mem.cell m 0 rfl rfl, ?_⟩
      refine ⟨by simp only [fits]; omega, ?_⟩
      (refine Mem.store m 0 rfl (by simp only [List.length]; decide) ?_; clear m; intro _ m; simp only [List.set_cons_zero, List.set_cons_succ] at m)
      refine ⟨fun h' => Mem h h' [b] [(b, stV now tg iv a l.length cap { t with pos := t.pos + 1, count := upC t.count }, T)], ?_, fun _ => ?_⟩
      · refine ⟨_, Mem.cell m 0 rfl rfl, ?_⟩
        refine dcase_intro (fun c3 => ?_) fun c3 => ?_
        · refine ⟨_, Mem.cell m 0 rfl rfl, ?_⟩
          refine ⟨by simp only [fits]; have := kt.c0; omega, ?_⟩
          (refine Mem.store m 0 rfl (by simp only [List.length]; decide) ?_; clear m; intro _ m; simp only [List.set_cons_zero, List.set_cons_succ] at m)
          unfold upC; rw [if_pos c3]; exact m
        · unfold upC; rw [if_neg c3]; exact m
      · clear m
        intro h4 m
        have b0 := kt.b0
        have b1 := kt.b1
        refine (look_c hE (m.blk 0 rfl) (hs.mem m (apart1 hne)) hne kt.f0 kt.f1 (by simp; omega) (by simp; omega)).mono ?_
        rintro _ h5 ⟨rfl, m'⟩
        replace m := m.call1 0 rfl m' 0 rfl
        clear m'
        simp only [List.set_cons_zero] at m
        generalize lookZ now tg iv l { t with pos := t.pos + 1, count := upC t.count } = r at *
        obtain ⟨u, i2, l2⟩ := r
        dsimp only at *
        refine ⟨_, _, rfl, ?_⟩
        unfold stV at m
        have hfalse : ∀ h6, Mem h h6 [b] [(b, stV now tg iv a l.length cap { u with dropping := false }, T)] → ¬ (i2 = true ∧ l2 = true) →
            (∃ t' n', Mem h h6 [b] [(b, stV now tg iv a l.length cap t', T)] ∧ COk l t' ∧ (t'.dropping = true → t'.pos < l.length) ∧ l.length + 1 ≤ n' + t'.pos ∧ moreZ now tg iv l n' t' i2 = (if i2 = true ∧ l2 = true then moreZ now tg iv l n { u with drop := nextZ u.drop iv u.count.toNat } i2 else moreZ now tg iv l n { u with dropping := false } i2)) ∧ l.length + 1 - posOf h6 b < l.length + 1 - t.pos := by
          intro h6 m6 hn
          refine ⟨⟨{ u with dropping := false }, n, m6, ⟨hk2.f0, hk2.f1, hk2.d0, hk2.d1, hk2.c0, hk2.c1, hk2.l0, hk2.l1, hk2.b0, hk2.b1, hk2.p⟩, fun hf => (by cases hf), by simp; omega, by rw [if_neg hn]⟩, ?_⟩
          have : posOf h6 b = u.pos := by unfold posOf; rw [m6.cell (o := 10) 0 rfl rfl]; rfl
          rw [this]; omega
        refine bcase_intro (fun c4 => ?_) fun c4 => ?_
        · (refine Mem.store m 0 rfl (by simp only [List.length]; decide) ?_; clear m; intro _ m; simp only [List.set_cons_zero, List.set_cons_succ] at m)
          exact hfalse _ m (by simp at c4; simp [c4])
        · refine bcase_intro (fun c5 => ?_) fun c5 => ?_
          · (refine Mem.store m 0 rfl (by simp only [List.length]; decide) ?_; clear m; intro _ m; simp only [List.set_cons_zero, List.set_cons_succ] at m)
            exact hfalse _ m (by simp at c5; simp [c5])
          · refine ⟨_, Mem.cell m 0 rfl rfl, ?_⟩
            refine ⟨_, Mem.cell m 0 rfl rfl, ?_⟩
            refine ⟨_, Mem.cell m 0 rfl rfl, ?_⟩
            refine (next_c _ _ _ _ hk2.c0 hk2.c1).ret ⟨_, rfl, ?_⟩
            (refine Mem.store m 0 rfl (by simp only [List.length]; decide) ?_; clear m; intro _ m; simp only [List.set_cons_zero, List.set_cons_succ] at m)
            obtain ⟨z0, z1⟩ := nextZ_ok u.drop iv u.count.toNat
            have hi2 : i2 = true := by simpa using c4
            refine ⟨⟨{ u with drop := nextZ u.drop iv u.count.toNat }, n, m, ⟨hk2.f0, hk2.f1, z0, z1, hk2.c0, hk2.c1, hk2.l0, hk2.l1, hk2.b0, hk2.b1, hk2.p⟩, fun _ => ?_, by simp; omega, by rw [if_pos (by simp at c4 c5; simp [c4, c5])]⟩, ?_⟩
            · rw [hi2] at his; simp at his ⊢; omega
            · have : posOf ‹_› b = u.pos := by unfold posOf; rw [m.cell (o := 10) 0 rfl rfl]; rfl
              rw [this]; omega
    · rw [fin (by simp [c2])]
      exact ⟨rfl, m⟩
  · rw [fin (by simp; omega)]
    exact ⟨rfl, m⟩
theorem wrap_u32 (n : Int) : IntKind.u32.wrap n = wrap32 n := by
  unfold IntKind.wrap wrap32
  rw [show IntKind.u32.signed = false from rfl]; rfl
theorem deltaZ_ok (now iv : Int) (t : CSt) : 0 ≤ deltaZ now iv t ∧ deltaZ now iv t < 4294967296 := by
  unfold deltaZ wrap32; split <;> omega
theorem begins_c (hE : CEn now tg iv l) (hb : Blk h b (stV now tg iv a l.length cap s) T) (hs : Itm h a l) (hne : l ≠ [] → b ∉ blkOf a) (hk : COk l s) (hp : s.pos < l.length) :
    Runs Tryd.prog 93 #[.pointer (some ⟨b, 0, none⟩)] h fun v h' =>
      v = .bool (beginsZ now tg iv l s).2 ∧ Mem h h' [b] [(b, stV now tg iv a l.length cap (beginsZ now tg iv l s).1, T)] := by
  refine vc_codel_state_begins _ _ _ ?_
  simp only [onAddr, Nat.zero_add]
  have m := Mem.start1 hb
  have len := hE.len
  unfold stV at m
  refine ⟨_, Mem.cell m 0 rfl rfl, ?_⟩
  refine ⟨by simp only [fits]; omega, ?_⟩
  (refine Mem.store m 0 rfl (by simp only [List.length]; decide) ?_; clear m; intro _ m; simp only [List.set_cons_zero, List.set_cons_succ] at m)
  have b0 := hk.b0
  have b1 := hk.b1
  replace m : Mem h _ [b] [(b, stV now tg iv a l.length cap { s with pos := s.pos + 1 }, T)] := m
  refine (look_c hE (m.blk 0 rfl) (hs.mem m (apart1 hne)) hne hk.f0 hk.f1 (by simp; omega) (by simp; omega)).mono ?_
  rintro _ h5 ⟨rfl, m'⟩
  replace m := m.call1 0 rfl m' 0 rfl
  clear m'
  simp only [List.set_cons_zero] at m
  unfold beginsZ
  obtain ⟨e1, e2, e3, e4, e5⟩ := lookZ_same now tg iv l { s with pos := s.pos + 1 }
  generalize lookZ now tg iv l { s with pos := s.pos + 1 } = r at *
  obtain ⟨t, i2, l2⟩ := r
  dsimp only at *
  refine ⟨_, _, rfl, ?_⟩
  unfold stV at m
  (refine Mem.store m 0 rfl (by simp only [List.length]; decide) ?_; clear m; intro _ m; simp only [List.set_cons_zero, List.set_cons_succ] at m)
  refine ⟨_, Mem.cell m 0 rfl rfl, ?_⟩
  refine ⟨_, Mem.cell m 0 rfl rfl, ?_⟩
  rw [wrap_u32]
  (refine Mem.store m 0 rfl (by simp only [List.length]; decide) ?_; clear m; intro _ m; simp only [List.set_cons_zero, List.set_cons_succ] at m)
  have d0 := hk.d0
  have d1 := hk.d1
  have n0 := hE.n0
  have n1 := hE.n1
  have i0 := hE.i0
  have i1 := hE.i1
  refine ⟨fun h' => Mem h h' [b] [(b, stV now tg iv a l.length cap { t with dropping := true, count := deltaZ now iv t }, T)], ?_, fun _ => ?_⟩
  · unfold deltaZ
    refine dcase_intro (fun c => ?_) fun c => ?_
    · refine ⟨_, Mem.cell m 0 rfl rfl, ?_⟩
      refine ⟨_, Mem.cell m 0 rfl rfl, ?_⟩
      refine ⟨by simp only [fits]; omega, ?_⟩
      refine ⟨_, Mem.cell m 0 rfl rfl, ?_⟩
      refine ⟨by simp only [fits]; omega, ?_⟩
      refine dcase_intro (fun c2 => ?_) fun c2 => ?_
      · (refine Mem.store m 0 rfl (by simp only [List.length]; decide) ?_; clear m; intro _ m; simp only [List.set_cons_zero, List.set_cons_succ] at m)
        rw [if_pos ⟨c, c2⟩]; exact m
      · rw [if_neg (by omega)]; exact m
    · rw [if_neg (by omega)]; exact m
  · clear m
    intro h6 m
    unfold stV at m
    obtain ⟨z0, z1⟩ := deltaZ_ok now iv t
    refine ⟨_, Mem.cell m 0 rfl rfl, ?_⟩
    (refine Mem.store m 0 rfl (by simp only [List.length]; decide) ?_; clear m; intro _ m; simp only [List.set_cons_zero, List.set_cons_succ] at m)
    refine ⟨_, Mem.cell m 0 rfl rfl, ?_⟩
    refine ⟨_, Mem.cell m 0 rfl rfl, ?_⟩
    refine ⟨_, Mem.cell m 0 rfl rfl, ?_⟩
    refine (next_c _ _ _ _ z0 z1).ret ⟨_, rfl, ?_⟩
    (refine Mem.store m 0 rfl (by simp only [List.length]; decide) ?_; clear m; intro _ m; simp only [List.set_cons_zero, List.set_cons_succ] at m)
    exact ⟨rfl, m⟩
theorem COk.first (hE : CEn now tg iv l) (f0 : 0 ≤ s.first) (f1 : s.first ≤ 2251799813685248) (d0 : 0 ≤ s.drop) (d1 : s.drop ≤ 2251799813685248) (c0 : 0 ≤ s.count) (c1 : s.count < 4294967296) (l0 : 0 ≤ s.last) (l1 : s.last < 4294967296)
    (b0 : 0 ≤ s.bytes) (b1 : s.bytes ≤ 1099511627776) (hp : s.pos = 0) : COk l (lookZ now tg iv l s).1 := by
  obtain ⟨e1, e2, e3, e4, e5⟩ := lookZ_same now tg iv l s
  obtain ⟨g0, g1⟩ := lookZ_first (s := s) hE f0 f1
  obtain ⟨k0, k1⟩ := lookZ_bytes (s := s) hE
  exact ⟨g0, g1, by rw [e1]; exact d0, by rw [e1]; exact d1, by rw [e2]; exact c0, by rw [e2]; exact c1, by rw [e3]; exact l0, by rw [e3]; exact l1, by rw [e5]; omega, by omega, by rw [e5]; omega⟩
/-- What a state may be ahead of a pull. -/
structure CIn (s : CSt) : Prop where
  f0 : 0 ≤ s.first
  f1 : s.first ≤ 2251799813685248
  d0 : 0 ≤ s.drop
  d1 : s.drop ≤ 2251799813685248
  c0 : 0 ≤ s.count
  c1 : s.count < 4294967296
  l0 : 0 ≤ s.last
  l1 : s.last < 4294967296
  b0 : 0 ≤ s.bytes
  b1 : s.bytes ≤ 1099511627776
  p : s.pos = 0
theorem CIn.ok (hE : CEn now tg iv l) (hk : CIn s) : COk l (lookZ now tg iv l s).1 := COk.first hE hk.f0 hk.f1 hk.d0 hk.d1 hk.c0 hk.c1 hk.l0 hk.l1 hk.b0 hk.b1 hk.p
theorem run_c (hE : CEn now tg iv l) (hb : Blk h b (stV now tg iv a l.length cap s) T) (hs : Itm h a l) (hne : l ≠ [] → b ∉ blkOf a) (hk : CIn s) :
    Runs Tryd.prog 86 #[.pointer (some ⟨b, 0, none⟩)] h fun v h' =>
      v = .bool (runZ now tg iv l s).2 ∧ Mem h h' [b] [(b, stV now tg iv a l.length cap (runZ now tg iv l s).1, T)] := by
  refine vc_codel_state_run _ _ _ ?_
  simp only [onAddr, Nat.zero_add]
  have m := Mem.start1 hb
  have len := hE.len
  have b0 := hk.b0
  have b1 := hk.b1
  refine (look_c hE (m.blk 0 rfl) (hs.mem m (apart1 hne)) hne hk.f0 hk.f1 (by omega) (by omega)).mono ?_
  rintro _ h5 ⟨rfl, m'⟩
  replace m := m.call1 0 rfl m' 0 rfl
  clear m'
  simp only [List.set_cons_zero] at m
  unfold runZ
  have hk2 := hk.ok hE
  obtain ⟨e1, e2, e3, e4, e5⟩ := lookZ_same now tg iv l s
  have his := lookZ_is now tg iv l s
  generalize lookZ now tg iv l s = r at *
  obtain ⟨t, i2, l2⟩ := r
  dsimp only at *
  refine ⟨_, _, rfl, ?_⟩
  refine bcase_intro (fun c => ?_) fun c => ?_
  · unfold stV at m
    (refine Mem.store m 0 rfl (by simp only [List.length]; decide) ?_; clear m; intro _ m; simp only [List.set_cons_zero, List.set_cons_succ] at m)
    rw [if_pos (by simpa using c)]
    exact ⟨rfl, m⟩
  · have hi2 : i2 = true := by simpa using c
    rw [if_neg (by simp [hi2])]
    have hlt : t.pos < l.length := by rw [hi2] at his; simp at his; omega
    have more : t.dropping = true → l2 = true → Runs Tryd.prog 92 #[.pointer (some ⟨b, 0, none⟩)] h5 fun r2 h4 => ∃ t5 : Bool, r2 = (.bool t5) ∧
        (Value.bool t5 = Value.bool (if t.dropping = true then if l2 = false then ({ t with dropping := false }, true) else moreZ now tg iv l (l.length + 1) t true else if l2 = true then beginsZ now tg iv l t else (t, true)).2 ∧
         Mem h h4 [b] [(b, stV now tg iv a l.length cap (if t.dropping = true then if l2 = false then ({ t with dropping := false }, true) else moreZ now tg iv l (l.length + 1) t true else if l2 = true then beginsZ now tg iv l t else (t, true)).1, T)]) := by
      intro hd hl
      refine (more_c hE (m.blk 0 rfl) (hs.mem m (apart1 hne)) hne hk2 hlt).mono ?_
      rintro _ h4 ⟨rfl, m'⟩
      replace m := m.call1 0 rfl m' 0 rfl
      simp only [List.set_cons_zero] at m
      rw [if_pos hd, if_neg (by simp [hl])]
      exact ⟨_, rfl, rfl, m⟩
    have fin : t.dropping = false → bcase l2 (Runs Tryd.prog 93 #[.pointer (some ⟨b, 0, none⟩)] h5 fun r2 h4 => ∃ t5 : Bool, r2 = (.bool t5) ∧
        (Value.bool t5 = Value.bool (if t.dropping = true then if l2 = false then ({ t with dropping := false }, true) else moreZ now tg iv l (l.length + 1) t true else if l2 = true then beginsZ now tg iv l t else (t, true)).2 ∧
         Mem h h4 [b] [(b, stV now tg iv a l.length cap (if t.dropping = true then if l2 = false then ({ t with dropping := false }, true) else moreZ now tg iv l (l.length + 1) t true else if l2 = true then beginsZ now tg iv l t else (t, true)).1, T)]))
        (Value.bool true = Value.bool (if t.dropping = true then if l2 = false then ({ t with dropping := false }, true) else moreZ now tg iv l (l.length + 1) t true else if l2 = true then beginsZ now tg iv l t else (t, true)).2 ∧
         Mem h h5 [b] [(b, stV now tg iv a l.length cap (if t.dropping = true then if l2 = false then ({ t with dropping := false }, true) else moreZ now tg iv l (l.length + 1) t true else if l2 = true then beginsZ now tg iv l t else (t, true)).1, T)]) := by
      intro hd
      rw [if_neg (by simp [hd])]
      refine bcase_intro (fun c3 => ?_) fun c3 => ?_
      · refine (begins_c hE (m.blk 0 rfl) (hs.mem m (apart1 hne)) hne hk2 hlt).mono ?_
        rintro _ h4 ⟨rfl, m'⟩
        replace m := m.call1 0 rfl m' 0 rfl
        simp only [List.set_cons_zero] at m
        rw [if_pos c3]
        exact ⟨_, rfl, rfl, m⟩
      · rw [if_neg (by simp [c3])]
        exact ⟨rfl, m⟩
    have m2 := m
    unfold stV at m
    refine ⟨_, Mem.cell m 0 rfl rfl, ?_⟩
    refine bcase_intro (fun c2 => ?_) fun c2 => ?_
    · refine bcase_intro (fun c3 => ?_) fun c3 => ?_
      · (refine Mem.store m 0 rfl (by simp only [List.length]; decide) ?_; clear m; intro _ m; simp only [List.set_cons_zero, List.set_cons_succ] at m)
        rw [if_pos c2, if_pos (by simpa using c3)]
        exact ⟨rfl, m⟩
      · refine ⟨_, Mem.cell m 0 rfl rfl, ?_⟩
        exact bcase_true c2 (more c2 (by simpa using c3))
    · refine ⟨_, Mem.cell m 0 rfl rfl, ?_⟩
      exact bcase_false c2 (fin c2)
def cV (s : CSt) : List Value := [.int .i64 s.first, .int .i64 s.drop, .int .u32 s.count, .int .u32 s.last, .bool s.dropping]
end
def outV (t : CSt) (pos : Int) (is : Bool) : Value := .tuple #[.agg (cV t).toArray, .int .i64 pos, .bool is]
section
variable {now target interval bytes : Int} {a : Option Addr} {cap : Nat} {l : List (Int × Int)} {c : CSt} {h : Heap}
theorem pull_c (hE : CEn now (clampZ target 1073741824) (clampZ interval 1073741824) l) (hs : Itm h a l) (hk : CIn { c with bytes := bytes, pos := 0 }) :
    Runs Tryd.prog 77 #[.agg (cV c).toArray, .int .i64 now, .int .i64 target, .int .i64 interval, .int .i64 bytes, .slice a l.length cap] h fun v h' =>
      v = outV (runZ now (clampZ target 1073741824) (clampZ interval 1073741824) l { c with bytes := bytes, pos := 0 }).1
        (runZ now (clampZ target 1073741824) (clampZ interval 1073741824) l { c with bytes := bytes, pos := 0 }).1.pos
        (runZ now (clampZ target 1073741824) (clampZ interval 1073741824) l { c with bytes := bytes, pos := 0 }).2 ∧ Kept h h' := by
  refine vc_codel_Codel_Pull _ _ _ _ _ _ _ _ _ _ ?_
  intro b1 h1 e1 e2 b2 h2 e3 e4
  have m := ((Mem.start h).push e2 e1).push e4 e3
  unfold cV at m
  refine ⟨_, (m.blk 1 rfl).row_eq rfl (Nat.le_of_ble_eq_true rfl), rfl, ?_⟩
  intro b3 h3 e5 e6
  replace m := m.push e6 e5
  have hblk := m.blk 0 rfl
  have hlt3 : h.size ≤ b3 := by subst e1 e2 e3 e4 e5; simp; omega
  have hne : l ≠ [] → b3 ∉ blkOf a := fun hl hb => by have := hs.lt hl _ hb; omega
  refine (run_c hE (s := { c with bytes := bytes, pos := 0 }) (cap := cap) (T := _) hblk (hs.mem m (by simp)) hne hk).mono ?_
  rintro _ h4 ⟨rfl, m'⟩
  replace m := m.call1 0 rfl m' 0 rfl
  clear m' hblk
  generalize runZ now (clampZ target 1073741824) (clampZ interval 1073741824) l { c with bytes := bytes, pos := 0 } = r at *
  obtain ⟨t, is⟩ := r
  dsimp only at *
  simp only [List.set_cons_zero] at m
  unfold stV at m
  refine ⟨_, rfl, _, (m.blk 0 rfl).row_eq rfl (Nat.le_of_ble_eq_true rfl), ?_⟩
  refine ⟨_, Mem.cell m 0 rfl rfl, ?_⟩
  refine ⟨⟨rfl, (m.blk 1 rfl).wrs (by decide), by simp [Value.oneCell']⟩, ?_⟩
  intro h5 e7
  replace m := m.setr 1 rfl e7
  simp only [List.set_cons_zero, List.set_cons_succ, setL, List.drop_zero, List.take_succ_cons, List.take_zero] at m
  refine ⟨m.cell 0 rfl rfl, _, (m.blk 1 rfl).row_eq rfl (Nat.le_of_ble_eq_true rfl), ?_⟩
  exact ⟨rfl, m.kept⟩
theorem refclamp_c (n hi : Int) (h : Heap) : Runs Tryd.prog 83 #[.int .i64 n, .int .i64 0, .int .i64 hi] h fun v h' => v = .int .i64 (clampZ n hi) ∧ h' = h := vc_muezzinref8_clamp _ _ _ _ _ ⟨rfl, rfl⟩
theorem refret {now tg iv : Int} {h' : Heap} {b2 b3 : Nat} {T2 T3 : TypeId} {t : CSt} {is : Bool} {z0 z1 z2 z3 z4 : Value} {len : Nat} {L : List (Nat × List Value × TypeId)} {R : CSt × Bool}
    (m : Mem h h' [] ((b3, stV now tg iv a len cap t, T3) :: (b2, [z0, z1, z2, z3, z4], T2) :: L)) (hR : R = (t, is)) :
    ∃ cs6 : List Value, row h' b3 0 5 = some cs6 ∧
    ∃ n12 : Int, cell h' b3 10 = some (.int .i64 n12) ∧
    (((cs6)).length = 5 ∧ wrs h' b2 0 5 ∧ ∀ u ∈ ((cs6) : List Value), u.oneCell' = true) ∧ ∀ h20 : Heap, h20 = setr h' b2 0 (cs6) →
    cell h20 b3 10 = some (.int .i64 n12) ∧
    ∃ cs7 : List Value, row h20 b2 0 5 = some cs7 ∧
    ((.tuple #[(.agg (cs7).toArray), (.int .i64 n12), (.bool is)] : Value) = outV R.1 R.1.pos R.2 ∧ Kept h h20) := by
  subst hR
  unfold stV at m
  refine ⟨_, (m.blk 0 rfl).row_eq rfl (Nat.le_of_ble_eq_true rfl), ?_⟩
  refine ⟨_, Mem.cell m 0 rfl rfl, ?_⟩
  refine ⟨⟨rfl, (m.blk 1 rfl).wrs (Nat.le_of_ble_eq_true rfl), by simp [Value.oneCell']⟩, ?_⟩
  intro h5 e7
  replace m := m.setr 1 rfl e7
  simp only [List.set_cons_zero, List.set_cons_succ, setL, List.drop_zero, List.take_succ_cons, List.take_zero] at m
  exact ⟨m.cell 0 rfl rfl, _, (m.blk 1 rfl).row_eq rfl (Nat.le_of_ble_eq_true rfl), rfl, m.kept⟩
theorem refret0 {now tg iv : Int} {h' : Heap} {b2 b3 : Nat} {T2 T3 : TypeId} {t : CSt} {is : Bool} {z0 z1 z2 z3 z4 : Value} {len : Nat} {L : List (Nat × List Value × TypeId)} {R : CSt × Bool}
    (m : Mem h h' [] ((b3, stV now tg iv a len cap t, T3) :: (b2, [z0, z1, z2, z3, z4], T2) :: L)) (hR : R = (t, is)) (hp : t.pos = 0) :
    ∃ cs6 : List Value, row h' b3 0 5 = some cs6 ∧
    (((cs6)).length = 5 ∧ wrs h' b2 0 5 ∧ ∀ u ∈ ((cs6) : List Value), u.oneCell' = true) ∧ ∀ h20 : Heap, h20 = setr h' b2 0 (cs6) →
    ∃ cs7 : List Value, row h20 b2 0 5 = some cs7 ∧
    ((.tuple #[(.agg (cs7).toArray), (.int .i64 (0 : Int)), (.bool is)] : Value) = outV R.1 R.1.pos R.2 ∧ Kept h h20) := by
  subst hR
  unfold stV at m
  refine ⟨_, (m.blk 0 rfl).row_eq rfl (Nat.le_of_ble_eq_true rfl), ?_⟩
  refine ⟨⟨rfl, (m.blk 1 rfl).wrs (Nat.le_of_ble_eq_true rfl), by simp [Value.oneCell']⟩, ?_⟩
  intro h5 e7
  replace m := m.setr 1 rfl e7
  simp only [List.set_cons_zero, List.set_cons_succ, setL, List.drop_zero, List.take_succ_cons, List.take_zero] at m
  exact ⟨_, (m.blk 1 rfl).row_eq rfl (Nat.le_of_ble_eq_true rfl), by simp [outV, cV, hp], m.kept⟩
theorem refpull_c (hE : CEn now (clampZ target 1073741824) (clampZ interval 1073741824) l) (hs : Itm h a l) (hk : CIn { c with bytes := bytes, pos := 0 }) :
    Runs Tryd.prog 72 #[.agg (cV c).toArray, .int .i64 now, .int .i64 target, .int .i64 interval, .int .i64 bytes, .slice a l.length cap] h fun v h' =>
      v = outV (runZ now (clampZ target 1073741824) (clampZ interval 1073741824) l { c with bytes := bytes, pos := 0 }).1
        (runZ now (clampZ target 1073741824) (clampZ interval 1073741824) l { c with bytes := bytes, pos := 0 }).1.pos
        (runZ now (clampZ target 1073741824) (clampZ interval 1073741824) l { c with bytes := bytes, pos := 0 }).2 ∧ Kept h h' := by
  refine vc_muezzinref8_Pull _ _ _ _ _ _ _ _ _ _ ?_
  intro b1 h1 e1 e2 b2 h2 e3 e4
  have m := ((Mem.start h).push e2 e1).push e4 e3
  unfold cV at m
  have hr0 := (m.blk 1 rfl).row_eq (n := 5) (o := 0) rfl (Nat.le_of_ble_eq_true rfl)
  refine ⟨_, hr0, (refclamp_c _ _ _).ret ⟨_, rfl, hr0, (refclamp_c _ _ _).ret ⟨_, rfl, hr0, rfl, ?_⟩⟩⟩
  intro b3 h3 e5 e6
  replace m := m.push e6 e5
  have hlt3 : h.size ≤ b3 := by subst e1 e2 e3 e4 e5; simp; omega
  have hne : l ≠ [] → b3 ∉ blkOf a := fun hl hb => by have := hs.lt hl _ hb; omega
  clear hr0 e1 e2 e3 e4 e5 e6
  have len := hE.len
  have kb0 := hk.b0
  have kb1 := hk.b1
  dsimp only at kb0 kb1
  replace m : Mem h h3 [] ((b3, stV now (clampZ target 1073741824) (clampZ interval 1073741824) a l.length cap { c with bytes := bytes, pos := 0 }, _) :: _) := m
  refine (reflook_c hE (m.blk 0 rfl) (hs.mem m (by simp)) hne hk.f0 hk.f1 (by dsimp only; omega) (by dsimp only; omega)).mono ?_
  rintro _ h6 ⟨rfl, m'⟩
  replace m := m.call1 0 rfl m' 0 rfl
  clear m'
  simp only [List.set_cons_zero] at m
  have hk2 := hk.ok hE
  obtain ⟨q1, q2, q3, q4, q5⟩ := lookZ_same now (clampZ target 1073741824) (clampZ interval 1073741824) l { c with bytes := bytes, pos := 0 }
  have his := lookZ_is now (clampZ target 1073741824) (clampZ interval 1073741824) l { c with bytes := bytes, pos := 0 }
  have hrun : runZ now (clampZ target 1073741824) (clampZ interval 1073741824) l { c with bytes := bytes, pos := 0 } = (match lookZ now (clampZ target 1073741824) (clampZ interval 1073741824) l { c with bytes := bytes, pos := 0 } with
    | (t, is, late) =>
      if is = false then ({ t with dropping := false }, false)
      else if t.dropping = true then
        if late = false then ({ t with dropping := false }, true) else moreZ now (clampZ target 1073741824) (clampZ interval 1073741824) l (l.length + 1) t true
      else if late = true then beginsZ now (clampZ target 1073741824) (clampZ interval 1073741824) l t else (t, true)) := rfl
  generalize lookZ now (clampZ target 1073741824) (clampZ interval 1073741824) l { c with bytes := bytes, pos := 0 } = r at *
  obtain ⟨s, i2, l2⟩ := r
  generalize clampZ target 1073741824 = tg at *
  generalize clampZ interval 1073741824 = iv at *
  generalize runZ now tg iv l { c with bytes := bytes, pos := 0 } = R at *
  dsimp only at *
  obtain ⟨T3, T2, z0, z1, z2, z3, z4, L, m⟩ : ∃ (T3 T2 : TypeId) (z0 z1 z2 z3 z4 : Value) (L : List (Nat × List Value × TypeId)), Mem h h6 [] ((b3, stV now tg iv a l.length cap s, T3) :: (b2, [z0, z1, z2, z3, z4], T2) :: L) := ⟨_, _, _, _, _, _, _, _, m⟩
  refine ⟨_, _, rfl, ?_⟩
  refine bcase_intro (fun c1 => ?_) fun c1 => ?_
  · rw [if_pos (by simpa using c1)] at hrun
    unfold stV at m
    (refine Mem.store m 0 rfl (by simp only [List.length]; decide) ?_; clear m; intro _ m; simp only [List.set_cons_zero, List.set_cons_succ] at m)
    exact refret0 (t := { s with dropping := false }) m hrun q5
  · have hi2 : i2 = true := by simpa using c1
    rw [if_neg (by simp [hi2])] at hrun
    have hlt : s.pos < l.length := by rw [hi2] at his; simp at his; omega
    have m2 := m
    unfold stV at m
    refine ⟨_, Mem.cell m 0 rfl rfl, ?_⟩
    refine bcase_intro (fun c2 => ?_) fun c2 => ?_
    · rw [if_pos c2] at hrun
      refine bcase_intro (fun c3 => ?_) fun c3 => ?_
      · rw [if_pos (by simpa using c3)] at hrun
        (refine Mem.store m 0 rfl (by simp only [List.length]; decide) ?_; clear m; intro _ m; simp only [List.set_cons_zero, List.set_cons_succ] at m)
        exact refret0 (t := { s with dropping := false }) m hrun q5
      · rw [if_neg (by simpa using c3)] at hrun
        clear m
        refine ⟨fun is h1 => ∃ t n, Mem h h1 [] ((b3, stV now tg iv a l.length cap t, T3) :: (b2, [z0, z1, z2, z3, z4], T2) :: L) ∧ COk l t ∧ (t.dropping = true → t.pos < l.length) ∧ l.length + 1 ≤ n + t.pos ∧ R = moreZ now tg iv l n t is,
          fun _ h1 => l.length + 1 - posOf h1 b3, ⟨s, l.length + 1, m2, hk2, fun _ => hlt, by omega, by rw [hrun, hi2]⟩, fun _ => ?_⟩
        clear hk2 q1 q2 q3 q4 q5 his hlt c3 c2 c1 hi2 m2 hrun
        rintro is h1 ⟨t, n, m, kt, kp, kn, kr⟩
        have hpos : posOf h1 b3 = t.pos := by unfold posOf; rw [m.cell (o := 10) 0 rfl rfl]; rfl
        dsimp only
        rw [hpos]
        have m2 := m
        unfold stV at m
        have fin : ¬ (t.drop ≤ now ∧ t.dropping = true) → moreZ now tg iv l n t is = (t, is) := fun hc => by
          cases n with
          | zero => rfl
          | succ n => simp only [moreZ]; rw [if_neg hc]
        refine ⟨_, Mem.cell m 0 rfl rfl, ?_⟩
        refine bcase_intro (fun c2 => ?_) fun c2 => ?_
        · refine ⟨_, Mem.cell m 0 rfl rfl, ?_⟩
          refine ⟨_, Mem.cell m 0 rfl rfl, ?_⟩
          refine dcase_intro (fun c => ?_) fun c => ?_
          · have hlt := kp c2
            obtain ⟨n, rfl⟩ : ∃ k, n = k + 1 := ⟨n - 1, by omega⟩
            simp only [moreZ] at kr
            rw [if_pos ⟨c, c2⟩] at kr
            obtain ⟨e1, e2, e3, e4, e5⟩ := lookZ_same now tg iv l { t with pos := t.pos + 1, count := upC t.count }
            have hk2 := kt.look hE (by omega)
            have his := lookZ_is now tg iv l { t with pos := t.pos + 1, count := upC t.count }
            refine ⟨_, Mem.cell m 0 rfl rfl, ?_⟩
            refine ⟨by simp only [fits]; omega, ?_⟩
            (refine Mem.store m 0 rfl (by simp only [List.length]; decide) ?_; clear m; intro _ m; simp only [List.set_cons_zero, List.set_cons_succ] at m)
            refine ⟨fun h' => Mem h h' [] ((b3, stV now tg iv a l.length cap { t with pos := t.pos + 1, count := upC t.count }, T3) :: (b2, [z0, z1, z2, z3, z4], T2) :: L), ?_, fun _ => ?_⟩
            · refine ⟨_, Mem.cell m 0 rfl rfl, ?_⟩
              refine dcase_intro (fun c3 => ?_) fun c3 => ?_
              · refine ⟨_, Mem.cell m 0 rfl rfl, ?_⟩
                refine ⟨by simp only [fits]; have := kt.c0; omega, ?_⟩
                (refine Mem.store m 0 rfl (by simp only [List.length]; decide) ?_; clear m; intro _ m; simp only [List.set_cons_zero, List.set_cons_succ] at m)
                unfold upC; rw [if_pos c3]; exact m
              · unfold upC; rw [if_neg c3]; exact m
            · clear m m2
              intro h4 m
              have b0 := kt.b0
              have b1 := kt.b1
              refine (reflook_c hE (m.blk 0 rfl) (hs.mem m (by simp)) hne kt.f0 kt.f1 (by simp; omega) (by simp; omega)).mono ?_
              rintro _ h5 ⟨rfl, m'⟩
              replace m := m.call1 0 rfl m' 0 rfl
              clear m'
              simp only [List.set_cons_zero] at m
              generalize lookZ now tg iv l { t with pos := t.pos + 1, count := upC t.count } = r at *
              obtain ⟨u, i3, l3⟩ := r
              dsimp only at *
              refine ⟨_, _, rfl, ?_⟩
              unfold stV at m
              refine bcase_intro (fun c4 => ?_) fun c4 => ?_
              · (refine Mem.store m 0 rfl (by simp only [List.length]; decide) ?_; clear m; intro _ m; simp only [List.set_cons_zero, List.set_cons_succ] at m)
                rw [if_neg (by simp at c4; simp [c4])] at kr
                refine ⟨⟨{ u with dropping := false }, n, m, ⟨hk2.f0, hk2.f1, hk2.d0, hk2.d1, hk2.c0, hk2.c1, hk2.l0, hk2.l1, hk2.b0, hk2.b1, hk2.p⟩, fun hf => (by cases hf), by simp; omega, kr⟩, ?_⟩
                have : posOf ‹_› b3 = u.pos := by unfold posOf; rw [m.cell (o := 10) 0 rfl rfl]; rfl
                rw [this]; omega
              · refine bcase_intro (fun c5 => ?_) fun c5 => ?_
                · (refine Mem.store m 0 rfl (by simp only [List.length]; decide) ?_; clear m; intro _ m; simp only [List.set_cons_zero, List.set_cons_succ] at m)
                  rw [if_neg (by simp at c5; simp [c5])] at kr
                  refine ⟨⟨{ u with dropping := false }, n, m, ⟨hk2.f0, hk2.f1, hk2.d0, hk2.d1, hk2.c0, hk2.c1, hk2.l0, hk2.l1, hk2.b0, hk2.b1, hk2.p⟩, fun hf => (by cases hf), by simp; omega, kr⟩, ?_⟩
                  have : posOf ‹_› b3 = u.pos := by unfold posOf; rw [m.cell (o := 10) 0 rfl rfl]; rfl
                  rw [this]; omega
                · refine ⟨_, Mem.cell m 0 rfl rfl, ?_⟩
                  refine ⟨_, Mem.cell m 0 rfl rfl, ?_⟩
                  refine ⟨_, Mem.cell m 0 rfl rfl, ?_⟩
                  refine (refnext_c _ _ _ _ hk2.c0 hk2.c1).ret ⟨_, rfl, ?_⟩
                  (refine Mem.store m 0 rfl (by simp only [List.length]; decide) ?_; clear m; intro _ m; simp only [List.set_cons_zero, List.set_cons_succ] at m)
                  rw [if_pos (by simp at c4 c5; simp [c4, c5])] at kr
                  obtain ⟨z0, z1⟩ := nextZ_ok u.drop iv u.count.toNat
                  have hi3 : i3 = true := by simpa using c4
                  refine ⟨⟨{ u with drop := nextZ u.drop iv u.count.toNat }, n, m, ⟨hk2.f0, hk2.f1, z0, z1, hk2.c0, hk2.c1, hk2.l0, hk2.l1, hk2.b0, hk2.b1, hk2.p⟩, fun _ => ?_, by simp; omega, kr⟩, ?_⟩
                  · rw [hi3] at his; simp at his ⊢; omega
                  · have : posOf ‹_› b3 = u.pos := by unfold posOf; rw [m.cell (o := 10) 0 rfl rfl]; rfl
                    rw [this]; omega
          · exact refret m2 (by rw [kr, fin (by omega)])
        · exact refret m2 (by rw [kr, fin (by simp [c2])])
    · rw [if_neg (by simp [c2])] at hrun
      refine bcase_intro (fun c3 => ?_) fun c3 => ?_
      · rw [if_pos c3] at hrun
        (refine Mem.store m 0 rfl (by simp only [List.length]; decide) ?_; clear m; intro _ m; simp only [List.set_cons_zero, List.set_cons_succ] at m)
        have b0 := hk2.b0
        have b1 := hk2.b1
        have hs1 : s.pos + 1 = 1 := by omega
        rename_i h7
        replace m : Mem h h7 [] ((b3, stV now tg iv a l.length cap { s with pos := s.pos + 1 }, T3) :: (b2, [z0, z1, z2, z3, z4], T2) :: L) := by rw [show ({ s with pos := s.pos + 1 } : CSt) = { s with pos := 1 } by rw [hs1]]; exact m
        refine (reflook_c hE (m.blk 0 rfl) (hs.mem m (by simp)) hne hk2.f0 hk2.f1 (by simp; omega) (by simp; omega)).mono ?_
        rintro _ h5 ⟨rfl, m'⟩
        replace m := m.call1 0 rfl m' 0 rfl
        clear m'
        simp only [List.set_cons_zero] at m
        unfold beginsZ at hrun
        obtain ⟨e1, e2, e3, e4, e5⟩ := lookZ_same now tg iv l { s with pos := s.pos + 1 }
        generalize lookZ now tg iv l { s with pos := s.pos + 1 } = r at *
        obtain ⟨t, i3, l3⟩ := r
        dsimp only at *
        refine ⟨_, _, rfl, ?_⟩
        unfold stV at m
        (refine Mem.store m 0 rfl (by simp only [List.length]; decide) ?_; clear m; intro _ m; simp only [List.set_cons_zero, List.set_cons_succ] at m)
        refine ⟨_, Mem.cell m 0 rfl rfl, ?_⟩
        refine ⟨_, Mem.cell m 0 rfl rfl, ?_⟩
        rw [wrap_u32]
        have d0 := hk2.d0
        have d1 := hk2.d1
        have n0 := hE.n0
        have n1 := hE.n1
        have i0 := hE.i0
        have i1 := hE.i1
        refine ⟨fun x h' => x = deltaZ now iv t ∧ Mem h h' [] ((b3, stV now tg iv a l.length cap { t with dropping := true }, T3) :: (b2, [z0, z1, z2, z3, z4], T2) :: L), ?_, fun _ => ?_⟩
        · unfold deltaZ
          refine dcase_intro (fun c => ?_) fun c => ?_
          · rw [if_neg (by omega)]; exact ⟨rfl, m⟩
          · refine ⟨_, Mem.cell m 0 rfl rfl, ?_⟩
            refine ⟨_, Mem.cell m 0 rfl rfl, ?_⟩
            refine ⟨by simp only [fits]; omega, ?_⟩
            refine ⟨_, Mem.cell m 0 rfl rfl, ?_⟩
            refine ⟨by simp only [fits]; omega, ?_⟩
            refine dcase_intro (fun c4 => ?_) fun c4 => ?_
            · rw [if_neg (by omega)]; exact ⟨rfl, m⟩
            · rw [if_pos (by omega)]; exact ⟨rfl, m⟩
        · clear m m2
          rintro _ h6 ⟨rfl, m⟩
          unfold stV at m
          obtain ⟨z0, z1⟩ := deltaZ_ok now iv t
          (refine Mem.store m 0 rfl (by simp only [List.length]; decide) ?_; clear m; intro _ m; simp only [List.set_cons_zero, List.set_cons_succ] at m)
          (refine Mem.store m 0 rfl (by simp only [List.length]; decide) ?_; clear m; intro _ m; simp only [List.set_cons_zero, List.set_cons_succ] at m)
          refine ⟨_, Mem.cell m 0 rfl rfl, ?_⟩
          refine ⟨_, Mem.cell m 0 rfl rfl, ?_⟩
          refine (refnext_c _ _ _ _ z0 z1).ret ⟨_, rfl, ?_⟩
          (refine Mem.store m 0 rfl (by simp only [List.length]; decide) ?_; clear m; intro _ m; simp only [List.set_cons_zero, List.set_cons_succ] at m)
          exact refret (t := { t with dropping := true, count := deltaZ now iv t, last := deltaZ now iv t, drop := nextZ now iv (deltaZ now iv t).toNat }) m hrun
      · rw [if_neg (by simp [c3])] at hrun
        exact refret m2 (by rw [hrun, hi2])
end
end Go.Proofs.YtpcilleldanfmaaDoor

/- What is kept of a queue stays within bounds; lists of items as cells. -/
set_option linter.unusedVariables false
set_option linter.unusedSimpArgs false
namespace Go.Proofs.YtpcilleldanfmaaDoor
open Go.Vc

theorem flatI_append (a b : List (Int × Int)) : flatI (a ++ b) = flatI a ++ flatI b := by
  induction a with
  | nil => rfl
  | cons x a ih => simp only [List.cons_append, flatI, ih]
theorem flatI_drop : ∀ (l : List (Int × Int)) (i : Nat), (flatI l).drop (i * 2) = flatI (l.drop i)
  | l, 0 => by simp
  | [], i + 1 => by simp [flatI]
  | x :: r, i + 1 => by
    rw [show (i + 1) * 2 = i * 2 + 2 by omega]
    simp only [flatI, List.drop_succ_cons]
    exact flatI_drop r i
/-- A packet that does not wait too long, or of a short queue. -/
def calm (short : Bool) (t : Int) (x : Int × Int) : Prop := (short = true ∧ x = (0, 30)) ∨ (short = false ∧ x.1 = t ∧ 0 ≤ x.2 ∧ x.2 < 3000)
/-- The bounds of what is kept of a queue. -/
structure CBd (s : CSt) : Prop where
  f0 : 0 ≤ s.first
  f1 : s.first ≤ 2251799813685248
  d0 : 0 ≤ s.drop
  d1 : s.drop ≤ 2251799813685248
  c0 : 0 ≤ s.count
  c1 : s.count < 4294967296
  l0 : 0 ≤ s.last
  l1 : s.last < 4294967296
theorem COk.bd {l : List (Int × Int)} {s : CSt} (h : COk l s) : CBd s := ⟨h.f0, h.f1, h.d0, h.d1, h.c0, h.c1, h.l0, h.l1⟩
theorem more_stop {now tg iv : Int} {l : List (Int × Int)} {n : Nat} {s : CSt} {is : Bool} (h : ¬ (s.drop ≤ now ∧ s.dropping = true)) : moreZ now tg iv l n s is = (s, is) := by
  cases n with
  | zero => rfl
  | succ n => show (if _ then _ else _) = _; rw [if_neg h]
theorem more_step {now tg iv : Int} {l : List (Int × Int)} {n : Nat} {s t : CSt} {is i2 l2 : Bool} (h : s.drop ≤ now ∧ s.dropping = true) (e : lookZ now tg iv l { s with pos := s.pos + 1, count := upC s.count } = (t, i2, l2)) :
    moreZ now tg iv l (n + 1) s is = if i2 = true ∧ l2 = true then moreZ now tg iv l n { t with drop := nextZ t.drop iv t.count.toNat } i2 else moreZ now tg iv l n { t with dropping := false } i2 := by
  show (if _ then _ else _) = _
  rw [if_pos h, e]
theorem moreZ_bd {now tg iv : Int} {l : List (Int × Int)} (hE : CEn now tg iv l) : ∀ (n : Nat) (s : CSt) (is : Bool), COk l s → (s.dropping = true → s.pos < l.length) → CBd (moreZ now tg iv l n s is).1
  | 0, s, is, h1, h2 => h1.bd
  | n + 1, s, is, h1, h2 => by
    by_cases hc : s.drop ≤ now ∧ s.dropping = true
    · have hlt := h2 hc.2
      have hk2 := h1.look hE (by omega)
      obtain ⟨e1, e2, e3, e4, e5⟩ := lookZ_same now tg iv l { s with pos := s.pos + 1, count := upC s.count }
      have his := lookZ_is now tg iv l { s with pos := s.pos + 1, count := upC s.count }
      generalize hr : lookZ now tg iv l { s with pos := s.pos + 1, count := upC s.count } = r at *
      obtain ⟨t, i2, l2⟩ := r
      dsimp only at *
      rw [more_step hc hr]
      by_cases hb : i2 = true ∧ l2 = true
      · rw [if_pos hb]
        obtain ⟨z0, z1⟩ := nextZ_ok t.drop iv t.count.toNat
        exact moreZ_bd hE n _ _ ⟨hk2.f0, hk2.f1, z0, z1, hk2.c0, hk2.c1, hk2.l0, hk2.l1, hk2.b0, hk2.b1, hk2.p⟩ (fun _ => by rw [hb.1] at his; simp at his ⊢; omega)
      · rw [if_neg hb]
        exact moreZ_bd hE n _ _ ⟨hk2.f0, hk2.f1, hk2.d0, hk2.d1, hk2.c0, hk2.c1, hk2.l0, hk2.l1, hk2.b0, hk2.b1, hk2.p⟩ (fun h => by cases h)
    · rw [more_stop hc]; exact h1.bd
theorem runZ_bd {now tg iv : Int} {l : List (Int × Int)} {s : CSt} (hE : CEn now tg iv l) (hk : CIn s) : CBd (runZ now tg iv l s).1 := by
  have hk2 := hk.ok hE
  unfold runZ
  obtain ⟨e1, e2, e3, e4, e5⟩ := lookZ_same now tg iv l s
  have his := lookZ_is now tg iv l s
  have hp := hk.p
  generalize lookZ now tg iv l s = r at *
  obtain ⟨t, i2, l2⟩ := r
  dsimp only at *
  by_cases h1 : i2 = false
  · rw [if_pos h1]; exact ⟨hk2.f0, hk2.f1, hk2.d0, hk2.d1, hk2.c0, hk2.c1, hk2.l0, hk2.l1⟩
  · rw [if_neg h1]
    have h1 : i2 = true := by simpa using h1
    rw [h1] at his
    simp at his
    by_cases h2 : t.dropping = true
    · rw [if_pos h2]
      by_cases h3 : l2 = false
      · rw [if_pos h3]; exact ⟨hk2.f0, hk2.f1, hk2.d0, hk2.d1, hk2.c0, hk2.c1, hk2.l0, hk2.l1⟩
      · rw [if_neg h3]; exact moreZ_bd hE _ _ _ hk2 (fun _ => by omega)
    · rw [if_neg h2]
      by_cases h3 : l2 = true
      · rw [if_pos h3]
        unfold beginsZ
        obtain ⟨g1, g2, g3, g4, g5⟩ := lookZ_same now tg iv l { t with pos := t.pos + 1 }
        obtain ⟨f0, f1⟩ := lookZ_first (s := { t with pos := t.pos + 1 }) hE hk2.f0 hk2.f1
        generalize lookZ now tg iv l { t with pos := t.pos + 1 } = r at *
        obtain ⟨u, i3, l3⟩ := r
        dsimp only at *
        obtain ⟨z0, z1⟩ := deltaZ_ok now iv u
        obtain ⟨y0, y1⟩ := nextZ_ok now iv (deltaZ now iv u).toNat
        exact ⟨f0, f1, y0, y1, z0, z1, z0, z1⟩
      · rw [if_neg h3]; exact hk2.bd

theorem itm_of {h : Heap} {a : Option Addr} {N : Nat} {its : List (Int × Int)} (hs : src h a N (flatI its)) : Itm h a its := by
  intro j x hx
  have hj := (List.getElem?_eq_some_iff.1 hx).1
  obtain ⟨b, o, rfl, hr⟩ := src_part (k := j * 2) (n := 2) hs (by rw [flatI_len]; omega) (by decide) rfl
  refine ⟨b, o, rfl, ?_⟩
  rw [hr, flatI_drop, List.drop_eq_getElem_cons hj, (List.getElem?_eq_some_iff.1 hx).2]
  rfl
theorem flatI_one (l : List (Int × Int)) : ∀ u ∈ flatI l, u.oneCell' = true := by
  induction l with
  | nil => simp [flatI]
  | cons x r ih => intro u hu; simp only [flatI, List.mem_cons] at hu; rcases hu with rfl | rfl | hu <;> first | rfl | exact ih u hu
end Go.Proofs.YtpcilleldanfmaaDoor

/- The conditions for calls of functions of the program, in plain form: written by a program (vcgen) off the elaborated code; each is the reckoner's own, by the kernel. -/
set_option linter.unusedVariables false
set_option maxRecDepth 100000
namespace Go.Proofs.YtpcilleldanfmaaDoor
open Go.Vc
theorem vc_hash_Bucket (flow : Int) (seed : Int) (h0 : Heap) (Post : Value → Heap → Prop) (H :
Runs Tryd.prog 74 #[(.int .u32 flow), (.int .u32 seed)] h0 fun r1 h1 =>
∃ n1 : Int,
r1 = (.int .u32 n1) ∧
(0 ≤ n1 ∧ 0 < (16 : Int)) ∧
fits .i64 (n1 % (16 : Int)) ∧
Post (.int .i64 (n1 % (16 : Int))) h1) :
    Runs Tryd.prog 54 #[(.int .u32 flow), (.int .u32 seed)] h0 Post :=
  runs_of (args := [(.int .u32 flow), (.int .u32 seed)]) (fun n => ⟨true, false⟩) (fun _ => []) (fun _ => none) (fun _ => []) Tryd.func54 rfl (by rw [Tryd.ntmps54]; simp) (Eq.mp (by kernel_rfl) H)

theorem vc_hash_Mix (flow : Int) (seed : Int) (h0 : Heap) (Post : Value → Heap → Prop) (H :
(0 ≤ (16 : Int) ∧ (16 : Int) ≤ kbits .u32) ∧
(0 ≤ (16 : Int) ∧ (16 : Int) ≤ kbits .u32) ∧
(0 ≤ (16 : Int) ∧ (16 : Int) ≤ kbits .u32) ∧
Post (.int .u32 (bits .xor .u32 (IntKind.u32.wrap ((bits .xor .u32 (IntKind.u32.wrap ((bits .xor .u32 (bits .xor .u32 flow seed) ((bits .xor .u32 flow seed) / (65536 : Int))) * (73244475 : Int))) ((IntKind.u32.wrap ((bits .xor .u32 (bits .xor .u32 flow seed) ((bits .xor .u32 flow seed) / (65536 : Int))) * (73244475 : Int))) / (65536 : Int))) * (73244475 : Int))) ((IntKind.u32.wrap ((bits .xor .u32 (IntKind.u32.wrap ((bits .xor .u32 (bits .xor .u32 flow seed) ((bits .xor .u32 flow seed) / (65536 : Int))) * (73244475 : Int))) ((IntKind.u32.wrap ((bits .xor .u32 (bits .xor .u32 flow seed) ((bits .xor .u32 flow seed) / (65536 : Int))) * (73244475 : Int))) / (65536 : Int))) * (73244475 : Int))) / (65536 : Int)))) h0) :
    Runs Tryd.prog 74 #[(.int .u32 flow), (.int .u32 seed)] h0 Post :=
  runs_of (args := [(.int .u32 flow), (.int .u32 seed)]) (fun n => ⟨false, false⟩) (fun _ => []) (fun _ => none) (fun _ => []) Tryd.func74 rfl (by rw [Tryd.ntmps74]; simp) (Eq.mp (by kernel_rfl) H)

theorem vc_muezzinref8_Bucket (flow : Int) (seed : Int) (h0 : Heap) (Post : Value → Heap → Prop) (H :
Runs Tryd.prog 32 #[(.int .u32 flow), (.int .u32 seed)] h0 fun r1 h1 =>
∃ n1 : Int,
r1 = (.int .u32 n1) ∧
(0 ≤ n1 ∧ 0 < (16 : Int)) ∧
fits .i64 (n1 % (16 : Int)) ∧
Post (.int .i64 (n1 % (16 : Int))) h1) :
    Runs Tryd.prog 11 #[(.int .u32 flow), (.int .u32 seed)] h0 Post :=
  runs_of (args := [(.int .u32 flow), (.int .u32 seed)]) (fun n => ⟨true, false⟩) (fun _ => []) (fun _ => none) (fun _ => []) Tryd.func11 rfl (by rw [Tryd.ntmps11]; simp) (Eq.mp (by kernel_rfl) H)

theorem vc_muezzinref8_Mix (flow : Int) (seed : Int) (h0 : Heap) (Post : Value → Heap → Prop) (H :
(0 ≤ (16 : Int) ∧ (16 : Int) ≤ kbits .u32) ∧
(0 ≤ (16 : Int) ∧ (16 : Int) ≤ kbits .u32) ∧
(0 ≤ (16 : Int) ∧ (16 : Int) ≤ kbits .u32) ∧
Post (.int .u32 (bits .xor .u32 (IntKind.u32.wrap ((bits .xor .u32 (IntKind.u32.wrap ((bits .xor .u32 (bits .xor .u32 flow seed) ((bits .xor .u32 flow seed) / (65536 : Int))) * (73244475 : Int))) ((IntKind.u32.wrap ((bits .xor .u32 (bits .xor .u32 flow seed) ((bits .xor .u32 flow seed) / (65536 : Int))) * (73244475 : Int))) / (65536 : Int))) * (73244475 : Int))) ((IntKind.u32.wrap ((bits .xor .u32 (IntKind.u32.wrap ((bits .xor .u32 (bits .xor .u32 flow seed) ((bits .xor .u32 flow seed) / (65536 : Int))) * (73244475 : Int))) ((IntKind.u32.wrap ((bits .xor .u32 (bits .xor .u32 flow seed) ((bits .xor .u32 flow seed) / (65536 : Int))) * (73244475 : Int))) / (65536 : Int))) * (73244475 : Int))) / (65536 : Int)))) h0) :
    Runs Tryd.prog 32 #[(.int .u32 flow), (.int .u32 seed)] h0 Post :=
  runs_of (args := [(.int .u32 flow), (.int .u32 seed)]) (fun n => ⟨false, false⟩) (fun _ => []) (fun _ => none) (fun _ => []) Tryd.func32 rfl (by rw [Tryd.ntmps32]; simp) (Eq.mp (by kernel_rfl) H)
end Go.Proofs.YtpcilleldanfmaaDoor

/- The mixing of two 32-bit numbers, as plain mathematics: it is injective in each argument, symmetric, zero on the diagonal. -/
namespace Go.Proofs.YtpcilleldanfmaaDoor
def mixB (a b : BitVec 32) : BitVec 32 :=
  let x := a ^^^ b
  let x := (x ^^^ x >>> 16) * 73244475#32
  let x := (x ^^^ x >>> 16) * 73244475#32
  x ^^^ x >>> 16
def mixZ (a b : Int) : Int := ((mixB (BitVec.ofInt 32 a) (BitVec.ofInt 32 b)).toNat : Int)

theorem xs_invol (x : BitVec 32) : (x ^^^ x >>> 16) ^^^ (x ^^^ x >>> 16) >>> 16 = x := by
  ext i hi
  simp only [BitVec.getElem_xor, BitVec.getElem_ushiftRight, BitVec.getLsbD_xor, BitVec.getLsbD_ushiftRight]
  have : x.getLsbD (16 + (16 + i)) = false := BitVec.getLsbD_of_ge _ _ (by omega)
  rw [this]
  simp

theorem xs_inj {x y : BitVec 32} (h : x ^^^ x >>> 16 = y ^^^ y >>> 16) : x = y := by
  rw [← xs_invol x, ← xs_invol y, h]

theorem mul_inj {x y : BitVec 32} (h : x * 73244475#32 = y * 73244475#32) : x = y := by
  have := congrArg (· * 295559667#32) h
  simp only [BitVec.mul_assoc] at this
  have e : (73244475#32 : BitVec 32) * 295559667#32 = 1#32 := by decide
  rw [e, BitVec.mul_one, BitVec.mul_one] at this
  exact this

theorem mixB_inj {x y : BitVec 32} {a b : BitVec 32} (h : mixB x a = mixB y b) : x ^^^ a = y ^^^ b := by
  unfold mixB at h
  exact xs_inj (mul_inj (xs_inj (mul_inj (xs_inj h))))

theorem xor_inj_left {x y a : BitVec 32} (h : x ^^^ a = y ^^^ a) : x = y := by
  have := congrArg (· ^^^ a) h
  simpa [BitVec.xor_assoc] using this

theorem mixB_comm (a b : BitVec 32) : mixB a b = mixB b a := by
  unfold mixB; rw [BitVec.xor_comm a b]

theorem mixZ_comm (a b : Int) : mixZ a b = mixZ b a := by unfold mixZ; rw [mixB_comm]
theorem mixZ_self (a : Int) : mixZ a a = 0 := by unfold mixZ mixB; simp
theorem mixZ_bd (a b : Int) : 0 ≤ mixZ a b ∧ mixZ a b < 4294967296 := by
  unfold mixZ; have := (mixB (BitVec.ofInt 32 a) (BitVec.ofInt 32 b)).isLt; omega
theorem mixZ_inj {a b s : Int} (ha : 0 ≤ a) (ha2 : a < 4294967296) (hb : 0 ≤ b) (hb2 : b < 4294967296) (h : mixZ a s = mixZ b s) : a = b := by
  unfold mixZ at h
  have h1 : mixB (BitVec.ofInt 32 a) (BitVec.ofInt 32 s) = mixB (BitVec.ofInt 32 b) (BitVec.ofInt 32 s) := BitVec.eq_of_toNat_eq (by omega)
  have h2 := congrArg BitVec.toNat (xor_inj_left (mixB_inj h1))
  simp only [BitVec.toNat_ofInt] at h2
  omega

theorem bits_xor (a b : Int) : bits .xor .u32 a b = ((BitVec.ofInt 32 a ^^^ BitVec.ofInt 32 b).toNat : Int) := by
  unfold bits
  show IntKind.u32.wrap ((BitVec.ofInt 32 a ^^^ BitVec.ofInt 32 b).toNat : Int) = _
  have h := (BitVec.ofInt 32 a ^^^ BitVec.ofInt 32 b).isLt
  generalize (BitVec.ofInt 32 a ^^^ BitVec.ofInt 32 b).toNat = n at *
  unfold IntKind.wrap
  simp [IntKind.bits, IntKind.signed]
  omega
theorem ofInt_toNat (x : BitVec 32) : BitVec.ofInt 32 (x.toNat : Int) = x := by
  apply BitVec.eq_of_toNat_eq; rw [BitVec.toNat_ofInt]; have := x.isLt; omega
theorem ofInt_shr (x : BitVec 32) : BitVec.ofInt 32 ((x.toNat : Int) / 65536) = x >>> 16 := by
  apply BitVec.eq_of_toNat_eq; rw [BitVec.toNat_ofInt, BitVec.toNat_ushiftRight, Nat.shiftRight_eq_div_pow]; have := x.isLt; omega
theorem ofInt_mul (x : BitVec 32) : (x.toNat : Int) * 73244475 % 4294967296 = ((x * 73244475#32).toNat : Int) := by
  rw [BitVec.toNat_mul]; simp
/-- What the walk computes is 'mixZ'. -/
theorem mix_walk (a b : Int) : bits .xor .u32
    (bits .xor .u32 (bits .xor .u32 (bits .xor .u32 a b) (bits .xor .u32 a b / 65536) * 73244475 % 4294967296)
      (bits .xor .u32 (bits .xor .u32 a b) (bits .xor .u32 a b / 65536) * 73244475 % 4294967296 / 65536) * 73244475 % 4294967296)
    (bits .xor .u32 (bits .xor .u32 (bits .xor .u32 a b) (bits .xor .u32 a b / 65536) * 73244475 % 4294967296)
      (bits .xor .u32 (bits .xor .u32 a b) (bits .xor .u32 a b / 65536) * 73244475 % 4294967296 / 65536) * 73244475 % 4294967296 / 65536) = mixZ a b := by
  simp only [bits_xor, ofInt_mul, ofInt_shr, ofInt_toNat]
  rfl
end Go.Proofs.YtpcilleldanfmaaDoor

/- Contracts of the buckets: of the program's and of the document's. -/
set_option linter.unusedVariables false
namespace Go.Proofs.YtpcilleldanfmaaDoor
open Go.Vc
theorem wrapu32 (n : Int) : IntKind.u32.wrap n = n % 4294967296 := by simp [IntKind.wrap, IntKind.bits, IntKind.signed]
def bucketZ (flow seed : Int) : Int := mixZ flow seed % 16
theorem bucketZ_bd (f s : Int) : 0 ≤ bucketZ f s ∧ bucketZ f s < 16 := by unfold bucketZ; omega
theorem mix_c (a b : Int) (h : Heap) : Runs Tryd.prog 74 #[.int .u32 a, .int .u32 b] h fun v h' => v = .int .u32 (mixZ a b) ∧ h' = h := by
  refine vc_hash_Mix _ _ _ _ ⟨by decide, by decide, by decide, ?_, rfl⟩
  simp only [wrapu32]; rw [mix_walk]
theorem refmix_c (a b : Int) (h : Heap) : Runs Tryd.prog 32 #[.int .u32 a, .int .u32 b] h fun v h' => v = .int .u32 (mixZ a b) ∧ h' = h := by
  refine vc_muezzinref8_Mix _ _ _ _ ⟨by decide, by decide, by decide, ?_, rfl⟩
  simp only [wrapu32]; rw [mix_walk]
theorem bucket_c (a b : Int) (h : Heap) : Runs Tryd.prog 54 #[.int .u32 a, .int .u32 b] h fun v h' => v = .int .i64 (bucketZ a b) ∧ h' = h := by
  obtain ⟨h1, h2⟩ := mixZ_bd a b
  exact vc_hash_Bucket _ _ _ _ ((mix_c a b h).ret ⟨_, rfl, ⟨h1, by decide⟩, by simp only [fits]; omega, rfl, rfl⟩)
theorem refbucket_c (a b : Int) (h : Heap) : Runs Tryd.prog 11 #[.int .u32 a, .int .u32 b] h fun v h' => v = .int .i64 (bucketZ a b) ∧ h' = h := by
  obtain ⟨h1, h2⟩ := mixZ_bd a b
  exact vc_muezzinref8_Bucket _ _ _ _ ((refmix_c a b h).ret ⟨_, rfl, ⟨h1, by decide⟩, by simp only [fits]; omega, rfl, rfl⟩)
end Go.Proofs.YtpcilleldanfmaaDoor

/- A queue of flows (chapter 13), as plain mathematics: both the program's and the document's queue go this way. -/
set_option linter.unusedVariables false
set_option linter.unusedSimpArgs false
namespace Go.Proofs.YtpcilleldanfmaaDoor
structure Fl where
  l : List Pk
  deficit : Int
  c : CSt
def Fl.setL (f : Fl) (l : List Pk) : Fl := ⟨l, f.deficit, f.c⟩
def Fl.setD (f : Fl) (d : Int) : Fl := ⟨f.l, d, f.c⟩
@[simp] theorem setL_l (f : Fl) (l : List Pk) : (f.setL l).l = l := rfl
@[simp] theorem setL_d (f : Fl) (l : List Pk) : (f.setL l).deficit = f.deficit := rfl
@[simp] theorem setL_c (f : Fl) (l : List Pk) : (f.setL l).c = f.c := rfl
@[simp] theorem setD_l (f : Fl) (d : Int) : (f.setD d).l = f.l := rfl
@[simp] theorem setD_d (f : Fl) (d : Int) : (f.setD d).deficit = d := rfl
@[simp] theorem setD_c (f : Fl) (d : Int) : (f.setD d).c = f.c := rfl
def cs0 : CSt := ⟨0, 0, 0, 0, false, 0, 0⟩
def fl0 : Fl := ⟨[], 0, cs0⟩
structure Qu where
  seed : Int
  tg : Int
  iv : Int
  fl : List Fl
  fresh : List Int
  elder : List Int
def qu0 (seed tg iv : Int) : Qu := ⟨seed, tg, iv, List.replicate 16 fl0, [], []⟩
/-- The bytes of packets. -/
def bytP : List Pk → Int
  | [] => 0
  | p :: r => p.body.length + bytP r
theorem bytP_app : ∀ (a b : List Pk), bytP (a ++ b) = bytP a + bytP b
  | [], b => by simp [bytP]
  | p :: a, b => by simp only [List.cons_append, bytP, bytP_app a b]; omega
theorem bytP_nn : ∀ (a : List Pk), 0 ≤ bytP a
  | [] => by simp [bytP]
  | p :: a => by have := bytP_nn a; simp only [bytP]; omega
def cntL : List Fl → Nat
  | [] => 0
  | f :: r => f.l.length + cntL r
def bytL : List Fl → Int
  | [] => 0
  | f :: r => bytP f.l + bytL r
/-- How many packets, how many bytes there are. -/
def Qu.cnt (q : Qu) : Nat := cntL q.fl
def Qu.byt (q : Qu) : Int := bytL q.fl
theorem cntL_set : ∀ {l : List Fl} {k : Nat} {f g : Fl}, l[k]? = some f → cntL (l.set k g) + f.l.length = cntL l + g.l.length
  | [], k, f, g, h => by simp at h
  | x :: l, 0, f, g, h => by simp at h; subst h; simp [cntL]; omega
  | x :: l, k + 1, f, g, h => by have := cntL_set (l := l) (k := k) (g := g) (by simpa using h); simp [cntL]; omega
theorem bytL_set : ∀ {l : List Fl} {k : Nat} {f g : Fl}, l[k]? = some f → bytL (l.set k g) + bytP f.l = bytL l + bytP g.l
  | [], k, f, g, h => by simp at h
  | x :: l, 0, f, g, h => by simp at h; subst h; simp [bytL]; omega
  | x :: l, k + 1, f, g, h => by have := bytL_set (l := l) (k := k) (g := g) (by simpa using h); simp [bytL]; omega
theorem cntL_ge : ∀ {l : List Fl} {k : Nat} {f : Fl}, l[k]? = some f → f.l.length ≤ cntL l
  | [], k, f, h => by simp at h
  | x :: l, 0, f, h => by simp at h; subst h; simp [cntL]
  | x :: l, k + 1, f, h => by have := cntL_ge (l := l) (k := k) (by simpa using h); simp [cntL]; omega
theorem bytL_ge : ∀ {l : List Fl} {k : Nat} {f : Fl}, l[k]? = some f → bytP f.l ≤ bytL l
  | [], k, f, h => by simp at h
  | x :: l, 0, f, h => by
    have : ∀ l : List Fl, 0 ≤ bytL l := fun l => by induction l with | nil => simp [bytL] | cons y r ih => have := bytP_nn y.l; simp only [bytL]; omega
    simp at h; subst h; have := this l; simp only [bytL]; omega
  | x :: l, k + 1, f, h => by have := bytL_ge (l := l) (k := k) (by simpa using h); have := bytP_nn x.l; simp only [bytL]; omega
theorem bytL_nn : ∀ l : List Fl, 0 ≤ bytL l := fun l => by induction l with | nil => simp [bytL] | cons y r ih => have := bytP_nn y.l; simp only [bytL]; omega
/-- The state of a pull between two pulls. -/
def CSt.rest (s : CSt) : CSt := { s with bytes := 0, pos := 0 }
def itemsP (l : List Pk) : List (Int × Int) := l.map fun p => (p.at_, (p.body.length : Int))
def clampI (n : Int) : Int := clampZ n 1073741824
def runP (tg iv now : Int) (f : Fl) : CSt × Bool := runZ now (clampI tg) (clampI iv) (itemsP f.l) { f.c with bytes := bytP f.l, pos := 0 }
/-- A flow behind a pull. -/
def pullF (tg iv now : Int) (f : Fl) : Fl := ⟨f.l.drop (runP tg iv now f).1.pos, f.deficit, (runP tg iv now f).1.rest⟩
def dropF (tg iv now : Int) (f : Fl) : List Pk := f.l.take (runP tg iv now f).1.pos
def isF (tg iv now : Int) (f : Fl) : Bool := (runP tg iv now f).2
/-- Whose turn it is. -/
def Qu.turn (q : Qu) : Option Int := match q.fresh with | k :: _ => some k | [] => q.elder.head?
def Qu.flow (q : Qu) (k : Int) : Fl := (q.fl[k.toNat]?).getD fl0
def Qu.setF (q : Qu) (k : Int) (f : Fl) : Qu := { q with fl := q.fl.set k.toNat f }
/-- The lists without the one whose turn it is. -/
def Qu.popT (q : Qu) : Qu := if q.fresh = [] then { q with elder := q.elder.tail } else { q with fresh := q.fresh.tail }
def Qu.addE (q : Qu) (k : Int) : Qu := { q with elder := q.elder ++ [k] }
def Qu.addF (q : Qu) (k : Int) : Qu := { q with fresh := q.fresh ++ [k] }
def takeN (now : Int) : Nat → Qu → List Pk → Qu × List Pk × Option Pk
  | 0, q, d => (q, d, none)
  | n + 1, q, d =>
    match q.turn with
    | none => (q, d, none)
    | some k =>
      if (q.flow k).deficit ≤ 0 then takeN now n (((q.setF k ((q.flow k).setD ((q.flow k).deficit + 300))).popT).addE k) d
      else if isF q.tg q.iv now (q.flow k) = true then
        match (pullF q.tg q.iv now (q.flow k)).l with
        | [] => (q, d, none)
        | p :: r => (q.setF k (((pullF q.tg q.iv now (q.flow k)).setL r).setD ((q.flow k).deficit - p.body.length)), d ++ dropF q.tg q.iv now (q.flow k), some p)
      else if q.fresh ≠ [] ∧ q.elder ≠ [] then takeN now n (((q.setF k (pullF q.tg q.iv now (q.flow k))).popT).addE k) (d ++ dropF q.tg q.iv now (q.flow k))
      else takeN now n ((q.setF k (pullF q.tg q.iv now (q.flow k))).popT) (d ++ dropF q.tg q.iv now (q.flow k))
/-- How many turns a flow must wait. -/
def reflD (d : Int) : Nat := if d ≤ 0 then ((-d) / 300).toNat + 1 else 0
theorem reflD_up {d : Int} (h : d ≤ 0) : reflD (d + 300) + 1 ≤ reflD d := by
  unfold reflD
  rw [if_pos h]
  split <;> omega
def refl (f : Fl) : Nat := reflD f.deficit
def sumR (q : Qu) : List Int → Nat
  | [] => 0
  | k :: r => refl (q.flow k) + sumR q r
def Qu.meas (q : Qu) : Nat := sumR q q.fresh + sumR q q.elder + 2 * q.fresh.length + q.elder.length
def Qu.take (q : Qu) (now : Int) : Qu × List Pk × Option Pk := takeN now (q.meas + 1) q []
def Qu.put (q : Qu) (p : Pk) : Qu :=
  let k := bucketZ p.flow q.seed
  if k ∈ q.fresh ∨ k ∈ q.elder then q.setF k ((q.flow k).setL ((q.flow k).l ++ [p]))
  else (q.setF k (((q.flow k).setL ((q.flow k).l ++ [p])).setD 300)).addF k
def Qu.all (q : Qu) : List Pk := (q.fl.map (·.l)).flatten
def Qu.head (q : Qu) (k : Int) : Option Pk := if 0 ≤ k ∧ k < 16 then (q.flow k).l.head? else none
def Qu.dropHead (q : Qu) (k : Int) : Qu × Option Pk := match q.head k with
  | none => (q, none)
  | some p => (q.setF k ((q.flow k).setL (q.flow k).l.tail), some p)
/-- The fattest flow among those from k on, against the best so far. -/
def fatN : List Fl → Int → Int × Int → Int × Int
  | [], _, s => s
  | f :: r, k, s => fatN r (k + 1) (if f.l ≠ [] ∧ s.2 < bytP f.l then (k, bytP f.l) else s)
def Qu.fattest (q : Qu) : Int × Int := let s := fatN q.fl 0 (0, -1); (s.1, max s.2 0)

structure FOk (f : Fl) : Prop where
  c : CBd f.c
  p : ∀ p ∈ f.l, 0 ≤ p.at_ ∧ p.at_ ≤ 1125899906842624 ∧ p.body.length ≤ 1048576
  d0 : -1048576 ≤ f.deficit
  d1 : f.deficit ≤ 300
structure QOk (q : Qu) : Prop where
  len : q.fl.length = 16
  f : ∀ f ∈ q.fl, FOk f
  nd : (q.fresh ++ q.elder).Nodup
  b : ∀ k ∈ q.fresh ++ q.elder, 0 ≤ k ∧ k < 16
  cnt : q.cnt ≤ 1048576
section
variable {q : Qu} {f g : Fl} {k d : Int} {p : Pk} {r : List Pk} {tg iv now : Int}
theorem nodup_len : ∀ (N : Nat) (l : List Int), l.Nodup → (∀ x ∈ l, 0 ≤ x ∧ x < N) → l.length ≤ N
  | 0, l, _, h => by
    cases l with
    | nil => simp
    | cons x r => have := h x (by simp); omega
  | N + 1, l, hn, h => by
    by_cases hm : (N : Int) ∈ l
    · have h1 := nodup_len N (l.erase N) (hn.erase _) (fun x hx => by
        have hx' := (List.Nodup.mem_erase_iff hn).1 hx
        have h2 := h x hx'.2
        have h3 : x ≠ N := hx'.1
        omega)
      rw [List.length_erase_of_mem hm] at h1; omega
    · have h1 := nodup_len N l hn (fun x hx => by
        have h2 := h x hx
        have h3 : x ≠ N := fun e => hm (e ▸ hx)
        omega)
      omega
theorem QOk.lens (hq : QOk q) : q.fresh.length + q.elder.length ≤ 16 := by
  have := nodup_len 16 _ hq.nd hq.b
  simpa using this
theorem fok0 : FOk fl0 := ⟨by constructor <;> decide, by simp [fl0], by decide, by decide⟩
theorem qok0 (seed tg iv : Int) : QOk (qu0 seed tg iv) := by
  refine ⟨rfl, fun f hf => ?_, by simp [qu0], by simp [qu0], ?_⟩
  · simp [qu0] at hf; subst hf; exact fok0
  · show cntL (List.replicate 16 fl0) ≤ _; decide
theorem bytP_le {N : Nat} : ∀ {l : List Pk}, (∀ p ∈ l, p.body.length ≤ N) → bytP l ≤ N * l.length
  | [], _ => by simp [bytP]
  | p :: r, h => by
    have h1 := bytP_le (l := r) fun p hp => h p (by simp [hp])
    have h2 := h p (by simp)
    simp only [bytP, List.length_cons]
    have e : ((N : Int)) * ((r.length + 1 : Nat) : Int) = N * r.length + N := by rw [show ((r.length + 1 : Nat) : Int) = (r.length : Int) + 1 by omega, Int.mul_add]; omega
    omega
theorem QOk.flow (hq : QOk q) (k0 : 0 ≤ k) (k1 : k < 16) : q.fl[k.toNat]? = some (q.flow k) ∧ FOk (q.flow k) := by
  have hlt : k.toNat < q.fl.length := by rw [hq.len]; omega
  have e : q.fl[k.toNat]? = some (q.flow k) := by unfold Qu.flow; rw [List.getElem?_eq_getElem hlt]; rfl
  exact ⟨e, hq.f _ (List.mem_of_getElem? e)⟩
theorem QOk.setF (hq : QOk q) (hk0 : 0 ≤ k) (hk1 : k < 16) (hg : FOk g) (hc : g.l.length ≤ (q.flow k).l.length) : QOk (q.setF k g) := by
  refine ⟨by simp [Qu.setF, hq.len], fun f hf => ?_, hq.nd, hq.b, ?_⟩
  · rcases List.mem_or_eq_of_mem_set hf with hf | rfl
    · exact hq.f f hf
    · exact hg
  · have h1 := cntL_set (g := g) (hq.flow hk0 hk1).1
    have h2 := hq.cnt
    show cntL (q.fl.set k.toNat g) ≤ _
    unfold Qu.cnt at h2
    omega
theorem flow_setF (hq : QOk q) (k0 : 0 ≤ k) (k1 : k < 16) : (q.setF k g).flow k = g := by
  have hlt : k.toNat < q.fl.length := by rw [hq.len]; omega
  simp [Qu.flow, Qu.setF, hlt]
theorem flow_setF_ne {j : Int} (k0 : 0 ≤ k) (j0 : 0 ≤ j) (h : j ≠ k) : (q.setF k g).flow j = q.flow j := by
  unfold Qu.flow Qu.setF
  dsimp only
  rw [List.getElem?_set_ne (by omega)]
theorem turn_mem (ht : q.turn = some k) : k ∈ q.fresh ++ q.elder := by
  unfold Qu.turn at ht
  split at ht
  · rename_i e; cases ht; rw [e]; simp
  · rename_i e; rw [e]; simp; exact List.mem_of_mem_head? ht
theorem QOk.popT (hq : QOk q) : QOk q.popT := by
  unfold Qu.popT
  split
  · rename_i e
    refine ⟨hq.len, hq.f, ?_, ?_, hq.cnt⟩
    · have := hq.nd; rw [e] at *; simp at *; exact this.sublist (List.tail_sublist _)
    · intro k hk; refine hq.b k ?_; rw [e] at *; simp at *; exact List.mem_of_mem_tail hk
  · refine ⟨hq.len, hq.f, ?_, ?_, hq.cnt⟩
    · exact hq.nd.sublist ((List.tail_sublist _).append_right _)
    · intro k hk; refine hq.b k ?_; simp at *; rcases hk with hk | hk; exact .inl (List.mem_of_mem_tail hk); exact .inr hk
theorem popT_not (hq : QOk q) (ht : q.turn = some k) : k ∉ q.popT.fresh ++ q.popT.elder := by
  have hn := hq.nd
  unfold Qu.turn at ht
  unfold Qu.popT
  split at ht
  · rename_i k' r e; cases ht
    rw [if_neg (by rw [e]; simp)]
    show k ∉ q.fresh.tail ++ q.elder
    rw [e, List.cons_append, List.nodup_cons] at hn
    rw [e]; exact hn.1
  · rename_i e
    rw [if_pos e]
    show k ∉ q.fresh ++ q.elder.tail
    cases he : q.elder with
    | nil => simp [he] at ht
    | cons x r =>
      simp [he] at ht; subst ht
      rw [e, he, List.nil_append, List.nodup_cons] at hn
      rw [e]; exact hn.1
theorem QOk.addE (hq : QOk q) (hn : k ∉ q.fresh ++ q.elder) (k0 : 0 ≤ k) (k1 : k < 16) : QOk (q.addE k) := by
  refine ⟨hq.len, hq.f, ?_, ?_, hq.cnt⟩
  · show (q.fresh ++ (q.elder ++ [k])).Nodup
    rw [← List.append_assoc]
    refine List.nodup_append.2 ⟨hq.nd, by simp, fun a ha b hb => ?_⟩
    simp at hb; subst hb
    rintro rfl; exact hn ha
  · intro j hj
    have hj : j ∈ q.fresh ++ (q.elder ++ [k]) := hj
    rw [← List.append_assoc] at hj
    rcases List.mem_append.1 hj with hj | hj
    · exact hq.b j hj
    · simp at hj; subst hj; exact ⟨k0, k1⟩
theorem setF_setF (g g2 : Fl) : (q.setF k g).setF k g2 = q.setF k g2 := by simp [Qu.setF]
theorem setF_turn : (q.setF k g).turn = q.turn := rfl
theorem setF_fresh : (q.setF k g).fresh = q.fresh := rfl
theorem setF_elder : (q.setF k g).elder = q.elder := rfl
theorem sumR_congr {q q' : Qu} : ∀ {l : List Int}, (∀ k ∈ l, q'.flow k = q.flow k) → sumR q' l = sumR q l
  | [], _ => rfl
  | k :: l, h => by simp only [sumR]; rw [h k (by simp), sumR_congr fun k hk => h k (by simp [hk])]
theorem sumR_app {q : Qu} : ∀ {l r : List Int}, sumR q (l ++ r) = sumR q l + sumR q r
  | [], r => by simp [sumR]
  | k :: l, r => by simp only [List.cons_append, sumR, sumR_app (l := l)]; omega
theorem sumR_lists (f e l : List Int) : sumR (Qu.mk q.seed q.tg q.iv q.fl f e) l = sumR q l := sumR_congr fun _ _ => rfl
theorem turn_sum (ht : q.turn = some k) : q.meas = refl (q.flow k) + q.popT.meas + (if q.fresh = [] then 1 else 2) := by
  unfold Qu.turn at ht
  unfold Qu.popT
  split at ht
  · rename_i k' r e; cases ht
    rw [if_neg (by rw [e]; simp), if_neg (by rw [e]; simp)]
    simp only [Qu.meas, sumR_lists, e, sumR, List.length_cons, List.tail_cons]
    omega
  · rename_i e; rw [if_pos e, if_pos e]
    cases he : q.elder with
    | nil => simp [he] at ht
    | cons x r =>
      simp [he] at ht; subst ht
      simp only [Qu.meas, sumR_lists, e, he, sumR, List.length_cons, List.tail_cons]
      omega
/-- A set flow that is in no list does not count. -/
theorem meas_setF (hq : QOk q) (k0 : 0 ≤ k) (hn : k ∉ q.fresh ++ q.elder) : (q.setF k g).meas = q.meas := by
  have h1 : ∀ l : List Int, (∀ j ∈ l, j ∈ q.fresh ++ q.elder) → sumR (q.setF k g) l = sumR q l := fun l hl => sumR_congr fun j hj =>
    flow_setF_ne k0 (hq.b j (hl j hj)).1 (by rintro rfl; exact hn (hl _ hj))
  simp only [Qu.meas, setF_fresh, setF_elder]
  rw [h1 q.fresh (fun j hj => List.mem_append_left _ hj), h1 q.elder (fun j hj => List.mem_append_right _ hj)]
theorem meas_addE : (q.addE k).meas = q.meas + refl (q.flow k) + 1 := by
  simp only [Qu.meas, Qu.addE, sumR_app, List.length_append, List.length_singleton]
  have e2 : Qu.flow { q with elder := q.elder ++ [k] } k = q.flow k := rfl
  simp only [sumR_lists, sumR, e2]
  omega
theorem setF_popT : (q.setF k g).popT = q.popT.setF k g := by
  unfold Qu.popT
  rw [setF_fresh]
  split <;> rfl
theorem popT_flow (j : Int) : q.popT.flow j = q.flow j := by unfold Qu.popT; split <;> rfl
/-- A turn without a packet brings the end nearer. -/
theorem meas_turn (hq : QOk q) (ht : q.turn = some k) (hd : (q.flow k).deficit ≤ 0) :
    ((((q.setF k ((q.flow k).setD ((q.flow k).deficit + 300))).popT).addE k)).meas < q.meas := by
  obtain ⟨k0, k1⟩ := hq.b k (turn_mem ht)
  rw [setF_popT, meas_addE, meas_setF hq.popT k0 (popT_not hq ht), turn_sum ht, flow_setF hq.popT k0 k1]
  have : refl ((q.flow k).setD ((q.flow k).deficit + 300)) + 1 ≤ refl (q.flow k) := reflD_up hd
  split <;> omega
theorem meas_empty (hq : QOk q) (ht : q.turn = some k) (hd : ¬ (q.flow k).deficit ≤ 0) (hg : g.deficit = (q.flow k).deficit) :
    ((q.setF k g).popT).meas < q.meas ∧ (q.fresh ≠ [] → (((q.setF k g).popT).addE k).meas < q.meas) := by
  obtain ⟨k0, k1⟩ := hq.b k (turn_mem ht)
  rw [setF_popT, meas_addE, meas_setF hq.popT k0 (popT_not hq ht), turn_sum ht, flow_setF hq.popT k0 k1]
  have h1 : refl g = 0 := by unfold refl reflD; rw [hg, if_neg hd]
  have h2 : refl (q.flow k) = 0 := by unfold refl reflD; rw [if_neg hd]
  refine ⟨by split <;> omega, fun hf => ?_⟩
  rw [if_neg hf]; omega
/-- What a pull makes of a state, of numbers. -/
theorem pull_facts (hf : FOk f) (hc : f.l.length ≤ 1048576) (n0 : 0 ≤ now) (n1 : now ≤ 1125899906842624) :
    CEn now (clampI tg) (clampI iv) (itemsP f.l) ∧ CIn { f.c with bytes := bytP f.l, pos := 0 } ∧ CBd (runP tg iv now f).1 ∧ (runP tg iv now f).1.pos ≤ f.l.length ∧ (runP tg iv now f).2 = decide ((runP tg iv now f).1.pos < f.l.length) := by
  obtain ⟨t0, t1⟩ := clampZ_bd tg (show (0 : Int) ≤ 1073741824 by decide)
  obtain ⟨i0, i1⟩ := clampZ_bd iv (show (0 : Int) ≤ 1073741824 by decide)
  have hb := bytP_le (N := 1048576) fun p hp => (hf.p p hp).2.2
  have hE : CEn now (clampI tg) (clampI iv) (itemsP f.l) := ⟨n0, by omega, t0, t1, i0, i1, by simp [itemsP]; omega, fun x hx => by
    simp only [itemsP, List.mem_map] at hx
    obtain ⟨p, hp, rfl⟩ := hx
    have := hf.p p hp
    exact ⟨this.1, by have := this.2.1; dsimp only; omega, by have := this.2.2; dsimp only; omega⟩⟩
  have hI : CIn { f.c with bytes := bytP f.l, pos := 0 } := ⟨hf.c.f0, hf.c.f1, hf.c.d0, hf.c.d1, hf.c.c0, hf.c.c1, hf.c.l0, hf.c.l1, bytP_nn _, by dsimp only; omega, rfl⟩
  have hl : (itemsP f.l).length = f.l.length := by simp [itemsP]
  obtain ⟨h1, h2, _⟩ := runZ_facts (now := now) (tg := clampI tg) (iv := clampI iv) (l := itemsP f.l) (s := { f.c with bytes := bytP f.l, pos := 0 }) rfl rfl
  rw [hl] at h1 h2
  exact ⟨hE, hI, runZ_bd hE hI, h2, h1⟩
theorem rest_bd {s : CSt} (h : CBd s) : CBd s.rest := ⟨h.f0, h.f1, h.d0, h.d1, h.c0, h.c1, h.l0, h.l1⟩
theorem pullF_ok (hf : FOk f) (hc : f.l.length ≤ 1048576) (n0 : 0 ≤ now) (n1 : now ≤ 1125899906842624) : FOk (pullF tg iv now f) := by
  obtain ⟨_, _, h3, _, _⟩ := pull_facts (tg := tg) (iv := iv) hf hc n0 n1
  exact ⟨rest_bd h3, fun p hp => hf.p p (List.mem_of_mem_drop hp), hf.d0, hf.d1⟩
theorem popT_cnt : q.popT.cnt = q.cnt := by unfold Qu.popT; split <;> rfl
theorem addE_cnt : (q.addE k).cnt = q.cnt := rfl
theorem setD_cnt (hq : QOk q) (k0 : 0 ≤ k) (k1 : k < 16) : (q.setF k ((q.flow k).setD d)).cnt = q.cnt := by
  have c3 := cntL_set (g := (q.flow k).setD d) (hq.flow k0 k1).1
  simp only [setD_l] at c3
  show cntL (q.fl.set k.toNat ((q.flow k).setD d)) = cntL q.fl
  omega
theorem isF_drop (hf : FOk f) (hc : f.l.length ≤ 1048576) (n0 : 0 ≤ now) (n1 : now ≤ 1125899906842624) : isF tg iv now f = true ↔ ∃ p r, (pullF tg iv now f).l = p :: r := by
  obtain ⟨_, _, _, h4, h5⟩ := pull_facts (tg := tg) (iv := iv) hf hc n0 n1
  unfold isF pullF
  rw [h5]
  simp only [decide_eq_true_eq]
  constructor
  · intro hlt
    exact ⟨_, _, List.drop_eq_getElem_cons hlt⟩
  · rintro ⟨p, r, e⟩
    have : (f.l.drop (runP tg iv now f).1.pos).length = (p :: r).length := by rw [e]
    simp at this; omega
theorem QOk.fcnt (hq : QOk q) (k0 : 0 ≤ k) (k1 : k < 16) : (q.flow k).l.length ≤ 1048576 := Nat.le_trans (cntL_ge (hq.flow k0 k1).1) hq.cnt
theorem takeN_none {n : Nat} {d : List Pk} (ht : q.turn = none) : takeN now (n + 1) q d = (q, d, none) := by simp only [takeN, ht]
theorem takeN_turn {n : Nat} {d : List Pk} (ht : q.turn = some k) (hd : (q.flow k).deficit ≤ 0) : takeN now (n + 1) q d = takeN now n (((q.setF k ((q.flow k).setD ((q.flow k).deficit + 300))).popT).addE k) d := by
  simp only [takeN, ht]; rw [if_pos hd]
theorem takeN_some {n : Nat} {d : List Pk} (ht : q.turn = some k) (hd : ¬ (q.flow k).deficit ≤ 0) (hi : isF q.tg q.iv now (q.flow k) = true) (hp : (pullF q.tg q.iv now (q.flow k)).l = p :: r) :
    takeN now (n + 1) q d = (q.setF k (((pullF q.tg q.iv now (q.flow k)).setL r).setD ((q.flow k).deficit - p.body.length)), d ++ dropF q.tg q.iv now (q.flow k), some p) := by
  simp only [takeN, ht]; rw [if_neg hd, if_pos hi, hp]
theorem takeN_move {n : Nat} {d : List Pk} (ht : q.turn = some k) (hd : ¬ (q.flow k).deficit ≤ 0) (hi : isF q.tg q.iv now (q.flow k) = false) (hm : q.fresh ≠ [] ∧ q.elder ≠ []) :
    takeN now (n + 1) q d = takeN now n (((q.setF k (pullF q.tg q.iv now (q.flow k))).popT).addE k) (d ++ dropF q.tg q.iv now (q.flow k)) := by
  simp only [takeN, ht]; rw [if_neg hd, if_neg (by simp [hi]), if_pos hm]
theorem takeN_gone {n : Nat} {d : List Pk} (ht : q.turn = some k) (hd : ¬ (q.flow k).deficit ≤ 0) (hi : isF q.tg q.iv now (q.flow k) = false) (hm : ¬ (q.fresh ≠ [] ∧ q.elder ≠ [])) :
    takeN now (n + 1) q d = takeN now n ((q.setF k (pullF q.tg q.iv now (q.flow k))).popT) (d ++ dropF q.tg q.iv now (q.flow k)) := by
  simp only [takeN, ht]; rw [if_neg hd, if_neg (by simp [hi]), if_neg hm]
theorem setD_ok (hf : FOk f) (h0 : -1048576 ≤ d) (h1 : d ≤ 300) : FOk (f.setD d) := ⟨hf.c, hf.p, h0, h1⟩
theorem fatN_cons {l : List Fl} {k : Nat} {f : Fl} {s : Int × Int} (hf : l[k]? = some f) : fatN (l.drop k) k s = fatN (l.drop (k + 1)) ((k : Int) + 1) (if f.l ≠ [] ∧ s.2 < bytP f.l then ((k : Int), bytP f.l) else s) := by
  rw [List.drop_eq_getElem_cons (List.getElem?_eq_some_iff.1 hf).1, (List.getElem?_eq_some_iff.1 hf).2]
  rfl
def allL (l : List Fl) : List Pk := (l.map (·.l)).flatten
theorem allL_len : ∀ (l : List Fl), (allL l).length = cntL l
  | [] => rfl
  | f :: r => by simp [allL, cntL]; have := allL_len r; unfold allL at this; simpa using this
theorem allL_take {l : List Fl} {k : Nat} {f : Fl} (hf : l[k]? = some f) : allL (l.take (k + 1)) = allL (l.take k) ++ f.l := by
  unfold allL
  rw [List.take_add_one, hf]; simp
theorem cntL_app : ∀ (a b : List Fl), cntL (a ++ b) = cntL a + cntL b
  | [], b => by simp [cntL]
  | f :: a, b => by simp [cntL, cntL_app a b]; omega
theorem allL_bd {l : List Fl} {k : Nat} {f : Fl} (hf : l[k]? = some f) : (allL (l.take k)).length + f.l.length ≤ cntL l := by
  rw [allL_len]
  conv => rhs; rw [← List.take_append_drop k l]
  rw [cntL_app, List.drop_eq_getElem_cons (List.getElem?_eq_some_iff.1 hf).1, (List.getElem?_eq_some_iff.1 hf).2]
  simp only [cntL]; omega
theorem flow_at (hq : QOk q) {j : Nat} (hj : j < 16) : q.fl[j]? = some (q.flow (j : Int)) := (hq.flow (k := (j : Int)) (by omega) (by omega)).1
end
end Go.Proofs.YtpcilleldanfmaaDoor

/- A queue from which nothing is dropped (a great target, all at time 0), as plain mathematics. -/
set_option linter.unusedVariables false
set_option linter.unusedSimpArgs false
namespace Go.Proofs.YtpcilleldanfmaaDoor
open Go.Vc
theorem joinL_one (n : Nat) (v : Value) : joinL (List.replicate n [v]) = List.replicate n v := by
  induction n with
  | zero => rfl
  | succ n ih => simp [List.replicate_succ, joinL, ih]
/-- Bytes that are made: none of them other than 0. -/
theorem made_bytes {W : Wd} {h : Heap} {G : List Grp} {b n : Nat} {T : TypeId} (m : Me W h ([(b, joinL (List.replicate n [(.int .u8 (0 : Int))]), T)] :: G)) : ∃ W', W.le W' ∧ Me W' h G ∧ Bts W' (.slice (some ⟨b, 0, none⟩) n n) (List.replicate n 0) := by
  have e : joinL (List.replicate n [(.int .u8 (0 : Int))]) = ints .u8 (List.replicate n 0) := by rw [joinL_one]; simp [ints]
  rw [e] at m
  obtain ⟨W', hle, hE, m'⟩ := m.give
  exact ⟨W', hle, m', (Ow.fresh0 (T := T) (l := n) (sz := 1) (vs := ints .u8 (List.replicate n 0)) (by simp [ints])).bts (by simp) hE⟩
section
variable {q : Qu} {f g : Fl} {k d : Int} {p : Pk} {r l : List Pk} {tg iv now : Int}
/-- A packet at time 0, of so many bytes. -/
def pkZ (id flow : Int) (n : Nat) : Pk := ⟨id, flow, 0, 0, List.replicate n 0⟩
theorem pkZ_len (id flow : Int) (n : Nat) : (pkZ id flow n).body.length = n := List.length_replicate
theorem pkZ_v {W : Wd} {b n : Nat} (id flow : Int) (hb : Bts W (.slice (some ⟨b, 0, none⟩) n n) (List.replicate n 0)) : PkV W (pkZ id flow n) [.int .i64 id, .int .u32 flow, .int .i64 0, .int .i64 0, .slice (some ⟨b, 0, none⟩) n n] :=
  ⟨some ⟨b, 0, none⟩, n, by rw [pkZ_len]; rfl, by rw [pkZ_len]; exact hb⟩
structure FCalm (f : Fl) : Prop where
  c : f.c = cs0
  at_ : ∀ p ∈ f.l, p.at_ = 0
theorem runP_calm (hf : FCalm f) (ht : clampI tg = 1073741824) : (runP tg iv 0 f).1.rest = cs0 ∧ (runP tg iv 0 f).1.pos = 0 ∧ (runP tg iv 0 f).2 = decide (f.l ≠ []) := by
  unfold runP
  rw [ht, hf.c]
  cases hl : f.l with
  | nil => simp [runZ, lookZ, itemsP, cs0, CSt.rest]
  | cons p r =>
    have h0 := hf.at_ p (by rw [hl]; simp)
    simp [runZ, lookZ, itemsP, cs0, CSt.rest, h0]
theorem pullF_calm (hf : FCalm f) (ht : clampI tg = 1073741824) : pullF tg iv 0 f = f ∧ dropF tg iv 0 f = [] ∧ isF tg iv 0 f = decide (f.l ≠ []) := by
  obtain ⟨h1, h2, h3⟩ := runP_calm (iv := iv) hf ht
  refine ⟨?_, ?_, h3⟩
  · unfold pullF
    rw [h1, h2]
    obtain ⟨l, d, c⟩ := f
    have : c = cs0 := hf.c
    subst this
    rfl
  · unfold dropF; rw [h2]; rfl
structure Calm (q : Qu) : Prop where
  ok : QOk q
  tg : clampI q.tg = 1073741824
  f : ∀ f ∈ q.fl, FCalm f
theorem Calm.flow (hq : Calm q) (k0 : 0 ≤ k) (k1 : k < 16) : FCalm (q.flow k) := hq.f _ (List.mem_of_getElem? (hq.ok.flow k0 k1).1)
theorem Calm.setF (hq : Calm q) (k0 : 0 ≤ k) (k1 : k < 16) (hg : FCalm g) (ho : FOk g) (hl : g.l.length ≤ (q.flow k).l.length) : Calm (q.setF k g) :=
  ⟨hq.ok.setF k0 k1 ho hl, hq.tg, fun f hf => by
    rcases List.mem_or_eq_of_mem_set hf with hf | rfl
    · exact hq.f f hf
    · exact hg⟩
theorem Calm.lists {q' : Qu} (hq : Calm q) (ho : QOk q') (hfl : q'.fl = q.fl) (ht : q'.tg = q.tg) : Calm q' := ⟨ho, by rw [ht]; exact hq.tg, by rw [hfl]; exact hq.f⟩
theorem calm0 (seed iv : Int) : Calm (qu0 seed 1073741824 iv) := ⟨qok0 _ _ _, by show clampI 1073741824 = _; decide, fun f hf => by simp [qu0] at hf; subst hf; exact ⟨rfl, by simp [fl0]⟩⟩
/-- A turn is over: the flow's deficit grows, it goes to the end of the elder ones. -/
def Qu.over (q : Qu) (k : Int) : Qu := ((q.setF k ((q.flow k).setD ((q.flow k).deficit + 300))).popT).addE k
/-- The first of a flow is taken. -/
def Qu.took (q : Qu) (k : Int) (p : Pk) (r : List Pk) : Qu := q.setF k (((q.flow k).setL r).setD ((q.flow k).deficit - p.body.length))
theorem Calm.over (hq : Calm q) (ht : q.turn = some k) (hd : (q.flow k).deficit ≤ 0) : Calm (q.over k) ∧ (q.over k).meas < q.meas := by
  obtain ⟨k0, k1⟩ := hq.ok.b k (turn_mem ht)
  have hfo := (hq.ok.flow k0 k1).2
  have hfc := hq.flow k0 k1
  have hd0 := hfo.d0
  have h1 := hq.setF k0 k1 (g := (q.flow k).setD ((q.flow k).deficit + 300)) ⟨hfc.c, hfc.at_⟩ (setD_ok hfo (by omega) (by omega)) (by simp)
  refine ⟨?_, meas_turn hq.ok ht hd⟩
  exact h1.lists ((h1.ok.popT).addE (popT_not h1.ok (k := k) ht) k0 k1) (by unfold Qu.over Qu.addE Qu.popT; split <;> rfl) (by unfold Qu.over Qu.addE Qu.popT; split <;> rfl)
theorem Calm.took (hq : Calm q) (k0 : 0 ≤ k) (k1 : k < 16) (hd : 0 < (q.flow k).deficit) (hp : (q.flow k).l = p :: r) : Calm (q.took k p r) := by
  have hfo := (hq.ok.flow k0 k1).2
  have hfc := hq.flow k0 k1
  have h1 := hfo.p p (by rw [hp]; simp)
  have hd1 := hfo.d1
  refine hq.setF k0 k1 ⟨hfc.c, fun x hx => hfc.at_ x (by rw [hp]; simp at hx; simp [hx])⟩ ⟨hfo.c, fun x hx => hfo.p x (by rw [hp]; simp at hx; simp [hx]), ?_, ?_⟩ (by rw [hp]; simp)
  · simp; omega
  · simp; omega
theorem takeC_over {n : Nat} {d : List Pk} (ht : q.turn = some k) (hd : (q.flow k).deficit ≤ 0) : takeN 0 (n + 1) q d = takeN 0 n (q.over k) d := takeN_turn ht hd
theorem takeC_took {n : Nat} {d : List Pk} (hq : Calm q) (ht : q.turn = some k) (hd : 0 < (q.flow k).deficit) (hp : (q.flow k).l = p :: r) : takeN 0 (n + 1) q d = (q.took k p r, d, some p) := by
  obtain ⟨k0, k1⟩ := hq.ok.b k (turn_mem ht)
  obtain ⟨h1, h2, h3⟩ := pullF_calm (iv := q.iv) (hq.flow k0 k1) hq.tg
  rw [takeN_some ht (by omega) (by rw [h3, hp]; simp) (by rw [h1]; exact hp), h1, h2, List.append_nil]
  rfl
theorem over_flow (hq : Calm q) (k0 : 0 ≤ k) (k1 : k < 16) : (q.over k).flow k = (q.flow k).setD ((q.flow k).deficit + 300) := by
  show ((q.setF k _).popT).flow k = _
  rw [popT_flow, flow_setF hq.ok k0 k1]
theorem over_flow_ne {j : Int} (k0 : 0 ≤ k) (j0 : 0 ≤ j) (h : j ≠ k) : (q.over k).flow j = q.flow j := by
  show ((q.setF k _).popT).flow j = _
  rw [popT_flow, flow_setF_ne k0 j0 h]
theorem over_fresh : (q.over k).fresh = q.fresh.tail := by
  unfold Qu.over Qu.addE
  show ((q.setF k _).popT).fresh = _
  unfold Qu.popT
  split
  · rename_i h; rw [setF_fresh] at h; show q.fresh = _; rw [h]; rfl
  · rfl
theorem over_elder : (q.over k).elder = (if q.fresh = [] then q.elder.tail else q.elder) ++ [k] := by
  unfold Qu.over Qu.addE
  show ((q.setF k _).popT).elder ++ [k] = _
  unfold Qu.popT
  rw [setF_fresh]
  split <;> rfl
theorem put_seed (q : Qu) (p : Pk) : (q.put p).seed = q.seed := by unfold Qu.put; dsimp only; split <;> rfl
theorem put_tg (q : Qu) (p : Pk) : (q.put p).tg = q.tg := by unfold Qu.put; dsimp only; split <;> rfl
theorem put_in (h : bucketZ p.flow q.seed ∈ q.fresh ∨ bucketZ p.flow q.seed ∈ q.elder) : q.put p = q.setF (bucketZ p.flow q.seed) ((q.flow (bucketZ p.flow q.seed)).setL ((q.flow (bucketZ p.flow q.seed)).l ++ [p])) := if_pos h
theorem put_out (h : ¬ (bucketZ p.flow q.seed ∈ q.fresh ∨ bucketZ p.flow q.seed ∈ q.elder)) : q.put p = (q.setF (bucketZ p.flow q.seed) (((q.flow (bucketZ p.flow q.seed)).setL ((q.flow (bucketZ p.flow q.seed)).l ++ [p])).setD 300)).addF (bucketZ p.flow q.seed) := if_neg h
/-- What a put keeps. -/
theorem QOk.put (hq : QOk q) (h0 : 0 ≤ p.at_) (h1 : p.at_ ≤ 1125899906842624) (hl : p.body.length ≤ 1048576) (hc : q.cnt < 1048576) : QOk (q.put p) ∧ (q.put p).cnt = q.cnt + 1 := by
  obtain ⟨k0, k1⟩ := bucketZ_bd p.flow q.seed
  by_cases h : bucketZ p.flow q.seed ∈ q.fresh ∨ bucketZ p.flow q.seed ∈ q.elder
  · rw [put_in h]
    generalize bucketZ p.flow q.seed = k at *
    have hfo := (hq.flow k0 k1).2
    have c3 := cntL_set (g := (q.flow k).setL ((q.flow k).l ++ [p])) (hq.flow k0 k1).1
    simp only [setL_l, List.length_append, List.length_singleton] at c3
    have e : (q.setF k ((q.flow k).setL ((q.flow k).l ++ [p]))).cnt = q.cnt + 1 := by
      show cntL (q.fl.set k.toNat _) = cntL q.fl + 1
      omega
    refine ⟨⟨by simp [Qu.setF, hq.len], fun f hf => ?_, hq.nd, hq.b, by omega⟩, e⟩
    rcases List.mem_or_eq_of_mem_set hf with hf | rfl
    · exact hq.f f hf
    · exact ⟨hfo.c, fun x hx => by
        simp at hx
        rcases hx with hx | rfl
        · exact hfo.p x hx
        · exact ⟨h0, h1, hl⟩, hfo.d0, hfo.d1⟩
  · rw [put_out h]
    generalize bucketZ p.flow q.seed = k at *
    have hfo := (hq.flow k0 k1).2
    have c3 := cntL_set (g := ((q.flow k).setL ((q.flow k).l ++ [p])).setD 300) (hq.flow k0 k1).1
    simp only [setL_l, setD_l, List.length_append, List.length_singleton] at c3
    have e : ((q.setF k (((q.flow k).setL ((q.flow k).l ++ [p])).setD 300)).addF k).cnt = q.cnt + 1 := by
      show cntL (q.fl.set k.toNat _) = cntL q.fl + 1
      omega
    refine ⟨⟨by simp [Qu.setF, Qu.addF, hq.len], fun f hf => ?_, ?_, ?_, by omega⟩, e⟩
    · rcases List.mem_or_eq_of_mem_set hf with hf | rfl
      · exact hq.f f hf
      · exact ⟨hfo.c, fun x hx => by
          simp at hx
          rcases hx with hx | rfl
          · exact hfo.p x hx
          · exact ⟨h0, h1, hl⟩, by simp, by simp⟩
    · show ((q.fresh ++ [k]) ++ q.elder).Nodup
      refine (List.perm_append_comm.nodup_iff).1 ?_
      rw [← List.append_assoc]
      refine List.nodup_append.2 ⟨(List.perm_append_comm.nodup_iff).1 hq.nd, by simp, fun a ha b hb => ?_⟩
      simp at hb; subst hb
      rintro rfl
      simp at ha
      exact h (ha.elim .inr .inl)
    · intro j hj
      have hj : j ∈ (q.fresh ++ [k]) ++ q.elder := hj
      simp at hj
      rcases hj with hj | rfl | hj
      · exact hq.b j (by simp [hj])
      · exact ⟨k0, k1⟩
      · exact hq.b j (by simp [hj])
theorem Calm.put (hq : Calm q) (h0 : p.at_ = 0) (hl : p.body.length ≤ 1048576) (hc : q.cnt < 1048576) : Calm (q.put p) := by
  obtain ⟨k0, k1⟩ := bucketZ_bd p.flow q.seed
  refine ⟨(hq.ok.put (by omega) (by omega) hl hc).1, by rw [put_tg]; exact hq.tg, fun f hf => ?_⟩
  have hfc := hq.flow k0 k1
  have key : FCalm ((q.flow (bucketZ p.flow q.seed)).setL ((q.flow (bucketZ p.flow q.seed)).l ++ [p])) := ⟨hfc.c, fun x hx => by
    simp at hx
    rcases hx with hx | rfl
    · exact hfc.at_ x hx
    · exact h0⟩
  unfold Qu.put at hf
  dsimp only at hf
  split at hf
  · rcases List.mem_or_eq_of_mem_set hf with hf | rfl
    · exact hq.f f hf
    · exact key
  · rcases List.mem_or_eq_of_mem_set hf with hf | rfl
    · exact hq.f f hf
    · exact ⟨key.c, key.at_⟩
end
end Go.Proofs.YtpcilleldanfmaaDoor

/- What comes out of a queue: of each flow its first ones, in their order; nothing only where nothing is left. -/
set_option linter.unusedVariables false
set_option linter.unusedSimpArgs false
namespace Go.Proofs.YtpcilleldanfmaaDoor
section
variable {q : Qu} {f g : Fl} {k d j : Int} {p : Pk} {r l : List Pk} {tg iv now : Int}
/-- Each packet lies in its bucket; each flow that has some has its turn. -/
structure Well (q : Qu) : Prop where
  ok : QOk q
  busy : ∀ k, 0 ≤ k → k < 16 → (q.flow k).l ≠ [] → k ∈ q.fresh ++ q.elder
  wp : ∀ k, 0 ≤ k → k < 16 → ∀ p ∈ (q.flow k).l, bucketZ p.flow q.seed = k
def inB (s k : Int) (l : List Pk) : List Pk := l.filter fun p => decide (bucketZ p.flow s = k)
theorem inB_app (s k : Int) (a b : List Pk) : inB s k (a ++ b) = inB s k a ++ inB s k b := List.filter_append ..
theorem inB_all {s : Int} {l : List Pk} (h : ∀ p ∈ l, bucketZ p.flow s = k) : inB s k l = l := List.filter_eq_self.2 fun p hp => by simp [h p hp]
theorem inB_none {s : Int} {l : List Pk} (h : ∀ p ∈ l, bucketZ p.flow s = j) (hne : j ≠ k) : inB s k l = [] := List.filter_eq_nil_iff.2 fun p hp => by simp [h p hp, hne]
/-- What a step makes of the flows: what went out of one, the others as they were. -/
theorem Well.part (w : Well q) (k0 : 0 ≤ k) (k1 : k < 16) {out : List Pk} {q' : Qu} (hk : (q.flow k).l = out ++ (q'.flow k).l) (hj : ∀ j, 0 ≤ j → j < 16 → j ≠ k → (q'.flow j).l = (q.flow j).l) :
    ∀ j, 0 ≤ j → j < 16 → (q.flow j).l = inB q.seed j out ++ (q'.flow j).l := by
  intro j j0 j1
  have ho : ∀ p ∈ out, bucketZ p.flow q.seed = k := fun p hp => w.wp k k0 k1 p (by rw [hk]; simp [hp])
  by_cases h : j = k
  · subst h; rw [inB_all ho]; exact hk
  · rw [inB_none ho (Ne.symm h), hj j j0 j1 h]; rfl
structure Law (now : Int) (q : Qu) (d : List Pk) (ρ : Qu × List Pk × Option Pk) : Prop where
  w : Well ρ.1
  seed : ρ.1.seed = q.seed
  tg : ρ.1.tg = q.tg
  iv : ρ.1.iv = q.iv
  out : ∃ dd, ρ.2.1 = d ++ dd ∧ (∀ j, 0 ≤ j → j < 16 → (q.flow j).l = inB q.seed j (dd ++ ρ.2.2.toList) ++ (ρ.1.flow j).l) ∧ ∀ p ∈ dd ++ ρ.2.2.toList, 0 ≤ bucketZ p.flow q.seed ∧ bucketZ p.flow q.seed < 16 ∧ p ∈ (q.flow (bucketZ p.flow q.seed)).l
  none : ρ.2.2 = none → ∀ j, 0 ≤ j → j < 16 → (ρ.1.flow j).l = []
theorem Well.setPull (w : Well q) (k0 : 0 ≤ k) (k1 : k < 16) (n0 : 0 ≤ now) (n1 : now ≤ 1125899906842624) : QOk (q.setF k (pullF q.tg q.iv now (q.flow k))) := by
  have hfo := (w.ok.flow k0 k1).2
  exact w.ok.setF k0 k1 (pullF_ok (tg := q.tg) (iv := q.iv) hfo (w.ok.fcnt k0 k1) n0 n1) (by simp [pullF])
theorem popT_seed : q.popT.seed = q.seed := by unfold Qu.popT; split <;> rfl
theorem popT_tg : q.popT.tg = q.tg := by unfold Qu.popT; split <;> rfl
theorem popT_iv : q.popT.iv = q.iv := by unfold Qu.popT; split <;> rfl
theorem mem_popT (ht : q.turn = some k) (hj : j ∈ q.fresh ++ q.elder) (hne : j ≠ k) : j ∈ q.popT.fresh ++ q.popT.elder := by
  unfold Qu.turn at ht
  unfold Qu.popT
  split at ht
  · rename_i k' r e; cases ht; rw [if_neg (by rw [e]; simp)]
    show j ∈ q.fresh.tail ++ q.elder
    rw [e] at hj ⊢; simp at hj ⊢
    rcases hj with h | h | h
    · exact absurd h hne
    · exact .inl h
    · exact .inr h
  · rename_i e; rw [if_pos e]
    show j ∈ q.fresh ++ q.elder.tail
    cases he : q.elder with
    | nil => simp [he] at ht
    | cons x r =>
      simp [he] at ht; subst ht
      rw [e, he] at hj; rw [e]; simp at hj ⊢
      rcases hj with h | h
      · exact absurd h hne
      · exact h
theorem takeN_law (n0 : 0 ≤ now) (n1 : now ≤ 1125899906842624) : ∀ (n : Nat) (q : Qu) (d : List Pk), q.meas < n → Well q → Law now q d (takeN now n q d)
  | 0, q, d, hm, _ => by omega
  | n + 1, q, d, hm, w => by
    have hq := w.ok
    cases ht : q.turn with
    | none =>
      have he : q.fresh = [] ∧ q.elder = [] := by
        unfold Qu.turn at ht
        split at ht
        · cases ht
        · rename_i e; exact ⟨e, List.head?_eq_none_iff.1 ht⟩
      rw [takeN_none ht]
      have hz : ∀ j, 0 ≤ j → j < 16 → (q.flow j).l = [] := fun j j0 j1 => Classical.byContradiction fun hc => by
        have := w.busy j j0 j1 hc
        rw [he.1, he.2] at this; cases this
      exact ⟨w, rfl, rfl, rfl, ⟨[], by simp, fun j j0 j1 => rfl, fun p hp => by simp at hp⟩, fun _ => hz⟩
    | some k =>
      obtain ⟨k0, k1⟩ := hq.b k (turn_mem ht)
      have hfo := (hq.flow k0 k1).2
      have hfc := hq.fcnt k0 k1
      by_cases hd : (q.flow k).deficit ≤ 0
      · rw [takeN_turn ht hd]
        have hd0 := hfo.d0
        have hok1 := hq.setF k0 k1 (setD_ok hfo (d := (q.flow k).deficit + 300) (by omega) (by omega)) (by simp)
        have hok2 := (hok1.popT).addE (popT_not hok1 (k := k) ht) k0 k1
        have hfl : ∀ j, 0 ≤ j → j < 16 → ((((q.setF k ((q.flow k).setD ((q.flow k).deficit + 300))).popT).addE k).flow j).l = (q.flow j).l := fun j j0 j1 => by
          show (((q.setF k _).popT).flow j).l = _
          rw [popT_flow]
          by_cases h : j = k
          · subst h; rw [flow_setF hq k0 k1]; rfl
          · rw [flow_setF_ne k0 j0 h]
        have hsd : (((q.setF k ((q.flow k).setD ((q.flow k).deficit + 300))).popT).addE k).seed = q.seed := popT_seed
        have w2 : Well (((q.setF k ((q.flow k).setD ((q.flow k).deficit + 300))).popT).addE k) := by
          refine ⟨hok2, fun j j0 j1 hl => ?_, fun j j0 j1 p hp => ?_⟩
          · rw [hfl j j0 j1] at hl
            have := w.busy j j0 j1 hl
            show j ∈ ((q.setF k _).popT).fresh ++ (((q.setF k _).popT).elder ++ [k])
            by_cases h : j = k
            · subst h; simp
            · have := mem_popT (q := q.setF k ((q.flow k).setD ((q.flow k).deficit + 300))) ht this h
              rw [← List.append_assoc]; exact List.mem_append_left _ this
          · rw [hfl j j0 j1] at hp; rw [hsd]; exact w.wp j j0 j1 p hp
        obtain ⟨a, b, b1, b2, ⟨dd, c1, c2, c3⟩, e⟩ := takeN_law n0 n1 n _ d (by have := meas_turn hq ht hd; omega) w2
        refine ⟨a, b.trans hsd, b1.trans popT_tg, b2.trans popT_iv, ⟨dd, c1, fun j j0 j1 => ?_, fun p hp => ?_⟩, e⟩
        · rw [← hfl j j0 j1, c2 j j0 j1, hsd]
        · have := c3 p hp; rw [hsd] at this
          exact ⟨this.1, this.2.1, by rw [← hfl _ this.1 this.2.1]; exact this.2.2⟩
      · have hok2 := w.setPull k0 k1 n0 n1
        have hsp : (q.flow k).l = dropF q.tg q.iv now (q.flow k) ++ (pullF q.tg q.iv now (q.flow k)).l := (List.take_append_drop _ _).symm
        have hne : ∀ (g : Fl) j, 0 ≤ j → j < 16 → j ≠ k → (q.setF k g).flow j = q.flow j := fun g j j0 j1 h => flow_setF_ne k0 j0 h
        have hisd := isF_drop (tg := q.tg) (iv := q.iv) hfo hfc n0 n1
        cases his : isF q.tg q.iv now (q.flow k) with
        | true =>
          obtain ⟨p, r, hp⟩ := hisd.1 his
          rw [takeN_some ht hd his hp]
          rw [hp] at hsp
          have hok3 : QOk (q.setF k (((pullF q.tg q.iv now (q.flow k)).setL r).setD ((q.flow k).deficit - p.body.length))) := by
            have hpo := pullF_ok (tg := q.tg) (iv := q.iv) hfo hfc n0 n1
            have hpb := (hpo.p p (by rw [hp]; simp)).2.2
            have hd1 := hfo.d1
            refine hq.setF k0 k1 ⟨hpo.c, fun x hx => hpo.p x (by rw [hp]; simp at hx; simp [hx]), ?_, ?_⟩ ?_
            · simp; omega
            · simp; omega
            · rw [hsp]; simp; omega
          refine ⟨⟨hok3, fun j j0 j1 hl => ?_, fun j j0 j1 x hx => ?_⟩, rfl, rfl, rfl, ⟨_, rfl, ?_, ?_⟩, fun h => by cases h⟩
          · show j ∈ q.fresh ++ q.elder
            by_cases h : j = k
            · subst h; exact turn_mem ht
            · rw [hne _ j j0 j1 h] at hl; exact w.busy j j0 j1 hl
          · show bucketZ x.flow q.seed = j
            by_cases h : j = k
            · subst h; rw [flow_setF hq k0 k1] at hx
              exact w.wp j j0 j1 x (by rw [hsp]; simp at hx; simp [hx])
            · rw [hne _ j j0 j1 h] at hx; exact w.wp j j0 j1 x hx
          · refine w.part k0 k1 ?_ fun j j0 j1 h => by rw [hne _ j j0 j1 h]
            rw [flow_setF hq k0 k1, hsp]; simp
          · intro x hx
            have hm : x ∈ (q.flow k).l := by rw [hsp]; simp at hx; simp; rcases hx with h | h; exact .inl h; exact .inr (.inl h)
            have hb := w.wp k k0 k1 x hm
            rw [hb]; exact ⟨k0, k1, hm⟩
        | false =>
          have hnil : (pullF q.tg q.iv now (q.flow k)).l = [] := by
            cases hl : (pullF q.tg q.iv now (q.flow k)).l with
            | nil => rfl
            | cons p r => rw [hisd.2 ⟨p, r, hl⟩] at his; cases his
          rw [hnil, List.append_nil] at hsp
          have hgd : (pullF q.tg q.iv now (q.flow k)).deficit = (q.flow k).deficit := rfl
          have hmv := meas_empty hq ht hd hgd
          have rest : ∀ q2 : Qu, QOk q2 → q2.seed = q.seed → q2.tg = q.tg → q2.iv = q.iv → (∀ j, q2.flow j = (q.setF k (pullF q.tg q.iv now (q.flow k))).flow j) → (∀ j, j ∈ q.popT.fresh ++ q.popT.elder → j ∈ q2.fresh ++ q2.elder) → q2.meas < n →
              Law now q d (takeN now n q2 (d ++ dropF q.tg q.iv now (q.flow k))) := by
            intro q2 h1 h2 ht2 hi2 h3 h4 h5
            have w2 : Well q2 := by
              refine ⟨h1, fun j j0 j1 hl => ?_, fun j j0 j1 p hp => ?_⟩
              · rw [h3] at hl
                by_cases h : j = k
                · subst h; rw [flow_setF hq k0 k1] at hl; exact absurd hnil hl
                · rw [hne _ j j0 j1 h] at hl
                  exact h4 j (mem_popT ht (w.busy j j0 j1 hl) h)
              · rw [h3] at hp
                rw [h2]
                by_cases h : j = k
                · subst h; rw [flow_setF hq k0 k1, hnil] at hp; cases hp
                · rw [hne _ j j0 j1 h] at hp; exact w.wp j j0 j1 p hp
            obtain ⟨a, b, b1, b2, ⟨dd, c1, c2, c3⟩, e⟩ := takeN_law n0 n1 n q2 (d ++ dropF q.tg q.iv now (q.flow k)) h5 w2
            refine ⟨a, b.trans h2, b1.trans ht2, b2.trans hi2, ⟨dropF q.tg q.iv now (q.flow k) ++ dd, by rw [c1, List.append_assoc], fun j j0 j1 => ?_, fun p hp => ?_⟩, e⟩
            · rw [List.append_assoc, inB_app, List.append_assoc, ← h2, ← c2 j j0 j1, h3, h2]
              refine w.part k0 k1 ?_ (fun j j0 j1 h => by rw [hne _ j j0 j1 h]) j j0 j1
              rw [flow_setF hq k0 k1, hnil, List.append_nil]; exact hsp
            · rw [List.append_assoc] at hp
              rcases List.mem_append.1 hp with hp | hp
              · have hm : p ∈ (q.flow k).l := by rw [hsp]; exact hp
                have hb := w.wp k k0 k1 p hm
                rw [hb]; exact ⟨k0, k1, hm⟩
              · have := c3 p hp
                rw [h2, h3] at this
                refine ⟨this.1, this.2.1, ?_⟩
                by_cases h : bucketZ p.flow q.seed = k
                · rw [h, flow_setF hq k0 k1, hnil] at this; cases this.2.2
                · rw [hne _ _ this.1 this.2.1 h] at this; exact this.2.2
          by_cases hm2 : q.fresh ≠ [] ∧ q.elder ≠ []
          · rw [takeN_move ht hd his hm2]
            refine rest _ ((hok2.popT).addE (popT_not hok2 (k := k) ht) k0 k1) popT_seed popT_tg popT_iv (fun j => by show ((q.setF k _).popT).flow j = _; rw [popT_flow]) (fun j hj => ?_) (by have := hmv.2 hm2.1; omega)
            show j ∈ ((q.setF k _).popT).fresh ++ (((q.setF k _).popT).elder ++ [k])
            rw [setF_popT, ← List.append_assoc]; exact List.mem_append_left _ hj
          · rw [takeN_gone ht hd his hm2]
            refine rest _ hok2.popT popT_seed popT_tg popT_iv (fun j => popT_flow j) (fun j hj => ?_) (by have := hmv.1; omega)
            rw [setF_popT]; exact hj
theorem take_law (n0 : 0 ≤ now) (n1 : now ≤ 1125899906842624) (w : Well q) : Law now q [] (q.take now) := takeN_law n0 n1 _ q [] (Nat.lt_succ_self _) w
theorem well0 (seed tg iv : Int) : Well (qu0 seed tg iv) := by
  have hz : ∀ k : Int, ((qu0 seed tg iv).flow k).l = [] := fun k => by
    unfold Qu.flow qu0
    simp only [List.getElem?_replicate]
    split <;> rfl
  exact ⟨qok0 _ _ _, fun k _ _ h => absurd (hz k) h, fun k _ _ p hp => by rw [hz] at hp; cases hp⟩
/-- A put: its flow is the longer by it. -/
theorem Well.put (w : Well q) (h0 : 0 ≤ p.at_) (h1 : p.at_ ≤ 1125899906842624) (hl : p.body.length ≤ 1048576) (hc : q.cnt < 1048576) :
    Well (q.put p) ∧ ((q.put p).flow (bucketZ p.flow q.seed)).l = (q.flow (bucketZ p.flow q.seed)).l ++ [p] ∧ ∀ j, 0 ≤ j → j ≠ bucketZ p.flow q.seed → (q.put p).flow j = q.flow j := by
  obtain ⟨k0, k1⟩ := bucketZ_bd p.flow q.seed
  have hok := (w.ok.put h0 h1 hl hc).1
  have hs := put_seed q p
  have fk : ((q.put p).flow (bucketZ p.flow q.seed)).l = (q.flow (bucketZ p.flow q.seed)).l ++ [p] := by
    by_cases h : bucketZ p.flow q.seed ∈ q.fresh ∨ bucketZ p.flow q.seed ∈ q.elder
    · rw [put_in h, flow_setF w.ok k0 k1]; rfl
    · rw [put_out h]; show ((q.setF _ _).flow _).l = _; rw [flow_setF w.ok k0 k1]; rfl
  have fj : ∀ j, 0 ≤ j → j ≠ bucketZ p.flow q.seed → (q.put p).flow j = q.flow j := fun j j0 hj => by
    by_cases h : bucketZ p.flow q.seed ∈ q.fresh ∨ bucketZ p.flow q.seed ∈ q.elder
    · rw [put_in h, flow_setF_ne k0 j0 hj]
    · rw [put_out h]; show (q.setF _ _).flow j = _; rw [flow_setF_ne k0 j0 hj]
  have lk : bucketZ p.flow q.seed ∈ (q.put p).fresh ++ (q.put p).elder ∧ ∀ j, j ∈ q.fresh ++ q.elder → j ∈ (q.put p).fresh ++ (q.put p).elder := by
    by_cases h : bucketZ p.flow q.seed ∈ q.fresh ∨ bucketZ p.flow q.seed ∈ q.elder
    · rw [put_in h]; exact ⟨by show _ ∈ q.fresh ++ q.elder; simpa using h, fun j hj => hj⟩
    · rw [put_out h]
      refine ⟨?_, fun j hj => ?_⟩
      · show _ ∈ (q.fresh ++ [_]) ++ q.elder; simp
      · show j ∈ (q.fresh ++ [_]) ++ q.elder
        simp at hj ⊢
        rcases hj with h | h
        · exact .inl h
        · exact .inr (.inr h)
  refine ⟨⟨hok, fun j j0 j1 hl => ?_, fun j j0 j1 x hx => ?_⟩, fk, fj⟩
  · by_cases h : j = bucketZ p.flow q.seed
    · rw [h]; exact lk.1
    · rw [fj j j0 h] at hl; exact lk.2 j (w.busy j j0 j1 hl)
  · rw [hs]
    by_cases h : j = bucketZ p.flow q.seed
    · subst h; rw [fk] at hx
      rcases List.mem_append.1 hx with hx | hx
      · exact w.wp _ j0 j1 x hx
      · simp at hx; subst hx; rfl
    · rw [fj j j0 h] at hx; exact w.wp j j0 j1 x hx
/-- How many there are, flow by flow. -/
def sumN (f : Nat → Nat) : Nat → Nat
  | 0 => 0
  | n + 1 => sumN f n + f n
theorem sumN_add (f g : Nat → Nat) : ∀ n, sumN (fun j => f j + g j) n = sumN f n + sumN g n
  | 0 => rfl
  | n + 1 => by simp only [sumN, sumN_add f g n]; omega
theorem sumN_congr {f g : Nat → Nat} : ∀ {n}, (∀ j, j < n → f j = g j) → sumN f n = sumN g n
  | 0, _ => rfl
  | n + 1, h => by simp only [sumN]; rw [sumN_congr fun j hj => h j (by omega), h n (by omega)]
theorem cnt_sumN {l : List Fl} : ∀ n, cntL (l.take n) = sumN (fun j => ((l[j]?).getD fl0).l.length) n
  | 0 => rfl
  | n + 1 => by
    simp only [sumN]
    rw [← cnt_sumN n, List.take_add_one, cntL_app]
    cases l[n]? <;> simp [cntL, fl0]
theorem cnt_sum (hq : QOk q) : q.cnt = sumN (fun j => (q.flow (j : Int)).l.length) 16 := by
  have := cnt_sumN (l := q.fl) 16
  rw [List.take_of_length_le (by rw [hq.len]; omega)] at this
  exact this
theorem one_of (n : Nat) (h : n < 16) : sumN (fun j => if n = j then 1 else 0) 16 = 1 := by
  have : ∀ n, n < 16 → sumN (fun j => if n = j then 1 else 0) 16 = 1 := by decide
  exact this n h
theorem inB_sum {s : Int} : ∀ {l : List Pk}, (∀ p ∈ l, 0 ≤ bucketZ p.flow s ∧ bucketZ p.flow s < 16) → sumN (fun j => (inB s (j : Int) l).length) 16 = l.length
  | [], _ => rfl
  | p :: r, h => by
    have ih := inB_sum (l := r) fun x hx => h x (by simp [hx])
    obtain ⟨h0, h1⟩ := h p (by simp)
    have e : sumN (fun j => (inB s (j : Int) (p :: r)).length) 16 = sumN (fun j => (if (bucketZ p.flow s).toNat = j then 1 else 0) + (inB s (j : Int) r).length) 16 := by
      apply sumN_congr
      intro j hj
      unfold inB
      rw [List.filter_cons]
      by_cases hb : bucketZ p.flow s = (j : Int)
      · rw [if_pos (by simpa using hb), if_pos (by omega)]; simp; omega
      · rw [if_neg (by simpa using hb), if_neg (by omega)]; simp
    rw [e, sumN_add, ih, one_of _ (by omega)]
    simp; omega
theorem Law.cnt {ρ : Qu × List Pk × Option Pk} (hq : QOk q) (hl : Law now q [] ρ) : q.cnt = (ρ.2.1 ++ ρ.2.2.toList).length + ρ.1.cnt := by
  obtain ⟨dd, e, h1, h2⟩ := hl.out
  rw [List.nil_append] at e
  rw [cnt_sum hq, cnt_sum hl.w.ok, e, ← inB_sum (s := q.seed) (fun p hp => ⟨(h2 p hp).1, (h2 p hp).2.1⟩), ← sumN_add]
  apply sumN_congr
  intro j hj
  rw [h1 (j : Int) (by omega) (by omega), List.length_append]
theorem allL_mem (hq : QOk q) : p ∈ allL q.fl ↔ ∃ k, 0 ≤ k ∧ k < 16 ∧ p ∈ (q.flow k).l := by
  constructor
  · intro h
    unfold allL at h
    obtain ⟨l, hl, hp⟩ := List.mem_flatten.1 h
    obtain ⟨f, hf, rfl⟩ := List.mem_map.1 hl
    obtain ⟨j, hj⟩ := List.mem_iff_getElem?.1 hf
    have hjl := (List.getElem?_eq_some_iff.1 hj).1
    rw [hq.len] at hjl
    refine ⟨(j : Int), by omega, by omega, ?_⟩
    have := flow_at hq hjl
    rw [hj] at this; cases this; exact hp
  · rintro ⟨k, k0, k1, h⟩
    unfold allL
    exact List.mem_flatten.2 ⟨_, List.mem_map.2 ⟨_, List.mem_of_getElem? (hq.flow k0 k1).1, rfl⟩, h⟩
/-- What is left, and what came out, was there. -/
theorem Law.sub {ρ : Qu × List Pk × Option Pk} (hq : QOk q) (hl : Law now q [] ρ) : (∀ p ∈ allL ρ.1.fl, p ∈ allL q.fl) ∧ ∀ p ∈ ρ.2.1 ++ ρ.2.2.toList, p ∈ allL q.fl := by
  obtain ⟨dd, e, h1, h2⟩ := hl.out
  rw [List.nil_append] at e
  refine ⟨fun p hp => ?_, fun p hp => ?_⟩
  · obtain ⟨k, k0, k1, h⟩ := (allL_mem hl.w.ok).1 hp
    exact (allL_mem hq).2 ⟨k, k0, k1, by rw [h1 k k0 k1]; simp [h]⟩
  · rw [e] at hp
    have := h2 p hp
    exact (allL_mem hq).2 ⟨_, this.1, this.2.1, this.2.2⟩
/-- A calm queue drops nothing. -/
theorem takeN_calm : ∀ (n : Nat) {q : Qu} {d : List Pk}, q.meas < n → Calm q → (takeN 0 n q d).2.1 = d ∧ Calm (takeN 0 n q d).1
  | 0, q, d, hm, _ => by omega
  | n + 1, q, d, hm, hc => by
    have hq := hc.ok
    cases ht : q.turn with
    | none => rw [takeN_none ht]; exact ⟨rfl, hc⟩
    | some k =>
      obtain ⟨k0, k1⟩ := hq.b k (turn_mem ht)
      by_cases hd : (q.flow k).deficit ≤ 0
      · obtain ⟨h1, h2⟩ := hc.over ht hd
        rw [takeC_over ht hd]
        exact takeN_calm n (by omega) h1
      · obtain ⟨h1, h2, h3⟩ := pullF_calm (iv := q.iv) (hc.flow k0 k1) hc.tg
        cases hl : (q.flow k).l with
        | cons p r =>
          rw [takeC_took hc ht (by omega) hl]
          exact ⟨rfl, hc.took k0 k1 (by omega) hl⟩
        | nil =>
          have his : isF q.tg q.iv 0 (q.flow k) = false := by rw [h3, hl]; simp
          have hmv := meas_empty (g := q.flow k) hq ht hd rfl
          have hc2 : Calm (q.setF k (q.flow k)) := hc.setF k0 k1 (hc.flow k0 k1) (hq.flow k0 k1).2 (Nat.le_refl _)
          by_cases hm2 : q.fresh ≠ [] ∧ q.elder ≠ []
          · rw [takeN_move ht hd his hm2, h1, h2, List.append_nil]
            exact takeN_calm n (by have := hmv.2 hm2.1; omega) (hc2.lists ((hc2.ok.popT).addE (popT_not hc2.ok (k := k) ht) k0 k1) (by unfold Qu.addE Qu.popT; split <;> rfl) (by unfold Qu.addE Qu.popT; split <;> rfl))
          · rw [takeN_gone ht hd his hm2, h1, h2, List.append_nil]
            exact takeN_calm n (by have := hmv.1; omega) (hc2.lists hc2.ok.popT (by unfold Qu.popT; split <;> rfl) (by unfold Qu.popT; split <;> rfl))
theorem Calm.take (hc : Calm q) (w : Well q) (hn : 0 < q.cnt) : ∃ q' p, q.take 0 = (q', [], some p) ∧ Calm q' ∧ Well q' ∧ q'.cnt + 1 = q.cnt ∧ p ∈ allL q.fl ∧ ∀ x ∈ allL q'.fl, x ∈ allL q.fl := by
  have h1 := take_law (now := 0) (by decide) (by decide) w
  obtain ⟨h2, h3⟩ := takeN_calm (q.meas + 1) (d := []) (Nat.lt_succ_self _) hc
  have h4 := h1.cnt w.ok
  obtain ⟨h5, h6⟩ := h1.sub w.ok
  have h7 := h1.none
  have h8 := h1.w
  unfold Qu.take at *
  generalize takeN 0 (q.meas + 1) q [] = ρ at *
  obtain ⟨q', d, r⟩ := ρ
  dsimp only at *
  subst h2
  cases r with
  | none =>
    have : q'.cnt = 0 := by
      rw [cnt_sum h8.ok]
      have : sumN (fun j => (q'.flow (j : Int)).l.length) 16 = sumN (fun _ => 0) 16 := sumN_congr fun j hj => by rw [h7 rfl (j : Int) (by omega) (by omega)]; rfl
      rw [this]; decide
    simp at h4; omega
  | some p => exact ⟨q', p, rfl, h3, h8, by simp at h4; omega, h6 p (by simp), h5⟩
end
end Go.Proofs.YtpcilleldanfmaaDoor
