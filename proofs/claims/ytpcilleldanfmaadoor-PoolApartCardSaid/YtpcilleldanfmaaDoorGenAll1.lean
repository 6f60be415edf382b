/- The printed conditions, laid together (part 1). -/
import Derived.Test.YtpcilleldanfmaaDoorRows
import Derived.Test.YtpcilleldanfmaaDoorVc
/- The conditions for calls of functions of the program, in plain form: written by a program (vcgen) off the elaborated code; each is the reckoner's own, by the kernel. -/
set_option linter.unusedVariables false
set_option maxRecDepth 100000
namespace Go.Proofs.YtpcilleldanfmaaDoor
open Go.Vc
theorem vc_slices_Clone_byte (s : Option Addr) (sL sC : Nat) (h0 : Heap) (Post : Value → Heap → Prop) (H :
bcase (isNilAddr s) (
Post (.slice none 0 0) h0) (
∀ (b1 : Nat) (h1 : Heap), b1 = h0.size → h1 = h0.push (.cells ([] : List Value).toArray 5) →
∃ news1 : List Value, (src h1 s (sL * 1) news1 ∧ ∀ u ∈ news1, u.oneCell' = true) ∧
appK h1 (some ⟨b1, 0, none⟩) 0 0 sL 1 5 1 news1 fun (a1 : Option Addr) (cap1 : Nat) (h2 : Heap) =>
Post (.slice a1 (0 + sL) cap1) h2)) :
    Runs Tryd.prog 55 #[(.slice s sL sC)] h0 Post :=
  runs_of (args := [(.slice s sL sC)]) (fun n => ⟨true, false⟩) (fun _ => []) (fun _ => none) (fun _ => []) Tryd.func55 rfl (by rw [Tryd.ntmps55]; simp) (Eq.mp (by kernel_rfl) H)

theorem vc_slices_Contains_int (s : Option Addr) (sL sC : Nat) (v : Int) (h0 : Heap) (Post : Value → Heap → Prop) (H :
Runs Tryd.prog 75 #[(.slice s sL sC), (.int .i64 v)] h0 fun r1 h1 =>
∃ n1 : Int,
r1 = (.int .i64 n1) ∧
Post (.bool (decide ((0 : Int) ≤ n1))) h1) :
    Runs Tryd.prog 56 #[(.slice s sL sC), (.int .i64 v)] h0 Post :=
  runs_of (args := [(.slice s sL sC), (.int .i64 v)]) (fun n => ⟨true, false⟩) (fun _ => []) (fun _ => none) (fun _ => []) Tryd.func56 rfl (by rw [Tryd.ntmps56]; simp) (Eq.mp (by kernel_rfl) H)

theorem vc_slices_Index_int (s : Option Addr) (sL sC : Nat) (v : Int) (h0 : Heap) (Post : Value → Heap → Prop) (H :
∃ (I1 : Int → Heap → Prop) (m1 : Int → Heap → Nat), I1 (0 : Int) h0 ∧ ∀ _ : Env,
∀ (x1 : Int) (h1 : Heap), I1 x1 h1 →
bcase (decide (x1 < ((sL : Nat) : Int))) (
(0 ≤ x1 ∧ x1 < ((sL : Nat) : Int)) ∧
onAddr s fun b1 o1 =>
∃ n1 : Int, cell h1 b1 (o1 + (x1).toNat) = some (.int .i64 n1) ∧
bcase (decide (v = n1)) (
Post (.int .i64 x1) h1) (
fits .i64 (x1 + (1 : Int)) ∧
I1 (x1 + (1 : Int)) h1 ∧ m1 (x1 + (1 : Int)) h1 < m1 x1 h1)) (
Post (.int .i64 (-1 : Int)) h1)) :
    Runs Tryd.prog 75 #[(.slice s sL sC), (.int .i64 v)] h0 Post :=
  runs_of (args := [(.slice s sL sC), (.int .i64 v)]) (fun n => ⟨true, false⟩) (fun n => match n with | 0 => [(8, .int .i64)] | _ => []) (fun _ => none) (fun _ => []) Tryd.func75 rfl (by rw [Tryd.ntmps75]; simp) (Eq.mp (by kernel_rfl) H)

theorem vc_slices_Clone_int (s : Option Addr) (sL sC : Nat) (h0 : Heap) (Post : Value → Heap → Prop) (H :
bcase (isNilAddr s) (
Post (.slice none 0 0) h0) (
∀ (b1 : Nat) (h1 : Heap), b1 = h0.size → h1 = h0.push (.cells ([] : List Value).toArray 3) →
∃ news1 : List Value, (src h1 s (sL * 1) news1 ∧ ∀ u ∈ news1, u.oneCell' = true) ∧
appK h1 (some ⟨b1, 0, none⟩) 0 0 sL 1 3 8 news1 fun (a1 : Option Addr) (cap1 : Nat) (h2 : Heap) =>
Post (.slice a1 (0 + sL) cap1) h2)) :
    Runs Tryd.prog 65 #[(.slice s sL sC)] h0 Post :=
  runs_of (args := [(.slice s sL sC)]) (fun n => ⟨true, false⟩) (fun _ => []) (fun _ => none) (fun _ => []) Tryd.func65 rfl (by rw [Tryd.ntmps65]; simp) (Eq.mp (by kernel_rfl) H)

theorem vc_slices_Clone_Packet (s : Option Addr) (sL sC : Nat) (h0 : Heap) (Post : Value → Heap → Prop) (H :
bcase (isNilAddr s) (
Post (.slice none 0 0) h0) (
∀ (b1 : Nat) (h1 : Heap), b1 = h0.size → h1 = h0.push (.cells ([] : List Value).toArray 35) →
∃ news1 : List Value, (src h1 s (sL * 5) news1 ∧ ∀ u ∈ news1, u.oneCell' = true) ∧
appK h1 (some ⟨b1, 0, none⟩) 0 0 sL 5 35 56 news1 fun (a1 : Option Addr) (cap1 : Nat) (h2 : Heap) =>
Post (.slice a1 (0 + sL) cap1) h2)) :
    Runs Tryd.prog 78 #[(.slice s sL sC)] h0 Post :=
  runs_of (args := [(.slice s sL sC)]) (fun n => ⟨true, false⟩) (fun _ => []) (fun _ => none) (fun _ => []) Tryd.func78 rfl (by rw [Tryd.ntmps78]; simp) (Eq.mp (by kernel_rfl) H)

theorem vc_muezzinref_Has (l : Option Addr) (lL lC : Nat) (n : Int) (h0 : Heap) (Post : Value → Heap → Prop) (H :
∃ (I1 : Int → Heap → Prop) (m1 : Int → Heap → Nat), I1 (0 : Int) h0 ∧ ∀ _ : Env,
∀ (i_1 : Int) (h1 : Heap), I1 i_1 h1 →
bcase (decide (i_1 < ((lL : Nat) : Int))) (
(0 ≤ i_1 ∧ i_1 < ((lL : Nat) : Int)) ∧
onAddr l fun b1 o1 =>
∃ n1 : Int, cell h1 b1 (o1 + (i_1).toNat) = some (.int .i64 n1) ∧
bcase (decide (n1 = n)) (
Post (.bool true) h1) (
fits .i64 (i_1 + (1 : Int)) ∧
I1 (i_1 + (1 : Int)) h1 ∧ m1 (i_1 + (1 : Int)) h1 < m1 i_1 h1)) (
Post (.bool false) h1)) :
    Runs Tryd.prog 67 #[(.slice l lL lC), (.int .i64 n)] h0 Post :=
  runs_of (args := [(.slice l lL lC), (.int .i64 n)]) (fun n => ⟨true, false⟩) (fun n => match n with | 0 => [(5, .int .i64)] | _ => []) (fun _ => none) (fun _ => []) Tryd.func67 rfl (by rw [Tryd.ntmps67]; simp) (Eq.mp (by kernel_rfl) H)

theorem vc_muezzinref_Packets (l : Option Addr) (lL lC : Nat) (h0 : Heap) (Post : Value → Heap → Prop) (H :
(0 ≤ (0 : Int) ∧ (0 : Int) ≤ ((lL : Nat) : Int) ∧ ((56 : Nat) : Int) * ((lL : Nat) : Int) ≤ 281474976710656 ∧ ((lL : Nat) : Int) ≤ 9223372036854775807) ∧ ∀ (b1 : Nat) (h1 : Heap), b1 = h0.size → h1 = h0.push (.cells (joinL (List.replicate (((lL : Nat) : Int)).toNat [(.int .i64 (0 : Int)), (.int .u32 (0 : Int)), (.int .i64 (0 : Int)), (.int .i64 (0 : Int)), (.slice none 0 0)])).toArray 35) →
∃ (I1 : Option Addr → Nat → Nat → Int → Heap → Prop) (m1 : Option Addr → Nat → Nat → Int → Heap → Nat), I1 (some ⟨b1, 0, none⟩) 0 (((lL : Nat) : Int)).toNat (0 : Int) h1 ∧ ∀ _ : Env,
∀ (out_1 : Option Addr) (out_1l out_1c : Nat) (i_1 : Int) (h2 : Heap), I1 out_1 out_1l out_1c i_1 h2 →
bcase (decide (i_1 < ((lL : Nat) : Int))) (
(0 ≤ i_1 ∧ i_1 < ((lL : Nat) : Int)) ∧
onAddr l fun b2 o1 =>
∃ cs1 : List Value, row h2 b2 (o1 + ((i_1).toNat * 5)) 5 = some cs1 ∧
(cs1).length = 5 ∧
∀ (b3 : Nat) (h3 : Heap), b3 = h2.size → h3 = h2.push (.cells (((cs1) ++ [])).toArray 35) →
∃ news1 : List Value, (row h3 b3 0 5 = some news1 ∧ ∀ u ∈ news1, u.oneCell' = true) ∧
appK h3 out_1 out_1l out_1c 1 5 35 56 news1 fun (a1 : Option Addr) (cap1 : Nat) (h4 : Heap) =>
fits .i64 (i_1 + (1 : Int)) ∧
I1 a1 (out_1l + 1) cap1 (i_1 + (1 : Int)) h4 ∧ m1 a1 (out_1l + 1) cap1 (i_1 + (1 : Int)) h4 < m1 out_1 out_1l out_1c i_1 h2) (
Post (.slice out_1 out_1l out_1c) h2)) :
    Runs Tryd.prog 70 #[(.slice l lL lC)] h0 Post :=
  runs_of (args := [(.slice l lL lC)]) (fun n => ⟨true, false⟩) (fun n => match n with | 0 => [(3, .slice), (4, .int .i64)] | _ => []) (fun _ => none) (fun _ => []) Tryd.func70 rfl (by rw [Tryd.ntmps70]; simp) (Eq.mp (by kernel_rfl) H)

theorem vc_muezzinref_SameBytes (a : Option Addr) (aL aC : Nat) (b : Option Addr) (bL bC : Nat) (h0 : Heap) (Post : Value → Heap → Prop) (H :
bcase (!decide (((aL : Nat) : Int) = ((bL : Nat) : Int))) (
Post (.bool false) h0) (
∃ (I1 : Int → Heap → Prop) (m1 : Int → Heap → Nat), I1 (0 : Int) h0 ∧ ∀ _ : Env,
∀ (i_1 : Int) (h1 : Heap), I1 i_1 h1 →
bcase (decide (i_1 < ((aL : Nat) : Int))) (
(0 ≤ i_1 ∧ i_1 < ((aL : Nat) : Int)) ∧
onAddr a fun b1 o1 =>
∃ n1 : Int, cell h1 b1 (o1 + (i_1).toNat) = some (.int .u8 n1) ∧
(0 ≤ i_1 ∧ i_1 < ((bL : Nat) : Int)) ∧
onAddr b fun b2 o2 =>
∃ n2 : Int, cell h1 b2 (o2 + (i_1).toNat) = some (.int .u8 n2) ∧
bcase (!(decide (n1 = n2))) (
Post (.bool false) h1) (
fits .i64 (i_1 + (1 : Int)) ∧
I1 (i_1 + (1 : Int)) h1 ∧ m1 (i_1 + (1 : Int)) h1 < m1 i_1 h1)) (
Post (.bool true) h1))) :
    Runs Tryd.prog 50 #[(.slice a aL aC), (.slice b bL bC)] h0 Post :=
  runs_of (args := [(.slice a aL aC), (.slice b bL bC)]) (fun n => ⟨true, false⟩) (fun n => match n with | 0 => [(5, .int .i64)] | _ => []) (fun _ => none) (fun _ => []) Tryd.func50 rfl (by rw [Tryd.ntmps50]; simp) (Eq.mp (by kernel_rfl) H)

theorem vc_muezzinref_Bytes (l : Option Addr) (lL lC : Nat) (h0 : Heap) (Post : Value → Heap → Prop) (H :
(0 ≤ (0 : Int) ∧ (0 : Int) ≤ ((lL : Nat) : Int) ∧ ((1 : Nat) : Int) * ((lL : Nat) : Int) ≤ 281474976710656 ∧ ((lL : Nat) : Int) ≤ 9223372036854775807) ∧ ∀ (b1 : Nat) (h1 : Heap), b1 = h0.size → h1 = h0.push (.cells (joinL (List.replicate (((lL : Nat) : Int)).toNat [(.int .u8 (0 : Int))])).toArray 5) →
∃ (I1 : Option Addr → Nat → Nat → Int → Heap → Prop) (m1 : Option Addr → Nat → Nat → Int → Heap → Nat), I1 (some ⟨b1, 0, none⟩) 0 (((lL : Nat) : Int)).toNat (0 : Int) h1 ∧ ∀ _ : Env,
∀ (out_1 : Option Addr) (out_1l out_1c : Nat) (i_1 : Int) (h2 : Heap), I1 out_1 out_1l out_1c i_1 h2 →
bcase (decide (i_1 < ((lL : Nat) : Int))) (
(0 ≤ i_1 ∧ i_1 < ((lL : Nat) : Int)) ∧
onAddr l fun b2 o1 =>
∃ n1 : Int, cell h2 b2 (o1 + (i_1).toNat) = some (.int .u8 n1) ∧
∀ (b3 : Nat) (h3 : Heap), b3 = h2.size → h3 = h2.push (.cells ([(.int .u8 n1)] : List Value).toArray 5) →
∃ news1 : List Value, (row h3 b3 0 1 = some news1 ∧ ∀ u ∈ news1, u.oneCell' = true) ∧
appK h3 out_1 out_1l out_1c 1 1 5 1 news1 fun (a1 : Option Addr) (cap1 : Nat) (h4 : Heap) =>
fits .i64 (i_1 + (1 : Int)) ∧
I1 a1 (out_1l + 1) cap1 (i_1 + (1 : Int)) h4 ∧ m1 a1 (out_1l + 1) cap1 (i_1 + (1 : Int)) h4 < m1 out_1 out_1l out_1c i_1 h2) (
Post (.slice out_1 out_1l out_1c) h2)) :
    Runs Tryd.prog 82 #[(.slice l lL lC)] h0 Post :=
  runs_of (args := [(.slice l lL lC)]) (fun n => ⟨true, false⟩) (fun n => match n with | 0 => [(3, .slice), (4, .int .i64)] | _ => []) (fun _ => none) (fun _ => []) Tryd.func82 rfl (by rw [Tryd.ntmps82]; simp) (Eq.mp (by kernel_rfl) H)

theorem vc_muezzinref_SamePacket (a : List Value) (b : List Value) (h0 : Heap) (Post : Value → Heap → Prop) (H :
∀ (b1 : Nat) (h1 : Heap), b1 = h0.size → h1 = h0.push (.cells (a).toArray 35) →
∀ (b2 : Nat) (h2 : Heap), b2 = h1.size → h2 = h1.push (.cells (b).toArray 35) →
∃ n1 : Int, cell h2 b1 0 = some (.int .i64 n1) ∧
∃ n2 : Int, cell h2 b2 0 = some (.int .i64 n2) ∧
bcase (decide (n1 = n2)) (
∃ n3 : Int, cell h2 b1 1 = some (.int .u32 n3) ∧
∃ n4 : Int, cell h2 b2 1 = some (.int .u32 n4) ∧
bcase (decide (n3 = n4)) (
∃ n5 : Int, cell h2 b1 2 = some (.int .i64 n5) ∧
∃ n6 : Int, cell h2 b2 2 = some (.int .i64 n6) ∧
bcase (decide (n5 = n6)) (
∃ n7 : Int, cell h2 b1 3 = some (.int .i64 n7) ∧
∃ n8 : Int, cell h2 b2 3 = some (.int .i64 n8) ∧
bcase (decide (n7 = n8)) (
∃ (s1 : Option Addr) (s1l s1c : Nat), cell h2 b1 4 = some (.slice s1 s1l s1c) ∧
∃ (s2 : Option Addr) (s2l s2c : Nat), cell h2 b2 4 = some (.slice s2 s2l s2c) ∧
Runs Tryd.prog 50 #[(.slice s1 s1l s1c), (.slice s2 s2l s2c)] h2 fun r1 h3 =>
∃ t1 : Bool,
r1 = (.bool t1) ∧
Post (.bool t1) h3) (
Post (.bool false) h2)) (
Post (.bool false) h2)) (
Post (.bool false) h2)) (
Post (.bool false) h2)) :
    Runs Tryd.prog 23 #[(.agg (a).toArray), (.agg (b).toArray)] h0 Post :=
  runs_of (args := [(.agg (a).toArray), (.agg (b).toArray)]) (fun n => ⟨true, false⟩) (fun _ => []) (fun _ => none) (fun _ => []) Tryd.func23 rfl (by rw [Tryd.ntmps23]; simp) (Eq.mp (by kernel_rfl) H)

theorem vc_muezzinref_SamePackets (a : Option Addr) (aL aC : Nat) (b : Option Addr) (bL bC : Nat) (h0 : Heap) (Post : Value → Heap → Prop) (H :
bcase (!decide (((aL : Nat) : Int) = ((bL : Nat) : Int))) (
Post (.bool false) h0) (
∃ (I1 : Int → Heap → Prop) (m1 : Int → Heap → Nat), I1 (0 : Int) h0 ∧ ∀ _ : Env,
∀ (i_1 : Int) (h1 : Heap), I1 i_1 h1 →
bcase (decide (i_1 < ((aL : Nat) : Int))) (
(0 ≤ i_1 ∧ i_1 < ((aL : Nat) : Int)) ∧
onAddr a fun b1 o1 =>
∃ cs1 : List Value, row h1 b1 (o1 + ((i_1).toNat * 5)) 5 = some cs1 ∧
(0 ≤ i_1 ∧ i_1 < ((bL : Nat) : Int)) ∧
onAddr b fun b2 o2 =>
∃ cs2 : List Value, row h1 b2 (o2 + ((i_1).toNat * 5)) 5 = some cs2 ∧
Runs Tryd.prog 23 #[(.agg (cs1).toArray), (.agg (cs2).toArray)] h1 fun r1 h2 =>
∃ t1 : Bool,
r1 = (.bool t1) ∧
bcase (!t1) (
Post (.bool false) h2) (
fits .i64 (i_1 + (1 : Int)) ∧
I1 (i_1 + (1 : Int)) h2 ∧ m1 (i_1 + (1 : Int)) h2 < m1 i_1 h1)) (
Post (.bool true) h1))) :
    Runs Tryd.prog 21 #[(.slice a aL aC), (.slice b bL bC)] h0 Post :=
  runs_of (args := [(.slice a aL aC), (.slice b bL bC)]) (fun n => ⟨true, false⟩) (fun n => match n with | 0 => [(5, .int .i64)] | _ => []) (fun _ => none) (fun _ => []) Tryd.func21 rfl (by rw [Tryd.ntmps21]; simp) (Eq.mp (by kernel_rfl) H)

theorem vc_muezzinref_Packet (p : List Value) (h0 : Heap) (Post : Value → Heap → Prop) (H :
∀ (b1 : Nat) (h1 : Heap), b1 = h0.size → h1 = h0.push (.cells (p).toArray 35) →
∀ (b2 : Nat) (h2 : Heap), b2 = h1.size → h2 = h1.push (.cells ([(.int .i64 (0 : Int)), (.int .u32 (0 : Int)), (.int .i64 (0 : Int)), (.int .i64 (0 : Int)), (.slice none 0 0)] : List Value).toArray 35) →
∃ (s1 : Option Addr) (s1l s1c : Nat), cell h2 b1 4 = some (.slice s1 s1l s1c) ∧
Runs Tryd.prog 82 #[(.slice s1 s1l s1c)] h2 fun r1 h3 =>
∃ (s2 : Option Addr) (s2l s2c : Nat),
r1 = (.slice s2 s2l s2c) ∧
wr h3 b1 4 ∧ ∀ h4 : Heap, h4 = setc h3 b1 4 (.slice s2 s2l s2c) →
∃ cs1 : List Value, row h4 b1 0 5 = some cs1 ∧
(((cs1)).length = 5 ∧ wrs h4 b2 0 5 ∧ ∀ u ∈ ((cs1) : List Value), u.oneCell' = true) ∧ ∀ h5 : Heap, h5 = setr h4 b2 0 (cs1) →
∃ cs2 : List Value, row h5 b2 0 5 = some cs2 ∧
Post (.agg (cs2).toArray) h5) :
    Runs Tryd.prog 66 #[(.agg (p).toArray)] h0 Post :=
  runs_of (args := [(.agg (p).toArray)]) (fun n => ⟨true, false⟩) (fun _ => []) (fun _ => none) (fun _ => []) Tryd.func66 rfl (by rw [Tryd.ntmps66]; simp) (Eq.mp (by kernel_rfl) H)

theorem vc_muezzinref_Del (l : Option Addr) (lL lC : Nat) (n : Int) (h0 : Heap) (Post : Value → Heap → Prop) (H :
∃ (I1 : Option Addr → Nat → Nat → Int → Heap → Prop) (m1 : Option Addr → Nat → Nat → Int → Heap → Nat), I1 none 0 0 (0 : Int) h0 ∧ ∀ _ : Env,
∀ (out_1 : Option Addr) (out_1l out_1c : Nat) (i_1 : Int) (h1 : Heap), I1 out_1 out_1l out_1c i_1 h1 →
bcase (decide (i_1 < ((lL : Nat) : Int))) (
(0 ≤ i_1 ∧ i_1 < ((lL : Nat) : Int)) ∧
onAddr l fun b1 o1 =>
∃ n1 : Int, cell h1 b1 (o1 + (i_1).toNat) = some (.int .i64 n1) ∧
bcase (!decide (n1 = n)) (
(0 ≤ i_1 ∧ i_1 < ((lL : Nat) : Int)) ∧
onAddr l fun b2 o2 =>
∃ n2 : Int, cell h1 b2 (o2 + (i_1).toNat) = some (.int .i64 n2) ∧
∀ (b3 : Nat) (h2 : Heap), b3 = h1.size → h2 = h1.push (.cells ([(.int .i64 n2)] : List Value).toArray 3) →
∃ news1 : List Value, (row h2 b3 0 1 = some news1 ∧ ∀ u ∈ news1, u.oneCell' = true) ∧
appK h2 out_1 out_1l out_1c 1 1 3 8 news1 fun (a1 : Option Addr) (cap1 : Nat) (h3 : Heap) =>
fits .i64 (i_1 + (1 : Int)) ∧
I1 a1 (out_1l + 1) cap1 (i_1 + (1 : Int)) h3 ∧ m1 a1 (out_1l + 1) cap1 (i_1 + (1 : Int)) h3 < m1 out_1 out_1l out_1c i_1 h1) (
fits .i64 (i_1 + (1 : Int)) ∧
I1 out_1 out_1l out_1c (i_1 + (1 : Int)) h1 ∧ m1 out_1 out_1l out_1c (i_1 + (1 : Int)) h1 < m1 out_1 out_1l out_1c i_1 h1)) (
Post (.slice out_1 out_1l out_1c) h1)) :
    Runs Tryd.prog 71 #[(.slice l lL lC), (.int .i64 n)] h0 Post :=
  runs_of (args := [(.slice l lL lC), (.int .i64 n)]) (fun n => ⟨true, false⟩) (fun n => match n with | 0 => [(5, .slice), (6, .int .i64)] | _ => []) (fun _ => none) (fun _ => []) Tryd.func71 rfl (by rw [Tryd.ntmps71]; simp) (Eq.mp (by kernel_rfl) H)
end Go.Proofs.YtpcilleldanfmaaDoor

/- The conditions for calls of functions of the program, in plain form: written by a program (vcgen) off the elaborated code; each is the reckoner's own, by the kernel. -/
set_option linter.unusedVariables false
set_option maxRecDepth 100000
namespace Go.Proofs.YtpcilleldanfmaaDoor
open Go.Vc
theorem vc_codel_Codel_Pull (c : List Value) (now : Int) (target : Int) (interval : Int) (bytes : Int) (l : Option Addr) (lL lC : Nat) (h0 : Heap) (Post : Value → Heap → Prop) (H :
∀ (b1 : Nat) (h1 : Heap), b1 = h0.size → h1 = h0.push (.cells (c).toArray 91) →
∀ (b2 : Nat) (h2 : Heap), b2 = h1.size → h2 = h1.push (.cells ([(.int .i64 (0 : Int)), (.int .i64 (0 : Int)), (.int .u32 (0 : Int)), (.int .u32 (0 : Int)), (.bool false)] : List Value).toArray 91) →
∃ cs1 : List Value, row h2 b1 0 5 = some cs1 ∧
(cs1).length = 5 ∧
∀ (b3 : Nat) (h3 : Heap), b3 = h2.size → h3 = h2.push (.cells (((cs1) ++ ([(.int .i64 now), (.int .i64 (min (max target (0 : Int)) (1073741824 : Int))), (.int .i64 (min (max interval (0 : Int)) (1073741824 : Int))), (.int .i64 bytes), (.slice l lL lC), (.int .i64 (0 : Int))] : List Value))).toArray 144) →
Runs Tryd.prog 86 #[(.pointer (some ⟨b3, 0, none⟩))] h3 fun r1 h4 =>
∃ t1 : Bool,
r1 = (.bool t1) ∧
∃ cs2 : List Value, row h4 b3 0 5 = some cs2 ∧
∃ n1 : Int, cell h4 b3 10 = some (.int .i64 n1) ∧
(((cs2)).length = 5 ∧ wrs h4 b2 0 5 ∧ ∀ u ∈ ((cs2) : List Value), u.oneCell' = true) ∧ ∀ h5 : Heap, h5 = setr h4 b2 0 (cs2) →
cell h5 b3 10 = some (.int .i64 n1) ∧
∃ cs3 : List Value, row h5 b2 0 5 = some cs3 ∧
Post (.tuple #[(.agg (cs3).toArray), (.int .i64 n1), (.bool t1)]) h5) :
    Runs Tryd.prog 77 #[(.agg (c).toArray), (.int .i64 now), (.int .i64 target), (.int .i64 interval), (.int .i64 bytes), (.slice l lL lC)] h0 Post :=
  runs_of (args := [(.agg (c).toArray), (.int .i64 now), (.int .i64 target), (.int .i64 interval), (.int .i64 bytes), (.slice l lL lC)]) (fun n => ⟨true, false⟩) (fun _ => []) (fun _ => none) (fun _ => []) Tryd.func77 rfl (by rw [Tryd.ntmps77]; simp) (Eq.mp (by kernel_rfl) H)

theorem vc_codel_state_run (s : Option Addr) (h0 : Heap) (Post : Value → Heap → Prop) (H :
Runs Tryd.prog 91 #[(.pointer s)] h0 fun r1 h1 =>
∃ t1 : Bool,
∃ t2 : Bool,
r1 = (.tuple #[(.bool t1), (.bool t2)]) ∧
bcase (!t1) (
onAddr s fun b1 o1 =>
wr h1 b1 (o1 + 4) ∧ ∀ h2 : Heap, h2 = setc h1 b1 (o1 + 4) (.bool false) →
Post (.bool false) h2) (
onAddr s fun b2 o2 =>
∃ t3 : Bool, cell h1 b2 (o2 + 4) = some (.bool t3) ∧
bcase t3 (
bcase (!t2) (
onAddr s fun b3 o3 =>
wr h1 b3 (o3 + 4) ∧ ∀ h3 : Heap, h3 = setc h1 b3 (o3 + 4) (.bool false) →
Post (.bool true) h3) (
onAddr s fun b4 o4 =>
∃ t4 : Bool, cell h1 b4 (o4 + 4) = some (.bool t4) ∧
bcase t4 (
Runs Tryd.prog 92 #[(.pointer s)] h1 fun r2 h4 =>
∃ t5 : Bool,
r2 = (.bool t5) ∧
Post (.bool t5) h4) (
bcase t2 (
Runs Tryd.prog 93 #[(.pointer s)] h1 fun r3 h5 =>
∃ t6 : Bool,
r3 = (.bool t6) ∧
Post (.bool t6) h5) (
Post (.bool true) h1)))) (
onAddr s fun b5 o5 =>
∃ t7 : Bool, cell h1 b5 (o5 + 4) = some (.bool t7) ∧
bcase t7 (
Runs Tryd.prog 92 #[(.pointer s)] h1 fun r4 h6 =>
∃ t8 : Bool,
r4 = (.bool t8) ∧
Post (.bool t8) h6) (
bcase t2 (
Runs Tryd.prog 93 #[(.pointer s)] h1 fun r5 h7 =>
∃ t9 : Bool,
r5 = (.bool t9) ∧
Post (.bool t9) h7) (
Post (.bool true) h1))))) :
    Runs Tryd.prog 86 #[(.pointer s)] h0 Post :=
  runs_of (args := [(.pointer s)]) (fun n => ⟨true, false⟩) (fun _ => []) (fun _ => none) (fun _ => []) Tryd.func86 rfl (by rw [Tryd.ntmps86]; simp) (Eq.mp (by kernel_rfl) H)

theorem vc_codel_state_look (s : Option Addr) (h0 : Heap) (Post : Value → Heap → Prop) (H :
onAddr s fun b1 o1 =>
∃ n1 : Int, cell h0 b1 (o1 + 10) = some (.int .i64 n1) ∧
onAddr s fun b2 o2 =>
∃ (s1 : Option Addr) (s1l s1c : Nat), cell h0 b2 (o2 + 9) = some (.slice s1 s1l s1c) ∧
bcase (decide (((s1l : Nat) : Int) ≤ n1)) (
onAddr s fun b3 o3 =>
wr h0 b3 o3 ∧ ∀ h1 : Heap, h1 = setc h0 b3 o3 (.int .i64 (0 : Int)) →
Post (.tuple #[(.bool false), (.bool false)]) h1) (
onAddr s fun b4 o4 =>
∃ (s2 : Option Addr) (s2l s2c : Nat), cell h0 b4 (o4 + 9) = some (.slice s2 s2l s2c) ∧
onAddr s fun b5 o5 =>
∃ n2 : Int, cell h0 b5 (o5 + 10) = some (.int .i64 n2) ∧
(0 ≤ n2 ∧ n2 < ((s2l : Nat) : Int)) ∧
onAddr s2 fun b6 o6 =>
∃ cs1 : List Value, row h0 b6 (o6 + ((n2).toNat * 2)) 2 = some cs1 ∧
∀ (b7 : Nat) (h2 : Heap), b7 = h0.size → h2 = h0.push (.cells ([(.int .i64 (0 : Int)), (.int .i64 (0 : Int))] : List Value).toArray 125) →
(((cs1)).length = 2 ∧ wrs h2 b7 0 2 ∧ ∀ u ∈ ((cs1) : List Value), u.oneCell' = true) ∧ ∀ h3 : Heap, h3 = setr h2 b7 0 (cs1) →
onAddr s fun b8 o7 =>
∃ n3 : Int, cell h3 b8 (o7 + 8) = some (.int .i64 n3) ∧
∃ n4 : Int, cell h3 b7 1 = some (.int .i64 n4) ∧
fits .i64 (n3 - (max n4 (0 : Int))) ∧
onAddr s fun b9 o8 =>
wr h3 b9 (o8 + 8) ∧ ∀ h4 : Heap, h4 = setc h3 b9 (o8 + 8) (.int .i64 (n3 - (max n4 (0 : Int)))) →
onAddr s fun b10 o9 =>
∃ n5 : Int, cell h4 b10 (o9 + 5) = some (.int .i64 n5) ∧
∃ n6 : Int, cell h4 b7 0 = some (.int .i64 n6) ∧
fits .i64 (n5 - n6) ∧
onAddr s fun b11 o10 =>
∃ n7 : Int, cell h4 b11 (o10 + 6) = some (.int .i64 n7) ∧
bcase (decide ((n5 - n6) < n7)) (
onAddr s fun b12 o11 =>
wr h4 b12 o11 ∧ ∀ h5 : Heap, h5 = setc h4 b12 o11 (.int .i64 (0 : Int)) →
Post (.tuple #[(.bool true), (.bool false)]) h5) (
onAddr s fun b13 o12 =>
∃ n8 : Int, cell h4 b13 (o12 + 8) = some (.int .i64 n8) ∧
bcase (decide (n8 ≤ (1514 : Int))) (
onAddr s fun b14 o13 =>
wr h4 b14 o13 ∧ ∀ h6 : Heap, h6 = setc h4 b14 o13 (.int .i64 (0 : Int)) →
Post (.tuple #[(.bool true), (.bool false)]) h6) (
onAddr s fun b15 o14 =>
∃ n9 : Int, cell h4 b15 o14 = some (.int .i64 n9) ∧
bcase (decide (n9 = (0 : Int))) (
onAddr s fun b16 o15 =>
∃ n10 : Int, cell h4 b16 (o15 + 5) = some (.int .i64 n10) ∧
onAddr s fun b17 o16 =>
∃ n11 : Int, cell h4 b17 (o16 + 7) = some (.int .i64 n11) ∧
fits .i64 (n10 + n11) ∧
onAddr s fun b18 o17 =>
wr h4 b18 o17 ∧ ∀ h7 : Heap, h7 = setc h4 b18 o17 (.int .i64 (n10 + n11)) →
Post (.tuple #[(.bool true), (.bool false)]) h7) (
onAddr s fun b19 o18 =>
∃ n12 : Int, cell h4 b19 (o18 + 5) = some (.int .i64 n12) ∧
onAddr s fun b20 o19 =>
∃ n13 : Int, cell h4 b20 o19 = some (.int .i64 n13) ∧
Post (.tuple #[(.bool true), (.bool (decide (n13 ≤ n12)))]) h4))))) :
    Runs Tryd.prog 91 #[(.pointer s)] h0 Post :=
  runs_of (args := [(.pointer s)]) (fun n => ⟨true, false⟩) (fun _ => []) (fun _ => none) (fun _ => []) Tryd.func91 rfl (by rw [Tryd.ntmps91]; simp) (Eq.mp (by kernel_rfl) H)

theorem vc_codel_state_more (s : Option Addr) (h0 : Heap) (Post : Value → Heap → Prop) (H :
∃ (I1 : Bool → Heap → Prop) (m1 : Bool → Heap → Nat), I1 true h0 ∧ ∀ _ : Env,
∀ (is_1 : Bool) (h1 : Heap), I1 is_1 h1 →
onAddr s fun b1 o1 =>
∃ n1 : Int, cell h1 b1 (o1 + 5) = some (.int .i64 n1) ∧
onAddr s fun b2 o2 =>
∃ n2 : Int, cell h1 b2 (o2 + 1) = some (.int .i64 n2) ∧
bcase (decide (n2 ≤ n1)) (
onAddr s fun b3 o3 =>
∃ t1 : Bool, cell h1 b3 (o3 + 4) = some (.bool t1) ∧
bcase t1 (
onAddr s fun b4 o4 =>
∃ n3 : Int, cell h1 b4 (o4 + 10) = some (.int .i64 n3) ∧
fits .i64 (n3 + (1 : Int)) ∧
onAddr s fun b5 o5 =>
wr h1 b5 (o5 + 10) ∧ ∀ h2 : Heap, h2 = setc h1 b5 (o5 + 10) (.int .i64 (n3 + (1 : Int))) →
∃ J1 : Heap → Prop, (
onAddr s fun b6 o6 =>
∃ n4 : Int, cell h2 b6 (o6 + 2) = some (.int .u32 n4) ∧
bcase (decide (n4 < (4294967295 : Int))) (
onAddr s fun b7 o7 =>
∃ n5 : Int, cell h2 b7 (o7 + 2) = some (.int .u32 n5) ∧
fits .u32 (n5 + (1 : Int)) ∧
onAddr s fun b8 o8 =>
wr h2 b8 (o8 + 2) ∧ ∀ h3 : Heap, h3 = setc h2 b8 (o8 + 2) (.int .u32 (n5 + (1 : Int))) →
J1 h3) (
J1 h2)) ∧ ∀ _ : Env,
∀ (h4 : Heap), J1 h4 →
Runs Tryd.prog 91 #[(.pointer s)] h4 fun r1 h5 =>
∃ t2 : Bool,
∃ t3 : Bool,
r1 = (.tuple #[(.bool t2), (.bool t3)]) ∧
bcase (!t2) (
onAddr s fun b9 o9 =>
wr h5 b9 (o9 + 4) ∧ ∀ h6 : Heap, h6 = setc h5 b9 (o9 + 4) (.bool false) →
I1 t2 h6 ∧ m1 t2 h6 < m1 is_1 h1) (
bcase (!t3) (
onAddr s fun b10 o10 =>
wr h5 b10 (o10 + 4) ∧ ∀ h7 : Heap, h7 = setc h5 b10 (o10 + 4) (.bool false) →
I1 t2 h7 ∧ m1 t2 h7 < m1 is_1 h1) (
onAddr s fun b11 o11 =>
∃ n6 : Int, cell h5 b11 (o11 + 1) = some (.int .i64 n6) ∧
onAddr s fun b12 o12 =>
∃ n7 : Int, cell h5 b12 (o12 + 7) = some (.int .i64 n7) ∧
onAddr s fun b13 o13 =>
∃ n8 : Int, cell h5 b13 (o13 + 2) = some (.int .u32 n8) ∧
Runs Tryd.prog 95 #[(.int .i64 n6), (.int .i64 n7), (.int .u32 n8)] h5 fun r2 h8 =>
∃ n9 : Int,
r2 = (.int .i64 n9) ∧
onAddr s fun b14 o14 =>
wr h8 b14 (o14 + 1) ∧ ∀ h9 : Heap, h9 = setc h8 b14 (o14 + 1) (.int .i64 n9) →
I1 t2 h9 ∧ m1 t2 h9 < m1 is_1 h1))) (
Post (.bool is_1) h1)) (
Post (.bool is_1) h1)) :
    Runs Tryd.prog 92 #[(.pointer s)] h0 Post :=
  runs_of (args := [(.pointer s)]) (fun n => ⟨true, false⟩) (fun n => match n with | 0 => [(3, .bool)] | _ => []) (fun n => match n with | 6 => some [] | _ => none) (fun _ => []) Tryd.func92 rfl (by rw [Tryd.ntmps92]; simp) (Eq.mp (by kernel_rfl) H)

theorem vc_codel_state_begins (s : Option Addr) (h0 : Heap) (Post : Value → Heap → Prop) (H :
onAddr s fun b1 o1 =>
∃ n1 : Int, cell h0 b1 (o1 + 10) = some (.int .i64 n1) ∧
fits .i64 (n1 + (1 : Int)) ∧
onAddr s fun b2 o2 =>
wr h0 b2 (o2 + 10) ∧ ∀ h1 : Heap, h1 = setc h0 b2 (o2 + 10) (.int .i64 (n1 + (1 : Int))) →
Runs Tryd.prog 91 #[(.pointer s)] h1 fun r1 h2 =>
∃ t1 : Bool,
∃ t2 : Bool,
r1 = (.tuple #[(.bool t1), (.bool t2)]) ∧
onAddr s fun b3 o3 =>
wr h2 b3 (o3 + 4) ∧ ∀ h3 : Heap, h3 = setc h2 b3 (o3 + 4) (.bool true) →
onAddr s fun b4 o4 =>
∃ n2 : Int, cell h3 b4 (o4 + 2) = some (.int .u32 n2) ∧
onAddr s fun b5 o5 =>
∃ n3 : Int, cell h3 b5 (o5 + 3) = some (.int .u32 n3) ∧
onAddr s fun b6 o6 =>
wr h3 b6 (o6 + 2) ∧ ∀ h4 : Heap, h4 = setc h3 b6 (o6 + 2) (.int .u32 (1 : Int)) →
∃ J1 : Heap → Prop, (
bcase (decide ((1 : Int) < (IntKind.u32.wrap (n2 - n3)))) (
onAddr s fun b7 o7 =>
∃ n4 : Int, cell h4 b7 (o7 + 5) = some (.int .i64 n4) ∧
onAddr s fun b8 o8 =>
∃ n5 : Int, cell h4 b8 (o8 + 1) = some (.int .i64 n5) ∧
fits .i64 (n4 - n5) ∧
onAddr s fun b9 o9 =>
∃ n6 : Int, cell h4 b9 (o9 + 7) = some (.int .i64 n6) ∧
fits .i64 ((16 : Int) * n6) ∧
bcase (decide ((n4 - n5) < ((16 : Int) * n6))) (
onAddr s fun b10 o10 =>
wr h4 b10 (o10 + 2) ∧ ∀ h5 : Heap, h5 = setc h4 b10 (o10 + 2) (.int .u32 (IntKind.u32.wrap (n2 - n3))) →
J1 h5) (
J1 h4)) (
J1 h4)) ∧ ∀ _ : Env,
∀ (h6 : Heap), J1 h6 →
onAddr s fun b11 o11 =>
∃ n7 : Int, cell h6 b11 (o11 + 2) = some (.int .u32 n7) ∧
onAddr s fun b12 o12 =>
wr h6 b12 (o12 + 3) ∧ ∀ h7 : Heap, h7 = setc h6 b12 (o12 + 3) (.int .u32 n7) →
onAddr s fun b13 o13 =>
∃ n8 : Int, cell h7 b13 (o13 + 5) = some (.int .i64 n8) ∧
onAddr s fun b14 o14 =>
∃ n9 : Int, cell h7 b14 (o14 + 7) = some (.int .i64 n9) ∧
onAddr s fun b15 o15 =>
∃ n10 : Int, cell h7 b15 (o15 + 2) = some (.int .u32 n10) ∧
Runs Tryd.prog 95 #[(.int .i64 n8), (.int .i64 n9), (.int .u32 n10)] h7 fun r2 h8 =>
∃ n11 : Int,
r2 = (.int .i64 n11) ∧
onAddr s fun b16 o16 =>
wr h8 b16 (o16 + 1) ∧ ∀ h9 : Heap, h9 = setc h8 b16 (o16 + 1) (.int .i64 n11) →
Post (.bool t1) h9) :
    Runs Tryd.prog 93 #[(.pointer s)] h0 Post :=
  runs_of (args := [(.pointer s)]) (fun n => ⟨!memB n [4], false⟩) (fun _ => []) (fun n => match n with | 8 => some [] | _ => none) (fun _ => []) Tryd.func93 rfl (by rw [Tryd.ntmps93]; simp) (Eq.mp (by kernel_rfl) H)

theorem vc_muezzinref8_Pull (c : List Value) (now : Int) (target : Int) (interval : Int) (bytes : Int) (l : Option Addr) (lL lC : Nat) (h0 : Heap) (Post : Value → Heap → Prop) (H :
∀ (b1 : Nat) (h1 : Heap), b1 = h0.size → h1 = h0.push (.cells (c).toArray 109) →
∀ (b2 : Nat) (h2 : Heap), b2 = h1.size → h2 = h1.push (.cells ([(.int .i64 (0 : Int)), (.int .i64 (0 : Int)), (.int .u32 (0 : Int)), (.int .u32 (0 : Int)), (.bool false)] : List Value).toArray 109) →
∃ cs1 : List Value, row h2 b1 0 5 = some cs1 ∧
Runs Tryd.prog 83 #[(.int .i64 target), (.int .i64 (0 : Int)), (.int .i64 (1073741824 : Int))] h2 fun r1 h3 =>
∃ n1 : Int,
r1 = (.int .i64 n1) ∧
row h3 b1 0 5 = some (cs1) ∧
Runs Tryd.prog 83 #[(.int .i64 interval), (.int .i64 (0 : Int)), (.int .i64 (1073741824 : Int))] h3 fun r2 h4 =>
∃ n2 : Int,
r2 = (.int .i64 n2) ∧
row h4 b1 0 5 = some (cs1) ∧
(cs1).length = 5 ∧
∀ (b3 : Nat) (h5 : Heap), b3 = h4.size → h5 = h4.push (.cells (((cs1) ++ ([(.int .i64 now), (.int .i64 n1), (.int .i64 n2), (.int .i64 bytes), (.slice l lL lC), (.int .i64 (0 : Int))] : List Value))).toArray 138) →
Runs Tryd.prog 84 #[(.pointer (some ⟨b3, 0, none⟩))] h5 fun r3 h6 =>
∃ t1 : Bool,
∃ t2 : Bool,
r3 = (.tuple #[(.bool t1), (.bool t2)]) ∧
bcase (!t1) (
wr h6 b3 4 ∧ ∀ h7 : Heap, h7 = setc h6 b3 4 (.bool false) →
∃ cs2 : List Value, row h7 b3 0 5 = some cs2 ∧
(((cs2)).length = 5 ∧ wrs h7 b2 0 5 ∧ ∀ u ∈ ((cs2) : List Value), u.oneCell' = true) ∧ ∀ h8 : Heap, h8 = setr h7 b2 0 (cs2) →
∃ cs3 : List Value, row h8 b2 0 5 = some cs3 ∧
Post (.tuple #[(.agg (cs3).toArray), (.int .i64 (0 : Int)), (.bool false)]) h8) (
∃ t3 : Bool, cell h6 b3 4 = some (.bool t3) ∧
bcase t3 (
bcase (!t2) (
wr h6 b3 4 ∧ ∀ h9 : Heap, h9 = setc h6 b3 4 (.bool false) →
∃ cs4 : List Value, row h9 b3 0 5 = some cs4 ∧
(((cs4)).length = 5 ∧ wrs h9 b2 0 5 ∧ ∀ u ∈ ((cs4) : List Value), u.oneCell' = true) ∧ ∀ h10 : Heap, h10 = setr h9 b2 0 (cs4) →
∃ cs5 : List Value, row h10 b2 0 5 = some cs5 ∧
Post (.tuple #[(.agg (cs5).toArray), (.int .i64 (0 : Int)), (.bool true)]) h10) (
∃ (I1 : Bool → Heap → Prop) (m1 : Bool → Heap → Nat), I1 t1 h6 ∧ ∀ _ : Env,
∀ (is_1 : Bool) (h11 : Heap), I1 is_1 h11 →
∃ t4 : Bool, cell h11 b3 4 = some (.bool t4) ∧
bcase t4 (
∃ n3 : Int, cell h11 b3 5 = some (.int .i64 n3) ∧
∃ n4 : Int, cell h11 b3 1 = some (.int .i64 n4) ∧
bcase (decide (n4 ≤ n3)) (
∃ n5 : Int, cell h11 b3 10 = some (.int .i64 n5) ∧
fits .i64 (n5 + (1 : Int)) ∧
wr h11 b3 10 ∧ ∀ h12 : Heap, h12 = setc h11 b3 10 (.int .i64 (n5 + (1 : Int))) →
∃ J1 : Heap → Prop, (
∃ n6 : Int, cell h12 b3 2 = some (.int .u32 n6) ∧
bcase (decide (n6 < (4294967295 : Int))) (
∃ n7 : Int, cell h12 b3 2 = some (.int .u32 n7) ∧
fits .u32 (n7 + (1 : Int)) ∧
wr h12 b3 2 ∧ ∀ h13 : Heap, h13 = setc h12 b3 2 (.int .u32 (n7 + (1 : Int))) →
J1 h13) (
J1 h12)) ∧ ∀ _ : Env,
∀ (h14 : Heap), J1 h14 →
Runs Tryd.prog 84 #[(.pointer (some ⟨b3, 0, none⟩))] h14 fun r4 h15 =>
∃ t5 : Bool,
∃ t6 : Bool,
r4 = (.tuple #[(.bool t5), (.bool t6)]) ∧
bcase (!t5) (
wr h15 b3 4 ∧ ∀ h16 : Heap, h16 = setc h15 b3 4 (.bool false) →
I1 t5 h16 ∧ m1 t5 h16 < m1 is_1 h11) (
bcase (!t6) (
wr h15 b3 4 ∧ ∀ h17 : Heap, h17 = setc h15 b3 4 (.bool false) →
I1 t5 h17 ∧ m1 t5 h17 < m1 is_1 h11) (
∃ n8 : Int, cell h15 b3 1 = some (.int .i64 n8) ∧
∃ n9 : Int, cell h15 b3 7 = some (.int .i64 n9) ∧
∃ n10 : Int, cell h15 b3 2 = some (.int .u32 n10) ∧
Runs Tryd.prog 85 #[(.int .i64 n8), (.int .i64 n9), (.int .u32 n10)] h15 fun r5 h18 =>
∃ n11 : Int,
r5 = (.int .i64 n11) ∧
wr h18 b3 1 ∧ ∀ h19 : Heap, h19 = setc h18 b3 1 (.int .i64 n11) →
I1 t5 h19 ∧ m1 t5 h19 < m1 is_1 h11))) (
∃ cs6 : List Value, row h11 b3 0 5 = some cs6 ∧
∃ n12 : Int, cell h11 b3 10 = some (.int .i64 n12) ∧
(((cs6)).length = 5 ∧ wrs h11 b2 0 5 ∧ ∀ u ∈ ((cs6) : List Value), u.oneCell' = true) ∧ ∀ h20 : Heap, h20 = setr h11 b2 0 (cs6) →
cell h20 b3 10 = some (.int .i64 n12) ∧
∃ cs7 : List Value, row h20 b2 0 5 = some cs7 ∧
Post (.tuple #[(.agg (cs7).toArray), (.int .i64 n12), (.bool is_1)]) h20)) (
∃ cs8 : List Value, row h11 b3 0 5 = some cs8 ∧
∃ n13 : Int, cell h11 b3 10 = some (.int .i64 n13) ∧
(((cs8)).length = 5 ∧ wrs h11 b2 0 5 ∧ ∀ u ∈ ((cs8) : List Value), u.oneCell' = true) ∧ ∀ h21 : Heap, h21 = setr h11 b2 0 (cs8) →
cell h21 b3 10 = some (.int .i64 n13) ∧
∃ cs9 : List Value, row h21 b2 0 5 = some cs9 ∧
Post (.tuple #[(.agg (cs9).toArray), (.int .i64 n13), (.bool is_1)]) h21))) (
bcase t2 (
wr h6 b3 10 ∧ ∀ h22 : Heap, h22 = setc h6 b3 10 (.int .i64 (1 : Int)) →
Runs Tryd.prog 84 #[(.pointer (some ⟨b3, 0, none⟩))] h22 fun r6 h23 =>
∃ t7 : Bool,
∃ t8 : Bool,
r6 = (.tuple #[(.bool t7), (.bool t8)]) ∧
wr h23 b3 4 ∧ ∀ h24 : Heap, h24 = setc h23 b3 4 (.bool true) →
∃ n14 : Int, cell h24 b3 2 = some (.int .u32 n14) ∧
∃ n15 : Int, cell h24 b3 3 = some (.int .u32 n15) ∧
∃ J2 : Int → Heap → Prop, (
bcase (decide ((IntKind.u32.wrap (n14 - n15)) ≤ (1 : Int))) (
J2 (1 : Int) h24) (
∃ n16 : Int, cell h24 b3 5 = some (.int .i64 n16) ∧
∃ n17 : Int, cell h24 b3 1 = some (.int .i64 n17) ∧
fits .i64 (n16 - n17) ∧
∃ n18 : Int, cell h24 b3 7 = some (.int .i64 n18) ∧
fits .i64 ((16 : Int) * n18) ∧
bcase (decide (((16 : Int) * n18) ≤ (n16 - n17))) (
J2 (1 : Int) h24) (
J2 (IntKind.u32.wrap (n14 - n15)) h24))) ∧ ∀ _ : Env,
∀ (n_1 : Int) (h25 : Heap), J2 n_1 h25 →
wr h25 b3 2 ∧ ∀ h26 : Heap, h26 = setc h25 b3 2 (.int .u32 n_1) →
wr h26 b3 3 ∧ ∀ h27 : Heap, h27 = setc h26 b3 3 (.int .u32 n_1) →
∃ n19 : Int, cell h27 b3 5 = some (.int .i64 n19) ∧
∃ n20 : Int, cell h27 b3 7 = some (.int .i64 n20) ∧
Runs Tryd.prog 85 #[(.int .i64 n19), (.int .i64 n20), (.int .u32 n_1)] h27 fun r7 h28 =>
∃ n21 : Int,
r7 = (.int .i64 n21) ∧
wr h28 b3 1 ∧ ∀ h29 : Heap, h29 = setc h28 b3 1 (.int .i64 n21) →
∃ cs10 : List Value, row h29 b3 0 5 = some cs10 ∧
∃ n22 : Int, cell h29 b3 10 = some (.int .i64 n22) ∧
(((cs10)).length = 5 ∧ wrs h29 b2 0 5 ∧ ∀ u ∈ ((cs10) : List Value), u.oneCell' = true) ∧ ∀ h30 : Heap, h30 = setr h29 b2 0 (cs10) →
cell h30 b3 10 = some (.int .i64 n22) ∧
∃ cs11 : List Value, row h30 b2 0 5 = some cs11 ∧
Post (.tuple #[(.agg (cs11).toArray), (.int .i64 n22), (.bool t7)]) h30) (
∃ cs12 : List Value, row h6 b3 0 5 = some cs12 ∧
∃ n23 : Int, cell h6 b3 10 = some (.int .i64 n23) ∧
(((cs12)).length = 5 ∧ wrs h6 b2 0 5 ∧ ∀ u ∈ ((cs12) : List Value), u.oneCell' = true) ∧ ∀ h31 : Heap, h31 = setr h6 b2 0 (cs12) →
cell h31 b3 10 = some (.int .i64 n23) ∧
∃ cs13 : List Value, row h31 b2 0 5 = some cs13 ∧
Post (.tuple #[(.agg (cs13).toArray), (.int .i64 n23), (.bool t1)]) h31)))) :
    Runs Tryd.prog 72 #[(.agg (c).toArray), (.int .i64 now), (.int .i64 target), (.int .i64 interval), (.int .i64 bytes), (.slice l lL lC)] h0 Post :=
  runs_of (args := [(.agg (c).toArray), (.int .i64 now), (.int .i64 target), (.int .i64 interval), (.int .i64 bytes), (.slice l lL lC)]) (fun n => ⟨!memB n [23], false⟩) (fun n => match n with | 0 => [(16, .bool)] | _ => []) (fun n => match n with | 14 => some [] | 26 => some [(18, .int .u32)] | _ => none) (fun _ => []) Tryd.func72 rfl (by rw [Tryd.ntmps72]; simp) (Eq.mp (by kernel_rfl) H)

theorem vc_muezzinref8_pull_look (p : Option Addr) (h0 : Heap) (Post : Value → Heap → Prop) (H :
onAddr p fun b1 o1 =>
∃ n1 : Int, cell h0 b1 (o1 + 10) = some (.int .i64 n1) ∧
onAddr p fun b2 o2 =>
∃ (s1 : Option Addr) (s1l s1c : Nat), cell h0 b2 (o2 + 9) = some (.slice s1 s1l s1c) ∧
bcase (decide (((s1l : Nat) : Int) ≤ n1)) (
onAddr p fun b3 o3 =>
wr h0 b3 o3 ∧ ∀ h1 : Heap, h1 = setc h0 b3 o3 (.int .i64 (0 : Int)) →
Post (.tuple #[(.bool false), (.bool false)]) h1) (
onAddr p fun b4 o4 =>
∃ n2 : Int, cell h0 b4 (o4 + 8) = some (.int .i64 n2) ∧
onAddr p fun b5 o5 =>
∃ (s2 : Option Addr) (s2l s2c : Nat), cell h0 b5 (o5 + 9) = some (.slice s2 s2l s2c) ∧
onAddr p fun b6 o6 =>
∃ n3 : Int, cell h0 b6 (o6 + 10) = some (.int .i64 n3) ∧
(0 ≤ n3 ∧ n3 < ((s2l : Nat) : Int)) ∧
onAddr s2 fun b7 o7 =>
∃ n4 : Int, cell h0 b7 ((o7 + ((n3).toNat * 2)) + 1) = some (.int .i64 n4) ∧
fits .i64 (n2 - (max n4 (0 : Int))) ∧
onAddr p fun b8 o8 =>
wr h0 b8 (o8 + 8) ∧ ∀ h2 : Heap, h2 = setc h0 b8 (o8 + 8) (.int .i64 (n2 - (max n4 (0 : Int)))) →
onAddr p fun b9 o9 =>
∃ n5 : Int, cell h2 b9 (o9 + 5) = some (.int .i64 n5) ∧
onAddr p fun b10 o10 =>
∃ (s3 : Option Addr) (s3l s3c : Nat), cell h2 b10 (o10 + 9) = some (.slice s3 s3l s3c) ∧
onAddr p fun b11 o11 =>
∃ n6 : Int, cell h2 b11 (o11 + 10) = some (.int .i64 n6) ∧
(0 ≤ n6 ∧ n6 < ((s3l : Nat) : Int)) ∧
onAddr s3 fun b12 o12 =>
∃ n7 : Int, cell h2 b12 (o12 + ((n6).toNat * 2)) = some (.int .i64 n7) ∧
fits .i64 (n5 - n7) ∧
onAddr p fun b13 o13 =>
∃ n8 : Int, cell h2 b13 (o13 + 6) = some (.int .i64 n8) ∧
bcase (decide ((n5 - n7) < n8)) (
onAddr p fun b14 o14 =>
wr h2 b14 o14 ∧ ∀ h3 : Heap, h3 = setc h2 b14 o14 (.int .i64 (0 : Int)) →
Post (.tuple #[(.bool true), (.bool false)]) h3) (
onAddr p fun b15 o15 =>
∃ n9 : Int, cell h2 b15 (o15 + 8) = some (.int .i64 n9) ∧
bcase (decide (n9 ≤ (1514 : Int))) (
onAddr p fun b16 o16 =>
wr h2 b16 o16 ∧ ∀ h4 : Heap, h4 = setc h2 b16 o16 (.int .i64 (0 : Int)) →
Post (.tuple #[(.bool true), (.bool false)]) h4) (
onAddr p fun b17 o17 =>
∃ n10 : Int, cell h2 b17 o17 = some (.int .i64 n10) ∧
bcase (decide (n10 = (0 : Int))) (
onAddr p fun b18 o18 =>
∃ n11 : Int, cell h2 b18 (o18 + 5) = some (.int .i64 n11) ∧
onAddr p fun b19 o19 =>
∃ n12 : Int, cell h2 b19 (o19 + 7) = some (.int .i64 n12) ∧
fits .i64 (n11 + n12) ∧
onAddr p fun b20 o20 =>
wr h2 b20 o20 ∧ ∀ h5 : Heap, h5 = setc h2 b20 o20 (.int .i64 (n11 + n12)) →
Post (.tuple #[(.bool true), (.bool false)]) h5) (
onAddr p fun b21 o21 =>
∃ n13 : Int, cell h2 b21 (o21 + 5) = some (.int .i64 n13) ∧
onAddr p fun b22 o22 =>
∃ n14 : Int, cell h2 b22 o22 = some (.int .i64 n14) ∧
Post (.tuple #[(.bool true), (.bool (decide (n14 ≤ n13)))]) h2))))) :
    Runs Tryd.prog 84 #[(.pointer p)] h0 Post :=
  runs_of (args := [(.pointer p)]) (fun n => ⟨true, false⟩) (fun _ => []) (fun _ => none) (fun _ => []) Tryd.func84 rfl (by rw [Tryd.ntmps84]; simp) (Eq.mp (by kernel_rfl) H)
end Go.Proofs.YtpcilleldanfmaaDoor

/- The conditions for calls of functions of the program, in plain form: written by a program (vcgen) off the elaborated code; each is the reckoner's own, by the kernel. -/
set_option linter.unusedVariables false
set_option maxRecDepth 100000
namespace Go.Proofs.YtpcilleldanfmaaDoor
open Go.Vc
theorem vc_inv_Root (n : Int) (h0 : Heap) (Post : Value → Heap → Prop) (H :
∃ (I1 : Int → Int → Heap → Prop) (m1 : Int → Int → Heap → Nat), I1 (0 : Int) (2147483648 : Int) h0 ∧ ∀ _ : Env,
∀ (out_1 : Int) (bit_1 : Int) (h1 : Heap), I1 out_1 bit_1 h1 →
bcase (decide ((0 : Int) < bit_1)) (
fits .u64 (out_1 + bit_1) ∧
fits .u64 ((out_1 + bit_1) * (out_1 + bit_1)) ∧
bcase (decide (((out_1 + bit_1) * (out_1 + bit_1)) ≤ n)) (
(0 ≤ bit_1 ∧ 0 < (2 : Int) ∧ fits .u64 (bit_1 / (2 : Int))) ∧
I1 (out_1 + bit_1) (bit_1 / (2 : Int)) h1 ∧ m1 (out_1 + bit_1) (bit_1 / (2 : Int)) h1 < m1 out_1 bit_1 h1) (
(0 ≤ bit_1 ∧ 0 < (2 : Int) ∧ fits .u64 (bit_1 / (2 : Int))) ∧
I1 out_1 (bit_1 / (2 : Int)) h1 ∧ m1 out_1 (bit_1 / (2 : Int)) h1 < m1 out_1 bit_1 h1)) (
Post (.int .u64 out_1) h1)) :
    Runs Tryd.prog 98 #[(.int .u64 n)] h0 Post :=
  runs_of (args := [(.int .u64 n)]) (fun n => ⟨true, false⟩) (fun n => match n with | 0 => [(3, .int .u64), (4, .int .u64)] | _ => []) (fun _ => none) (fun _ => []) Tryd.func98 rfl (by rw [Tryd.ntmps98]; simp) (Eq.mp (by kernel_rfl) H)

theorem vc_inv_Inv (count : Int) (h0 : Heap) (Post : Value → Heap → Prop) (H :
bcase (decide (count ≤ (1 : Int))) (
Post (.int .u64 (4294967296 : Int)) h0) (
fits .u64 count ∧
Runs Tryd.prog 97 #[(.int .u64 (1 : Int)), (.int .u64 (0 : Int)), (.int .u64 count)] h0 fun r1 h1 =>
∃ n1 : Int,
∃ n2 : Int,
r1 = (.tuple #[(.int .u64 n1), (.int .u64 n2)]) ∧
Runs Tryd.prog 98 #[(.int .u64 n1)] h1 fun r2 h2 =>
∃ n3 : Int,
r2 = (.int .u64 n3) ∧
Post (.int .u64 n3) h2)) :
    Runs Tryd.prog 96 #[(.int .u32 count)] h0 Post :=
  runs_of (args := [(.int .u32 count)]) (fun n => ⟨true, false⟩) (fun _ => []) (fun _ => none) (fun _ => []) Tryd.func96 rfl (by rw [Tryd.ntmps96]; simp) (Eq.mp (by kernel_rfl) H)

theorem vc_inv_Next (at_ : Int) (interval : Int) (count : Int) (h0 : Heap) (Post : Value → Heap → Prop) (H :
fits .u64 (min (max interval (0 : Int)) (1073741824 : Int)) ∧
Runs Tryd.prog 96 #[(.int .u32 count)] h0 fun r1 h1 =>
∃ n1 : Int,
r1 = (.int .u64 n1) ∧
fits .u64 ((min (max interval (0 : Int)) (1073741824 : Int)) * n1) ∧
(0 ≤ (32 : Int) ∧ (32 : Int) ≤ kbits .u64) ∧
fits .i64 (((min (max interval (0 : Int)) (1073741824 : Int)) * n1) / (4294967296 : Int)) ∧
fits .i64 ((min (max at_ (0 : Int)) (1125899906842624 : Int)) + (((min (max interval (0 : Int)) (1073741824 : Int)) * n1) / (4294967296 : Int))) ∧
Post (.int .i64 ((min (max at_ (0 : Int)) (1125899906842624 : Int)) + (((min (max interval (0 : Int)) (1073741824 : Int)) * n1) / (4294967296 : Int)))) h1) :
    Runs Tryd.prog 95 #[(.int .i64 at_), (.int .i64 interval), (.int .u32 count)] h0 Post :=
  runs_of (args := [(.int .i64 at_), (.int .i64 interval), (.int .u32 count)]) (fun n => ⟨true, false⟩) (fun _ => []) (fun _ => none) (fun _ => []) Tryd.func95 rfl (by rw [Tryd.ntmps95]; simp) (Eq.mp (by kernel_rfl) H)

theorem vc_muezzinref8_Root (n : Int) (h0 : Heap) (Post : Value → Heap → Prop) (H :
∃ (I1 : Int → Int → Heap → Prop) (m1 : Int → Int → Heap → Nat), I1 (0 : Int) (31 : Int) h0 ∧ ∀ _ : Env,
∀ (x_1 : Int) (k_1 : Int) (h1 : Heap), I1 x_1 k_1 h1 →
bcase (decide ((0 : Int) ≤ k_1)) (
fits .u64 k_1 ∧
(0 ≤ k_1 ∧ k_1 ≤ kbits .u64) ∧
fits .u64 ((1 : Int) * (pow2 k_1)) ∧
fits .u64 (x_1 + ((1 : Int) * (pow2 k_1))) ∧
fits .u64 ((x_1 + ((1 : Int) * (pow2 k_1))) * (x_1 + ((1 : Int) * (pow2 k_1)))) ∧
bcase (decide (((x_1 + ((1 : Int) * (pow2 k_1))) * (x_1 + ((1 : Int) * (pow2 k_1)))) ≤ n)) (
fits .i64 (k_1 - (1 : Int)) ∧
I1 (x_1 + ((1 : Int) * (pow2 k_1))) (k_1 - (1 : Int)) h1 ∧ m1 (x_1 + ((1 : Int) * (pow2 k_1))) (k_1 - (1 : Int)) h1 < m1 x_1 k_1 h1) (
fits .i64 (k_1 - (1 : Int)) ∧
I1 x_1 (k_1 - (1 : Int)) h1 ∧ m1 x_1 (k_1 - (1 : Int)) h1 < m1 x_1 k_1 h1)) (
Post (.int .u64 x_1) h1)) :
    Runs Tryd.prog 94 #[(.int .u64 n)] h0 Post :=
  runs_of (args := [(.int .u64 n)]) (fun n => ⟨true, false⟩) (fun n => match n with | 0 => [(3, .int .u64), (4, .int .i64)] | _ => []) (fun _ => none) (fun _ => []) Tryd.func94 rfl (by rw [Tryd.ntmps94]; simp) (Eq.mp (by kernel_rfl) H)

theorem vc_muezzinref8_Inv (count : Int) (h0 : Heap) (Post : Value → Heap → Prop) (H :
bcase (decide (count ≤ (1 : Int))) (
Post (.int .u64 (4294967296 : Int)) h0) (
fits .u64 count ∧
(0 ≤ (18446744073709551615 : Int) ∧ 0 < count ∧ fits .u64 ((18446744073709551615 : Int) / count)) ∧
(0 ≤ (18446744073709551615 : Int) ∧ 0 < count) ∧
fits .u64 (count - (1 : Int)) ∧
bcase (decide (((18446744073709551615 : Int) % count) = (count - (1 : Int)))) (
fits .u64 (((18446744073709551615 : Int) / count) + (1 : Int)) ∧
Runs Tryd.prog 94 #[(.int .u64 (((18446744073709551615 : Int) / count) + (1 : Int)))] h0 fun r1 h1 =>
∃ n1 : Int,
r1 = (.int .u64 n1) ∧
Post (.int .u64 n1) h1) (
Runs Tryd.prog 94 #[(.int .u64 ((18446744073709551615 : Int) / count))] h0 fun r2 h2 =>
∃ n2 : Int,
r2 = (.int .u64 n2) ∧
Post (.int .u64 n2) h2))) :
    Runs Tryd.prog 90 #[(.int .u32 count)] h0 Post :=
  runs_of (args := [(.int .u32 count)]) (fun n => ⟨true, false⟩) (fun _ => []) (fun _ => none) (fun _ => []) Tryd.func90 rfl (by rw [Tryd.ntmps90]; simp) (Eq.mp (by kernel_rfl) H)

theorem vc_muezzinref8_Next (at_ : Int) (interval : Int) (count : Int) (h0 : Heap) (Post : Value → Heap → Prop) (H :
Runs Tryd.prog 83 #[(.int .i64 interval), (.int .i64 (0 : Int)), (.int .i64 (1073741824 : Int))] h0 fun r1 h1 =>
∃ n1 : Int,
r1 = (.int .i64 n1) ∧
fits .u64 n1 ∧
Runs Tryd.prog 90 #[(.int .u32 count)] h1 fun r2 h2 =>
∃ n2 : Int,
r2 = (.int .u64 n2) ∧
Runs Tryd.prog 89 #[(.int .u64 n1), (.int .u64 n2)] h2 fun r3 h3 =>
∃ n3 : Int,
∃ n4 : Int,
r3 = (.tuple #[(.int .u64 n3), (.int .u64 n4)]) ∧
Runs Tryd.prog 83 #[(.int .i64 at_), (.int .i64 (0 : Int)), (.int .i64 (1125899906842624 : Int))] h3 fun r4 h4 =>
∃ n5 : Int,
r4 = (.int .i64 n5) ∧
(0 ≤ (32 : Int) ∧ (32 : Int) ≤ kbits .u64) ∧
fits .u64 (n3 * (4294967296 : Int)) ∧
(0 ≤ (32 : Int) ∧ (32 : Int) ≤ kbits .u64) ∧
fits .i64 (bits .or .u64 (n3 * (4294967296 : Int)) (n4 / (4294967296 : Int))) ∧
fits .i64 (n5 + (bits .or .u64 (n3 * (4294967296 : Int)) (n4 / (4294967296 : Int)))) ∧
Post (.int .i64 (n5 + (bits .or .u64 (n3 * (4294967296 : Int)) (n4 / (4294967296 : Int))))) h4) :
    Runs Tryd.prog 85 #[(.int .i64 at_), (.int .i64 interval), (.int .u32 count)] h0 Post :=
  runs_of (args := [(.int .i64 at_), (.int .i64 interval), (.int .u32 count)]) (fun n => ⟨true, false⟩) (fun _ => []) (fun _ => none) (fun _ => []) Tryd.func85 rfl (by rw [Tryd.ntmps85]; simp) (Eq.mp (by kernel_rfl) H)

theorem vc_muezzinref8_clamp (n : Int) (low : Int) (high : Int) (h0 : Heap) (Post : Value → Heap → Prop) (H :
Post (.int .i64 (min (max n low) high)) h0) :
    Runs Tryd.prog 83 #[(.int .i64 n), (.int .i64 low), (.int .i64 high)] h0 Post :=
  runs_of (args := [(.int .i64 n), (.int .i64 low), (.int .i64 high)]) (fun n => ⟨true, false⟩) (fun _ => []) (fun _ => none) (fun _ => []) Tryd.func83 rfl (by rw [Tryd.ntmps83]; simp) (Eq.mp (by kernel_rfl) H)

theorem vc_math_bits_Div64 (hi : Int) (lo : Int) (y : Int) (h0 : Heap) (Post : Value → Heap → Prop) (H :
∀ quo_1 : Int, quo_1 = (0 : Int) →
∀ rem_1 : Int, rem_1 = (0 : Int) →
bcase (decide (y = (0 : Int))) (
∃ v1 : Value, cell h0 14 0 = some v1 ∧
False) (
bcase (decide (y ≤ hi)) (
∃ v2 : Value, cell h0 15 0 = some v2 ∧
False) (
bcase (decide (hi = (0 : Int))) (
(0 ≤ lo ∧ 0 < y ∧ fits .u64 (lo / y)) ∧
(0 ≤ lo ∧ 0 < y) ∧
∀ quo_2 : Int, quo_2 = (lo / y) →
∀ rem_2 : Int, rem_2 = (lo % y) →
Post (.tuple #[(.int .u64 quo_2), (.int .u64 rem_2)]) h0) (
Runs Tryd.prog 99 #[(.int .u64 y)] h0 fun r1 h1 =>
∃ n1 : Int,
r1 = (.int .i64 n1) ∧
fits .u64 n1 ∧
∀ s_1 : Int, s_1 = n1 →
(0 ≤ s_1 ∧ s_1 ≤ kbits .u64) ∧
fits .u64 (y * (pow2 s_1)) ∧
∀ y_1 : Int, y_1 = (y * (pow2 s_1)) →
(0 ≤ (32 : Int) ∧ (32 : Int) ≤ kbits .u64) ∧
∀ y1 : Int, y1 = (y_1 / (4294967296 : Int)) →
∀ y2 : Int, y2 = (bits .and .u64 y_1 (4294967295 : Int)) →
(0 ≤ s_1 ∧ s_1 ≤ kbits .u64) ∧
fits .u64 (hi * (pow2 s_1)) ∧
fits .u64 ((64 : Int) - s_1) ∧
(0 ≤ ((64 : Int) - s_1) ∧ ((64 : Int) - s_1) ≤ kbits .u64) ∧
∀ y3 : Int, y3 = (bits .or .u64 (hi * (pow2 s_1)) (lo / (pow2 ((64 : Int) - s_1)))) →
(0 ≤ s_1 ∧ s_1 ≤ kbits .u64) ∧
fits .u64 (lo * (pow2 s_1)) ∧
∀ y4 : Int, y4 = (lo * (pow2 s_1)) →
(0 ≤ (32 : Int) ∧ (32 : Int) ≤ kbits .u64) ∧
∀ y5 : Int, y5 = (y4 / (4294967296 : Int)) →
∀ y6 : Int, y6 = (bits .and .u64 y4 (4294967295 : Int)) →
(0 ≤ y3 ∧ 0 < y1 ∧ fits .u64 (y3 / y1)) ∧
∀ y7 : Int, y7 = (y3 / y1) →
fits .u64 (y7 * y1) ∧
fits .u64 (y3 - (y7 * y1)) ∧
∀ rhat_1 : Int, rhat_1 = (y3 - (y7 * y1)) →
∃ J1 : Int → Heap → Prop, (
∃ (I1 : Int → Int → Heap → Prop) (m1 : Int → Int → Heap → Nat), I1 y7 rhat_1 h1 ∧ ∀ _ : Env,
∀ (x1 : Int) (rhat_2 : Int) (h2 : Heap), I1 x1 rhat_2 h2 →
bcase (decide ((4294967296 : Int) ≤ x1)) (
fits .u64 (x1 - (1 : Int)) ∧
∀ y8 : Int, y8 = (x1 - (1 : Int)) →
fits .u64 (rhat_2 + y1) ∧
∀ rhat_3 : Int, rhat_3 = (rhat_2 + y1) →
bcase (decide ((4294967296 : Int) ≤ rhat_3)) (
J1 y8 h2) (
I1 y8 rhat_3 h2 ∧ m1 y8 rhat_3 h2 < m1 x1 rhat_2 h2)) (
fits .u64 (x1 * y2) ∧
fits .u64 ((4294967296 : Int) * rhat_2) ∧
fits .u64 (((4294967296 : Int) * rhat_2) + y5) ∧
bcase (decide ((((4294967296 : Int) * rhat_2) + y5) < (x1 * y2))) (
fits .u64 (x1 - (1 : Int)) ∧
∀ y9 : Int, y9 = (x1 - (1 : Int)) →
fits .u64 (rhat_2 + y1) ∧
∀ rhat_4 : Int, rhat_4 = (rhat_2 + y1) →
bcase (decide ((4294967296 : Int) ≤ rhat_4)) (
J1 y9 h2) (
I1 y9 rhat_4 h2 ∧ m1 y9 rhat_4 h2 < m1 x1 rhat_2 h2)) (
J1 x1 h2))) ∧ ∀ _ : Env,
∀ (x3 : Int) (h3 : Heap), J1 x3 h3 →
∀ y10 : Int, y10 = (IntKind.u64.wrap ((IntKind.u64.wrap ((IntKind.u64.wrap (y3 * (4294967296 : Int))) + y5)) - (IntKind.u64.wrap (x3 * y_1)))) →
(0 ≤ y10 ∧ 0 < y1 ∧ fits .u64 (y10 / y1)) ∧
∀ y11 : Int, y11 = (y10 / y1) →
fits .u64 (y11 * y1) ∧
fits .u64 (y10 - (y11 * y1)) ∧
∀ rhat_5 : Int, rhat_5 = (y10 - (y11 * y1)) →
∃ J2 : Int → Heap → Prop, (
∃ (I2 : Int → Int → Heap → Prop) (m2 : Int → Int → Heap → Nat), I2 rhat_5 y11 h3 ∧ ∀ _ : Env,
∀ (rhat_6 : Int) (x5 : Int) (h4 : Heap), I2 rhat_6 x5 h4 →
bcase (decide ((4294967296 : Int) ≤ x5)) (
fits .u64 (x5 - (1 : Int)) ∧
∀ y12 : Int, y12 = (x5 - (1 : Int)) →
fits .u64 (rhat_6 + y1) ∧
∀ rhat_7 : Int, rhat_7 = (rhat_6 + y1) →
bcase (decide ((4294967296 : Int) ≤ rhat_7)) (
J2 y12 h4) (
I2 rhat_7 y12 h4 ∧ m2 rhat_7 y12 h4 < m2 rhat_6 x5 h4)) (
fits .u64 (x5 * y2) ∧
fits .u64 ((4294967296 : Int) * rhat_6) ∧
fits .u64 (((4294967296 : Int) * rhat_6) + y6) ∧
bcase (decide ((((4294967296 : Int) * rhat_6) + y6) < (x5 * y2))) (
fits .u64 (x5 - (1 : Int)) ∧
∀ y13 : Int, y13 = (x5 - (1 : Int)) →
fits .u64 (rhat_6 + y1) ∧
∀ rhat_8 : Int, rhat_8 = (rhat_6 + y1) →
bcase (decide ((4294967296 : Int) ≤ rhat_8)) (
J2 y13 h4) (
I2 rhat_8 y13 h4 ∧ m2 rhat_8 y13 h4 < m2 rhat_6 x5 h4)) (
J2 x5 h4))) ∧ ∀ _ : Env,
∀ (x6 : Int) (h5 : Heap), J2 x6 h5 →
(0 ≤ s_1 ∧ s_1 ≤ kbits .u64) ∧
∀ quo_3 : Int, quo_3 = (IntKind.u64.wrap ((IntKind.u64.wrap (x3 * (4294967296 : Int))) + x6)) →
∀ rem_3 : Int, rem_3 = ((IntKind.u64.wrap ((IntKind.u64.wrap ((IntKind.u64.wrap (y10 * (4294967296 : Int))) + y6)) - (IntKind.u64.wrap (x6 * y_1)))) / (pow2 s_1)) →
Post (.tuple #[(.int .u64 quo_3), (.int .u64 rem_3)]) h5)))) :
    Runs Tryd.prog 97 #[(.int .u64 hi), (.int .u64 lo), (.int .u64 y)] h0 Post :=
  runs_of (args := [(.int .u64 hi), (.int .u64 lo), (.int .u64 y)]) (fun n => ⟨!memB n [21, 28], true⟩) (fun n => match n with | 0 => [(15, .int .u64), (16, .int .u64)] | 2 => [(16, .int .u64), (18, .int .u64)] | _ => []) (fun n => match n with | 21 => some [(15, .int .u64)] | 28 => some [(18, .int .u64)] | _ => none) (fun _ => []) Tryd.func97 rfl (by rw [Tryd.ntmps97]; simp) (Eq.mp (by kernel_rfl) H)
end Go.Proofs.YtpcilleldanfmaaDoor

/- The conditions for calls of functions of the program, in plain form: written by a program (vcgen) off the elaborated code; each is the reckoner's own, by the kernel. -/
set_option linter.unusedVariables false
set_option maxRecDepth 100000
namespace Go.Proofs.YtpcilleldanfmaaDoor
open Go.Vc
theorem vc_hash_Bucket (flow : Int) (seed : Int) (h0 : Heap) (Post : Value → Heap → Prop) (H :
Runs Tryd.prog 74 #[(.int .u32 flow), (.int .u32 seed)] h0 fun r1 h1 =>
∃ n1 : Int,
r1 = (.int .u32 n1) ∧
(0 ≤ n1 ∧ 0 < (16 : Int)) ∧
fits .i64 (n1 % (16 : Int)) ∧
Post (.int .i64 (n1 % (16 : Int))) h1) :
    Runs Tryd.prog 54 #[(.int .u32 flow), (.int .u32 seed)] h0 Post :=
  runs_of (args := [(.int .u32 flow), (.int .u32 seed)]) (fun n => ⟨true, false⟩) (fun _ => []) (fun _ => none) (fun _ => []) Tryd.func54 rfl (by rw [Tryd.ntmps54]; simp) (Eq.mp (by kernel_rfl) H)

theorem vc_hash_Mix (flow : Int) (seed : Int) (h0 : Heap) (Post : Value → Heap → Prop) (H :
(0 ≤ (16 : Int) ∧ (16 : Int) ≤ kbits .u32) ∧
(0 ≤ (16 : Int) ∧ (16 : Int) ≤ kbits .u32) ∧
(0 ≤ (16 : Int) ∧ (16 : Int) ≤ kbits .u32) ∧
Post (.int .u32 (bits .xor .u32 (IntKind.u32.wrap ((bits .xor .u32 (IntKind.u32.wrap ((bits .xor .u32 (bits .xor .u32 flow seed) ((bits .xor .u32 flow seed) / (65536 : Int))) * (73244475 : Int))) ((IntKind.u32.wrap ((bits .xor .u32 (bits .xor .u32 flow seed) ((bits .xor .u32 flow seed) / (65536 : Int))) * (73244475 : Int))) / (65536 : Int))) * (73244475 : Int))) ((IntKind.u32.wrap ((bits .xor .u32 (IntKind.u32.wrap ((bits .xor .u32 (bits .xor .u32 flow seed) ((bits .xor .u32 flow seed) / (65536 : Int))) * (73244475 : Int))) ((IntKind.u32.wrap ((bits .xor .u32 (bits .xor .u32 flow seed) ((bits .xor .u32 flow seed) / (65536 : Int))) * (73244475 : Int))) / (65536 : Int))) * (73244475 : Int))) / (65536 : Int)))) h0) :
    Runs Tryd.prog 74 #[(.int .u32 flow), (.int .u32 seed)] h0 Post :=
  runs_of (args := [(.int .u32 flow), (.int .u32 seed)]) (fun n => ⟨false, false⟩) (fun _ => []) (fun _ => none) (fun _ => []) Tryd.func74 rfl (by rw [Tryd.ntmps74]; simp) (Eq.mp (by kernel_rfl) H)

theorem vc_muezzinref8_Bucket (flow : Int) (seed : Int) (h0 : Heap) (Post : Value → Heap → Prop) (H :
Runs Tryd.prog 32 #[(.int .u32 flow), (.int .u32 seed)] h0 fun r1 h1 =>
∃ n1 : Int,
r1 = (.int .u32 n1) ∧
(0 ≤ n1 ∧ 0 < (16 : Int)) ∧
fits .i64 (n1 % (16 : Int)) ∧
Post (.int .i64 (n1 % (16 : Int))) h1) :
    Runs Tryd.prog 11 #[(.int .u32 flow), (.int .u32 seed)] h0 Post :=
  runs_of (args := [(.int .u32 flow), (.int .u32 seed)]) (fun n => ⟨true, false⟩) (fun _ => []) (fun _ => none) (fun _ => []) Tryd.func11 rfl (by rw [Tryd.ntmps11]; simp) (Eq.mp (by kernel_rfl) H)

theorem vc_muezzinref8_Mix (flow : Int) (seed : Int) (h0 : Heap) (Post : Value → Heap → Prop) (H :
(0 ≤ (16 : Int) ∧ (16 : Int) ≤ kbits .u32) ∧
(0 ≤ (16 : Int) ∧ (16 : Int) ≤ kbits .u32) ∧
(0 ≤ (16 : Int) ∧ (16 : Int) ≤ kbits .u32) ∧
Post (.int .u32 (bits .xor .u32 (IntKind.u32.wrap ((bits .xor .u32 (IntKind.u32.wrap ((bits .xor .u32 (bits .xor .u32 flow seed) ((bits .xor .u32 flow seed) / (65536 : Int))) * (73244475 : Int))) ((IntKind.u32.wrap ((bits .xor .u32 (bits .xor .u32 flow seed) ((bits .xor .u32 flow seed) / (65536 : Int))) * (73244475 : Int))) / (65536 : Int))) * (73244475 : Int))) ((IntKind.u32.wrap ((bits .xor .u32 (IntKind.u32.wrap ((bits .xor .u32 (bits .xor .u32 flow seed) ((bits .xor .u32 flow seed) / (65536 : Int))) * (73244475 : Int))) ((IntKind.u32.wrap ((bits .xor .u32 (bits .xor .u32 flow seed) ((bits .xor .u32 flow seed) / (65536 : Int))) * (73244475 : Int))) / (65536 : Int))) * (73244475 : Int))) / (65536 : Int)))) h0) :
    Runs Tryd.prog 32 #[(.int .u32 flow), (.int .u32 seed)] h0 Post :=
  runs_of (args := [(.int .u32 flow), (.int .u32 seed)]) (fun n => ⟨false, false⟩) (fun _ => []) (fun _ => none) (fun _ => []) Tryd.func32 rfl (by rw [Tryd.ntmps32]; simp) (Eq.mp (by kernel_rfl) H)
end Go.Proofs.YtpcilleldanfmaaDoor

/- The conditions for calls of functions of the program, in plain form: written by a program (vcgen) off the elaborated code; each is the reckoner's own, by the kernel. -/
set_option linter.unusedVariables false
set_option maxRecDepth 100000
namespace Go.Proofs.YtpcilleldanfmaaDoor
open Go.Vc
theorem vc_pool_New (seed : Int) (target : Int) (interval : Int) (packets : Int) (bytes : Int) (h0 : Heap) (Post : Value → Heap → Prop) (H :
bcase (decide (packets < (1 : Int))) (
∃ v1 : Value, cell h0 0 0 = some v1 ∧
Post (.tuple #[(.pointer none), v1]) h0) (
bcase (decide ((512 : Int) < packets)) (
∃ v2 : Value, cell h0 0 0 = some v2 ∧
Post (.tuple #[(.pointer none), v2]) h0) (
bcase (decide (bytes < (1 : Int))) (
∃ v3 : Value, cell h0 0 0 = some v3 ∧
Post (.tuple #[(.pointer none), v3]) h0) (
bcase (decide ((1048576 : Int) < bytes)) (
∃ v4 : Value, cell h0 0 0 = some v4 ∧
Post (.tuple #[(.pointer none), v4]) h0) (
∀ (b1 : Nat) (h1 : Heap), b1 = h0.size → h1 = h0.push (.cells ([(.int .u32 seed), (.int .i64 target), (.int .i64 interval), (.int .i64 packets), (.int .i64 bytes), (.pointer none), (.pointer none), (.pointer none), (.pointer none), (.pointer none), (.pointer none), (.pointer none), (.pointer none), (.pointer none), (.pointer none), (.pointer none), (.pointer none), (.pointer none), (.pointer none), (.pointer none), (.pointer none), (.pointer none), (.pointer none), (.pointer none), (.pointer none), (.pointer none), (.pointer none), (.pointer none), (.pointer none), (.pointer none), (.pointer none), (.pointer none), (.pointer none), (.pointer none), (.pointer none), (.pointer none), (.pointer none), (.pointer none), (.pointer none), (.pointer none), (.pointer none), (.pointer none), (.pointer none), (.pointer none), (.pointer none), (.pointer none), (.pointer none), (.pointer none), (.pointer none), (.pointer none), (.pointer none), (.pointer none), (.pointer none), (.pointer none), (.pointer none), (.pointer none), (.pointer none), (.pointer none), (.pointer none), (.pointer none), (.pointer none), (.pointer none), (.pointer none), (.pointer none), (.pointer none), (.pointer none), (.pointer none), (.pointer none), (.pointer none), (.pointer none), (.pointer none), (.pointer none), (.pointer none), (.pointer none), (.pointer none), (.pointer none), (.pointer none), (.pointer none), (.pointer none), (.pointer none), (.pointer none), (.pointer none), (.pointer none), (.pointer none), (.pointer none), (.pointer none), (.pointer none), (.pointer none), (.pointer none), (.pointer none), (.pointer none), (.pointer none), (.pointer none), (.pointer none), (.pointer none), (.pointer none), (.pointer none), (.pointer none), (.pointer none), (.pointer none), (.pointer none), (.pointer none), (.pointer none), (.pointer none), (.pointer none), (.pointer none), (.pointer none), (.pointer none), (.pointer none), (.pointer none), (.pointer none), (.pointer none), (.pointer none), (.pointer none), (.pointer none), (.pointer none), (.pointer none), (.pointer none), (.pointer none), (.pointer none), (.pointer none), (.pointer none), (.pointer none), (.pointer none), (.pointer none), (.pointer none), (.pointer none), (.pointer none), (.pointer none), (.pointer none), (.pointer none), (.pointer none), (.pointer none)] : List Value).toArray 64) →
∃ (I1 : Int → Heap → Prop) (m1 : Int → Heap → Nat), I1 (0 : Int) h1 ∧ ∀ _ : Env,
∀ (x1 : Int) (h2 : Heap), I1 x1 h2 →
bcase (decide (x1 < (16 : Int))) (
Runs Tryd.prog 28 #[(.pointer (some ⟨b1, 0, none⟩)), (.int .i64 x1)] h2 fun r1 h3 =>
fits .i64 (x1 + (1 : Int)) ∧
I1 (x1 + (1 : Int)) h3 ∧ m1 (x1 + (1 : Int)) h3 < m1 x1 h2) (
Post (.tuple #[(.pointer (some ⟨b1, 0, none⟩)), .nilIface]) h2)))))) :
    Runs Tryd.prog 9 #[(.int .u32 seed), (.int .i64 target), (.int .i64 interval), (.int .i64 packets), (.int .i64 bytes)] h0 Post :=
  runs_of (args := [(.int .u32 seed), (.int .i64 target), (.int .i64 interval), (.int .i64 packets), (.int .i64 bytes)]) (fun n => ⟨true, false⟩) (fun n => match n with | 0 => [(36, .int .i64)] | _ => []) (fun _ => none) (fun _ => []) Tryd.func9 rfl (by rw [Tryd.ntmps9]; simp) (Eq.mp (by kernel_rfl) H)

theorem vc_pool_there (aid : Int) (tid : Int) (h0 : Heap) (Post : Value → Heap → Prop) (H :
bcase (decide ((1 : Int) ≤ aid)) (
bcase (decide (aid ≤ (16 : Int))) (
bcase (decide ((0 : Int) ≤ tid)) (
Post (.bool (decide (tid < (8 : Int)))) h0) (
Post (.bool false) h0)) (
Post (.bool false) h0)) (
Post (.bool false) h0)) :
    Runs Tryd.prog 29 #[(.int .i64 aid), (.int .i64 tid)] h0 Post :=
  runs_of (args := [(.int .i64 aid), (.int .i64 tid)]) (fun n => ⟨true, false⟩) (fun _ => []) (fun _ => none) (fun _ => []) Tryd.func29 rfl (by rw [Tryd.ntmps29]; simp) (Eq.mp (by kernel_rfl) H)

theorem vc_pool_Pool_Len_1 (q : Option Addr) (c0 : Option Addr) (h0 : Heap) (Post : Value → Heap → Prop) (H :
onAddr c0 fun b1 o1 =>
∃ n1 : Int, cell h0 b1 o1 = some (.int .i64 n1) ∧
Runs Tryd.prog 33 #[(.pointer q)] h0 fun r1 h1 =>
∃ n2 : Int,
r1 = (.int .i64 n2) ∧
cell h1 b1 o1 = some (.int .i64 n1) ∧
fits .i64 (n1 + n2) ∧
onAddr c0 fun b2 o2 =>
wr h1 b2 o2 ∧ ∀ h2 : Heap, h2 = setc h1 b2 o2 (.int .i64 (n1 + n2)) →
Post (.tuple #[]) h2) :
    Runs Tryd.prog 35 #[(.pointer q), (.pointer c0)] h0 Post :=
  runs_of (args := [(.pointer q), (.pointer c0)]) (fun n => ⟨true, false⟩) (fun _ => []) (fun _ => none) (fun _ => []) Tryd.func35 rfl (by rw [Tryd.ntmps35]; simp) (Eq.mp (by kernel_rfl) H)

theorem vc_pool_Pool_Bytes_1 (q : Option Addr) (c0 : Option Addr) (h0 : Heap) (Post : Value → Heap → Prop) (H :
onAddr c0 fun b1 o1 =>
∃ n1 : Int, cell h0 b1 o1 = some (.int .i64 n1) ∧
Runs Tryd.prog 37 #[(.pointer q)] h0 fun r1 h1 =>
∃ n2 : Int,
r1 = (.int .i64 n2) ∧
cell h1 b1 o1 = some (.int .i64 n1) ∧
fits .i64 (n1 + n2) ∧
onAddr c0 fun b2 o2 =>
wr h1 b2 o2 ∧ ∀ h2 : Heap, h2 = setc h1 b2 o2 (.int .i64 (n1 + n2)) →
Post (.tuple #[]) h2) :
    Runs Tryd.prog 36 #[(.pointer q), (.pointer c0)] h0 Post :=
  runs_of (args := [(.pointer q), (.pointer c0)]) (fun n => ⟨true, false⟩) (fun _ => []) (fun _ => none) (fun _ => []) Tryd.func36 rfl (by rw [Tryd.ntmps36]; simp) (Eq.mp (by kernel_rfl) H)

theorem vc_pool_Pool_shrink_1 (q : Option Addr) (c0 : Option Addr) (c1 : Option Addr) (c2 : Option Addr) (h0 : Heap) (Post : Value → Heap → Prop) (H :
Runs Tryd.prog 58 #[(.pointer q)] h0 fun r1 h1 =>
∃ n1 : Int,
∃ n2 : Int,
r1 = (.tuple #[(.int .i64 n1), (.int .i64 n2)]) ∧
Runs Tryd.prog 33 #[(.pointer q)] h1 fun r2 h2 =>
∃ n3 : Int,
r2 = (.int .i64 n3) ∧
bcase (decide ((0 : Int) < n3)) (
onAddr c0 fun b1 o1 =>
∃ n4 : Int, cell h2 b1 o1 = some (.int .i64 n4) ∧
bcase (decide (n4 < n2)) (
onAddr c1 fun b2 o2 =>
wr h2 b2 o2 ∧ ∀ h3 : Heap, h3 = setc h2 b2 o2 (.pointer q) →
onAddr c2 fun b3 o3 =>
wr h3 b3 o3 ∧ ∀ h4 : Heap, h4 = setc h3 b3 o3 (.int .i64 n1) →
onAddr c0 fun b4 o4 =>
wr h4 b4 o4 ∧ ∀ h5 : Heap, h5 = setc h4 b4 o4 (.int .i64 n2) →
Post (.tuple #[]) h5) (
Post (.tuple #[]) h2)) (
Post (.tuple #[]) h2)) :
    Runs Tryd.prog 57 #[(.pointer q), (.pointer c0), (.pointer c1), (.pointer c2)] h0 Post :=
  runs_of (args := [(.pointer q), (.pointer c0), (.pointer c1), (.pointer c2)]) (fun n => ⟨true, false⟩) (fun _ => []) (fun _ => none) (fun _ => []) Tryd.func57 rfl (by rw [Tryd.ntmps57]; simp) (Eq.mp (by kernel_rfl) H)

theorem vc_pool_Pool_renew (p : Nat) (i : Int) (h0 : Heap) (Post : Value → Heap → Prop) (H :
∃ (I1 : Int → Heap → Prop) (m1 : Int → Heap → Nat), I1 (0 : Int) h0 ∧ ∀ _ : Env,
∀ (x1 : Int) (h1 : Heap), I1 x1 h1 →
bcase (decide (x1 < (8 : Int))) (
∃ n1 : Int, cell h1 p 0 = some (.int .u32 n1) ∧
∃ n2 : Int, cell h1 p 1 = some (.int .i64 n2) ∧
∃ n3 : Int, cell h1 p 2 = some (.int .i64 n3) ∧
(0 ≤ i ∧ i < ((16 : Nat) : Int)) ∧
Runs Tryd.prog 53 #[(.int .u32 n1), (.int .i64 n2), (.int .i64 n3)] h1 fun r1 h2 =>
∃ p1 : Option Addr,
r1 = (.pointer p1) ∧
(0 ≤ x1 ∧ x1 < ((8 : Nat) : Int)) ∧
wr h2 p ((5 + ((i).toNat * 8)) + (x1).toNat) ∧ ∀ h3 : Heap, h3 = setc h2 p ((5 + ((i).toNat * 8)) + (x1).toNat) (.pointer p1) →
fits .i64 (x1 + (1 : Int)) ∧
I1 (x1 + (1 : Int)) h3 ∧ m1 (x1 + (1 : Int)) h3 < m1 x1 h1) (
Post (.tuple #[]) h1)) :
    Runs Tryd.prog 28 #[(.pointer (some ⟨p, 0, none⟩)), (.int .i64 i)] h0 Post :=
  runs_of (args := [(.pointer (some ⟨p, 0, none⟩)), (.int .i64 i)]) (fun n => ⟨true, false⟩) (fun n => match n with | 0 => [(5, .int .i64)] | _ => []) (fun _ => none) (fun _ => []) Tryd.func28 rfl (by rw [Tryd.ntmps28]; simp) (Eq.mp (by kernel_rfl) H)

theorem vc_pool_Pool_each (p : Nat) (f : Value) (h0 : Heap) (Post : Value → Heap → Prop) (H :
∃ (I1 : Int → Heap → Prop) (m1 : Int → Heap → Nat), I1 (0 : Int) h0 ∧ ∀ _ : Env,
∀ (x1 : Int) (h1 : Heap), I1 x1 h1 →
bcase (decide (x1 < (16 : Int))) (
∃ (I2 : Int → Heap → Prop) (m2 : Int → Heap → Nat), I2 (0 : Int) h1 ∧ ∀ _ : Env,
∀ (x2 : Int) (h2 : Heap), I2 x2 h2 →
bcase (decide (x2 < (8 : Int))) (
(0 ≤ x1 ∧ x1 < ((16 : Nat) : Int)) ∧
(0 ≤ x2 ∧ x2 < ((8 : Nat) : Int)) ∧
∃ p1 : Option Addr, cell h2 p ((5 + ((x1).toNat * 8)) + (x2).toNat) = some (.pointer p1) ∧
callv Tryd.prog f [(.pointer p1)] h2 fun r1 h3 =>
fits .i64 (x2 + (1 : Int)) ∧
I2 (x2 + (1 : Int)) h3 ∧ m2 (x2 + (1 : Int)) h3 < m2 x2 h2) (
fits .i64 (x1 + (1 : Int)) ∧
I1 (x1 + (1 : Int)) h2 ∧ m1 (x1 + (1 : Int)) h2 < m1 x1 h1)) (
Post (.tuple #[]) h1)) :
    Runs Tryd.prog 34 #[(.pointer (some ⟨p, 0, none⟩)), f] h0 Post :=
  runs_of (args := [(.pointer (some ⟨p, 0, none⟩)), f]) (fun n => ⟨true, false⟩) (fun n => match n with | 0 => [(6, .int .i64)] | 2 => [(9, .int .i64)] | _ => []) (fun _ => none) (fun _ => []) Tryd.func34 rfl (by rw [Tryd.ntmps34]; simp) (Eq.mp (by kernel_rfl) H)

theorem vc_pool_Pool_Len (p : Nat) (h0 : Heap) (Post : Value → Heap → Prop) (H :
∀ (b1 : Nat) (h1 : Heap), b1 = h0.size → h1 = h0.push (.cells ([(.int .i64 (0 : Int))] : List Value).toArray 3) →
wr h1 b1 0 ∧ ∀ h2 : Heap, h2 = setc h1 b1 0 (.int .i64 (0 : Int)) →
Runs Tryd.prog 34 #[(.pointer (some ⟨p, 0, none⟩)), (.func (.func 35) #[] #[(.pointer (some ⟨b1, 0, none⟩))])] h2 fun r1 h3 =>
∃ n1 : Int, cell h3 b1 0 = some (.int .i64 n1) ∧
Post (.int .i64 n1) h3) :
    Runs Tryd.prog 13 #[(.pointer (some ⟨p, 0, none⟩))] h0 Post :=
  runs_of (args := [(.pointer (some ⟨p, 0, none⟩))]) (fun n => ⟨true, false⟩) (fun _ => []) (fun _ => none) (fun _ => []) Tryd.func13 rfl (by rw [Tryd.ntmps13]; simp) (Eq.mp (by kernel_rfl) H)

theorem vc_pool_Pool_Bytes (p : Nat) (h0 : Heap) (Post : Value → Heap → Prop) (H :
∀ (b1 : Nat) (h1 : Heap), b1 = h0.size → h1 = h0.push (.cells ([(.int .i64 (0 : Int))] : List Value).toArray 3) →
wr h1 b1 0 ∧ ∀ h2 : Heap, h2 = setc h1 b1 0 (.int .i64 (0 : Int)) →
Runs Tryd.prog 34 #[(.pointer (some ⟨p, 0, none⟩)), (.func (.func 36) #[] #[(.pointer (some ⟨b1, 0, none⟩))])] h2 fun r1 h3 =>
∃ n1 : Int, cell h3 b1 0 = some (.int .i64 n1) ∧
Post (.int .i64 n1) h3) :
    Runs Tryd.prog 14 #[(.pointer (some ⟨p, 0, none⟩))] h0 Post :=
  runs_of (args := [(.pointer (some ⟨p, 0, none⟩))]) (fun n => ⟨true, false⟩) (fun _ => []) (fun _ => none) (fun _ => []) Tryd.func14 rfl (by rw [Tryd.ntmps14]; simp) (Eq.mp (by kernel_rfl) H)

theorem vc_pool_Pool_shrink (p : Nat) (h0 : Heap) (Post : Value → Heap → Prop) (H :
∀ (b1 : Nat) (h1 : Heap), b1 = h0.size → h1 = h0.push (.cells ([(.int .i64 (0 : Int)), (.int .u32 (0 : Int)), (.int .i64 (0 : Int)), (.int .i64 (0 : Int)), (.slice none 0 0)] : List Value).toArray 35) →
∀ (b2 : Nat) (h2 : Heap), b2 = h1.size → h2 = h1.push (.cells ([(.pointer none)] : List Value).toArray 60) →
∀ (b3 : Nat) (h3 : Heap), b3 = h2.size → h3 = h2.push (.cells ([(.int .i64 (0 : Int))] : List Value).toArray 3) →
∀ (b4 : Nat) (h4 : Heap), b4 = h3.size → h4 = h3.push (.cells ([(.int .i64 (0 : Int))] : List Value).toArray 3) →
wr h4 b3 0 ∧ ∀ h5 : Heap, h5 = setc h4 b3 0 (.int .i64 (0 : Int)) →
wr h5 b4 0 ∧ ∀ h6 : Heap, h6 = setc h5 b4 0 (.int .i64 (-1 : Int)) →
Runs Tryd.prog 34 #[(.pointer (some ⟨p, 0, none⟩)), (.func (.func 57) #[] #[(.pointer (some ⟨b4, 0, none⟩)), (.pointer (some ⟨b2, 0, none⟩)), (.pointer (some ⟨b3, 0, none⟩))])] h6 fun r1 h7 =>
∃ p1 : Option Addr, cell h7 b2 0 = some (.pointer p1) ∧
bcase (isNilAddr p1) (
((([(.int .i64 (0 : Int)), (.int .u32 (0 : Int)), (.int .i64 (0 : Int)), (.int .i64 (0 : Int)), (.slice none 0 0)] : List Value)).length = 5 ∧ wrs h7 b1 0 5 ∧ ∀ u ∈ (([(.int .i64 (0 : Int)), (.int .u32 (0 : Int)), (.int .i64 (0 : Int)), (.int .i64 (0 : Int)), (.slice none 0 0)] : List Value) : List Value), u.oneCell' = true) ∧ ∀ h8 : Heap, h8 = setr h7 b1 0 ([(.int .i64 (0 : Int)), (.int .u32 (0 : Int)), (.int .i64 (0 : Int)), (.int .i64 (0 : Int)), (.slice none 0 0)] : List Value) →
∃ cs1 : List Value, row h8 b1 0 5 = some cs1 ∧
Post (.agg (cs1).toArray) h8) (
∃ p2 : Option Addr, cell h7 b2 0 = some (.pointer p2) ∧
∃ n1 : Int, cell h7 b3 0 = some (.int .i64 n1) ∧
Runs Tryd.prog 59 #[(.pointer p2), (.int .i64 n1)] h7 fun r2 h9 =>
∃ cs2 : List Value,
∃ t1 : Bool,
r2 = (.tuple #[(.agg (cs2).toArray), (.bool t1)]) ∧
∀ (b5 : Nat) (h10 : Heap), b5 = h9.size → h10 = h9.push (.cells ([(.int .i64 (0 : Int)), (.int .u32 (0 : Int)), (.int .i64 (0 : Int)), (.int .i64 (0 : Int)), (.slice none 0 0)] : List Value).toArray 35) →
(((cs2)).length = 5 ∧ wrs h10 b5 0 5 ∧ ∀ u ∈ ((cs2) : List Value), u.oneCell' = true) ∧ ∀ h11 : Heap, h11 = setr h10 b5 0 (cs2) →
∃ cs3 : List Value, row h11 b5 0 5 = some cs3 ∧
(((cs3)).length = 5 ∧ wrs h11 b1 0 5 ∧ ∀ u ∈ ((cs3) : List Value), u.oneCell' = true) ∧ ∀ h12 : Heap, h12 = setr h11 b1 0 (cs3) →
∃ cs4 : List Value, row h12 b1 0 5 = some cs4 ∧
Post (.agg (cs4).toArray) h12)) :
    Runs Tryd.prog 31 #[(.pointer (some ⟨p, 0, none⟩))] h0 Post :=
  runs_of (args := [(.pointer (some ⟨p, 0, none⟩))]) (fun n => ⟨true, false⟩) (fun _ => []) (fun _ => none) (fun _ => []) Tryd.func31 rfl (by rw [Tryd.ntmps31]; simp) (Eq.mp (by kernel_rfl) H)

theorem vc_pool_Pool_Put (p : Nat) (aid : Int) (x : List Value) (h0 : Heap) (Post : Value → Heap → Prop) (H :
∀ (b1 : Nat) (h1 : Heap), b1 = h0.size → h1 = h0.push (.cells (x).toArray 35) →
∃ n1 : Int, cell h1 b1 2 = some (.int .i64 n1) ∧
Runs Tryd.prog 29 #[(.int .i64 aid), (.int .i64 n1)] h1 fun r1 h2 =>
∃ t1 : Bool,
r1 = (.bool t1) ∧
bcase (!t1) (
∃ v1 : Value, cell h2 0 0 = some v1 ∧
Post (.tuple #[(.slice none 0 0), v1]) h2) (
fits .i64 (aid - (1 : Int)) ∧
∃ n2 : Int, cell h2 b1 2 = some (.int .i64 n2) ∧
(0 ≤ (aid - (1 : Int)) ∧ (aid - (1 : Int)) < ((16 : Nat) : Int)) ∧
(0 ≤ n2 ∧ n2 < ((8 : Nat) : Int)) ∧
∃ p1 : Option Addr, cell h2 p ((5 + (((aid - (1 : Int))).toNat * 8)) + (n2).toNat) = some (.pointer p1) ∧
∃ cs1 : List Value, row h2 b1 0 5 = some cs1 ∧
Runs Tryd.prog 30 #[(.pointer p1), (.agg (cs1).toArray)] h2 fun r2 h3 =>
∃ n3 : Int,
r2 = (.int .i64 n3) ∧
cell h3 b1 2 = some (.int .i64 n2) ∧
∃ (I1 : Option Addr → Nat → Nat → Heap → Prop) (m1 : Option Addr → Nat → Nat → Heap → Nat), I1 none 0 0 h3 ∧ ∀ _ : Env,
∀ (out_1 : Option Addr) (out_1l out_1c : Nat) (h4 : Heap), I1 out_1 out_1l out_1c h4 →
∃ J1 : Heap → Prop, (
∃ n4 : Int, cell h4 p 3 = some (.int .i64 n4) ∧
Runs Tryd.prog 13 #[(.pointer (some ⟨p, 0, none⟩))] h4 fun r3 h5 =>
∃ n5 : Int,
r3 = (.int .i64 n5) ∧
cell h5 p 3 = some (.int .i64 n4) ∧
bcase (decide (n4 < n5)) (
J1 h5) (
∃ n6 : Int, cell h5 p 4 = some (.int .i64 n6) ∧
Runs Tryd.prog 14 #[(.pointer (some ⟨p, 0, none⟩))] h5 fun r4 h6 =>
∃ n7 : Int,
r4 = (.int .i64 n7) ∧
cell h6 p 4 = some (.int .i64 n6) ∧
cell h6 p 3 = some (.int .i64 n4) ∧
bcase (decide (n6 < n7)) (
J1 h6) (
Post (.tuple #[(.slice out_1 out_1l out_1c), .nilIface]) h6))) ∧ ∀ _ : Env,
∀ (h7 : Heap), J1 h7 →
Runs Tryd.prog 31 #[(.pointer (some ⟨p, 0, none⟩))] h7 fun r5 h8 =>
∃ cs2 : List Value,
r5 = (.agg (cs2).toArray) ∧
(cs2).length = 5 ∧
∀ (b2 : Nat) (h9 : Heap), b2 = h8.size → h9 = h8.push (.cells (((cs2) ++ [])).toArray 35) →
∃ news1 : List Value, (row h9 b2 0 5 = some news1 ∧ ∀ u ∈ news1, u.oneCell' = true) ∧
appK h9 out_1 out_1l out_1c 1 5 35 56 news1 fun (a1 : Option Addr) (cap1 : Nat) (h10 : Heap) =>
I1 a1 (out_1l + 1) cap1 h10 ∧ m1 a1 (out_1l + 1) cap1 h10 < m1 out_1 out_1l out_1c h4)) :
    Runs Tryd.prog 10 #[(.pointer (some ⟨p, 0, none⟩)), (.int .i64 aid), (.agg (x).toArray)] h0 Post :=
  runs_of (args := [(.pointer (some ⟨p, 0, none⟩)), (.int .i64 aid), (.agg (x).toArray)]) (fun n => ⟨true, false⟩) (fun n => match n with | 0 => [(8, .slice)] | _ => []) (fun n => match n with | 6 => some [] | _ => none) (fun _ => []) Tryd.func10 rfl (by rw [Tryd.ntmps10]; simp) (Eq.mp (by kernel_rfl) H)

theorem vc_pool_Pool_Take (p : Nat) (aid : Int) (tid : Int) (now : Int) (h0 : Heap) (Post : Value → Heap → Prop) (H :
∀ (b1 : Nat) (h1 : Heap), b1 = h0.size → h1 = h0.push (.cells ([(.int .i64 (0 : Int)), (.int .u32 (0 : Int)), (.int .i64 (0 : Int)), (.int .i64 (0 : Int)), (.slice none 0 0)] : List Value).toArray 35) →
Runs Tryd.prog 29 #[(.int .i64 aid), (.int .i64 tid)] h1 fun r1 h2 =>
∃ t1 : Bool,
r1 = (.bool t1) ∧
bcase (!t1) (
((([(.int .i64 (0 : Int)), (.int .u32 (0 : Int)), (.int .i64 (0 : Int)), (.int .i64 (0 : Int)), (.slice none 0 0)] : List Value)).length = 5 ∧ wrs h2 b1 0 5 ∧ ∀ u ∈ (([(.int .i64 (0 : Int)), (.int .u32 (0 : Int)), (.int .i64 (0 : Int)), (.int .i64 (0 : Int)), (.slice none 0 0)] : List Value) : List Value), u.oneCell' = true) ∧ ∀ h3 : Heap, h3 = setr h2 b1 0 ([(.int .i64 (0 : Int)), (.int .u32 (0 : Int)), (.int .i64 (0 : Int)), (.int .i64 (0 : Int)), (.slice none 0 0)] : List Value) →
∃ cs1 : List Value, row h3 b1 0 5 = some cs1 ∧
Post (.tuple #[(.agg (cs1).toArray), (.slice none 0 0), (.bool false)]) h3) (
fits .i64 (aid - (1 : Int)) ∧
(0 ≤ (aid - (1 : Int)) ∧ (aid - (1 : Int)) < ((16 : Nat) : Int)) ∧
(0 ≤ tid ∧ tid < ((8 : Nat) : Int)) ∧
∃ p1 : Option Addr, cell h2 p ((5 + (((aid - (1 : Int))).toNat * 8)) + (tid).toNat) = some (.pointer p1) ∧
Runs Tryd.prog 39 #[(.pointer p1), (.int .i64 now)] h2 fun r2 h4 =>
∃ cs2 : List Value,
∃ (s1 : Option Addr) (s1l s1c : Nat),
∃ t2 : Bool,
r2 = (.tuple #[(.agg (cs2).toArray), (.slice s1 s1l s1c), (.bool t2)]) ∧
(((cs2)).length = 5 ∧ wrs h4 b1 0 5 ∧ ∀ u ∈ ((cs2) : List Value), u.oneCell' = true) ∧ ∀ h5 : Heap, h5 = setr h4 b1 0 (cs2) →
∃ cs3 : List Value, row h5 b1 0 5 = some cs3 ∧
Post (.tuple #[(.agg (cs3).toArray), (.slice s1 s1l s1c), (.bool t2)]) h5)) :
    Runs Tryd.prog 16 #[(.pointer (some ⟨p, 0, none⟩)), (.int .i64 aid), (.int .i64 tid), (.int .i64 now)] h0 Post :=
  runs_of (args := [(.pointer (some ⟨p, 0, none⟩)), (.int .i64 aid), (.int .i64 tid), (.int .i64 now)]) (fun n => ⟨true, false⟩) (fun _ => []) (fun _ => none) (fun _ => []) Tryd.func16 rfl (by rw [Tryd.ntmps16]; simp) (Eq.mp (by kernel_rfl) H)

theorem vc_pool_Pool_Drop (p : Nat) (aid : Int) (h0 : Heap) (Post : Value → Heap → Prop) (H :
Runs Tryd.prog 29 #[(.int .i64 aid), (.int .i64 (0 : Int))] h0 fun r1 h1 =>
∃ t1 : Bool,
r1 = (.bool t1) ∧
bcase (!t1) (
Post (.slice none 0 0) h1) (
fits .i64 (aid - (1 : Int)) ∧
(0 ≤ (aid - (1 : Int)) ∧ (aid - (1 : Int)) < ((16 : Nat) : Int)) ∧
∃ cs1 : List Value, row h1 p (5 + (((aid - (1 : Int))).toNat * 8)) 8 = some cs1 ∧
∃ (I1 : Option Addr → Nat → Nat → Int → Heap → Prop) (m1 : Option Addr → Nat → Nat → Int → Heap → Nat), I1 none 0 0 (0 : Int) h1 ∧ ∀ _ : Env,
∀ (out_1 : Option Addr) (out_1l out_1c : Nat) (x2 : Int) (h2 : Heap), I1 out_1 out_1l out_1c x2 h2 →
bcase (decide (x2 < (8 : Int))) (
(0 ≤ x2 ∧ x2 < ((8 : Nat) : Int)) ∧
∃ p1 : Option Addr, cs1[(x2).toNat]? = some (.pointer p1) ∧
Runs Tryd.prog 38 #[(.pointer p1)] h2 fun r2 h3 =>
∃ (s1 : Option Addr) (s1l s1c : Nat),
r2 = (.slice s1 s1l s1c) ∧
∃ news1 : List Value, (src h3 s1 (s1l * 5) news1 ∧ ∀ u ∈ news1, u.oneCell' = true) ∧
appK h3 out_1 out_1l out_1c s1l 5 35 56 news1 fun (a1 : Option Addr) (cap1 : Nat) (h4 : Heap) =>
fits .i64 (x2 + (1 : Int)) ∧
I1 a1 (out_1l + s1l) cap1 (x2 + (1 : Int)) h4 ∧ m1 a1 (out_1l + s1l) cap1 (x2 + (1 : Int)) h4 < m1 out_1 out_1l out_1c x2 h2) (
fits .i64 (aid - (1 : Int)) ∧
Runs Tryd.prog 28 #[(.pointer (some ⟨p, 0, none⟩)), (.int .i64 (aid - (1 : Int)))] h2 fun r3 h5 =>
Post (.slice out_1 out_1l out_1c) h5))) :
    Runs Tryd.prog 15 #[(.pointer (some ⟨p, 0, none⟩)), (.int .i64 aid)] h0 Post :=
  runs_of (args := [(.pointer (some ⟨p, 0, none⟩)), (.int .i64 aid)]) (fun n => ⟨true, false⟩) (fun n => match n with | 0 => [(5, .slice), (18, .int .i64)] | _ => []) (fun _ => none) (fun _ => []) Tryd.func15 rfl (by rw [Tryd.ntmps15]; simp) (Eq.mp (by kernel_rfl) H)

theorem vc_pool_Pool_Has (p : Nat) (aid : Int) (tid : Int) (h0 : Heap) (Post : Value → Heap → Prop) (H :
Runs Tryd.prog 29 #[(.int .i64 aid), (.int .i64 tid)] h0 fun r1 h1 =>
∃ t1 : Bool,
r1 = (.bool t1) ∧
bcase t1 (
fits .i64 (aid - (1 : Int)) ∧
(0 ≤ (aid - (1 : Int)) ∧ (aid - (1 : Int)) < ((16 : Nat) : Int)) ∧
(0 ≤ tid ∧ tid < ((8 : Nat) : Int)) ∧
∃ p1 : Option Addr, cell h1 p ((5 + (((aid - (1 : Int))).toNat * 8)) + (tid).toNat) = some (.pointer p1) ∧
Runs Tryd.prog 33 #[(.pointer p1)] h1 fun r2 h2 =>
∃ n1 : Int,
r2 = (.int .i64 n1) ∧
Post (.bool (decide ((0 : Int) < n1))) h2) (
Post (.bool false) h1)) :
    Runs Tryd.prog 12 #[(.pointer (some ⟨p, 0, none⟩)), (.int .i64 aid), (.int .i64 tid)] h0 Post :=
  runs_of (args := [(.pointer (some ⟨p, 0, none⟩)), (.int .i64 aid), (.int .i64 tid)]) (fun n => ⟨true, false⟩) (fun _ => []) (fun _ => none) (fun _ => []) Tryd.func12 rfl (by rw [Tryd.ntmps12]; simp) (Eq.mp (by kernel_rfl) H)

theorem vc_pool_Pool_Clone (p : Nat) (h0 : Heap) (Post : Value → Heap → Prop) (H :
∃ cs1 : List Value, row h0 p 0 133 = some cs1 ∧
∀ (b1 : Nat) (h1 : Heap), b1 = h0.size → h1 = h0.push (.cells ([(.int .u32 (0 : Int)), (.int .i64 (0 : Int)), (.int .i64 (0 : Int)), (.int .i64 (0 : Int)), (.int .i64 (0 : Int)), (.pointer none), (.pointer none), (.pointer none), (.pointer none), (.pointer none), (.pointer none), (.pointer none), (.pointer none), (.pointer none), (.pointer none), (.pointer none), (.pointer none), (.pointer none), (.pointer none), (.pointer none), (.pointer none), (.pointer none), (.pointer none), (.pointer none), (.pointer none), (.pointer none), (.pointer none), (.pointer none), (.pointer none), (.pointer none), (.pointer none), (.pointer none), (.pointer none), (.pointer none), (.pointer none), (.pointer none), (.pointer none), (.pointer none), (.pointer none), (.pointer none), (.pointer none), (.pointer none), (.pointer none), (.pointer none), (.pointer none), (.pointer none), (.pointer none), (.pointer none), (.pointer none), (.pointer none), (.pointer none), (.pointer none), (.pointer none), (.pointer none), (.pointer none), (.pointer none), (.pointer none), (.pointer none), (.pointer none), (.pointer none), (.pointer none), (.pointer none), (.pointer none), (.pointer none), (.pointer none), (.pointer none), (.pointer none), (.pointer none), (.pointer none), (.pointer none), (.pointer none), (.pointer none), (.pointer none), (.pointer none), (.pointer none), (.pointer none), (.pointer none), (.pointer none), (.pointer none), (.pointer none), (.pointer none), (.pointer none), (.pointer none), (.pointer none), (.pointer none), (.pointer none), (.pointer none), (.pointer none), (.pointer none), (.pointer none), (.pointer none), (.pointer none), (.pointer none), (.pointer none), (.pointer none), (.pointer none), (.pointer none), (.pointer none), (.pointer none), (.pointer none), (.pointer none), (.pointer none), (.pointer none), (.pointer none), (.pointer none), (.pointer none), (.pointer none), (.pointer none), (.pointer none), (.pointer none), (.pointer none), (.pointer none), (.pointer none), (.pointer none), (.pointer none), (.pointer none), (.pointer none), (.pointer none), (.pointer none), (.pointer none), (.pointer none), (.pointer none), (.pointer none), (.pointer none), (.pointer none), (.pointer none), (.pointer none), (.pointer none), (.pointer none), (.pointer none), (.pointer none), (.pointer none), (.pointer none)] : List Value).toArray 64) →
(((cs1)).length = 133 ∧ wrs h1 b1 0 133 ∧ ∀ u ∈ ((cs1) : List Value), u.oneCell' = true) ∧ ∀ h2 : Heap, h2 = setr h1 b1 0 (cs1) →
∃ (I1 : Int → Heap → Prop) (m1 : Int → Heap → Nat), I1 (0 : Int) h2 ∧ ∀ _ : Env,
∀ (x1 : Int) (h3 : Heap), I1 x1 h3 →
bcase (decide (x1 < (16 : Int))) (
∃ (I2 : Int → Heap → Prop) (m2 : Int → Heap → Nat), I2 (0 : Int) h3 ∧ ∀ _ : Env,
∀ (x2 : Int) (h4 : Heap), I2 x2 h4 →
bcase (decide (x2 < (8 : Int))) (
(0 ≤ x1 ∧ x1 < ((16 : Nat) : Int)) ∧
(0 ≤ x2 ∧ x2 < ((8 : Nat) : Int)) ∧
∃ p1 : Option Addr, cell h4 p ((5 + ((x1).toNat * 8)) + (x2).toNat) = some (.pointer p1) ∧
(0 ≤ x1 ∧ x1 < ((16 : Nat) : Int)) ∧
Runs Tryd.prog 43 #[(.pointer p1)] h4 fun r1 h5 =>
∃ p2 : Option Addr,
r1 = (.pointer p2) ∧
(0 ≤ x2 ∧ x2 < ((8 : Nat) : Int)) ∧
wr h5 b1 ((5 + ((x1).toNat * 8)) + (x2).toNat) ∧ ∀ h6 : Heap, h6 = setc h5 b1 ((5 + ((x1).toNat * 8)) + (x2).toNat) (.pointer p2) →
fits .i64 (x2 + (1 : Int)) ∧
I2 (x2 + (1 : Int)) h6 ∧ m2 (x2 + (1 : Int)) h6 < m2 x2 h4) (
fits .i64 (x1 + (1 : Int)) ∧
I1 (x1 + (1 : Int)) h4 ∧ m1 (x1 + (1 : Int)) h4 < m1 x1 h3)) (
Post (.pointer (some ⟨b1, 0, none⟩)) h3)) :
    Runs Tryd.prog 19 #[(.pointer (some ⟨p, 0, none⟩))] h0 Post :=
  runs_of (args := [(.pointer (some ⟨p, 0, none⟩))]) (fun n => ⟨true, false⟩) (fun n => match n with | 0 => [(9, .int .i64)] | 2 => [(12, .int .i64)] | _ => []) (fun _ => none) (fun _ => []) Tryd.func19 rfl (by rw [Tryd.ntmps19]; simp) (Eq.mp (by kernel_rfl) H)

theorem vc_muezzinref8_NewPool (seed : Int) (target : Int) (interval : Int) (packets : Int) (bytes : Int) (h0 : Heap) (Post : Value → Heap → Prop) (H :
∀ (b1 : Nat) (h1 : Heap), b1 = h0.size → h1 = h0.push (.cells ([(.int .u32 seed), (.int .i64 target), (.int .i64 interval), (.int .i64 packets), (.int .i64 bytes), (.pointer none), (.pointer none), (.pointer none), (.pointer none), (.pointer none), (.pointer none), (.pointer none), (.pointer none), (.pointer none), (.pointer none), (.pointer none), (.pointer none), (.pointer none), (.pointer none), (.pointer none), (.pointer none), (.pointer none), (.pointer none), (.pointer none), (.pointer none), (.pointer none), (.pointer none), (.pointer none), (.pointer none), (.pointer none), (.pointer none), (.pointer none), (.pointer none), (.pointer none), (.pointer none), (.pointer none), (.pointer none), (.pointer none), (.pointer none), (.pointer none), (.pointer none), (.pointer none), (.pointer none), (.pointer none), (.pointer none), (.pointer none), (.pointer none), (.pointer none), (.pointer none), (.pointer none), (.pointer none), (.pointer none), (.pointer none), (.pointer none), (.pointer none), (.pointer none), (.pointer none), (.pointer none), (.pointer none), (.pointer none), (.pointer none), (.pointer none), (.pointer none), (.pointer none), (.pointer none), (.pointer none), (.pointer none), (.pointer none), (.pointer none), (.pointer none), (.pointer none), (.pointer none), (.pointer none), (.pointer none), (.pointer none), (.pointer none), (.pointer none), (.pointer none), (.pointer none), (.pointer none), (.pointer none), (.pointer none), (.pointer none), (.pointer none), (.pointer none), (.pointer none), (.pointer none), (.pointer none), (.pointer none), (.pointer none), (.pointer none), (.pointer none), (.pointer none), (.pointer none), (.pointer none), (.pointer none), (.pointer none), (.pointer none), (.pointer none), (.pointer none), (.pointer none), (.pointer none), (.pointer none), (.pointer none), (.pointer none), (.pointer none), (.pointer none), (.pointer none), (.pointer none), (.pointer none), (.pointer none), (.pointer none), (.pointer none), (.pointer none), (.pointer none), (.pointer none), (.pointer none), (.pointer none), (.pointer none), (.pointer none), (.pointer none), (.pointer none), (.pointer none), (.pointer none), (.pointer none), (.pointer none), (.pointer none), (.pointer none), (.pointer none), (.pointer none), (.pointer none), (.pointer none), (.pointer none), (.pointer none), (.pointer none), (.pointer none), (.pointer none), (.pointer none), (.pointer none), (.pointer none), (.pointer none)] : List Value).toArray 81) →
∃ (I1 : Int → Heap → Prop) (m1 : Int → Heap → Nat), I1 (0 : Int) h1 ∧ ∀ _ : Env,
∀ (a_1 : Int) (h2 : Heap), I1 a_1 h2 →
bcase (decide (a_1 ≤ (16 : Int))) (
∃ (I2 : Int → Heap → Prop) (m2 : Int → Heap → Nat), I2 (0 : Int) h2 ∧ ∀ _ : Env,
∀ (t_1 : Int) (h3 : Heap), I2 t_1 h3 →
bcase (decide (t_1 < (8 : Int))) (
(0 ≤ a_1 ∧ a_1 < ((17 : Nat) : Int)) ∧
Runs Tryd.prog 42 #[(.int .u32 seed), (.int .i64 target), (.int .i64 interval)] h3 fun r1 h4 =>
∃ p1 : Option Addr,
r1 = (.pointer p1) ∧
(0 ≤ t_1 ∧ t_1 < ((8 : Nat) : Int)) ∧
wr h4 b1 ((5 + ((a_1).toNat * 8)) + (t_1).toNat) ∧ ∀ h5 : Heap, h5 = setc h4 b1 ((5 + ((a_1).toNat * 8)) + (t_1).toNat) (.pointer p1) →
fits .i64 (t_1 + (1 : Int)) ∧
I2 (t_1 + (1 : Int)) h5 ∧ m2 (t_1 + (1 : Int)) h5 < m2 t_1 h3) (
fits .i64 (a_1 + (1 : Int)) ∧
I1 (a_1 + (1 : Int)) h3 ∧ m1 (a_1 + (1 : Int)) h3 < m1 a_1 h2)) (
Post (.pointer (some ⟨b1, 0, none⟩)) h2)) :
    Runs Tryd.prog 18 #[(.int .u32 seed), (.int .i64 target), (.int .i64 interval), (.int .i64 packets), (.int .i64 bytes)] h0 Post :=
  runs_of (args := [(.int .u32 seed), (.int .i64 target), (.int .i64 interval), (.int .i64 packets), (.int .i64 bytes)]) (fun n => ⟨true, false⟩) (fun n => match n with | 0 => [(12, .int .i64)] | 2 => [(13, .int .i64)] | _ => []) (fun _ => none) (fun _ => []) Tryd.func18 rfl (by rw [Tryd.ntmps18]; simp) (Eq.mp (by kernel_rfl) H)

theorem vc_muezzinref8_there (aid : Int) (tid : Int) (h0 : Heap) (Post : Value → Heap → Prop) (H :
bcase (decide ((1 : Int) ≤ aid)) (
bcase (decide (aid ≤ (16 : Int))) (
bcase (decide ((0 : Int) ≤ tid)) (
Post (.bool (decide (tid < (8 : Int)))) h0) (
Post (.bool false) h0)) (
Post (.bool false) h0)) (
Post (.bool false) h0)) :
    Runs Tryd.prog 44 #[(.int .i64 aid), (.int .i64 tid)] h0 Post :=
  runs_of (args := [(.int .i64 aid), (.int .i64 tid)]) (fun n => ⟨true, false⟩) (fun _ => []) (fun _ => none) (fun _ => []) Tryd.func44 rfl (by rw [Tryd.ntmps44]; simp) (Eq.mp (by kernel_rfl) H)

theorem vc_muezzinref8_Pool_Len (p : Nat) (h0 : Heap) (Post : Value → Heap → Prop) (H :
∃ (I1 : Int → Int → Heap → Prop) (m1 : Int → Int → Heap → Nat), I1 (0 : Int) (1 : Int) h0 ∧ ∀ _ : Env,
∀ (n_1 : Int) (a_1 : Int) (h1 : Heap), I1 n_1 a_1 h1 →
bcase (decide (a_1 ≤ (16 : Int))) (
∃ (I2 : Int → Int → Heap → Prop) (m2 : Int → Int → Heap → Nat), I2 n_1 (0 : Int) h1 ∧ ∀ _ : Env,
∀ (n_2 : Int) (t_1 : Int) (h2 : Heap), I2 n_2 t_1 h2 →
bcase (decide (t_1 < (8 : Int))) (
(0 ≤ a_1 ∧ a_1 < ((17 : Nat) : Int)) ∧
(0 ≤ t_1 ∧ t_1 < ((8 : Nat) : Int)) ∧
∃ p1 : Option Addr, cell h2 p ((5 + ((a_1).toNat * 8)) + (t_1).toNat) = some (.pointer p1) ∧
Runs Tryd.prog 47 #[(.pointer p1)] h2 fun r1 h3 =>
∃ n1 : Int,
r1 = (.int .i64 n1) ∧
fits .i64 (n_2 + n1) ∧
fits .i64 (t_1 + (1 : Int)) ∧
I2 (n_2 + n1) (t_1 + (1 : Int)) h3 ∧ m2 (n_2 + n1) (t_1 + (1 : Int)) h3 < m2 n_2 t_1 h2) (
fits .i64 (a_1 + (1 : Int)) ∧
I1 n_2 (a_1 + (1 : Int)) h2 ∧ m1 n_2 (a_1 + (1 : Int)) h2 < m1 n_1 a_1 h1)) (
Post (.int .i64 n_1) h1)) :
    Runs Tryd.prog 25 #[(.pointer (some ⟨p, 0, none⟩))] h0 Post :=
  runs_of (args := [(.pointer (some ⟨p, 0, none⟩))]) (fun n => ⟨true, false⟩) (fun n => match n with | 0 => [(3, .int .i64), (4, .int .i64)] | 2 => [(3, .int .i64), (5, .int .i64)] | _ => []) (fun _ => none) (fun _ => []) Tryd.func25 rfl (by rw [Tryd.ntmps25]; simp) (Eq.mp (by kernel_rfl) H)

theorem vc_muezzinref8_Pool_Bytes (p : Nat) (h0 : Heap) (Post : Value → Heap → Prop) (H :
∃ (I1 : Int → Int → Heap → Prop) (m1 : Int → Int → Heap → Nat), I1 (0 : Int) (1 : Int) h0 ∧ ∀ _ : Env,
∀ (n_1 : Int) (a_1 : Int) (h1 : Heap), I1 n_1 a_1 h1 →
bcase (decide (a_1 ≤ (16 : Int))) (
∃ (I2 : Int → Int → Heap → Prop) (m2 : Int → Int → Heap → Nat), I2 n_1 (0 : Int) h1 ∧ ∀ _ : Env,
∀ (n_2 : Int) (t_1 : Int) (h2 : Heap), I2 n_2 t_1 h2 →
bcase (decide (t_1 < (8 : Int))) (
(0 ≤ a_1 ∧ a_1 < ((17 : Nat) : Int)) ∧
(0 ≤ t_1 ∧ t_1 < ((8 : Nat) : Int)) ∧
∃ p1 : Option Addr, cell h2 p ((5 + ((a_1).toNat * 8)) + (t_1).toNat) = some (.pointer p1) ∧
Runs Tryd.prog 52 #[(.pointer p1)] h2 fun r1 h3 =>
∃ n1 : Int,
r1 = (.int .i64 n1) ∧
fits .i64 (n_2 + n1) ∧
fits .i64 (t_1 + (1 : Int)) ∧
I2 (n_2 + n1) (t_1 + (1 : Int)) h3 ∧ m2 (n_2 + n1) (t_1 + (1 : Int)) h3 < m2 n_2 t_1 h2) (
fits .i64 (a_1 + (1 : Int)) ∧
I1 n_2 (a_1 + (1 : Int)) h2 ∧ m1 n_2 (a_1 + (1 : Int)) h2 < m1 n_1 a_1 h1)) (
Post (.int .i64 n_1) h1)) :
    Runs Tryd.prog 26 #[(.pointer (some ⟨p, 0, none⟩))] h0 Post :=
  runs_of (args := [(.pointer (some ⟨p, 0, none⟩))]) (fun n => ⟨true, false⟩) (fun n => match n with | 0 => [(3, .int .i64), (4, .int .i64)] | 2 => [(3, .int .i64), (5, .int .i64)] | _ => []) (fun _ => none) (fun _ => []) Tryd.func26 rfl (by rw [Tryd.ntmps26]; simp) (Eq.mp (by kernel_rfl) H)

theorem vc_muezzinref8_Pool_Put (p : Nat) (aid : Int) (x : List Value) (h0 : Heap) (Post : Value → Heap → Prop) (H :
∀ (b1 : Nat) (h1 : Heap), b1 = h0.size → h1 = h0.push (.cells (x).toArray 35) →
∃ n1 : Int, cell h1 b1 2 = some (.int .i64 n1) ∧
Runs Tryd.prog 44 #[(.int .i64 aid), (.int .i64 n1)] h1 fun r1 h2 =>
∃ t1 : Bool,
r1 = (.bool t1) ∧
bcase (!t1) (
Post (.tuple #[(.slice none 0 0), (.int .i64 (103 : Int))]) h2) (
∃ n2 : Int, cell h2 b1 2 = some (.int .i64 n2) ∧
(0 ≤ aid ∧ aid < ((17 : Nat) : Int)) ∧
(0 ≤ n2 ∧ n2 < ((8 : Nat) : Int)) ∧
∃ p1 : Option Addr, cell h2 p ((5 + ((aid).toNat * 8)) + (n2).toNat) = some (.pointer p1) ∧
∃ cs1 : List Value, row h2 b1 0 5 = some cs1 ∧
Runs Tryd.prog 45 #[(.pointer p1), (.agg (cs1).toArray)] h2 fun r2 h3 =>
∃ n3 : Int,
r2 = (.int .i64 n3) ∧
cell h3 b1 2 = some (.int .i64 n2) ∧
∃ (I1 : Option Addr → Nat → Nat → Heap → Prop) (m1 : Option Addr → Nat → Nat → Heap → Nat), I1 none 0 0 h3 ∧ ∀ _ : Env,
∀ (out_1 : Option Addr) (out_1l out_1c : Nat) (h4 : Heap), I1 out_1 out_1l out_1c h4 →
∃ J1 : Heap → Prop, (
∃ n4 : Int, cell h4 p 3 = some (.int .i64 n4) ∧
Runs Tryd.prog 25 #[(.pointer (some ⟨p, 0, none⟩))] h4 fun r3 h5 =>
∃ n5 : Int,
r3 = (.int .i64 n5) ∧
cell h5 p 3 = some (.int .i64 n4) ∧
bcase (decide (n4 < n5)) (
J1 h5) (
∃ n6 : Int, cell h5 p 4 = some (.int .i64 n6) ∧
Runs Tryd.prog 26 #[(.pointer (some ⟨p, 0, none⟩))] h5 fun r4 h6 =>
∃ n7 : Int,
r4 = (.int .i64 n7) ∧
cell h6 p 4 = some (.int .i64 n6) ∧
cell h6 p 3 = some (.int .i64 n4) ∧
bcase (decide (n6 < n7)) (
J1 h6) (
Post (.tuple #[(.slice out_1 out_1l out_1c), (.int .i64 (0 : Int))]) h6))) ∧ ∀ _ : Env,
∀ (h7 : Heap), J1 h7 →
∃ (I2 : Int → Int → Int → Int → Int → Heap → Prop) (m2 : Int → Int → Int → Int → Int → Heap → Nat), I2 (-1 : Int) (0 : Int) (0 : Int) (0 : Int) (1 : Int) h7 ∧ ∀ _ : Env,
∀ (most_1 : Int) (ba_1 : Int) (bt_1 : Int) (bb_1 : Int) (a_1 : Int) (h8 : Heap), I2 most_1 ba_1 bt_1 bb_1 a_1 h8 →
bcase (decide (a_1 ≤ (16 : Int))) (
∃ (I3 : Int → Int → Int → Int → Int → Heap → Prop) (m3 : Int → Int → Int → Int → Int → Heap → Nat), I3 most_1 ba_1 bt_1 bb_1 (0 : Int) h8 ∧ ∀ _ : Env,
∀ (most_2 : Int) (ba_2 : Int) (bt_2 : Int) (bb_2 : Int) (t_1 : Int) (h9 : Heap), I3 most_2 ba_2 bt_2 bb_2 t_1 h9 →
bcase (decide (t_1 < (8 : Int))) (
∃ J2 : Int → Int → Int → Int → Heap → Prop, (
(0 ≤ a_1 ∧ a_1 < ((17 : Nat) : Int)) ∧
(0 ≤ t_1 ∧ t_1 < ((8 : Nat) : Int)) ∧
∃ p2 : Option Addr, cell h9 p ((5 + ((a_1).toNat * 8)) + (t_1).toNat) = some (.pointer p2) ∧
Runs Tryd.prog 46 #[(.pointer p2)] h9 fun r5 h10 =>
∃ n8 : Int,
∃ n9 : Int,
r5 = (.tuple #[(.int .i64 n8), (.int .i64 n9)]) ∧
(0 ≤ a_1 ∧ a_1 < ((17 : Nat) : Int)) ∧
(0 ≤ t_1 ∧ t_1 < ((8 : Nat) : Int)) ∧
∃ p3 : Option Addr, cell h10 p ((5 + ((a_1).toNat * 8)) + (t_1).toNat) = some (.pointer p3) ∧
Runs Tryd.prog 47 #[(.pointer p3)] h10 fun r6 h11 =>
∃ n10 : Int,
r6 = (.int .i64 n10) ∧
bcase (decide ((0 : Int) < n10)) (
bcase (decide (most_2 < n9)) (
J2 n9 a_1 t_1 n8 h11) (
J2 most_2 ba_2 bt_2 bb_2 h11)) (
J2 most_2 ba_2 bt_2 bb_2 h11)) ∧ ∀ _ : Env,
∀ (most_3 : Int) (ba_3 : Int) (bt_3 : Int) (bb_3 : Int) (h12 : Heap), J2 most_3 ba_3 bt_3 bb_3 h12 →
fits .i64 (t_1 + (1 : Int)) ∧
I3 most_3 ba_3 bt_3 bb_3 (t_1 + (1 : Int)) h12 ∧ m3 most_3 ba_3 bt_3 bb_3 (t_1 + (1 : Int)) h12 < m3 most_2 ba_2 bt_2 bb_2 t_1 h9) (
fits .i64 (a_1 + (1 : Int)) ∧
I2 most_2 ba_2 bt_2 bb_2 (a_1 + (1 : Int)) h9 ∧ m2 most_2 ba_2 bt_2 bb_2 (a_1 + (1 : Int)) h9 < m2 most_1 ba_1 bt_1 bb_1 a_1 h8)) (
(0 ≤ ba_1 ∧ ba_1 < ((17 : Nat) : Int)) ∧
(0 ≤ bt_1 ∧ bt_1 < ((8 : Nat) : Int)) ∧
∃ p4 : Option Addr, cell h8 p ((5 + ((ba_1).toNat * 8)) + (bt_1).toNat) = some (.pointer p4) ∧
Runs Tryd.prog 48 #[(.pointer p4), (.int .i64 bb_1)] h8 fun r7 h13 =>
∃ cs2 : List Value,
∃ t2 : Bool,
r7 = (.tuple #[(.agg (cs2).toArray), (.bool t2)]) ∧
∀ (b2 : Nat) (h14 : Heap), b2 = h13.size → h14 = h13.push (.cells ([(.int .i64 (0 : Int)), (.int .u32 (0 : Int)), (.int .i64 (0 : Int)), (.int .i64 (0 : Int)), (.slice none 0 0)] : List Value).toArray 35) →
(((cs2)).length = 5 ∧ wrs h14 b2 0 5 ∧ ∀ u ∈ ((cs2) : List Value), u.oneCell' = true) ∧ ∀ h15 : Heap, h15 = setr h14 b2 0 (cs2) →
∃ cs3 : List Value, row h15 b2 0 5 = some cs3 ∧
(cs3).length = 5 ∧
∀ (b3 : Nat) (h16 : Heap), b3 = h15.size → h16 = h15.push (.cells (((cs3) ++ [])).toArray 35) →
∃ news1 : List Value, (row h16 b3 0 5 = some news1 ∧ ∀ u ∈ news1, u.oneCell' = true) ∧
appK h16 out_1 out_1l out_1c 1 5 35 56 news1 fun (a1 : Option Addr) (cap1 : Nat) (h17 : Heap) =>
I1 a1 (out_1l + 1) cap1 h17 ∧ m1 a1 (out_1l + 1) cap1 h17 < m1 out_1 out_1l out_1c h4))) :
    Runs Tryd.prog 20 #[(.pointer (some ⟨p, 0, none⟩)), (.int .i64 aid), (.agg (x).toArray)] h0 Post :=
  runs_of (args := [(.pointer (some ⟨p, 0, none⟩)), (.int .i64 aid), (.agg (x).toArray)]) (fun n => ⟨true, false⟩) (fun n => match n with | 0 => [(8, .slice)] | 2 => [(9, .int .i64), (10, .int .i64), (11, .int .i64), (12, .int .i64), (13, .int .i64)] | 4 => [(9, .int .i64), (10, .int .i64), (11, .int .i64), (12, .int .i64), (14, .int .i64)] | _ => []) (fun n => match n with | 6 => some [] | 15 => some [(9, .int .i64), (10, .int .i64), (11, .int .i64), (12, .int .i64)] | _ => none) (fun _ => []) Tryd.func20 rfl (by rw [Tryd.ntmps20]; simp) (Eq.mp (by kernel_rfl) H)

theorem vc_muezzinref8_Pool_Take (p : Nat) (aid : Int) (tid : Int) (now : Int) (h0 : Heap) (Post : Value → Heap → Prop) (H :
∀ (b1 : Nat) (h1 : Heap), b1 = h0.size → h1 = h0.push (.cells ([(.int .i64 (0 : Int)), (.int .u32 (0 : Int)), (.int .i64 (0 : Int)), (.int .i64 (0 : Int)), (.slice none 0 0)] : List Value).toArray 35) →
Runs Tryd.prog 44 #[(.int .i64 aid), (.int .i64 tid)] h1 fun r1 h2 =>
∃ t1 : Bool,
r1 = (.bool t1) ∧
bcase (!t1) (
((([(.int .i64 (0 : Int)), (.int .u32 (0 : Int)), (.int .i64 (0 : Int)), (.int .i64 (0 : Int)), (.slice none 0 0)] : List Value)).length = 5 ∧ wrs h2 b1 0 5 ∧ ∀ u ∈ (([(.int .i64 (0 : Int)), (.int .u32 (0 : Int)), (.int .i64 (0 : Int)), (.int .i64 (0 : Int)), (.slice none 0 0)] : List Value) : List Value), u.oneCell' = true) ∧ ∀ h3 : Heap, h3 = setr h2 b1 0 ([(.int .i64 (0 : Int)), (.int .u32 (0 : Int)), (.int .i64 (0 : Int)), (.int .i64 (0 : Int)), (.slice none 0 0)] : List Value) →
∃ cs1 : List Value, row h3 b1 0 5 = some cs1 ∧
Post (.tuple #[(.agg (cs1).toArray), (.slice none 0 0), (.bool false)]) h3) (
(0 ≤ aid ∧ aid < ((17 : Nat) : Int)) ∧
(0 ≤ tid ∧ tid < ((8 : Nat) : Int)) ∧
∃ p1 : Option Addr, cell h2 p ((5 + ((aid).toNat * 8)) + (tid).toNat) = some (.pointer p1) ∧
Runs Tryd.prog 49 #[(.pointer p1), (.int .i64 now)] h2 fun r2 h4 =>
∃ cs2 : List Value,
∃ (s1 : Option Addr) (s1l s1c : Nat),
∃ t2 : Bool,
r2 = (.tuple #[(.agg (cs2).toArray), (.slice s1 s1l s1c), (.bool t2)]) ∧
(((cs2)).length = 5 ∧ wrs h4 b1 0 5 ∧ ∀ u ∈ ((cs2) : List Value), u.oneCell' = true) ∧ ∀ h5 : Heap, h5 = setr h4 b1 0 (cs2) →
∃ cs3 : List Value, row h5 b1 0 5 = some cs3 ∧
Post (.tuple #[(.agg (cs3).toArray), (.slice s1 s1l s1c), (.bool t2)]) h5)) :
    Runs Tryd.prog 22 #[(.pointer (some ⟨p, 0, none⟩)), (.int .i64 aid), (.int .i64 tid), (.int .i64 now)] h0 Post :=
  runs_of (args := [(.pointer (some ⟨p, 0, none⟩)), (.int .i64 aid), (.int .i64 tid), (.int .i64 now)]) (fun n => ⟨true, false⟩) (fun _ => []) (fun _ => none) (fun _ => []) Tryd.func22 rfl (by rw [Tryd.ntmps22]; simp) (Eq.mp (by kernel_rfl) H)

theorem vc_muezzinref8_Pool_Drop (p : Nat) (aid : Int) (h0 : Heap) (Post : Value → Heap → Prop) (H :
∃ (I1 : Option Addr → Nat → Nat → Int → Heap → Prop) (m1 : Option Addr → Nat → Nat → Int → Heap → Nat), I1 none 0 0 (0 : Int) h0 ∧ ∀ _ : Env,
∀ (out_1 : Option Addr) (out_1l out_1c : Nat) (t_1 : Int) (h1 : Heap), I1 out_1 out_1l out_1c t_1 h1 →
bcase (decide (t_1 < (8 : Int))) (
Runs Tryd.prog 44 #[(.int .i64 aid), (.int .i64 t_1)] h1 fun r1 h2 =>
∃ t1 : Bool,
r1 = (.bool t1) ∧
bcase t1 (
(0 ≤ aid ∧ aid < ((17 : Nat) : Int)) ∧
(0 ≤ t_1 ∧ t_1 < ((8 : Nat) : Int)) ∧
∃ p1 : Option Addr, cell h2 p ((5 + ((aid).toNat * 8)) + (t_1).toNat) = some (.pointer p1) ∧
Runs Tryd.prog 51 #[(.pointer p1)] h2 fun r2 h3 =>
∃ (s1 : Option Addr) (s1l s1c : Nat),
r2 = (.slice s1 s1l s1c) ∧
∃ news1 : List Value, (src h3 s1 (s1l * 5) news1 ∧ ∀ u ∈ news1, u.oneCell' = true) ∧
appK h3 out_1 out_1l out_1c s1l 5 35 56 news1 fun (a1 : Option Addr) (cap1 : Nat) (h4 : Heap) =>
∃ n1 : Int, cell h4 p 0 = some (.int .u32 n1) ∧
∃ n2 : Int, cell h4 p 1 = some (.int .i64 n2) ∧
∃ n3 : Int, cell h4 p 2 = some (.int .i64 n3) ∧
(0 ≤ aid ∧ aid < ((17 : Nat) : Int)) ∧
Runs Tryd.prog 42 #[(.int .u32 n1), (.int .i64 n2), (.int .i64 n3)] h4 fun r3 h5 =>
∃ p2 : Option Addr,
r3 = (.pointer p2) ∧
(0 ≤ t_1 ∧ t_1 < ((8 : Nat) : Int)) ∧
wr h5 p ((5 + ((aid).toNat * 8)) + (t_1).toNat) ∧ ∀ h6 : Heap, h6 = setc h5 p ((5 + ((aid).toNat * 8)) + (t_1).toNat) (.pointer p2) →
fits .i64 (t_1 + (1 : Int)) ∧
I1 a1 (out_1l + s1l) cap1 (t_1 + (1 : Int)) h6 ∧ m1 a1 (out_1l + s1l) cap1 (t_1 + (1 : Int)) h6 < m1 out_1 out_1l out_1c t_1 h1) (
Post (.slice out_1 out_1l out_1c) h2)) (
Post (.slice out_1 out_1l out_1c) h1)) :
    Runs Tryd.prog 24 #[(.pointer (some ⟨p, 0, none⟩)), (.int .i64 aid)] h0 Post :=
  runs_of (args := [(.pointer (some ⟨p, 0, none⟩)), (.int .i64 aid)]) (fun n => ⟨true, false⟩) (fun n => match n with | 0 => [(5, .slice), (6, .int .i64)] | _ => []) (fun _ => none) (fun _ => []) Tryd.func24 rfl (by rw [Tryd.ntmps24]; simp) (Eq.mp (by kernel_rfl) H)

theorem vc_muezzinref8_Pool_Has (p : Nat) (aid : Int) (tid : Int) (h0 : Heap) (Post : Value → Heap → Prop) (H :
Runs Tryd.prog 44 #[(.int .i64 aid), (.int .i64 tid)] h0 fun r1 h1 =>
∃ t1 : Bool,
r1 = (.bool t1) ∧
bcase t1 (
(0 ≤ aid ∧ aid < ((17 : Nat) : Int)) ∧
(0 ≤ tid ∧ tid < ((8 : Nat) : Int)) ∧
∃ p1 : Option Addr, cell h1 p ((5 + ((aid).toNat * 8)) + (tid).toNat) = some (.pointer p1) ∧
Runs Tryd.prog 47 #[(.pointer p1)] h1 fun r2 h2 =>
∃ n1 : Int,
r2 = (.int .i64 n1) ∧
Post (.bool (decide ((0 : Int) < n1))) h2) (
Post (.bool false) h1)) :
    Runs Tryd.prog 27 #[(.pointer (some ⟨p, 0, none⟩)), (.int .i64 aid), (.int .i64 tid)] h0 Post :=
  runs_of (args := [(.pointer (some ⟨p, 0, none⟩)), (.int .i64 aid), (.int .i64 tid)]) (fun n => ⟨true, false⟩) (fun _ => []) (fun _ => none) (fun _ => []) Tryd.func27 rfl (by rw [Tryd.ntmps27]; simp) (Eq.mp (by kernel_rfl) H)
end Go.Proofs.YtpcilleldanfmaaDoor

/- The conditions for calls of functions of the program, in plain form: written by a program (vcgen) off the elaborated code; each is the reckoner's own, by the kernel. -/
set_option linter.unusedVariables false
set_option maxRecDepth 100000
namespace Go.Proofs.YtpcilleldanfmaaDoor
open Go.Vc
theorem vc_fq_New (seed : Int) (target : Int) (interval : Int) (h0 : Heap) (Post : Value → Heap → Prop) (H :
∀ (b1 : Nat) (h1 : Heap), b1 = h0.size → h1 = h0.push (.cells ([(.int .u32 seed), (.int .i64 target), (.int .i64 interval), (.slice none 0 0), (.int .i64 (0 : Int)), (.int .i64 (0 : Int)), (.int .i64 (0 : Int)), (.int .i64 (0 : Int)), (.int .u32 (0 : Int)), (.int .u32 (0 : Int)), (.bool false), (.slice none 0 0), (.int .i64 (0 : Int)), (.int .i64 (0 : Int)), (.int .i64 (0 : Int)), (.int .i64 (0 : Int)), (.int .u32 (0 : Int)), (.int .u32 (0 : Int)), (.bool false), (.slice none 0 0), (.int .i64 (0 : Int)), (.int .i64 (0 : Int)), (.int .i64 (0 : Int)), (.int .i64 (0 : Int)), (.int .u32 (0 : Int)), (.int .u32 (0 : Int)), (.bool false), (.slice none 0 0), (.int .i64 (0 : Int)), (.int .i64 (0 : Int)), (.int .i64 (0 : Int)), (.int .i64 (0 : Int)), (.int .u32 (0 : Int)), (.int .u32 (0 : Int)), (.bool false), (.slice none 0 0), (.int .i64 (0 : Int)), (.int .i64 (0 : Int)), (.int .i64 (0 : Int)), (.int .i64 (0 : Int)), (.int .u32 (0 : Int)), (.int .u32 (0 : Int)), (.bool false), (.slice none 0 0), (.int .i64 (0 : Int)), (.int .i64 (0 : Int)), (.int .i64 (0 : Int)), (.int .i64 (0 : Int)), (.int .u32 (0 : Int)), (.int .u32 (0 : Int)), (.bool false), (.slice none 0 0), (.int .i64 (0 : Int)), (.int .i64 (0 : Int)), (.int .i64 (0 : Int)), (.int .i64 (0 : Int)), (.int .u32 (0 : Int)), (.int .u32 (0 : Int)), (.bool false), (.slice none 0 0), (.int .i64 (0 : Int)), (.int .i64 (0 : Int)), (.int .i64 (0 : Int)), (.int .i64 (0 : Int)), (.int .u32 (0 : Int)), (.int .u32 (0 : Int)), (.bool false), (.slice none 0 0), (.int .i64 (0 : Int)), (.int .i64 (0 : Int)), (.int .i64 (0 : Int)), (.int .i64 (0 : Int)), (.int .u32 (0 : Int)), (.int .u32 (0 : Int)), (.bool false), (.slice none 0 0), (.int .i64 (0 : Int)), (.int .i64 (0 : Int)), (.int .i64 (0 : Int)), (.int .i64 (0 : Int)), (.int .u32 (0 : Int)), (.int .u32 (0 : Int)), (.bool false), (.slice none 0 0), (.int .i64 (0 : Int)), (.int .i64 (0 : Int)), (.int .i64 (0 : Int)), (.int .i64 (0 : Int)), (.int .u32 (0 : Int)), (.int .u32 (0 : Int)), (.bool false), (.slice none 0 0), (.int .i64 (0 : Int)), (.int .i64 (0 : Int)), (.int .i64 (0 : Int)), (.int .i64 (0 : Int)), (.int .u32 (0 : Int)), (.int .u32 (0 : Int)), (.bool false), (.slice none 0 0), (.int .i64 (0 : Int)), (.int .i64 (0 : Int)), (.int .i64 (0 : Int)), (.int .i64 (0 : Int)), (.int .u32 (0 : Int)), (.int .u32 (0 : Int)), (.bool false), (.slice none 0 0), (.int .i64 (0 : Int)), (.int .i64 (0 : Int)), (.int .i64 (0 : Int)), (.int .i64 (0 : Int)), (.int .u32 (0 : Int)), (.int .u32 (0 : Int)), (.bool false), (.slice none 0 0), (.int .i64 (0 : Int)), (.int .i64 (0 : Int)), (.int .i64 (0 : Int)), (.int .i64 (0 : Int)), (.int .u32 (0 : Int)), (.int .u32 (0 : Int)), (.bool false), (.slice none 0 0), (.int .i64 (0 : Int)), (.int .i64 (0 : Int)), (.int .i64 (0 : Int)), (.int .i64 (0 : Int)), (.int .u32 (0 : Int)), (.int .u32 (0 : Int)), (.bool false), (.slice none 0 0), (.slice none 0 0), (.int .i64 (0 : Int)), (.int .i64 (0 : Int))] : List Value).toArray 97) →
Post (.pointer (some ⟨b1, 0, none⟩)) h1) :
    Runs Tryd.prog 53 #[(.int .u32 seed), (.int .i64 target), (.int .i64 interval)] h0 Post :=
  runs_of (args := [(.int .u32 seed), (.int .i64 target), (.int .i64 interval)]) (fun n => ⟨true, false⟩) (fun _ => []) (fun _ => none) (fun _ => []) Tryd.func53 rfl (by rw [Tryd.ntmps53]; simp) (Eq.mp (by kernel_rfl) H)

theorem vc_fq_Queue_Put (q : Nat) (p : List Value) (h0 : Heap) (Post : Value → Heap → Prop) (H :
∀ (b1 : Nat) (h1 : Heap), b1 = h0.size → h1 = h0.push (.cells (p).toArray 35) →
∃ n1 : Int, cell h1 b1 1 = some (.int .u32 n1) ∧
∃ n2 : Int, cell h1 q 0 = some (.int .u32 n2) ∧
Runs Tryd.prog 54 #[(.int .u32 n1), (.int .u32 n2)] h1 fun r1 h2 =>
∃ n3 : Int,
r1 = (.int .i64 n3) ∧
(0 ≤ n3 ∧ n3 < ((16 : Nat) : Int)) ∧
∃ (s1 : Option Addr) (s1l s1c : Nat), cell h2 b1 4 = some (.slice s1 s1l s1c) ∧
Runs Tryd.prog 55 #[(.slice s1 s1l s1c)] h2 fun r2 h3 =>
∃ (s2 : Option Addr) (s2l s2c : Nat),
r2 = (.slice s2 s2l s2c) ∧
wr h3 b1 4 ∧ ∀ h4 : Heap, h4 = setc h3 b1 4 (.slice s2 s2l s2c) →
∃ (s3 : Option Addr) (s3l s3c : Nat), cell h4 q (3 + ((n3).toNat * 8)) = some (.slice s3 s3l s3c) ∧
∃ cs1 : List Value, row h4 b1 0 5 = some cs1 ∧
(cs1).length = 5 ∧
∀ (b2 : Nat) (h5 : Heap), b2 = h4.size → h5 = h4.push (.cells (((cs1) ++ [])).toArray 35) →
∃ news1 : List Value, (row h5 b2 0 5 = some news1 ∧ ∀ u ∈ news1, u.oneCell' = true) ∧
appK h5 s3 s3l s3c 1 5 35 56 news1 fun (a1 : Option Addr) (cap1 : Nat) (h6 : Heap) =>
wr h6 q (3 + ((n3).toNat * 8)) ∧ ∀ h7 : Heap, h7 = setc h6 q (3 + ((n3).toNat * 8)) (.slice a1 (s3l + 1) cap1) →
∃ n4 : Int, cell h7 q ((3 + ((n3).toNat * 8)) + 1) = some (.int .i64 n4) ∧
∃ (s4 : Option Addr) (s4l s4c : Nat), cell h7 b1 4 = some (.slice s4 s4l s4c) ∧
fits .i64 (n4 + ((s4l : Nat) : Int)) ∧
wr h7 q ((3 + ((n3).toNat * 8)) + 1) ∧ ∀ h8 : Heap, h8 = setc h7 q ((3 + ((n3).toNat * 8)) + 1) (.int .i64 (n4 + ((s4l : Nat) : Int))) →
∃ n5 : Int, cell h8 q 133 = some (.int .i64 n5) ∧
fits .i64 (n5 + (1 : Int)) ∧
wr h8 q 133 ∧ ∀ h9 : Heap, h9 = setc h8 q 133 (.int .i64 (n5 + (1 : Int))) →
∃ n6 : Int, cell h9 q 134 = some (.int .i64 n6) ∧
∃ (s5 : Option Addr) (s5l s5c : Nat), cell h9 b1 4 = some (.slice s5 s5l s5c) ∧
fits .i64 (n6 + ((s5l : Nat) : Int)) ∧
wr h9 q 134 ∧ ∀ h10 : Heap, h10 = setc h9 q 134 (.int .i64 (n6 + ((s5l : Nat) : Int))) →
∃ (s6 : Option Addr) (s6l s6c : Nat), cell h10 q 131 = some (.slice s6 s6l s6c) ∧
Runs Tryd.prog 56 #[(.slice s6 s6l s6c), (.int .i64 n3)] h10 fun r3 h11 =>
∃ t1 : Bool,
r3 = (.bool t1) ∧
bcase (!t1) (
∃ (s7 : Option Addr) (s7l s7c : Nat), cell h11 q 132 = some (.slice s7 s7l s7c) ∧
Runs Tryd.prog 56 #[(.slice s7 s7l s7c), (.int .i64 n3)] h11 fun r4 h12 =>
∃ t2 : Bool,
r4 = (.bool t2) ∧
bcase (!t2) (
wr h12 q ((3 + ((n3).toNat * 8)) + 2) ∧ ∀ h13 : Heap, h13 = setc h12 q ((3 + ((n3).toNat * 8)) + 2) (.int .i64 (300 : Int)) →
∃ (s8 : Option Addr) (s8l s8c : Nat), cell h13 q 131 = some (.slice s8 s8l s8c) ∧
∀ (b3 : Nat) (h14 : Heap), b3 = h13.size → h14 = h13.push (.cells ([(.int .i64 n3)] : List Value).toArray 3) →
∃ news2 : List Value, (row h14 b3 0 1 = some news2 ∧ ∀ u ∈ news2, u.oneCell' = true) ∧
appK h14 s8 s8l s8c 1 1 3 8 news2 fun (a2 : Option Addr) (cap2 : Nat) (h15 : Heap) =>
wr h15 q 131 ∧ ∀ h16 : Heap, h16 = setc h15 q 131 (.slice a2 (s8l + 1) cap2) →
Post (.int .i64 n3) h16) (
Post (.int .i64 n3) h12)) (
Post (.int .i64 n3) h11)) :
    Runs Tryd.prog 30 #[(.pointer (some ⟨q, 0, none⟩)), (.agg (p).toArray)] h0 Post :=
  runs_of (args := [(.pointer (some ⟨q, 0, none⟩)), (.agg (p).toArray)]) (fun n => ⟨true, false⟩) (fun _ => []) (fun _ => none) (fun _ => []) Tryd.func30 rfl (by rw [Tryd.ntmps30]; simp) (Eq.mp (by kernel_rfl) H)

theorem vc_fq_Queue_shift (q : Nat) (k : Int) (h0 : Heap) (Post : Value → Heap → Prop) (H :
∀ (b1 : Nat) (h1 : Heap), b1 = h0.size → h1 = h0.push (.cells ([(.int .i64 (0 : Int)), (.int .u32 (0 : Int)), (.int .i64 (0 : Int)), (.int .i64 (0 : Int)), (.slice none 0 0)] : List Value).toArray 35) →
(0 ≤ k ∧ k < ((16 : Nat) : Int)) ∧
∃ (s1 : Option Addr) (s1l s1c : Nat), cell h1 q (3 + ((k).toNat * 8)) = some (.slice s1 s1l s1c) ∧
(0 ≤ (0 : Int) ∧ (0 : Int) < ((s1l : Nat) : Int)) ∧
onAddr s1 fun b2 o1 =>
∃ cs1 : List Value, row h1 b2 o1 5 = some cs1 ∧
∀ (b3 : Nat) (h2 : Heap), b3 = h1.size → h2 = h1.push (.cells ([(.int .i64 (0 : Int)), (.int .u32 (0 : Int)), (.int .i64 (0 : Int)), (.int .i64 (0 : Int)), (.slice none 0 0)] : List Value).toArray 35) →
(((cs1)).length = 5 ∧ wrs h2 b3 0 5 ∧ ∀ u ∈ ((cs1) : List Value), u.oneCell' = true) ∧ ∀ h3 : Heap, h3 = setr h2 b3 0 (cs1) →
∃ (s2 : Option Addr) (s2l s2c : Nat), cell h3 q (3 + ((k).toNat * 8)) = some (.slice s2 s2l s2c) ∧
(0 ≤ (1 : Int) ∧ (1 : Int) ≤ ((s2l : Nat) : Int)) ∧
Runs Tryd.prog 78 #[(.slice (slcAddr s2 1 s2c 5) (s2l - 1) (s2c - 1))] h3 fun r1 h4 =>
∃ (s3 : Option Addr) (s3l s3c : Nat),
r1 = (.slice s3 s3l s3c) ∧
wr h4 q (3 + ((k).toNat * 8)) ∧ ∀ h5 : Heap, h5 = setc h4 q (3 + ((k).toNat * 8)) (.slice s3 s3l s3c) →
∃ n1 : Int, cell h5 q ((3 + ((k).toNat * 8)) + 1) = some (.int .i64 n1) ∧
∃ (s4 : Option Addr) (s4l s4c : Nat), cell h5 b3 4 = some (.slice s4 s4l s4c) ∧
fits .i64 (n1 - ((s4l : Nat) : Int)) ∧
wr h5 q ((3 + ((k).toNat * 8)) + 1) ∧ ∀ h6 : Heap, h6 = setc h5 q ((3 + ((k).toNat * 8)) + 1) (.int .i64 (n1 - ((s4l : Nat) : Int))) →
∃ n2 : Int, cell h6 q 133 = some (.int .i64 n2) ∧
fits .i64 (n2 - (1 : Int)) ∧
wr h6 q 133 ∧ ∀ h7 : Heap, h7 = setc h6 q 133 (.int .i64 (n2 - (1 : Int))) →
∃ n3 : Int, cell h7 q 134 = some (.int .i64 n3) ∧
∃ (s5 : Option Addr) (s5l s5c : Nat), cell h7 b3 4 = some (.slice s5 s5l s5c) ∧
fits .i64 (n3 - ((s5l : Nat) : Int)) ∧
wr h7 q 134 ∧ ∀ h8 : Heap, h8 = setc h7 q 134 (.int .i64 (n3 - ((s5l : Nat) : Int))) →
∃ cs2 : List Value, row h8 b3 0 5 = some cs2 ∧
(((cs2)).length = 5 ∧ wrs h8 b1 0 5 ∧ ∀ u ∈ ((cs2) : List Value), u.oneCell' = true) ∧ ∀ h9 : Heap, h9 = setr h8 b1 0 (cs2) →
∃ cs3 : List Value, row h9 b1 0 5 = some cs3 ∧
Post (.agg (cs3).toArray) h9) :
    Runs Tryd.prog 62 #[(.pointer (some ⟨q, 0, none⟩)), (.int .i64 k)] h0 Post :=
  runs_of (args := [(.pointer (some ⟨q, 0, none⟩)), (.int .i64 k)]) (fun n => ⟨true, false⟩) (fun _ => []) (fun _ => none) (fun _ => []) Tryd.func62 rfl (by rw [Tryd.ntmps62]; simp) (Eq.mp (by kernel_rfl) H)

theorem vc_fq_Queue_pull (q : Nat) (k : Int) (now : Int) (h0 : Heap) (Post : Value → Heap → Prop) (H :
(0 ≤ k ∧ k < ((16 : Nat) : Int)) ∧
∃ (s1 : Option Addr) (s1l s1c : Nat), cell h0 q (3 + ((k).toNat * 8)) = some (.slice s1 s1l s1c) ∧
∃ (I1 : Option Addr → Nat → Nat → Int → Heap → Prop) (m1 : Option Addr → Nat → Nat → Int → Heap → Nat), I1 none 0 0 (0 : Int) h0 ∧ ∀ _ : Env,
∀ (items_1 : Option Addr) (items_1l items_1c : Nat) (x2 : Int) (h1 : Heap), I1 items_1 items_1l items_1c x2 h1 →
bcase (decide (x2 < ((s1l : Nat) : Int))) (
(0 ≤ x2 ∧ x2 < ((s1l : Nat) : Int)) ∧
onAddr s1 fun b1 o1 =>
∃ cs1 : List Value, row h1 b1 (o1 + ((x2).toNat * 5)) 5 = some cs1 ∧
∀ (b2 : Nat) (h2 : Heap), b2 = h1.size → h2 = h1.push (.cells ([(.int .i64 (0 : Int)), (.int .u32 (0 : Int)), (.int .i64 (0 : Int)), (.int .i64 (0 : Int)), (.slice none 0 0)] : List Value).toArray 35) →
(((cs1)).length = 5 ∧ wrs h2 b2 0 5 ∧ ∀ u ∈ ((cs1) : List Value), u.oneCell' = true) ∧ ∀ h3 : Heap, h3 = setr h2 b2 0 (cs1) →
∃ n1 : Int, cell h3 b2 3 = some (.int .i64 n1) ∧
∃ (s2 : Option Addr) (s2l s2c : Nat), cell h3 b2 4 = some (.slice s2 s2l s2c) ∧
([(.int .i64 n1), (.int .i64 ((s2l : Nat) : Int))] : List Value).length = 2 ∧
∀ (b3 : Nat) (h4 : Heap), b3 = h3.size → h4 = h3.push (.cells ([(.int .i64 n1), (.int .i64 ((s2l : Nat) : Int))] : List Value).toArray 125) →
∃ news1 : List Value, (row h4 b3 0 2 = some news1 ∧ ∀ u ∈ news1, u.oneCell' = true) ∧
appK h4 items_1 items_1l items_1c 1 2 125 16 news1 fun (a1 : Option Addr) (cap1 : Nat) (h5 : Heap) =>
fits .i64 (x2 + (1 : Int)) ∧
I1 a1 (items_1l + 1) cap1 (x2 + (1 : Int)) h5 ∧ m1 a1 (items_1l + 1) cap1 (x2 + (1 : Int)) h5 < m1 items_1 items_1l items_1c x2 h1) (
∃ J1 : Option Addr → Int → Bool → Heap → Prop, (
∃ cs2 : List Value, row h1 q ((3 + ((k).toNat * 8)) + 3) 5 = some cs2 ∧
∃ n2 : Int, cell h1 q 1 = some (.int .i64 n2) ∧
∃ n3 : Int, cell h1 q 2 = some (.int .i64 n3) ∧
∃ n4 : Int, cell h1 q ((3 + ((k).toNat * 8)) + 1) = some (.int .i64 n4) ∧
(
Runs Tryd.prog 77 #[(.agg (cs2).toArray), (.int .i64 now), (.int .i64 n2), (.int .i64 n3), (.int .i64 n4), (.slice items_1 items_1l items_1c)] h1 fun r1 h6 =>
∃ cs3 : List Value,
∃ n5 : Int,
∃ t1 : Bool,
r1 = (.tuple #[(.agg (cs3).toArray), (.int .i64 n5), (.bool t1)]) ∧
∀ (b4 : Nat) (h7 : Heap), b4 = h6.size → h7 = h6.push (.cells ([(.int .i64 (0 : Int)), (.int .i64 (0 : Int)), (.int .u32 (0 : Int)), (.int .u32 (0 : Int)), (.bool false)] : List Value).toArray 91) →
(((cs3)).length = 5 ∧ wrs h7 b4 0 5 ∧ ∀ u ∈ ((cs3) : List Value), u.oneCell' = true) ∧ ∀ h8 : Heap, h8 = setr h7 b4 0 (cs3) →
J1 (some ⟨b4, 0, none⟩) n5 t1 h8) ∧
(
∀ (b5 : Nat) (h9 : Heap), b5 = h1.size → h9 = h1.push (.cells ([(.int .i64 (0 : Int)), (.int .i64 (0 : Int)), (.int .u32 (0 : Int)), (.int .u32 (0 : Int)), (.bool false)] : List Value).toArray 91) →
Runs Tryd.prog 77 #[(.agg (cs2).toArray), (.int .i64 now), (.int .i64 n2), (.int .i64 n3), (.int .i64 n4), (.slice items_1 items_1l items_1c)] h9 fun r2 h10 =>
∃ cs4 : List Value,
∃ n6 : Int,
∃ t2 : Bool,
r2 = (.tuple #[(.agg (cs4).toArray), (.int .i64 n6), (.bool t2)]) ∧
(((cs4)).length = 5 ∧ wrs h10 b5 0 5 ∧ ∀ u ∈ ((cs4) : List Value), u.oneCell' = true) ∧ ∀ h11 : Heap, h11 = setr h10 b5 0 (cs4) →
J1 (some ⟨b5, 0, none⟩) n6 t2 h11)) ∧ ∀ _ : Env,
∀ (c_1 : Option Addr) (n_1 : Int) (is_1 : Bool) (h12 : Heap), J1 c_1 n_1 is_1 h12 →
onAddr c_1 fun b6 o2 =>
∃ cs5 : List Value, row h12 b6 o2 5 = some cs5 ∧
(((cs5)).length = 5 ∧ wrs h12 q ((3 + ((k).toNat * 8)) + 3) 5 ∧ ∀ u ∈ ((cs5) : List Value), u.oneCell' = true) ∧ ∀ h13 : Heap, h13 = setr h12 q ((3 + ((k).toNat * 8)) + 3) (cs5) →
∃ (I2 : Option Addr → Nat → Nat → Int → Heap → Prop) (m2 : Option Addr → Nat → Nat → Int → Heap → Nat), I2 none 0 0 (0 : Int) h13 ∧ ∀ _ : Env,
∀ (out_1 : Option Addr) (out_1l out_1c : Nat) (x7 : Int) (h14 : Heap), I2 out_1 out_1l out_1c x7 h14 →
bcase (decide (x7 < n_1)) (
Runs Tryd.prog 62 #[(.pointer (some ⟨q, 0, none⟩)), (.int .i64 k)] h14 fun r3 h15 =>
∃ cs6 : List Value,
r3 = (.agg (cs6).toArray) ∧
(cs6).length = 5 ∧
∀ (b7 : Nat) (h16 : Heap), b7 = h15.size → h16 = h15.push (.cells (((cs6) ++ [])).toArray 35) →
∃ news2 : List Value, (row h16 b7 0 5 = some news2 ∧ ∀ u ∈ news2, u.oneCell' = true) ∧
appK h16 out_1 out_1l out_1c 1 5 35 56 news2 fun (a2 : Option Addr) (cap2 : Nat) (h17 : Heap) =>
fits .i64 (x7 + (1 : Int)) ∧
I2 a2 (out_1l + 1) cap2 (x7 + (1 : Int)) h17 ∧ m2 a2 (out_1l + 1) cap2 (x7 + (1 : Int)) h17 < m2 out_1 out_1l out_1c x7 h14) (
Post (.tuple #[(.slice out_1 out_1l out_1c), (.bool is_1)]) h14))) :
    Runs Tryd.prog 61 #[(.pointer (some ⟨q, 0, none⟩)), (.int .i64 k), (.int .i64 now)] h0 Post :=
  runs_of (args := [(.pointer (some ⟨q, 0, none⟩)), (.int .i64 k), (.int .i64 now)]) (fun n => ⟨true, false⟩) (fun n => match n with | 0 => [(9, .slice), (26, .int .i64)] | 2 => [(15, .slice), (68, .int .i64)] | _ => []) (fun n => match n with | 9 => some [(12, .ptr), (13, .int .i64), (14, .bool)] | _ => none) (fun _ => []) Tryd.func61 rfl (by rw [Tryd.ntmps61]; simp) (Eq.mp (by kernel_rfl) H)

theorem vc_fq_Queue_Take (q : Nat) (now : Int) (h0 : Heap) (Post : Value → Heap → Prop) (H :
∀ (b1 : Nat) (h1 : Heap), b1 = h0.size → h1 = h0.push (.cells ([(.int .i64 (0 : Int)), (.int .u32 (0 : Int)), (.int .i64 (0 : Int)), (.int .i64 (0 : Int)), (.slice none 0 0)] : List Value).toArray 35) →
∃ (I1 : Option Addr → Nat → Nat → Heap → Prop) (m1 : Option Addr → Nat → Nat → Heap → Nat), I1 none 0 0 h1 ∧ ∀ _ : Env,
∀ (dropped_1 : Option Addr) (dropped_1l dropped_1c : Nat) (h2 : Heap), I1 dropped_1 dropped_1l dropped_1c h2 →
∃ (s1 : Option Addr) (s1l s1c : Nat), cell h2 q 131 = some (.slice s1 s1l s1c) ∧
bcase (decide (((s1l : Nat) : Int) = (0 : Int))) (
∃ (s2 : Option Addr) (s2l s2c : Nat), cell h2 q 132 = some (.slice s2 s2l s2c) ∧
bcase (decide (((s2l : Nat) : Int) = (0 : Int))) (
((([(.int .i64 (0 : Int)), (.int .u32 (0 : Int)), (.int .i64 (0 : Int)), (.int .i64 (0 : Int)), (.slice none 0 0)] : List Value)).length = 5 ∧ wrs h2 b1 0 5 ∧ ∀ u ∈ (([(.int .i64 (0 : Int)), (.int .u32 (0 : Int)), (.int .i64 (0 : Int)), (.int .i64 (0 : Int)), (.slice none 0 0)] : List Value) : List Value), u.oneCell' = true) ∧ ∀ h3 : Heap, h3 = setr h2 b1 0 ([(.int .i64 (0 : Int)), (.int .u32 (0 : Int)), (.int .i64 (0 : Int)), (.int .i64 (0 : Int)), (.slice none 0 0)] : List Value) →
∃ cs1 : List Value, row h3 b1 0 5 = some cs1 ∧
Post (.tuple #[(.agg (cs1).toArray), (.slice dropped_1 dropped_1l dropped_1c), (.bool false)]) h3) (
∃ (s3 : Option Addr) (s3l s3c : Nat), cell h2 q 132 = some (.slice s3 s3l s3c) ∧
(0 ≤ (0 : Int) ∧ (0 : Int) < ((s3l : Nat) : Int)) ∧
onAddr s3 fun b2 o1 =>
∃ n1 : Int, cell h2 b2 o1 = some (.int .i64 n1) ∧
(0 ≤ n1 ∧ n1 < ((16 : Nat) : Int)) ∧
∃ n2 : Int, cell h2 q ((3 + ((n1).toNat * 8)) + 2) = some (.int .i64 n2) ∧
bcase (decide (n2 ≤ (0 : Int))) (
∃ n3 : Int, cell h2 q ((3 + ((n1).toNat * 8)) + 2) = some (.int .i64 n3) ∧
fits .i64 (n3 + (300 : Int)) ∧
wr h2 q ((3 + ((n1).toNat * 8)) + 2) ∧ ∀ h4 : Heap, h4 = setc h2 q ((3 + ((n1).toNat * 8)) + 2) (.int .i64 (n3 + (300 : Int))) →
∃ (s4 : Option Addr) (s4l s4c : Nat), cell h4 q 132 = some (.slice s4 s4l s4c) ∧
(0 ≤ (1 : Int) ∧ (1 : Int) ≤ ((s4l : Nat) : Int)) ∧
wr h4 q 132 ∧ ∀ h5 : Heap, h5 = setc h4 q 132 (.slice (slcAddr s4 1 s4c 1) (s4l - 1) (s4c - 1)) →
∃ (s5 : Option Addr) (s5l s5c : Nat), cell h5 q 132 = some (.slice s5 s5l s5c) ∧
∀ (b3 : Nat) (h6 : Heap), b3 = h5.size → h6 = h5.push (.cells ([(.int .i64 n1)] : List Value).toArray 3) →
∃ news1 : List Value, (row h6 b3 0 1 = some news1 ∧ ∀ u ∈ news1, u.oneCell' = true) ∧
appK h6 s5 s5l s5c 1 1 3 8 news1 fun (a1 : Option Addr) (cap1 : Nat) (h7 : Heap) =>
wr h7 q 132 ∧ ∀ h8 : Heap, h8 = setc h7 q 132 (.slice a1 (s5l + 1) cap1) →
I1 dropped_1 dropped_1l dropped_1c h8 ∧ m1 dropped_1 dropped_1l dropped_1c h8 < m1 dropped_1 dropped_1l dropped_1c h2) (
Runs Tryd.prog 61 #[(.pointer (some ⟨q, 0, none⟩)), (.int .i64 n1), (.int .i64 now)] h2 fun r1 h9 =>
∃ (s6 : Option Addr) (s6l s6c : Nat),
∃ t1 : Bool,
r1 = (.tuple #[(.slice s6 s6l s6c), (.bool t1)]) ∧
∃ news2 : List Value, (src h9 s6 (s6l * 5) news2 ∧ ∀ u ∈ news2, u.oneCell' = true) ∧
appK h9 dropped_1 dropped_1l dropped_1c s6l 5 35 56 news2 fun (a2 : Option Addr) (cap2 : Nat) (h10 : Heap) =>
bcase t1 (
Runs Tryd.prog 62 #[(.pointer (some ⟨q, 0, none⟩)), (.int .i64 n1)] h10 fun r2 h11 =>
∃ cs2 : List Value,
r2 = (.agg (cs2).toArray) ∧
∀ (b4 : Nat) (h12 : Heap), b4 = h11.size → h12 = h11.push (.cells ([(.int .i64 (0 : Int)), (.int .u32 (0 : Int)), (.int .i64 (0 : Int)), (.int .i64 (0 : Int)), (.slice none 0 0)] : List Value).toArray 35) →
(((cs2)).length = 5 ∧ wrs h12 b4 0 5 ∧ ∀ u ∈ ((cs2) : List Value), u.oneCell' = true) ∧ ∀ h13 : Heap, h13 = setr h12 b4 0 (cs2) →
∃ n4 : Int, cell h13 q ((3 + ((n1).toNat * 8)) + 2) = some (.int .i64 n4) ∧
∃ (s7 : Option Addr) (s7l s7c : Nat), cell h13 b4 4 = some (.slice s7 s7l s7c) ∧
fits .i64 (n4 - ((s7l : Nat) : Int)) ∧
wr h13 q ((3 + ((n1).toNat * 8)) + 2) ∧ ∀ h14 : Heap, h14 = setc h13 q ((3 + ((n1).toNat * 8)) + 2) (.int .i64 (n4 - ((s7l : Nat) : Int))) →
∃ cs3 : List Value, row h14 b4 0 5 = some cs3 ∧
(((cs3)).length = 5 ∧ wrs h14 b1 0 5 ∧ ∀ u ∈ ((cs3) : List Value), u.oneCell' = true) ∧ ∀ h15 : Heap, h15 = setr h14 b1 0 (cs3) →
∃ cs4 : List Value, row h15 b1 0 5 = some cs4 ∧
Post (.tuple #[(.agg (cs4).toArray), (.slice a2 (dropped_1l + s6l) cap2), (.bool true)]) h15) (
∃ (s8 : Option Addr) (s8l s8c : Nat), cell h10 q 132 = some (.slice s8 s8l s8c) ∧
(0 ≤ (1 : Int) ∧ (1 : Int) ≤ ((s8l : Nat) : Int)) ∧
wr h10 q 132 ∧ ∀ h16 : Heap, h16 = setc h10 q 132 (.slice (slcAddr s8 1 s8c 1) (s8l - 1) (s8c - 1)) →
I1 a2 (dropped_1l + s6l) cap2 h16 ∧ m1 a2 (dropped_1l + s6l) cap2 h16 < m1 dropped_1 dropped_1l dropped_1c h2)))) (
∃ (s9 : Option Addr) (s9l s9c : Nat), cell h2 q 131 = some (.slice s9 s9l s9c) ∧
bcase (decide (((s9l : Nat) : Int) = (0 : Int))) (
((([(.int .i64 (0 : Int)), (.int .u32 (0 : Int)), (.int .i64 (0 : Int)), (.int .i64 (0 : Int)), (.slice none 0 0)] : List Value)).length = 5 ∧ wrs h2 b1 0 5 ∧ ∀ u ∈ (([(.int .i64 (0 : Int)), (.int .u32 (0 : Int)), (.int .i64 (0 : Int)), (.int .i64 (0 : Int)), (.slice none 0 0)] : List Value) : List Value), u.oneCell' = true) ∧ ∀ h17 : Heap, h17 = setr h2 b1 0 ([(.int .i64 (0 : Int)), (.int .u32 (0 : Int)), (.int .i64 (0 : Int)), (.int .i64 (0 : Int)), (.slice none 0 0)] : List Value) →
∃ cs5 : List Value, row h17 b1 0 5 = some cs5 ∧
Post (.tuple #[(.agg (cs5).toArray), (.slice dropped_1 dropped_1l dropped_1c), (.bool false)]) h17) (
∃ (s10 : Option Addr) (s10l s10c : Nat), cell h2 q 131 = some (.slice s10 s10l s10c) ∧
(0 ≤ (0 : Int) ∧ (0 : Int) < ((s10l : Nat) : Int)) ∧
onAddr s10 fun b5 o2 =>
∃ n5 : Int, cell h2 b5 o2 = some (.int .i64 n5) ∧
(0 ≤ n5 ∧ n5 < ((16 : Nat) : Int)) ∧
∃ n6 : Int, cell h2 q ((3 + ((n5).toNat * 8)) + 2) = some (.int .i64 n6) ∧
bcase (decide (n6 ≤ (0 : Int))) (
∃ n7 : Int, cell h2 q ((3 + ((n5).toNat * 8)) + 2) = some (.int .i64 n7) ∧
fits .i64 (n7 + (300 : Int)) ∧
wr h2 q ((3 + ((n5).toNat * 8)) + 2) ∧ ∀ h18 : Heap, h18 = setc h2 q ((3 + ((n5).toNat * 8)) + 2) (.int .i64 (n7 + (300 : Int))) →
∃ (s11 : Option Addr) (s11l s11c : Nat), cell h18 q 131 = some (.slice s11 s11l s11c) ∧
(0 ≤ (1 : Int) ∧ (1 : Int) ≤ ((s11l : Nat) : Int)) ∧
wr h18 q 131 ∧ ∀ h19 : Heap, h19 = setc h18 q 131 (.slice (slcAddr s11 1 s11c 1) (s11l - 1) (s11c - 1)) →
∃ (s12 : Option Addr) (s12l s12c : Nat), cell h19 q 132 = some (.slice s12 s12l s12c) ∧
∀ (b6 : Nat) (h20 : Heap), b6 = h19.size → h20 = h19.push (.cells ([(.int .i64 n5)] : List Value).toArray 3) →
∃ news3 : List Value, (row h20 b6 0 1 = some news3 ∧ ∀ u ∈ news3, u.oneCell' = true) ∧
appK h20 s12 s12l s12c 1 1 3 8 news3 fun (a3 : Option Addr) (cap3 : Nat) (h21 : Heap) =>
wr h21 q 132 ∧ ∀ h22 : Heap, h22 = setc h21 q 132 (.slice a3 (s12l + 1) cap3) →
I1 dropped_1 dropped_1l dropped_1c h22 ∧ m1 dropped_1 dropped_1l dropped_1c h22 < m1 dropped_1 dropped_1l dropped_1c h2) (
Runs Tryd.prog 61 #[(.pointer (some ⟨q, 0, none⟩)), (.int .i64 n5), (.int .i64 now)] h2 fun r3 h23 =>
∃ (s13 : Option Addr) (s13l s13c : Nat),
∃ t2 : Bool,
r3 = (.tuple #[(.slice s13 s13l s13c), (.bool t2)]) ∧
∃ news4 : List Value, (src h23 s13 (s13l * 5) news4 ∧ ∀ u ∈ news4, u.oneCell' = true) ∧
appK h23 dropped_1 dropped_1l dropped_1c s13l 5 35 56 news4 fun (a4 : Option Addr) (cap4 : Nat) (h24 : Heap) =>
bcase t2 (
Runs Tryd.prog 62 #[(.pointer (some ⟨q, 0, none⟩)), (.int .i64 n5)] h24 fun r4 h25 =>
∃ cs6 : List Value,
r4 = (.agg (cs6).toArray) ∧
∀ (b7 : Nat) (h26 : Heap), b7 = h25.size → h26 = h25.push (.cells ([(.int .i64 (0 : Int)), (.int .u32 (0 : Int)), (.int .i64 (0 : Int)), (.int .i64 (0 : Int)), (.slice none 0 0)] : List Value).toArray 35) →
(((cs6)).length = 5 ∧ wrs h26 b7 0 5 ∧ ∀ u ∈ ((cs6) : List Value), u.oneCell' = true) ∧ ∀ h27 : Heap, h27 = setr h26 b7 0 (cs6) →
∃ n8 : Int, cell h27 q ((3 + ((n5).toNat * 8)) + 2) = some (.int .i64 n8) ∧
∃ (s14 : Option Addr) (s14l s14c : Nat), cell h27 b7 4 = some (.slice s14 s14l s14c) ∧
fits .i64 (n8 - ((s14l : Nat) : Int)) ∧
wr h27 q ((3 + ((n5).toNat * 8)) + 2) ∧ ∀ h28 : Heap, h28 = setc h27 q ((3 + ((n5).toNat * 8)) + 2) (.int .i64 (n8 - ((s14l : Nat) : Int))) →
∃ cs7 : List Value, row h28 b7 0 5 = some cs7 ∧
(((cs7)).length = 5 ∧ wrs h28 b1 0 5 ∧ ∀ u ∈ ((cs7) : List Value), u.oneCell' = true) ∧ ∀ h29 : Heap, h29 = setr h28 b1 0 (cs7) →
∃ cs8 : List Value, row h29 b1 0 5 = some cs8 ∧
Post (.tuple #[(.agg (cs8).toArray), (.slice a4 (dropped_1l + s13l) cap4), (.bool true)]) h29) (
∃ (s15 : Option Addr) (s15l s15c : Nat), cell h24 q 131 = some (.slice s15 s15l s15c) ∧
(0 ≤ (1 : Int) ∧ (1 : Int) ≤ ((s15l : Nat) : Int)) ∧
wr h24 q 131 ∧ ∀ h30 : Heap, h30 = setc h24 q 131 (.slice (slcAddr s15 1 s15c 1) (s15l - 1) (s15c - 1)) →
∃ (s16 : Option Addr) (s16l s16c : Nat), cell h30 q 132 = some (.slice s16 s16l s16c) ∧
bcase (decide ((0 : Int) < ((s16l : Nat) : Int))) (
∃ (s17 : Option Addr) (s17l s17c : Nat), cell h30 q 132 = some (.slice s17 s17l s17c) ∧
∀ (b8 : Nat) (h31 : Heap), b8 = h30.size → h31 = h30.push (.cells ([(.int .i64 n5)] : List Value).toArray 3) →
∃ news5 : List Value, (row h31 b8 0 1 = some news5 ∧ ∀ u ∈ news5, u.oneCell' = true) ∧
appK h31 s17 s17l s17c 1 1 3 8 news5 fun (a5 : Option Addr) (cap5 : Nat) (h32 : Heap) =>
wr h32 q 132 ∧ ∀ h33 : Heap, h33 = setc h32 q 132 (.slice a5 (s17l + 1) cap5) →
I1 a4 (dropped_1l + s13l) cap4 h33 ∧ m1 a4 (dropped_1l + s13l) cap4 h33 < m1 dropped_1 dropped_1l dropped_1c h2) (
I1 a4 (dropped_1l + s13l) cap4 h30 ∧ m1 a4 (dropped_1l + s13l) cap4 h30 < m1 dropped_1 dropped_1l dropped_1c h2)))))) :
    Runs Tryd.prog 39 #[(.pointer (some ⟨q, 0, none⟩)), (.int .i64 now)] h0 Post :=
  runs_of (args := [(.pointer (some ⟨q, 0, none⟩)), (.int .i64 now)]) (fun n => ⟨true, false⟩) (fun n => match n with | 0 => [(7, .slice)] | _ => []) (fun _ => none) (fun _ => []) Tryd.func39 rfl (by rw [Tryd.ntmps39]; simp) (Eq.mp (by kernel_rfl) H)

theorem vc_fq_Queue_Head (q : Nat) (bucket : Int) (h0 : Heap) (Post : Value → Heap → Prop) (H :
∀ (b1 : Nat) (h1 : Heap), b1 = h0.size → h1 = h0.push (.cells ([(.int .i64 (0 : Int)), (.int .u32 (0 : Int)), (.int .i64 (0 : Int)), (.int .i64 (0 : Int)), (.slice none 0 0)] : List Value).toArray 35) →
bcase (decide (bucket < (0 : Int))) (
((([(.int .i64 (0 : Int)), (.int .u32 (0 : Int)), (.int .i64 (0 : Int)), (.int .i64 (0 : Int)), (.slice none 0 0)] : List Value)).length = 5 ∧ wrs h1 b1 0 5 ∧ ∀ u ∈ (([(.int .i64 (0 : Int)), (.int .u32 (0 : Int)), (.int .i64 (0 : Int)), (.int .i64 (0 : Int)), (.slice none 0 0)] : List Value) : List Value), u.oneCell' = true) ∧ ∀ h2 : Heap, h2 = setr h1 b1 0 ([(.int .i64 (0 : Int)), (.int .u32 (0 : Int)), (.int .i64 (0 : Int)), (.int .i64 (0 : Int)), (.slice none 0 0)] : List Value) →
∃ cs1 : List Value, row h2 b1 0 5 = some cs1 ∧
Post (.tuple #[(.agg (cs1).toArray), (.bool false)]) h2) (
bcase (decide ((16 : Int) ≤ bucket)) (
((([(.int .i64 (0 : Int)), (.int .u32 (0 : Int)), (.int .i64 (0 : Int)), (.int .i64 (0 : Int)), (.slice none 0 0)] : List Value)).length = 5 ∧ wrs h1 b1 0 5 ∧ ∀ u ∈ (([(.int .i64 (0 : Int)), (.int .u32 (0 : Int)), (.int .i64 (0 : Int)), (.int .i64 (0 : Int)), (.slice none 0 0)] : List Value) : List Value), u.oneCell' = true) ∧ ∀ h3 : Heap, h3 = setr h1 b1 0 ([(.int .i64 (0 : Int)), (.int .u32 (0 : Int)), (.int .i64 (0 : Int)), (.int .i64 (0 : Int)), (.slice none 0 0)] : List Value) →
∃ cs2 : List Value, row h3 b1 0 5 = some cs2 ∧
Post (.tuple #[(.agg (cs2).toArray), (.bool false)]) h3) (
(0 ≤ bucket ∧ bucket < ((16 : Nat) : Int)) ∧
∃ (s1 : Option Addr) (s1l s1c : Nat), cell h1 q (3 + ((bucket).toNat * 8)) = some (.slice s1 s1l s1c) ∧
bcase (decide (((s1l : Nat) : Int) = (0 : Int))) (
((([(.int .i64 (0 : Int)), (.int .u32 (0 : Int)), (.int .i64 (0 : Int)), (.int .i64 (0 : Int)), (.slice none 0 0)] : List Value)).length = 5 ∧ wrs h1 b1 0 5 ∧ ∀ u ∈ (([(.int .i64 (0 : Int)), (.int .u32 (0 : Int)), (.int .i64 (0 : Int)), (.int .i64 (0 : Int)), (.slice none 0 0)] : List Value) : List Value), u.oneCell' = true) ∧ ∀ h4 : Heap, h4 = setr h1 b1 0 ([(.int .i64 (0 : Int)), (.int .u32 (0 : Int)), (.int .i64 (0 : Int)), (.int .i64 (0 : Int)), (.slice none 0 0)] : List Value) →
∃ cs3 : List Value, row h4 b1 0 5 = some cs3 ∧
Post (.tuple #[(.agg (cs3).toArray), (.bool false)]) h4) (
(0 ≤ bucket ∧ bucket < ((16 : Nat) : Int)) ∧
∃ (s2 : Option Addr) (s2l s2c : Nat), cell h1 q (3 + ((bucket).toNat * 8)) = some (.slice s2 s2l s2c) ∧
(0 ≤ (0 : Int) ∧ (0 : Int) < ((s2l : Nat) : Int)) ∧
onAddr s2 fun b2 o1 =>
∃ cs4 : List Value, row h1 b2 o1 5 = some cs4 ∧
Runs Tryd.prog 60 #[(.agg (cs4).toArray)] h1 fun r1 h5 =>
∃ cs5 : List Value,
r1 = (.agg (cs5).toArray) ∧
(((cs5)).length = 5 ∧ wrs h5 b1 0 5 ∧ ∀ u ∈ ((cs5) : List Value), u.oneCell' = true) ∧ ∀ h6 : Heap, h6 = setr h5 b1 0 (cs5) →
∃ cs6 : List Value, row h6 b1 0 5 = some cs6 ∧
Post (.tuple #[(.agg (cs6).toArray), (.bool true)]) h6)))) :
    Runs Tryd.prog 76 #[(.pointer (some ⟨q, 0, none⟩)), (.int .i64 bucket)] h0 Post :=
  runs_of (args := [(.pointer (some ⟨q, 0, none⟩)), (.int .i64 bucket)]) (fun n => ⟨true, false⟩) (fun _ => []) (fun _ => none) (fun _ => []) Tryd.func76 rfl (by rw [Tryd.ntmps76]; simp) (Eq.mp (by kernel_rfl) H)

theorem vc_fq_own (p : List Value) (h0 : Heap) (Post : Value → Heap → Prop) (H :
∀ (b1 : Nat) (h1 : Heap), b1 = h0.size → h1 = h0.push (.cells (p).toArray 35) →
∀ (b2 : Nat) (h2 : Heap), b2 = h1.size → h2 = h1.push (.cells ([(.int .i64 (0 : Int)), (.int .u32 (0 : Int)), (.int .i64 (0 : Int)), (.int .i64 (0 : Int)), (.slice none 0 0)] : List Value).toArray 35) →
∃ (s1 : Option Addr) (s1l s1c : Nat), cell h2 b1 4 = some (.slice s1 s1l s1c) ∧
Runs Tryd.prog 55 #[(.slice s1 s1l s1c)] h2 fun r1 h3 =>
∃ (s2 : Option Addr) (s2l s2c : Nat),
r1 = (.slice s2 s2l s2c) ∧
wr h3 b1 4 ∧ ∀ h4 : Heap, h4 = setc h3 b1 4 (.slice s2 s2l s2c) →
∃ cs1 : List Value, row h4 b1 0 5 = some cs1 ∧
(((cs1)).length = 5 ∧ wrs h4 b2 0 5 ∧ ∀ u ∈ ((cs1) : List Value), u.oneCell' = true) ∧ ∀ h5 : Heap, h5 = setr h4 b2 0 (cs1) →
∃ cs2 : List Value, row h5 b2 0 5 = some cs2 ∧
Post (.agg (cs2).toArray) h5) :
    Runs Tryd.prog 60 #[(.agg (p).toArray)] h0 Post :=
  runs_of (args := [(.agg (p).toArray)]) (fun n => ⟨true, false⟩) (fun _ => []) (fun _ => none) (fun _ => []) Tryd.func60 rfl (by rw [Tryd.ntmps60]; simp) (Eq.mp (by kernel_rfl) H)

theorem vc_fq_Queue_DropHead (q : Nat) (bucket : Int) (h0 : Heap) (Post : Value → Heap → Prop) (H :
∀ (b1 : Nat) (h1 : Heap), b1 = h0.size → h1 = h0.push (.cells ([(.int .i64 (0 : Int)), (.int .u32 (0 : Int)), (.int .i64 (0 : Int)), (.int .i64 (0 : Int)), (.slice none 0 0)] : List Value).toArray 35) →
Runs Tryd.prog 76 #[(.pointer (some ⟨q, 0, none⟩)), (.int .i64 bucket)] h1 fun r1 h2 =>
∃ cs1 : List Value,
∃ t1 : Bool,
r1 = (.tuple #[(.agg (cs1).toArray), (.bool t1)]) ∧
∀ (b2 : Nat) (h3 : Heap), b2 = h2.size → h3 = h2.push (.cells ([(.int .i64 (0 : Int)), (.int .u32 (0 : Int)), (.int .i64 (0 : Int)), (.int .i64 (0 : Int)), (.slice none 0 0)] : List Value).toArray 35) →
(((cs1)).length = 5 ∧ wrs h3 b2 0 5 ∧ ∀ u ∈ ((cs1) : List Value), u.oneCell' = true) ∧ ∀ h4 : Heap, h4 = setr h3 b2 0 (cs1) →
bcase (!t1) (
((([(.int .i64 (0 : Int)), (.int .u32 (0 : Int)), (.int .i64 (0 : Int)), (.int .i64 (0 : Int)), (.slice none 0 0)] : List Value)).length = 5 ∧ wrs h4 b1 0 5 ∧ ∀ u ∈ (([(.int .i64 (0 : Int)), (.int .u32 (0 : Int)), (.int .i64 (0 : Int)), (.int .i64 (0 : Int)), (.slice none 0 0)] : List Value) : List Value), u.oneCell' = true) ∧ ∀ h5 : Heap, h5 = setr h4 b1 0 ([(.int .i64 (0 : Int)), (.int .u32 (0 : Int)), (.int .i64 (0 : Int)), (.int .i64 (0 : Int)), (.slice none 0 0)] : List Value) →
∃ cs2 : List Value, row h5 b1 0 5 = some cs2 ∧
Post (.tuple #[(.agg (cs2).toArray), (.bool false)]) h5) (
Runs Tryd.prog 62 #[(.pointer (some ⟨q, 0, none⟩)), (.int .i64 bucket)] h4 fun r2 h6 =>
∃ cs3 : List Value,
r2 = (.agg (cs3).toArray) ∧
(((cs3)).length = 5 ∧ wrs h6 b1 0 5 ∧ ∀ u ∈ ((cs3) : List Value), u.oneCell' = true) ∧ ∀ h7 : Heap, h7 = setr h6 b1 0 (cs3) →
∃ cs4 : List Value, row h7 b1 0 5 = some cs4 ∧
Post (.tuple #[(.agg (cs4).toArray), (.bool true)]) h7)) :
    Runs Tryd.prog 59 #[(.pointer (some ⟨q, 0, none⟩)), (.int .i64 bucket)] h0 Post :=
  runs_of (args := [(.pointer (some ⟨q, 0, none⟩)), (.int .i64 bucket)]) (fun n => ⟨true, false⟩) (fun _ => []) (fun _ => none) (fun _ => []) Tryd.func59 rfl (by rw [Tryd.ntmps59]; simp) (Eq.mp (by kernel_rfl) H)

theorem vc_fq_Queue_Fattest (q : Nat) (h0 : Heap) (Post : Value → Heap → Prop) (H :
∃ (I1 : Int → Int → Int → Heap → Prop) (m1 : Int → Int → Int → Heap → Nat), I1 (0 : Int) (-1 : Int) (0 : Int) h0 ∧ ∀ _ : Env,
∀ (best_1 : Int) (most_1 : Int) (x3 : Int) (h1 : Heap), I1 best_1 most_1 x3 h1 →
bcase (decide (x3 < (16 : Int))) (
(0 ≤ x3 ∧ x3 < ((16 : Nat) : Int)) ∧
∃ (s1 : Option Addr) (s1l s1c : Nat), cell h1 q (3 + ((x3).toNat * 8)) = some (.slice s1 s1l s1c) ∧
bcase (decide ((0 : Int) < ((s1l : Nat) : Int))) (
∃ n1 : Int, cell h1 q ((3 + ((x3).toNat * 8)) + 1) = some (.int .i64 n1) ∧
bcase (decide (most_1 < n1)) (
∃ n2 : Int, cell h1 q ((3 + ((x3).toNat * 8)) + 1) = some (.int .i64 n2) ∧
fits .i64 (x3 + (1 : Int)) ∧
I1 x3 n2 (x3 + (1 : Int)) h1 ∧ m1 x3 n2 (x3 + (1 : Int)) h1 < m1 best_1 most_1 x3 h1) (
fits .i64 (x3 + (1 : Int)) ∧
I1 best_1 most_1 (x3 + (1 : Int)) h1 ∧ m1 best_1 most_1 (x3 + (1 : Int)) h1 < m1 best_1 most_1 x3 h1)) (
fits .i64 (x3 + (1 : Int)) ∧
I1 best_1 most_1 (x3 + (1 : Int)) h1 ∧ m1 best_1 most_1 (x3 + (1 : Int)) h1 < m1 best_1 most_1 x3 h1)) (
Post (.tuple #[(.int .i64 best_1), (.int .i64 (max most_1 (0 : Int)))]) h1)) :
    Runs Tryd.prog 58 #[(.pointer (some ⟨q, 0, none⟩))] h0 Post :=
  runs_of (args := [(.pointer (some ⟨q, 0, none⟩))]) (fun n => ⟨true, false⟩) (fun n => match n with | 0 => [(4, .int .i64), (5, .int .i64), (8, .int .i64)] | _ => []) (fun _ => none) (fun _ => []) Tryd.func58 rfl (by rw [Tryd.ntmps58]; simp) (Eq.mp (by kernel_rfl) H)

theorem vc_fq_Queue_Len (q : Nat) (h0 : Heap) (Post : Value → Heap → Prop) (H :
∃ n1 : Int, cell h0 q 133 = some (.int .i64 n1) ∧
Post (.int .i64 n1) h0) :
    Runs Tryd.prog 33 #[(.pointer (some ⟨q, 0, none⟩))] h0 Post :=
  runs_of (args := [(.pointer (some ⟨q, 0, none⟩))]) (fun n => ⟨true, false⟩) (fun _ => []) (fun _ => none) (fun _ => []) Tryd.func33 rfl (by rw [Tryd.ntmps33]; simp) (Eq.mp (by kernel_rfl) H)

theorem vc_fq_Queue_Bytes (q : Nat) (h0 : Heap) (Post : Value → Heap → Prop) (H :
∃ n1 : Int, cell h0 q 134 = some (.int .i64 n1) ∧
Post (.int .i64 n1) h0) :
    Runs Tryd.prog 37 #[(.pointer (some ⟨q, 0, none⟩))] h0 Post :=
  runs_of (args := [(.pointer (some ⟨q, 0, none⟩))]) (fun n => ⟨true, false⟩) (fun _ => []) (fun _ => none) (fun _ => []) Tryd.func37 rfl (by rw [Tryd.ntmps37]; simp) (Eq.mp (by kernel_rfl) H)

theorem vc_fq_Queue_All (q : Nat) (h0 : Heap) (Post : Value → Heap → Prop) (H :
∃ (I1 : Option Addr → Nat → Nat → Int → Heap → Prop) (m1 : Option Addr → Nat → Nat → Int → Heap → Nat), I1 none 0 0 (0 : Int) h0 ∧ ∀ _ : Env,
∀ (out_1 : Option Addr) (out_1l out_1c : Nat) (x2 : Int) (h1 : Heap), I1 out_1 out_1l out_1c x2 h1 →
bcase (decide (x2 < (16 : Int))) (
(0 ≤ x2 ∧ x2 < ((16 : Nat) : Int)) ∧
∃ (s1 : Option Addr) (s1l s1c : Nat), cell h1 q (3 + ((x2).toNat * 8)) = some (.slice s1 s1l s1c) ∧
∃ (I2 : Option Addr → Nat → Nat → Int → Heap → Prop) (m2 : Option Addr → Nat → Nat → Int → Heap → Nat), I2 out_1 out_1l out_1c (0 : Int) h1 ∧ ∀ _ : Env,
∀ (out_2 : Option Addr) (out_2l out_2c : Nat) (x4 : Int) (h2 : Heap), I2 out_2 out_2l out_2c x4 h2 →
bcase (decide (x4 < ((s1l : Nat) : Int))) (
(0 ≤ x4 ∧ x4 < ((s1l : Nat) : Int)) ∧
onAddr s1 fun b1 o1 =>
∃ cs1 : List Value, row h2 b1 (o1 + ((x4).toNat * 5)) 5 = some cs1 ∧
∀ (b2 : Nat) (h3 : Heap), b2 = h2.size → h3 = h2.push (.cells ([(.int .i64 (0 : Int)), (.int .u32 (0 : Int)), (.int .i64 (0 : Int)), (.int .i64 (0 : Int)), (.slice none 0 0)] : List Value).toArray 35) →
(((cs1)).length = 5 ∧ wrs h3 b2 0 5 ∧ ∀ u ∈ ((cs1) : List Value), u.oneCell' = true) ∧ ∀ h4 : Heap, h4 = setr h3 b2 0 (cs1) →
∃ cs2 : List Value, row h4 b2 0 5 = some cs2 ∧
Runs Tryd.prog 60 #[(.agg (cs2).toArray)] h4 fun r1 h5 =>
∃ cs3 : List Value,
r1 = (.agg (cs3).toArray) ∧
(cs3).length = 5 ∧
∀ (b3 : Nat) (h6 : Heap), b3 = h5.size → h6 = h5.push (.cells (((cs3) ++ [])).toArray 35) →
∃ news1 : List Value, (row h6 b3 0 5 = some news1 ∧ ∀ u ∈ news1, u.oneCell' = true) ∧
appK h6 out_2 out_2l out_2c 1 5 35 56 news1 fun (a1 : Option Addr) (cap1 : Nat) (h7 : Heap) =>
fits .i64 (x4 + (1 : Int)) ∧
I2 a1 (out_2l + 1) cap1 (x4 + (1 : Int)) h7 ∧ m2 a1 (out_2l + 1) cap1 (x4 + (1 : Int)) h7 < m2 out_2 out_2l out_2c x4 h2) (
fits .i64 (x2 + (1 : Int)) ∧
I1 out_2 out_2l out_2c (x2 + (1 : Int)) h2 ∧ m1 out_2 out_2l out_2c (x2 + (1 : Int)) h2 < m1 out_1 out_1l out_1c x2 h1)) (
Post (.slice out_1 out_1l out_1c) h1)) :
    Runs Tryd.prog 38 #[(.pointer (some ⟨q, 0, none⟩))] h0 Post :=
  runs_of (args := [(.pointer (some ⟨q, 0, none⟩))]) (fun n => ⟨true, false⟩) (fun n => match n with | 0 => [(3, .slice), (7, .int .i64)] | 2 => [(3, .slice), (18, .int .i64)] | _ => []) (fun _ => none) (fun _ => []) Tryd.func38 rfl (by rw [Tryd.ntmps38]; simp) (Eq.mp (by kernel_rfl) H)

theorem vc_fq_Queue_Clone (q : Nat) (h0 : Heap) (Post : Value → Heap → Prop) (H :
∃ cs1 : List Value, row h0 q 0 135 = some cs1 ∧
∀ (b1 : Nat) (h1 : Heap), b1 = h0.size → h1 = h0.push (.cells ([(.int .u32 (0 : Int)), (.int .i64 (0 : Int)), (.int .i64 (0 : Int)), (.slice none 0 0), (.int .i64 (0 : Int)), (.int .i64 (0 : Int)), (.int .i64 (0 : Int)), (.int .i64 (0 : Int)), (.int .u32 (0 : Int)), (.int .u32 (0 : Int)), (.bool false), (.slice none 0 0), (.int .i64 (0 : Int)), (.int .i64 (0 : Int)), (.int .i64 (0 : Int)), (.int .i64 (0 : Int)), (.int .u32 (0 : Int)), (.int .u32 (0 : Int)), (.bool false), (.slice none 0 0), (.int .i64 (0 : Int)), (.int .i64 (0 : Int)), (.int .i64 (0 : Int)), (.int .i64 (0 : Int)), (.int .u32 (0 : Int)), (.int .u32 (0 : Int)), (.bool false), (.slice none 0 0), (.int .i64 (0 : Int)), (.int .i64 (0 : Int)), (.int .i64 (0 : Int)), (.int .i64 (0 : Int)), (.int .u32 (0 : Int)), (.int .u32 (0 : Int)), (.bool false), (.slice none 0 0), (.int .i64 (0 : Int)), (.int .i64 (0 : Int)), (.int .i64 (0 : Int)), (.int .i64 (0 : Int)), (.int .u32 (0 : Int)), (.int .u32 (0 : Int)), (.bool false), (.slice none 0 0), (.int .i64 (0 : Int)), (.int .i64 (0 : Int)), (.int .i64 (0 : Int)), (.int .i64 (0 : Int)), (.int .u32 (0 : Int)), (.int .u32 (0 : Int)), (.bool false), (.slice none 0 0), (.int .i64 (0 : Int)), (.int .i64 (0 : Int)), (.int .i64 (0 : Int)), (.int .i64 (0 : Int)), (.int .u32 (0 : Int)), (.int .u32 (0 : Int)), (.bool false), (.slice none 0 0), (.int .i64 (0 : Int)), (.int .i64 (0 : Int)), (.int .i64 (0 : Int)), (.int .i64 (0 : Int)), (.int .u32 (0 : Int)), (.int .u32 (0 : Int)), (.bool false), (.slice none 0 0), (.int .i64 (0 : Int)), (.int .i64 (0 : Int)), (.int .i64 (0 : Int)), (.int .i64 (0 : Int)), (.int .u32 (0 : Int)), (.int .u32 (0 : Int)), (.bool false), (.slice none 0 0), (.int .i64 (0 : Int)), (.int .i64 (0 : Int)), (.int .i64 (0 : Int)), (.int .i64 (0 : Int)), (.int .u32 (0 : Int)), (.int .u32 (0 : Int)), (.bool false), (.slice none 0 0), (.int .i64 (0 : Int)), (.int .i64 (0 : Int)), (.int .i64 (0 : Int)), (.int .i64 (0 : Int)), (.int .u32 (0 : Int)), (.int .u32 (0 : Int)), (.bool false), (.slice none 0 0), (.int .i64 (0 : Int)), (.int .i64 (0 : Int)), (.int .i64 (0 : Int)), (.int .i64 (0 : Int)), (.int .u32 (0 : Int)), (.int .u32 (0 : Int)), (.bool false), (.slice none 0 0), (.int .i64 (0 : Int)), (.int .i64 (0 : Int)), (.int .i64 (0 : Int)), (.int .i64 (0 : Int)), (.int .u32 (0 : Int)), (.int .u32 (0 : Int)), (.bool false), (.slice none 0 0), (.int .i64 (0 : Int)), (.int .i64 (0 : Int)), (.int .i64 (0 : Int)), (.int .i64 (0 : Int)), (.int .u32 (0 : Int)), (.int .u32 (0 : Int)), (.bool false), (.slice none 0 0), (.int .i64 (0 : Int)), (.int .i64 (0 : Int)), (.int .i64 (0 : Int)), (.int .i64 (0 : Int)), (.int .u32 (0 : Int)), (.int .u32 (0 : Int)), (.bool false), (.slice none 0 0), (.int .i64 (0 : Int)), (.int .i64 (0 : Int)), (.int .i64 (0 : Int)), (.int .i64 (0 : Int)), (.int .u32 (0 : Int)), (.int .u32 (0 : Int)), (.bool false), (.slice none 0 0), (.slice none 0 0), (.int .i64 (0 : Int)), (.int .i64 (0 : Int))] : List Value).toArray 97) →
(((cs1)).length = 135 ∧ wrs h1 b1 0 135 ∧ ∀ u ∈ ((cs1) : List Value), u.oneCell' = true) ∧ ∀ h2 : Heap, h2 = setr h1 b1 0 (cs1) →
∃ (s1 : Option Addr) (s1l s1c : Nat), cell h2 q 131 = some (.slice s1 s1l s1c) ∧
∃ (s2 : Option Addr) (s2l s2c : Nat), cell h2 q 132 = some (.slice s2 s2l s2c) ∧
Runs Tryd.prog 65 #[(.slice s1 s1l s1c)] h2 fun r1 h3 =>
∃ (s3 : Option Addr) (s3l s3c : Nat),
r1 = (.slice s3 s3l s3c) ∧
cell h3 q 132 = some (.slice s2 s2l s2c) ∧
Runs Tryd.prog 65 #[(.slice s2 s2l s2c)] h3 fun r2 h4 =>
∃ (s4 : Option Addr) (s4l s4c : Nat),
r2 = (.slice s4 s4l s4c) ∧
wr h4 b1 131 ∧ ∀ h5 : Heap, h5 = setc h4 b1 131 (.slice s3 s3l s3c) →
wr h5 b1 132 ∧ ∀ h6 : Heap, h6 = setc h5 b1 132 (.slice s4 s4l s4c) →
∃ (I1 : Int → Heap → Prop) (m1 : Int → Heap → Nat), I1 (0 : Int) h6 ∧ ∀ _ : Env,
∀ (x1 : Int) (h7 : Heap), I1 x1 h7 →
bcase (decide (x1 < (16 : Int))) (
(0 ≤ x1 ∧ x1 < ((16 : Nat) : Int)) ∧
∃ (s5 : Option Addr) (s5l s5c : Nat), cell h7 b1 (3 + ((x1).toNat * 8)) = some (.slice s5 s5l s5c) ∧
(0 ≤ x1 ∧ x1 < ((16 : Nat) : Int)) ∧
wr h7 b1 (3 + ((x1).toNat * 8)) ∧ ∀ h8 : Heap, h8 = setc h7 b1 (3 + ((x1).toNat * 8)) (.slice none 0 0) →
∃ (I2 : Int → Heap → Prop) (m2 : Int → Heap → Nat), I2 (0 : Int) h8 ∧ ∀ _ : Env,
∀ (x2 : Int) (h9 : Heap), I2 x2 h9 →
bcase (decide (x2 < ((s5l : Nat) : Int))) (
(0 ≤ x2 ∧ x2 < ((s5l : Nat) : Int)) ∧
onAddr s5 fun b2 o1 =>
∃ cs2 : List Value, row h9 b2 (o1 + ((x2).toNat * 5)) 5 = some cs2 ∧
∀ (b3 : Nat) (h10 : Heap), b3 = h9.size → h10 = h9.push (.cells ([(.int .i64 (0 : Int)), (.int .u32 (0 : Int)), (.int .i64 (0 : Int)), (.int .i64 (0 : Int)), (.slice none 0 0)] : List Value).toArray 35) →
(((cs2)).length = 5 ∧ wrs h10 b3 0 5 ∧ ∀ u ∈ ((cs2) : List Value), u.oneCell' = true) ∧ ∀ h11 : Heap, h11 = setr h10 b3 0 (cs2) →
(0 ≤ x1 ∧ x1 < ((16 : Nat) : Int)) ∧
∃ (s6 : Option Addr) (s6l s6c : Nat), cell h11 b1 (3 + ((x1).toNat * 8)) = some (.slice s6 s6l s6c) ∧
∃ cs3 : List Value, row h11 b3 0 5 = some cs3 ∧
Runs Tryd.prog 60 #[(.agg (cs3).toArray)] h11 fun r3 h12 =>
∃ cs4 : List Value,
r3 = (.agg (cs4).toArray) ∧
cell h12 b1 (3 + ((x1).toNat * 8)) = some (.slice s6 s6l s6c) ∧
(cs4).length = 5 ∧
∀ (b4 : Nat) (h13 : Heap), b4 = h12.size → h13 = h12.push (.cells (((cs4) ++ [])).toArray 35) →
∃ news1 : List Value, (row h13 b4 0 5 = some news1 ∧ ∀ u ∈ news1, u.oneCell' = true) ∧
appK h13 s6 s6l s6c 1 5 35 56 news1 fun (a1 : Option Addr) (cap1 : Nat) (h14 : Heap) =>
(0 ≤ x1 ∧ x1 < ((16 : Nat) : Int)) ∧
wr h14 b1 (3 + ((x1).toNat * 8)) ∧ ∀ h15 : Heap, h15 = setc h14 b1 (3 + ((x1).toNat * 8)) (.slice a1 (s6l + 1) cap1) →
fits .i64 (x2 + (1 : Int)) ∧
I2 (x2 + (1 : Int)) h15 ∧ m2 (x2 + (1 : Int)) h15 < m2 x2 h9) (
fits .i64 (x1 + (1 : Int)) ∧
I1 (x1 + (1 : Int)) h9 ∧ m1 (x1 + (1 : Int)) h9 < m1 x1 h7)) (
Post (.pointer (some ⟨b1, 0, none⟩)) h7)) :
    Runs Tryd.prog 43 #[(.pointer (some ⟨q, 0, none⟩))] h0 Post :=
  runs_of (args := [(.pointer (some ⟨q, 0, none⟩))]) (fun n => ⟨true, false⟩) (fun n => match n with | 0 => [(23, .int .i64)] | 2 => [(37, .int .i64)] | _ => []) (fun _ => none) (fun _ => []) Tryd.func43 rfl (by rw [Tryd.ntmps43]; simp) (Eq.mp (by kernel_rfl) H)
end Go.Proofs.YtpcilleldanfmaaDoor

/- The conditions for calls of functions of the program, in plain form: written by a program (vcgen) off the elaborated code; each is the reckoner's own, by the kernel. -/
set_option linter.unusedVariables false
set_option maxRecDepth 100000
namespace Go.Proofs.YtpcilleldanfmaaDoor
open Go.Vc
theorem vc_muezzinsee_Is (e : Value) (code : Int) (h0 : Heap) (Post : Value → Heap → Prop) (H :
Runs Tryd.prog 41 #[(.int .i64 code)] h0 fun r1 h1 =>
∃ cs1 : List Value,
r1 = (.agg (cs1).toArray) ∧
Runs Tryd.prog 40 #[e, (.agg (cs1).toArray)] h1 fun r2 h2 =>
∃ t1 : Bool,
r2 = (.bool t1) ∧
Post (.bool t1) h2) :
    Runs Tryd.prog 17 #[e, (.int .i64 code)] h0 Post :=
  runs_of (args := [e, (.int .i64 code)]) (fun n => ⟨true, false⟩) (fun _ => []) (fun _ => none) (fun _ => []) Tryd.func17 rfl (by rw [Tryd.ntmps17]; simp) (Eq.mp (by kernel_rfl) H)

theorem vc_muezzinsee_Same (e : Value) (f : List Value) (h0 : Heap) (Post : Value → Heap → Prop) (H :
∀ (b1 : Nat) (h1 : Heap), b1 = h0.size → h1 = h0.push (.cells (f).toArray 75) →
∃ cs1 : List Value, row h1 b1 0 3 = some cs1 ∧
Runs Tryd.prog 64 #[e] h1 fun r1 h2 =>
∃ cs2 : List Value,
r1 = (.agg (cs2).toArray) ∧
row h2 b1 0 3 = some (cs1) ∧
Runs Tryd.prog 63 #[(.agg (cs2).toArray), (.agg (cs1).toArray)] h2 fun r2 h3 =>
∃ t1 : Bool,
r2 = (.bool t1) ∧
Post (.bool t1) h3) :
    Runs Tryd.prog 40 #[e, (.agg (f).toArray)] h0 Post :=
  runs_of (args := [e, (.agg (f).toArray)]) (fun n => ⟨true, false⟩) (fun _ => []) (fun _ => none) (fun _ => []) Tryd.func40 rfl (by rw [Tryd.ntmps40]; simp) (Eq.mp (by kernel_rfl) H)

theorem vc_muezzinref_Bare (code : Int) (h0 : Heap) (Post : Value → Heap → Prop) (H :
∀ (b1 : Nat) (h1 : Heap), b1 = h0.size → h1 = h0.push (.cells ([(.int .i64 (0 : Int)), (.bool false), (.int .i64 (0 : Int))] : List Value).toArray 75) →
((([(.int .i64 code), (.bool false), (.int .i64 (0 : Int))] : List Value)).length = 3 ∧ wrs h1 b1 0 3 ∧ ∀ u ∈ (([(.int .i64 code), (.bool false), (.int .i64 (0 : Int))] : List Value) : List Value), u.oneCell' = true) ∧ ∀ h2 : Heap, h2 = setr h1 b1 0 ([(.int .i64 code), (.bool false), (.int .i64 (0 : Int))] : List Value) →
∃ cs1 : List Value, row h2 b1 0 3 = some cs1 ∧
Post (.agg (cs1).toArray) h2) :
    Runs Tryd.prog 41 #[(.int .i64 code)] h0 Post :=
  runs_of (args := [(.int .i64 code)]) (fun n => ⟨true, false⟩) (fun _ => []) (fun _ => none) (fun _ => []) Tryd.func41 rfl (by rw [Tryd.ntmps41]; simp) (Eq.mp (by kernel_rfl) H)

theorem vc_muezzinref_None  (h0 : Heap) (Post : Value → Heap → Prop) (H :
∀ (b1 : Nat) (h1 : Heap), b1 = h0.size → h1 = h0.push (.cells ([(.int .i64 (0 : Int)), (.bool false), (.int .i64 (0 : Int))] : List Value).toArray 75) →
((([(.int .i64 (0 : Int)), (.bool false), (.int .i64 (0 : Int))] : List Value)).length = 3 ∧ wrs h1 b1 0 3 ∧ ∀ u ∈ (([(.int .i64 (0 : Int)), (.bool false), (.int .i64 (0 : Int))] : List Value) : List Value), u.oneCell' = true) ∧ ∀ h2 : Heap, h2 = setr h1 b1 0 ([(.int .i64 (0 : Int)), (.bool false), (.int .i64 (0 : Int))] : List Value) →
∃ cs1 : List Value, row h2 b1 0 3 = some cs1 ∧
Post (.agg (cs1).toArray) h2) :
    Runs Tryd.prog 79 #[] h0 Post :=
  runs_of (args := []) (fun n => ⟨true, false⟩) (fun _ => []) (fun _ => none) (fun _ => []) Tryd.func79 rfl (by rw [Tryd.ntmps79]; simp) (Eq.mp (by kernel_rfl) H)

theorem vc_muezzinref_Placed (code : Int) (pos : Int) (h0 : Heap) (Post : Value → Heap → Prop) (H :
∀ (b1 : Nat) (h1 : Heap), b1 = h0.size → h1 = h0.push (.cells ([(.int .i64 (0 : Int)), (.bool false), (.int .i64 (0 : Int))] : List Value).toArray 75) →
bcase (decide (code = (0 : Int))) (
Runs Tryd.prog 79 #[] h1 fun r1 h2 =>
∃ cs1 : List Value,
r1 = (.agg (cs1).toArray) ∧
(((cs1)).length = 3 ∧ wrs h2 b1 0 3 ∧ ∀ u ∈ ((cs1) : List Value), u.oneCell' = true) ∧ ∀ h3 : Heap, h3 = setr h2 b1 0 (cs1) →
∃ cs2 : List Value, row h3 b1 0 3 = some cs2 ∧
Post (.agg (cs2).toArray) h3) (
((([(.int .i64 code), (.bool true), (.int .i64 pos)] : List Value)).length = 3 ∧ wrs h1 b1 0 3 ∧ ∀ u ∈ (([(.int .i64 code), (.bool true), (.int .i64 pos)] : List Value) : List Value), u.oneCell' = true) ∧ ∀ h4 : Heap, h4 = setr h1 b1 0 ([(.int .i64 code), (.bool true), (.int .i64 pos)] : List Value) →
∃ cs3 : List Value, row h4 b1 0 3 = some cs3 ∧
Post (.agg (cs3).toArray) h4)) :
    Runs Tryd.prog 81 #[(.int .i64 code), (.int .i64 pos)] h0 Post :=
  runs_of (args := [(.int .i64 code), (.int .i64 pos)]) (fun n => ⟨true, false⟩) (fun _ => []) (fun _ => none) (fun _ => []) Tryd.func81 rfl (by rw [Tryd.ntmps81]; simp) (Eq.mp (by kernel_rfl) H)

theorem vc_muezzinref_SameFault (a : List Value) (b : List Value) (h0 : Heap) (Post : Value → Heap → Prop) (H :
∀ (b1 : Nat) (h1 : Heap), b1 = h0.size → h1 = h0.push (.cells (a).toArray 75) →
∀ (b2 : Nat) (h2 : Heap), b2 = h1.size → h2 = h1.push (.cells (b).toArray 75) →
∃ n1 : Int, cell h2 b1 0 = some (.int .i64 n1) ∧
∃ n2 : Int, cell h2 b2 0 = some (.int .i64 n2) ∧
bcase (decide (n1 = n2)) (
∃ t1 : Bool, cell h2 b1 1 = some (.bool t1) ∧
∃ t2 : Bool, cell h2 b2 1 = some (.bool t2) ∧
bcase (t1 == t2) (
∃ n3 : Int, cell h2 b1 2 = some (.int .i64 n3) ∧
∃ n4 : Int, cell h2 b2 2 = some (.int .i64 n4) ∧
Post (.bool (decide (n3 = n4))) h2) (
Post (.bool false) h2)) (
Post (.bool false) h2)) :
    Runs Tryd.prog 63 #[(.agg (a).toArray), (.agg (b).toArray)] h0 Post :=
  runs_of (args := [(.agg (a).toArray), (.agg (b).toArray)]) (fun n => ⟨true, false⟩) (fun _ => []) (fun _ => none) (fun _ => []) Tryd.func63 rfl (by rw [Tryd.ntmps63]; simp) (Eq.mp (by kernel_rfl) H)

theorem vc_muezzinsee_Fault (e : Value) (h0 : Heap) (Post : Value → Heap → Prop) (H :
∀ (b1 : Nat) (h1 : Heap), b1 = h0.size → h1 = h0.push (.cells ([(.int .i64 (0 : Int)), (.bool false), (.int .i64 (0 : Int))] : List Value).toArray 75) →
∃ t1 : Bool, ifeqH Tryd.prog h1 true (e) (.nilIface) = some t1 ∧
bcase t1 (
Runs Tryd.prog 79 #[] h1 fun r1 h2 =>
∃ cs1 : List Value,
r1 = (.agg (cs1).toArray) ∧
(((cs1)).length = 3 ∧ wrs h2 b1 0 3 ∧ ∀ u ∈ ((cs1) : List Value), u.oneCell' = true) ∧ ∀ h3 : Heap, h3 = setr h2 b1 0 (cs1) →
∃ cs2 : List Value, row h3 b1 0 3 = some cs2 ∧
Post (.agg (cs2).toArray) h3) (
∃ p1 : Option Addr,
∃ t2 : Bool, asr Tryd.prog 129 (e) = some ((.pointer p1), t2) ∧
bcase (!t2) (
Runs Tryd.prog 80 #[e] h1 fun r2 h4 =>
∃ n1 : Int,
r2 = (.int .i64 n1) ∧
Runs Tryd.prog 41 #[(.int .i64 n1)] h4 fun r3 h5 =>
∃ cs3 : List Value,
r3 = (.agg (cs3).toArray) ∧
(((cs3)).length = 3 ∧ wrs h5 b1 0 3 ∧ ∀ u ∈ ((cs3) : List Value), u.oneCell' = true) ∧ ∀ h6 : Heap, h6 = setr h5 b1 0 (cs3) →
∃ cs4 : List Value, row h6 b1 0 3 = some cs4 ∧
Post (.agg (cs4).toArray) h6) (
bcase (isNilAddr p1) (
Runs Tryd.prog 41 #[(.int .i64 (-1 : Int))] h1 fun r4 h7 =>
∃ cs5 : List Value,
r4 = (.agg (cs5).toArray) ∧
(((cs5)).length = 3 ∧ wrs h7 b1 0 3 ∧ ∀ u ∈ ((cs5) : List Value), u.oneCell' = true) ∧ ∀ h8 : Heap, h8 = setr h7 b1 0 (cs5) →
∃ cs6 : List Value, row h8 b1 0 3 = some cs6 ∧
Post (.agg (cs6).toArray) h8) (
onAddr p1 fun b2 o1 =>
∃ v1 : Value, cell h1 b2 (o1 + 1) = some v1 ∧
∃ t3 : Bool, ifeqH Tryd.prog h1 true (v1) (.nilIface) = some t3 ∧
bcase t3 (
Runs Tryd.prog 41 #[(.int .i64 (-1 : Int))] h1 fun r5 h9 =>
∃ cs7 : List Value,
r5 = (.agg (cs7).toArray) ∧
(((cs7)).length = 3 ∧ wrs h9 b1 0 3 ∧ ∀ u ∈ ((cs7) : List Value), u.oneCell' = true) ∧ ∀ h10 : Heap, h10 = setr h9 b1 0 (cs7) →
∃ cs8 : List Value, row h10 b1 0 3 = some cs8 ∧
Post (.agg (cs8).toArray) h10) (
onAddr p1 fun b3 o2 =>
∃ v2 : Value, cell h1 b3 (o2 + 1) = some v2 ∧
onAddr p1 fun b4 o3 =>
∃ n2 : Int, cell h1 b4 o3 = some (.int .i64 n2) ∧
Runs Tryd.prog 80 #[v2] h1 fun r6 h11 =>
∃ n3 : Int,
r6 = (.int .i64 n3) ∧
cell h11 b4 o3 = some (.int .i64 n2) ∧
Runs Tryd.prog 81 #[(.int .i64 n3), (.int .i64 n2)] h11 fun r7 h12 =>
∃ cs9 : List Value,
r7 = (.agg (cs9).toArray) ∧
(((cs9)).length = 3 ∧ wrs h12 b1 0 3 ∧ ∀ u ∈ ((cs9) : List Value), u.oneCell' = true) ∧ ∀ h13 : Heap, h13 = setr h12 b1 0 (cs9) →
∃ cs10 : List Value, row h13 b1 0 3 = some cs10 ∧
Post (.agg (cs10).toArray) h13))))) :
    Runs Tryd.prog 64 #[e] h0 Post :=
  runs_of (args := [e]) (fun n => ⟨true, false⟩) (fun _ => []) (fun _ => none) (fun _ => []) Tryd.func64 rfl (by rw [Tryd.ntmps64]; simp) (Eq.mp (by kernel_rfl) H)

theorem vc_muezzinsee_sentinel (e : Value) (h0 : Heap) (Post : Value → Heap → Prop) (H :
Runs Tryd.prog 87 #[] h0 fun r1 h1 =>
∃ (s1 : Option Addr) (s1l s1c : Nat),
r1 = (.slice s1 s1l s1c) ∧
∃ (I1 : Int → Heap → Prop) (m1 : Int → Heap → Nat), I1 (0 : Int) h1 ∧ ∀ _ : Env,
∀ (i_1 : Int) (h2 : Heap), I1 i_1 h2 →
bcase (decide (i_1 < ((s1l : Nat) : Int))) (
(0 ≤ i_1 ∧ i_1 < ((s1l : Nat) : Int)) ∧
onAddr s1 fun b1 o1 =>
∃ v1 : Value, cell h2 b1 (o1 + (i_1).toNat) = some v1 ∧
Runs Tryd.prog 88 #[e, v1] h2 fun r2 h3 =>
∃ t1 : Bool,
r2 = (.bool t1) ∧
bcase t1 (
fits .i64 ((101 : Int) + i_1) ∧
Post (.int .i64 ((101 : Int) + i_1)) h3) (
fits .i64 (i_1 + (1 : Int)) ∧
I1 (i_1 + (1 : Int)) h3 ∧ m1 (i_1 + (1 : Int)) h3 < m1 i_1 h2)) (
Post (.int .i64 (-1 : Int)) h2)) :
    Runs Tryd.prog 80 #[e] h0 Post :=
  runs_of (args := [e]) (fun n => ⟨true, false⟩) (fun n => match n with | 0 => [(4, .int .i64)] | _ => []) (fun _ => none) (fun _ => []) Tryd.func80 rfl (by rw [Tryd.ntmps80]; simp) (Eq.mp (by kernel_rfl) H)

theorem vc_muezzinsee_sentinels  (h0 : Heap) (Post : Value → Heap → Prop) (H :
∃ v1 : Value, cell h0 1 0 = some v1 ∧
∃ v2 : Value, cell h0 2 0 = some v2 ∧
∃ v3 : Value, cell h0 0 0 = some v3 ∧
∃ v4 : Value, cell h0 3 0 = some v4 ∧
∃ v5 : Value, cell h0 4 0 = some v5 ∧
∃ v6 : Value, cell h0 5 0 = some v6 ∧
∃ v7 : Value, cell h0 6 0 = some v7 ∧
∃ v8 : Value, cell h0 7 0 = some v8 ∧
∃ v9 : Value, cell h0 8 0 = some v9 ∧
∃ v10 : Value, cell h0 9 0 = some v10 ∧
∃ v11 : Value, cell h0 10 0 = some v11 ∧
∃ v12 : Value, cell h0 11 0 = some v12 ∧
∃ v13 : Value, cell h0 12 0 = some v13 ∧
∃ v14 : Value, cell h0 13 0 = some v14 ∧
partv 1 v1 fun cs1 =>
partv 1 v2 fun cs2 =>
partv 1 v3 fun cs3 =>
partv 1 v4 fun cs4 =>
partv 1 v5 fun cs5 =>
partv 1 v6 fun cs6 =>
partv 1 v7 fun cs7 =>
partv 1 v8 fun cs8 =>
partv 1 v9 fun cs9 =>
partv 1 v10 fun cs10 =>
partv 1 v11 fun cs11 =>
partv 1 v12 fun cs12 =>
partv 1 v13 fun cs13 =>
partv 1 v14 fun cs14 =>
∀ (b1 : Nat) (h1 : Heap), b1 = h0.size → h1 = h0.push (.cells ((cs1 ++ (cs2 ++ (cs3 ++ (cs4 ++ (cs5 ++ (cs6 ++ (cs7 ++ (cs8 ++ (cs9 ++ (cs10 ++ (cs11 ++ (cs12 ++ (cs13 ++ (cs14 ++ []))))))))))))))).toArray 26) →
Post (.slice (some ⟨b1, 0, none⟩) 14 14) h1) :
    Runs Tryd.prog 87 #[] h0 Post :=
  runs_of (args := []) (fun n => ⟨true, false⟩) (fun _ => []) (fun _ => none) (fun _ => []) Tryd.func87 rfl (by rw [Tryd.ntmps87]; simp) (Eq.mp (by kernel_rfl) H)

theorem vc_muezzinsee_Alike (a : Value) (b : Value) (h0 : Heap) (Post : Value → Heap → Prop) (H :
∃ t1 : Bool, ifeqH Tryd.prog h0 true (a) (.nilIface) = some t1 ∧
bcase t1 (
∃ t2 : Bool, ifeqH Tryd.prog h0 true (a) (.nilIface) = some t2 ∧
bcase t2 (
∃ t3 : Bool, ifeqH Tryd.prog h0 true (b) (.nilIface) = some t3 ∧
Post (.bool t3) h0) (
Post (.bool false) h0)) (
∃ t4 : Bool, ifeqH Tryd.prog h0 true (b) (.nilIface) = some t4 ∧
bcase t4 (
∃ t5 : Bool, ifeqH Tryd.prog h0 true (a) (.nilIface) = some t5 ∧
bcase t5 (
∃ t6 : Bool, ifeqH Tryd.prog h0 true (b) (.nilIface) = some t6 ∧
Post (.bool t6) h0) (
Post (.bool false) h0)) (
∃ t7 : Bool, ifeqH Tryd.prog h0 false (a) (b) = some t7 ∧
Post (.bool t7) h0))) :
    Runs Tryd.prog 88 #[a, b] h0 Post :=
  runs_of (args := [a, b]) (fun n => ⟨true, false⟩) (fun _ => []) (fun _ => none) (fun _ => []) Tryd.func88 rfl (by rw [Tryd.ntmps88]; simp) (Eq.mp (by kernel_rfl) H)
end Go.Proofs.YtpcilleldanfmaaDoor

/- The conditions for calls of functions of the program, in plain form: written by a program (vcgen) off the elaborated code; each is the reckoner's own, by the kernel. -/
set_option linter.unusedVariables false
set_option maxRecDepth 100000
namespace Go.Proofs.YtpcilleldanfmaaDoor
open Go.Vc
theorem vc_muezzinworld_Number (n : Int) (below : Int) (h0 : Heap) (Post : Value → Heap → Prop) (H :
below ≠ 0 ∧
bcase (decide (((n).tmod below) < (0 : Int))) (
fits .i64 (((n).tmod below) + below) ∧
Post (.int .i64 (((n).tmod below) + below)) h0) (
Post (.int .i64 ((n).tmod below)) h0)) :
    Runs Tryd.prog 8 #[(.int .i64 n), (.int .i64 below)] h0 Post :=
  runs_of (args := [(.int .i64 n), (.int .i64 below)]) (fun n => ⟨!memB n [1, 2], false⟩) (fun _ => []) (fun _ => none) (fun _ => []) Tryd.func8 rfl (by rw [Tryd.ntmps8]; simp) (Eq.mp (by kernel_rfl) H)
end Go.Proofs.YtpcilleldanfmaaDoor

/- The conditions for calls of functions of the program, in plain form: written by a program (vcgen) off the elaborated code; each is the reckoner's own, by the kernel. -/
set_option linter.unusedVariables false
set_option maxRecDepth 100000
namespace Go.Proofs.YtpcilleldanfmaaDoor
open Go.Vc
theorem vc_muezzinlaw14_first  (h0 : Heap) (Post : Value → Heap → Prop) (H :
Runs Tryd.prog 9 #[(.int .u32 (1 : Int)), (.int .i64 (5 : Int)), (.int .i64 (100 : Int)), (.int .i64 (2 : Int)), (.int .i64 (100 : Int))] h0 fun r1 h1 =>
∃ p1 : Option Addr,
∃ v1 : Value,
r1 = (.tuple #[(.pointer p1), v1]) ∧
∃ J1 : Bool → Heap → Prop, (
bcase (isNilAddr p1) (
J1 true h1) (
∃ t1 : Bool, ifeqH Tryd.prog h1 true (v1) (.nilIface) = some t1 ∧
J1 (!t1) h1)) ∧ ∀ _ : Env,
∀ (x1 : Bool) (h2 : Heap), J1 x1 h2 →
bcase x1 (
Post (.bool false) h2) (
Runs Tryd.prog 12 #[(.pointer p1), (.int .i64 (1 : Int)), (.int .i64 (0 : Int))] h2 fun r2 h3 =>
∃ t2 : Bool,
r2 = (.bool t2) ∧
bcase t2 (
Post (.bool false) h3) (
Runs Tryd.prog 10 #[(.pointer p1), (.int .i64 (1 : Int)), (.agg #[(.int .i64 (3 : Int)), (.int .u32 (0 : Int)), (.int .i64 (0 : Int)), (.int .i64 (0 : Int)), (.slice none 0 0)])] h3 fun r3 h4 =>
∃ (s1 : Option Addr) (s1l s1c : Nat),
∃ v2 : Value,
r3 = (.tuple #[(.slice s1 s1l s1c), v2]) ∧
∃ J2 : Bool → Heap → Prop, (
∃ t3 : Bool, ifeqH Tryd.prog h4 true (v2) (.nilIface) = some t3 ∧
bcase t3 (
J2 (decide (((s1l : Nat) : Int) = (0 : Int))) h4) (
J2 false h4)) ∧ ∀ _ : Env,
∀ (x2 : Bool) (h5 : Heap), J2 x2 h5 →
∃ J3 : Bool → Heap → Prop, (
bcase x2 (
Runs Tryd.prog 13 #[(.pointer p1)] h5 fun r4 h6 =>
∃ n1 : Int,
r4 = (.int .i64 n1) ∧
J3 (decide (n1 = (1 : Int))) h6) (
J3 false h5)) ∧ ∀ _ : Env,
∀ (x3 : Bool) (h7 : Heap), J3 x3 h7 →
bcase x3 (
Runs Tryd.prog 12 #[(.pointer p1), (.int .i64 (1 : Int)), (.int .i64 (0 : Int))] h7 fun r5 h8 =>
∃ t4 : Bool,
r5 = (.bool t4) ∧
Post (.bool t4) h8) (
Post (.bool false) h7)))) :
    Runs Tryd.prog 7 #[] h0 Post :=
  runs_of (args := []) (fun n => ⟨true, false⟩) (fun _ => []) (fun _ => none) (fun n => match n with | 2 => [(6, [(14, .bool)])] | 5 => [(7, [(31, .bool)]), (5, [(36, .bool)])] | _ => []) Tryd.func7 rfl (by rw [Tryd.ntmps7]; simp) (Eq.mp (by kernel_rfl) H)

theorem vc_muezzinlaw14_PoolFattest (n : Int) (aid : Int) (tid : Int) (h0 : Heap) (Post : Value → Heap → Prop) (H :
Runs Tryd.prog 7 #[] h0 fun r1 h1 =>
∃ t1 : Bool,
r1 = (.bool t1) ∧
bcase (!t1) (
Post (.bool false) h1) (
Runs Tryd.prog 8 #[(.int .i64 n), (.int .i64 (12 : Int))] h1 fun r2 h2 =>
∃ n1 : Int,
r2 = (.int .i64 n1) ∧
fits .i64 (n1 + (4 : Int)) ∧
Runs Tryd.prog 8 #[(.int .i64 aid), (.int .i64 (15 : Int))] h2 fun r3 h3 =>
∃ n2 : Int,
r3 = (.int .i64 n2) ∧
fits .i64 (n2 + (2 : Int)) ∧
Runs Tryd.prog 8 #[(.int .i64 tid), (.int .i64 (8 : Int))] h3 fun r4 h4 =>
∃ n3 : Int,
r4 = (.int .i64 n3) ∧
Runs Tryd.prog 9 #[(.int .u32 (3 : Int)), (.int .i64 (50 : Int)), (.int .i64 (1000 : Int)), (.int .i64 (n1 + (4 : Int))), (.int .i64 (1048576 : Int))] h4 fun r5 h5 =>
∃ p1 : Option Addr,
∃ v1 : Value,
r5 = (.tuple #[(.pointer p1), v1]) ∧
bcase (isNilAddr p1) (
Post (.bool false) h5) (
∃ t2 : Bool, ifeqH Tryd.prog h5 true (v1) (.nilIface) = some t2 ∧
bcase (!t2) (
Post (.bool false) h5) (
(0 ≤ (10 : Int) ∧ (10 : Int) ≤ (10 : Int) ∧ ((1 : Nat) : Int) * (10 : Int) ≤ 281474976710656 ∧ (10 : Int) ≤ 9223372036854775807) ∧ ∀ (b1 : Nat) (h6 : Heap), b1 = h5.size → h6 = h5.push (.cells (joinL (List.replicate 10 [(.int .u8 (0 : Int))])).toArray 5) →
Runs Tryd.prog 10 #[(.pointer p1), (.int .i64 (1 : Int)), (.agg #[(.int .i64 (1 : Int)), (.int .u32 (0 : Int)), (.int .i64 (0 : Int)), (.int .i64 (0 : Int)), (.slice (some ⟨b1, 0, none⟩) 10 10)])] h6 fun r6 h7 =>
∃ (s1 : Option Addr) (s1l s1c : Nat),
∃ v2 : Value,
r6 = (.tuple #[(.slice s1 s1l s1c), v2]) ∧
(0 ≤ (20 : Int) ∧ (20 : Int) ≤ (20 : Int) ∧ ((1 : Nat) : Int) * (20 : Int) ≤ 281474976710656 ∧ (20 : Int) ≤ 9223372036854775807) ∧ ∀ (b2 : Nat) (h8 : Heap), b2 = h7.size → h8 = h7.push (.cells (joinL (List.replicate 20 [(.int .u8 (0 : Int))])).toArray 5) →
Runs Tryd.prog 10 #[(.pointer p1), (.int .i64 (n2 + (2 : Int))), (.agg #[(.int .i64 (2 : Int)), (.int .u32 (8 : Int)), (.int .i64 n3), (.int .i64 (0 : Int)), (.slice (some ⟨b2, 0, none⟩) 20 20)])] h8 fun r7 h9 =>
∃ (s2 : Option Addr) (s2l s2c : Nat),
∃ v3 : Value,
r7 = (.tuple #[(.slice s2 s2l s2c), v3]) ∧
∃ (I1 : Int → Heap → Prop) (m1 : Int → Heap → Nat), I1 (3 : Int) h9 ∧ ∀ _ : Env,
∀ (i_1 : Int) (h10 : Heap), I1 i_1 h10 →
fits .i64 ((n1 + (4 : Int)) + (8 : Int)) ∧
bcase (decide (i_1 < ((n1 + (4 : Int)) + (8 : Int)))) (
(0 ≤ (400 : Int) ∧ (400 : Int) ≤ (400 : Int) ∧ ((1 : Nat) : Int) * (400 : Int) ≤ 281474976710656 ∧ (400 : Int) ≤ 9223372036854775807) ∧ ∀ (b3 : Nat) (h11 : Heap), b3 = h10.size → h11 = h10.push (.cells (joinL (List.replicate 400 [(.int .u8 (0 : Int))])).toArray 5) →
Runs Tryd.prog 10 #[(.pointer p1), (.int .i64 (n2 + (2 : Int))), (.agg #[(.int .i64 i_1), (.int .u32 (9 : Int)), (.int .i64 n3), (.int .i64 (0 : Int)), (.slice (some ⟨b3, 0, none⟩) 400 400)])] h11 fun r8 h12 =>
∃ (s3 : Option Addr) (s3l s3c : Nat),
∃ v4 : Value,
r8 = (.tuple #[(.slice s3 s3l s3c), v4]) ∧
∃ t3 : Bool, ifeqH Tryd.prog h12 true (v4) (.nilIface) = some t3 ∧
bcase (!t3) (
bcase t1 (
∃ t4 : Bool, ifeqH Tryd.prog h12 true (v4) (.nilIface) = some t4 ∧
Post (.bool t4) h12) (
Post (.bool false) h12)) (
Runs Tryd.prog 11 #[(.int .u32 (8 : Int)), (.int .u32 (3 : Int))] h12 fun r9 h13 =>
∃ n4 : Int,
r9 = (.int .i64 n4) ∧
Runs Tryd.prog 11 #[(.int .u32 (9 : Int)), (.int .u32 (3 : Int))] h13 fun r10 h14 =>
∃ n5 : Int,
r10 = (.int .i64 n5) ∧
bcase (decide (n4 = n5)) (
bcase t1 (
∃ t5 : Bool, ifeqH Tryd.prog h14 true (v4) (.nilIface) = some t5 ∧
Post (.bool t5) h14) (
Post (.bool false) h14)) (
∃ J1 : Bool → Heap → Prop, (
bcase (decide (i_1 ≤ (n1 + (4 : Int)))) (
J1 (!decide (((s3l : Nat) : Int) = (0 : Int))) h14) (
J1 false h14)) ∧ ∀ _ : Env,
∀ (x2 : Bool) (h15 : Heap), J1 x2 h15 →
bcase x2 (
Post (.bool false) h15) (
bcase (decide ((n1 + (4 : Int)) < i_1)) (
bcase (!decide (((s3l : Nat) : Int) = (1 : Int))) (
Post (.bool false) h15) (
(0 ≤ (0 : Int) ∧ (0 : Int) < ((s3l : Nat) : Int)) ∧
onAddr s3 fun b4 o1 =>
∃ n6 : Int, cell h15 b4 o1 = some (.int .i64 n6) ∧
fits .i64 (i_1 - (n1 + (4 : Int))) ∧
fits .i64 ((i_1 - (n1 + (4 : Int))) + (2 : Int)) ∧
bcase (!decide (n6 = ((i_1 - (n1 + (4 : Int))) + (2 : Int)))) (
Post (.bool false) h15) (
fits .i64 (i_1 + (1 : Int)) ∧
I1 (i_1 + (1 : Int)) h15 ∧ m1 (i_1 + (1 : Int)) h15 < m1 i_1 h10))) (
fits .i64 (i_1 + (1 : Int)) ∧
I1 (i_1 + (1 : Int)) h15 ∧ m1 (i_1 + (1 : Int)) h15 < m1 i_1 h10))))) (
∃ J2 : Bool → Heap → Prop, (
bcase t1 (
Runs Tryd.prog 12 #[(.pointer p1), (.int .i64 (1 : Int)), (.int .i64 (0 : Int))] h10 fun r11 h16 =>
∃ t6 : Bool,
r11 = (.bool t6) ∧
J2 t6 h16) (
J2 false h10)) ∧ ∀ _ : Env,
∀ (x3 : Bool) (h17 : Heap), J2 x3 h17 →
∃ J3 : Bool → Heap → Prop, (
bcase x3 (
Runs Tryd.prog 12 #[(.pointer p1), (.int .i64 (n2 + (2 : Int))), (.int .i64 n3)] h17 fun r12 h18 =>
∃ t7 : Bool,
r12 = (.bool t7) ∧
J3 t7 h18) (
J3 false h17)) ∧ ∀ _ : Env,
∀ (x4 : Bool) (h19 : Heap), J3 x4 h19 →
bcase x4 (
Runs Tryd.prog 13 #[(.pointer p1)] h19 fun r13 h20 =>
∃ n7 : Int,
r13 = (.int .i64 n7) ∧
Post (.bool (decide (n7 = (n1 + (4 : Int))))) h20) (
Post (.bool false) h19)))))) :
    Runs Tryd.prog 3 #[(.int .i64 n), (.int .i64 aid), (.int .i64 tid)] h0 Post :=
  runs_of (args := [(.int .i64 n), (.int .i64 aid), (.int .i64 tid)]) (fun n => ⟨true, false⟩) (fun n => match n with | 0 => [(10, .int .i64)] | _ => []) (fun _ => none) (fun n => match n with | 18 => [(8, [(80, .bool)])] | 20 => [(5, [(106, .bool)]), (6, [(112, .bool)])] | _ => []) Tryd.func3 rfl (by rw [Tryd.ntmps3]; simp) (Eq.mp (by kernel_rfl) H)

theorem vc_muezzinlaw14_PoolLimits (packets : Int) (bytes : Int) (l : Option Addr) (lL lC : Nat) (h0 : Heap) (Post : Value → Heap → Prop) (H :
Runs Tryd.prog 7 #[] h0 fun r1 h1 =>
∃ t1 : Bool,
r1 = (.bool t1) ∧
bcase (!t1) (
Post (.bool false) h1) (
Runs Tryd.prog 8 #[(.int .i64 packets), (.int .i64 (20 : Int))] h1 fun r2 h2 =>
∃ n1 : Int,
r2 = (.int .i64 n1) ∧
fits .i64 (n1 + (1 : Int)) ∧
Runs Tryd.prog 8 #[(.int .i64 bytes), (.int .i64 (2000 : Int))] h2 fun r3 h3 =>
∃ n2 : Int,
r3 = (.int .i64 n2) ∧
fits .i64 (n2 + (1 : Int)) ∧
bcase (decide ((60 : Int) < ((lL : Nat) : Int))) (
Post (.bool t1) h3) (
Runs Tryd.prog 9 #[(.int .u32 (7 : Int)), (.int .i64 (50 : Int)), (.int .i64 (1000 : Int)), (.int .i64 (n1 + (1 : Int))), (.int .i64 (n2 + (1 : Int)))] h3 fun r4 h4 =>
∃ p1 : Option Addr,
∃ v1 : Value,
r4 = (.tuple #[(.pointer p1), v1]) ∧
bcase (isNilAddr p1) (
Post (.bool false) h4) (
∃ t2 : Bool, ifeqH Tryd.prog h4 true (v1) (.nilIface) = some t2 ∧
bcase (!t2) (
Post (.bool false) h4) (
fits .i64 (((lL : Nat) : Int) + (1 : Int)) ∧
(0 ≤ (((lL : Nat) : Int) + (1 : Int)) ∧ (((lL : Nat) : Int) + (1 : Int)) ≤ (((lL : Nat) : Int) + (1 : Int)) ∧ ((1 : Nat) : Int) * (((lL : Nat) : Int) + (1 : Int)) ≤ 281474976710656 ∧ (((lL : Nat) : Int) + (1 : Int)) ≤ 9223372036854775807) ∧ ∀ (b1 : Nat) (h5 : Heap), b1 = h4.size → h5 = h4.push (.cells (joinL (List.replicate ((((lL : Nat) : Int) + (1 : Int))).toNat [(.bool false)])).toArray 4) →
∃ (I1 : Int → Int → Int → Heap → Prop) (m1 : Int → Int → Int → Heap → Nat), I1 (0 : Int) (0 : Int) (0 : Int) h5 ∧ ∀ _ : Env,
∀ (n_1 : Int) (out_1 : Int) (i_1 : Int) (h6 : Heap), I1 n_1 out_1 i_1 h6 →
bcase (decide (i_1 < ((lL : Nat) : Int))) (
(0 ≤ i_1 ∧ i_1 < ((lL : Nat) : Int)) ∧
onAddr l fun b2 o1 =>
∃ (s1 : Option Addr) (s1l s1c : Nat), cell h6 b2 (((o1 + ((i_1).toNat * 9)) + 4) + 4) = some (.slice s1 s1l s1c) ∧
bcase (decide ((300 : Int) < ((s1l : Nat) : Int))) (
Post (.bool t1) h6) (
∃ J1 : Option Addr → Heap → Prop, (
fits .i64 (i_1 + (1 : Int)) ∧
(0 ≤ i_1 ∧ i_1 < ((lL : Nat) : Int)) ∧
onAddr l fun b3 o2 =>
∃ n3 : Int, cell h6 b3 (((o2 + ((i_1).toNat * 9)) + 4) + 1) = some (.int .u32 n3) ∧
(0 ≤ i_1 ∧ i_1 < ((lL : Nat) : Int)) ∧
onAddr l fun b4 o3 =>
∃ n4 : Int, cell h6 b4 ((o3 + ((i_1).toNat * 9)) + 2) = some (.int .i64 n4) ∧
(0 ≤ i_1 ∧ i_1 < ((lL : Nat) : Int)) ∧
onAddr l fun b5 o4 =>
∃ (s2 : Option Addr) (s2l s2c : Nat), cell h6 b5 (((o4 + ((i_1).toNat * 9)) + 4) + 4) = some (.slice s2 s2l s2c) ∧
(
Runs Tryd.prog 8 #[(.int .i64 n4), (.int .i64 (8 : Int))] h6 fun r5 h7 =>
∃ n5 : Int,
r5 = (.int .i64 n5) ∧
cell h7 b5 (((o4 + ((i_1).toNat * 9)) + 4) + 4) = some (.slice s2 s2l s2c) ∧
cell h7 b3 (((o2 + ((i_1).toNat * 9)) + 4) + 1) = some (.int .u32 n3) ∧
∀ (b6 : Nat) (h8 : Heap), b6 = h7.size → h8 = h7.push (.cells ([(.int .i64 (0 : Int)), (.int .u32 (0 : Int)), (.int .i64 (0 : Int)), (.int .i64 (0 : Int)), (.slice none 0 0)] : List Value).toArray 35) →
((([(.int .i64 (i_1 + (1 : Int))), (.int .u32 n3), (.int .i64 n5), (.int .i64 (0 : Int)), (.slice s2 s2l s2c)] : List Value)).length = 5 ∧ wrs h8 b6 0 5 ∧ ∀ u ∈ (([(.int .i64 (i_1 + (1 : Int))), (.int .u32 n3), (.int .i64 n5), (.int .i64 (0 : Int)), (.slice s2 s2l s2c)] : List Value) : List Value), u.oneCell' = true) ∧ ∀ h9 : Heap, h9 = setr h8 b6 0 ([(.int .i64 (i_1 + (1 : Int))), (.int .u32 n3), (.int .i64 n5), (.int .i64 (0 : Int)), (.slice s2 s2l s2c)] : List Value) →
J1 (some ⟨b6, 0, none⟩) h9) ∧
(
∀ (b7 : Nat) (h10 : Heap), b7 = h6.size → h10 = h6.push (.cells ([(.int .i64 (0 : Int)), (.int .u32 (0 : Int)), (.int .i64 (0 : Int)), (.int .i64 (0 : Int)), (.slice none 0 0)] : List Value).toArray 35) →
Runs Tryd.prog 8 #[(.int .i64 n4), (.int .i64 (8 : Int))] h10 fun r6 h11 =>
∃ n6 : Int,
r6 = (.int .i64 n6) ∧
cell h11 b5 (((o4 + ((i_1).toNat * 9)) + 4) + 4) = some (.slice s2 s2l s2c) ∧
cell h11 b3 (((o2 + ((i_1).toNat * 9)) + 4) + 1) = some (.int .u32 n3) ∧
((([(.int .i64 (i_1 + (1 : Int))), (.int .u32 n3), (.int .i64 n6), (.int .i64 (0 : Int)), (.slice s2 s2l s2c)] : List Value)).length = 5 ∧ wrs h11 b7 0 5 ∧ ∀ u ∈ (([(.int .i64 (i_1 + (1 : Int))), (.int .u32 n3), (.int .i64 n6), (.int .i64 (0 : Int)), (.slice s2 s2l s2c)] : List Value) : List Value), u.oneCell' = true) ∧ ∀ h12 : Heap, h12 = setr h11 b7 0 ([(.int .i64 (i_1 + (1 : Int))), (.int .u32 n3), (.int .i64 n6), (.int .i64 (0 : Int)), (.slice s2 s2l s2c)] : List Value) →
J1 (some ⟨b7, 0, none⟩) h12)) ∧ ∀ _ : Env,
∀ (x_1 : Option Addr) (h13 : Heap), J1 x_1 h13 →
(0 ≤ i_1 ∧ i_1 < ((lL : Nat) : Int)) ∧
onAddr l fun b8 o5 =>
∃ n7 : Int, cell h13 b8 ((o5 + ((i_1).toNat * 9)) + 1) = some (.int .i64 n7) ∧
onAddr x_1 fun b9 o6 =>
∃ cs1 : List Value, row h13 b9 o6 5 = some cs1 ∧
Runs Tryd.prog 8 #[(.int .i64 n7), (.int .i64 (16 : Int))] h13 fun r7 h14 =>
∃ n8 : Int,
r7 = (.int .i64 n8) ∧
row h14 b9 o6 5 = some (cs1) ∧
fits .i64 (n8 + (1 : Int)) ∧
Runs Tryd.prog 10 #[(.pointer p1), (.int .i64 (n8 + (1 : Int))), (.agg (cs1).toArray)] h14 fun r8 h15 =>
∃ (s3 : Option Addr) (s3l s3c : Nat),
∃ v2 : Value,
r8 = (.tuple #[(.slice s3 s3l s3c), v2]) ∧
∃ t3 : Bool, ifeqH Tryd.prog h15 true (v2) (.nilIface) = some t3 ∧
bcase (!t3) (
Post (.bool false) h15) (
fits .i64 (n_1 + (1 : Int)) ∧
∃ (I2 : Int → Int → Heap → Prop) (m2 : Int → Int → Heap → Nat), I2 out_1 (0 : Int) h15 ∧ ∀ _ : Env,
∀ (out_2 : Int) (k_1 : Int) (h16 : Heap), I2 out_2 k_1 h16 →
bcase (decide (k_1 < ((s3l : Nat) : Int))) (
∃ J2 : Bool → Heap → Prop, (
(0 ≤ k_1 ∧ k_1 < ((s3l : Nat) : Int)) ∧
onAddr s3 fun b10 o7 =>
∃ n9 : Int, cell h16 b10 (o7 + ((k_1).toNat * 5)) = some (.int .i64 n9) ∧
bcase (decide (n9 < (1 : Int))) (
J2 true h16) (
(0 ≤ k_1 ∧ k_1 < ((s3l : Nat) : Int)) ∧
onAddr s3 fun b11 o8 =>
∃ n10 : Int, cell h16 b11 (o8 + ((k_1).toNat * 5)) = some (.int .i64 n10) ∧
fits .i64 (i_1 + (1 : Int)) ∧
J2 (decide ((i_1 + (1 : Int)) < n10)) h16)) ∧ ∀ _ : Env,
∀ (x7 : Bool) (h17 : Heap), J2 x7 h17 →
bcase x7 (
Post (.bool false) h17) (
(0 ≤ k_1 ∧ k_1 < ((s3l : Nat) : Int)) ∧
onAddr s3 fun b12 o9 =>
∃ n11 : Int, cell h17 b12 (o9 + ((k_1).toNat * 5)) = some (.int .i64 n11) ∧
(0 ≤ n11 ∧ n11 < ((((((lL : Nat) : Int) + (1 : Int))).toNat : Nat) : Int)) ∧
∃ t4 : Bool, cell h17 b1 (0 + (n11).toNat) = some (.bool t4) ∧
bcase t4 (
Post (.bool false) h17) (
(0 ≤ k_1 ∧ k_1 < ((s3l : Nat) : Int)) ∧
onAddr s3 fun b13 o10 =>
∃ n12 : Int, cell h17 b13 (o10 + ((k_1).toNat * 5)) = some (.int .i64 n12) ∧
(0 ≤ n12 ∧ n12 < ((((((lL : Nat) : Int) + (1 : Int))).toNat : Nat) : Int)) ∧
wr h17 b1 (0 + (n12).toNat) ∧ ∀ h18 : Heap, h18 = setc h17 b1 (0 + (n12).toNat) (.bool true) →
fits .i64 (out_2 + (1 : Int)) ∧
fits .i64 (k_1 + (1 : Int)) ∧
I2 (out_2 + (1 : Int)) (k_1 + (1 : Int)) h18 ∧ m2 (out_2 + (1 : Int)) (k_1 + (1 : Int)) h18 < m2 out_2 k_1 h16))) (
∃ J3 : Bool → Heap → Prop, (
Runs Tryd.prog 13 #[(.pointer p1)] h16 fun r9 h19 =>
∃ n13 : Int,
r9 = (.int .i64 n13) ∧
bcase (decide ((n1 + (1 : Int)) < n13)) (
J3 true h19) (
Runs Tryd.prog 14 #[(.pointer p1)] h19 fun r10 h20 =>
∃ n14 : Int,
r10 = (.int .i64 n14) ∧
J3 (decide ((n2 + (1 : Int)) < n14)) h20)) ∧ ∀ _ : Env,
∀ (x8 : Bool) (h21 : Heap), J3 x8 h21 →
bcase x8 (
Post (.bool false) h21) (
Runs Tryd.prog 13 #[(.pointer p1)] h21 fun r11 h22 =>
∃ n15 : Int,
r11 = (.int .i64 n15) ∧
fits .i64 ((n_1 + (1 : Int)) - out_2) ∧
bcase (!decide (n15 = ((n_1 + (1 : Int)) - out_2))) (
Post (.bool false) h22) (
fits .i64 (i_1 + (1 : Int)) ∧
I1 (n_1 + (1 : Int)) out_2 (i_1 + (1 : Int)) h22 ∧ m1 (n_1 + (1 : Int)) out_2 (i_1 + (1 : Int)) h22 < m1 n_1 out_1 i_1 h6)))))) (
∃ (I3 : Int → Int → Heap → Prop) (m3 : Int → Int → Heap → Nat), I3 out_1 (1 : Int) h6 ∧ ∀ _ : Env,
∀ (out_3 : Int) (a_1 : Int) (h23 : Heap), I3 out_3 a_1 h23 →
bcase (decide (a_1 ≤ (16 : Int))) (
Runs Tryd.prog 15 #[(.pointer p1), (.int .i64 a_1)] h23 fun r12 h24 =>
∃ (s4 : Option Addr) (s4l s4c : Nat),
r12 = (.slice s4 s4l s4c) ∧
∃ (I4 : Int → Int → Heap → Prop) (m4 : Int → Int → Heap → Nat), I4 out_3 (0 : Int) h24 ∧ ∀ _ : Env,
∀ (out_4 : Int) (k_2 : Int) (h25 : Heap), I4 out_4 k_2 h25 →
bcase (decide (k_2 < ((s4l : Nat) : Int))) (
∃ J4 : Bool → Heap → Prop, (
(0 ≤ k_2 ∧ k_2 < ((s4l : Nat) : Int)) ∧
onAddr s4 fun b14 o11 =>
∃ n16 : Int, cell h25 b14 (o11 + ((k_2).toNat * 5)) = some (.int .i64 n16) ∧
bcase (decide (n16 < (1 : Int))) (
J4 true h25) (
(0 ≤ k_2 ∧ k_2 < ((s4l : Nat) : Int)) ∧
onAddr s4 fun b15 o12 =>
∃ n17 : Int, cell h25 b15 (o12 + ((k_2).toNat * 5)) = some (.int .i64 n17) ∧
J4 (decide (((lL : Nat) : Int) < n17)) h25)) ∧ ∀ _ : Env,
∀ (x13 : Bool) (h26 : Heap), J4 x13 h26 →
bcase x13 (
Post (.bool false) h26) (
(0 ≤ k_2 ∧ k_2 < ((s4l : Nat) : Int)) ∧
onAddr s4 fun b16 o13 =>
∃ n18 : Int, cell h26 b16 (o13 + ((k_2).toNat * 5)) = some (.int .i64 n18) ∧
(0 ≤ n18 ∧ n18 < ((((((lL : Nat) : Int) + (1 : Int))).toNat : Nat) : Int)) ∧
∃ t5 : Bool, cell h26 b1 (0 + (n18).toNat) = some (.bool t5) ∧
bcase t5 (
Post (.bool false) h26) (
(0 ≤ k_2 ∧ k_2 < ((s4l : Nat) : Int)) ∧
onAddr s4 fun b17 o14 =>
∃ n19 : Int, cell h26 b17 (o14 + ((k_2).toNat * 5)) = some (.int .i64 n19) ∧
(0 ≤ n19 ∧ n19 < ((((((lL : Nat) : Int) + (1 : Int))).toNat : Nat) : Int)) ∧
wr h26 b1 (0 + (n19).toNat) ∧ ∀ h27 : Heap, h27 = setc h26 b1 (0 + (n19).toNat) (.bool true) →
fits .i64 (out_4 + (1 : Int)) ∧
fits .i64 (k_2 + (1 : Int)) ∧
I4 (out_4 + (1 : Int)) (k_2 + (1 : Int)) h27 ∧ m4 (out_4 + (1 : Int)) (k_2 + (1 : Int)) h27 < m4 out_4 k_2 h25))) (
fits .i64 (a_1 + (1 : Int)) ∧
I3 out_4 (a_1 + (1 : Int)) h25 ∧ m3 out_4 (a_1 + (1 : Int)) h25 < m3 out_3 a_1 h23)) (
∃ J5 : Bool → Heap → Prop, (
bcase t1 (
J5 (decide (out_3 = n_1)) h23) (
J5 false h23)) ∧ ∀ _ : Env,
∀ (x14 : Bool) (h28 : Heap), J5 x14 h28 →
∃ J6 : Bool → Heap → Prop, (
bcase x14 (
Runs Tryd.prog 13 #[(.pointer p1)] h28 fun r13 h29 =>
∃ n20 : Int,
r13 = (.int .i64 n20) ∧
J6 (decide (n20 = (0 : Int))) h29) (
J6 false h28)) ∧ ∀ _ : Env,
∀ (x15 : Bool) (h30 : Heap), J6 x15 h30 →
bcase x15 (
Runs Tryd.prog 14 #[(.pointer p1)] h30 fun r14 h31 =>
∃ n21 : Int,
r14 = (.int .i64 n21) ∧
Post (.bool (decide (n21 = (0 : Int)))) h31) (
Post (.bool false) h30)))))))) :
    Runs Tryd.prog 4 #[(.int .i64 packets), (.int .i64 bytes), (.slice l lL lC)] h0 Post :=
  runs_of (args := [(.int .i64 packets), (.int .i64 bytes), (.slice l lL lC)]) (fun n => ⟨true, false⟩) (fun n => match n with | 0 => [(10, .int .i64), (12, .int .i64), (13, .int .i64)] | 2 => [(12, .int .i64), (17, .int .i64)] | 4 => [(12, .int .i64), (18, .int .i64)] | 6 => [(12, .int .i64), (20, .int .i64)] | _ => []) (fun n => match n with | 20 => some [(14, .ptr)] | _ => none) (fun n => match n with | 27 => [(16, [(124, .bool)])] | 31 => [(10, [(153, .bool)])] | 40 => [(16, [(190, .bool)])] | 44 => [(6, [(215, .bool)]), (5, [(220, .bool)])] | _ => []) Tryd.func4 rfl (by rw [Tryd.ntmps4]; simp) (Eq.mp (by kernel_rfl) H)
end Go.Proofs.YtpcilleldanfmaaDoor

/- The conditions for calls of functions of the program, in plain form: written by a program (vcgen) off the elaborated code; each is the reckoner's own, by the kernel. -/
set_option linter.unusedVariables false
set_option maxRecDepth 100000
namespace Go.Proofs.YtpcilleldanfmaaDoor
open Go.Vc
theorem vc_muezzinlaw14_PoolPlays (seed : Int) (packets : Int) (bytes : Int) (l : Option Addr) (lL lC : Nat) (h0 : Heap) (Post : Value → Heap → Prop) (H :
Runs Tryd.prog 7 #[] h0 fun r1 h1 =>
∃ t1 : Bool,
r1 = (.bool t1) ∧
bcase (!t1) (
Post (.bool false) h1) (
Runs Tryd.prog 9 #[(.int .u32 seed), (.int .i64 (50 : Int)), (.int .i64 (1000 : Int)), (.int .i64 packets), (.int .i64 bytes)] h1 fun r2 h2 =>
∃ p1 : Option Addr,
∃ v1 : Value,
r2 = (.tuple #[(.pointer p1), v1]) ∧
∃ J1 : Bool → Heap → Prop, (
bcase (decide (packets < (1 : Int))) (
J1 true h2) (
J1 (decide ((512 : Int) < packets)) h2)) ∧ ∀ _ : Env,
∀ (x1 : Bool) (h3 : Heap), J1 x1 h3 →
∃ J2 : Bool → Heap → Prop, (
bcase x1 (
J2 true h3) (
J2 (decide (bytes < (1 : Int))) h3)) ∧ ∀ _ : Env,
∀ (x2 : Bool) (h4 : Heap), J2 x2 h4 →
bcase x2 (
∃ J3 : Bool → Heap → Prop, (
bcase t1 (
J3 (isNilAddr p1) h4) (
J3 false h4)) ∧ ∀ _ : Env,
∀ (x3 : Bool) (h5 : Heap), J3 x3 h5 →
bcase x3 (
Runs Tryd.prog 17 #[v1, (.int .i64 (103 : Int))] h5 fun r3 h6 =>
∃ t2 : Bool,
r3 = (.bool t2) ∧
Post (.bool t2) h6) (
Post (.bool false) h5)) (
bcase (decide ((1048576 : Int) < bytes)) (
∃ J4 : Bool → Heap → Prop, (
bcase t1 (
J4 (isNilAddr p1) h4) (
J4 false h4)) ∧ ∀ _ : Env,
∀ (x4 : Bool) (h7 : Heap), J4 x4 h7 →
bcase x4 (
Runs Tryd.prog 17 #[v1, (.int .i64 (103 : Int))] h7 fun r4 h8 =>
∃ t3 : Bool,
r4 = (.bool t3) ∧
Post (.bool t3) h8) (
Post (.bool false) h7)) (
bcase (isNilAddr p1) (
Post (.bool false) h4) (
∃ t4 : Bool, ifeqH Tryd.prog h4 true (v1) (.nilIface) = some t4 ∧
bcase (!t4) (
Post (.bool false) h4) (
bcase (decide ((50 : Int) < ((lL : Nat) : Int))) (
Post (.bool t1) h4) (
Runs Tryd.prog 18 #[(.int .u32 seed), (.int .i64 (50 : Int)), (.int .i64 (1000 : Int)), (.int .i64 packets), (.int .i64 bytes)] h4 fun r5 h9 =>
∃ p2 : Option Addr,
r5 = (.pointer p2) ∧
∃ (I1 : Int → Int → Heap → Prop) (m1 : Int → Int → Heap → Nat), I1 (0 : Int) (0 : Int) h9 ∧ ∀ _ : Env,
∀ (now_1 : Int) (i_1 : Int) (h10 : Heap), I1 now_1 i_1 h10 →
bcase (decide (i_1 < ((lL : Nat) : Int))) (
(0 ≤ i_1 ∧ i_1 < ((lL : Nat) : Int)) ∧
onAddr l fun b1 o1 =>
∃ cs1 : List Value, row h10 b1 (o1 + ((i_1).toNat * 9)) 9 = some cs1 ∧
∀ (b2 : Nat) (h11 : Heap), b2 = h10.size → h11 = h10.push (.cells ([(.int .i64 (0 : Int)), (.int .i64 (0 : Int)), (.int .i64 (0 : Int)), (.int .i64 (0 : Int)), (.int .i64 (0 : Int)), (.int .u32 (0 : Int)), (.int .i64 (0 : Int)), (.int .i64 (0 : Int)), (.slice none 0 0)] : List Value).toArray 43) →
(((cs1)).length = 9 ∧ wrs h11 b2 0 9 ∧ ∀ u ∈ ((cs1) : List Value), u.oneCell' = true) ∧ ∀ h12 : Heap, h12 = setr h11 b2 0 (cs1) →
∃ (s1 : Option Addr) (s1l s1c : Nat), cell h12 b2 8 = some (.slice s1 s1l s1c) ∧
bcase (decide ((200 : Int) < ((s1l : Nat) : Int))) (
Post (.bool t1) h12) (
Runs Tryd.prog 19 #[(.pointer p1)] h12 fun r6 h13 =>
∃ p3 : Option Addr,
r6 = (.pointer p3) ∧
Runs Tryd.prog 13 #[(.pointer p3)] h13 fun r7 h14 =>
∃ n1 : Int,
r7 = (.int .i64 n1) ∧
∃ J5 : Int → Heap → Prop, (
∃ n2 : Int, cell h14 b2 0 = some (.int .i64 n2) ∧
bcase (decide (n2 = (1 : Int))) (
wr h14 b2 7 ∧ ∀ h15 : Heap, h15 = setc h14 b2 7 (.int .i64 now_1) →
∃ n3 : Int, cell h15 b2 1 = some (.int .i64 n3) ∧
∃ cs2 : List Value, row h15 b2 4 5 = some cs2 ∧
Runs Tryd.prog 10 #[(.pointer p1), (.int .i64 n3), (.agg (cs2).toArray)] h15 fun r8 h16 =>
∃ (s2 : Option Addr) (s2l s2c : Nat),
∃ v2 : Value,
r8 = (.tuple #[(.slice s2 s2l s2c), v2]) ∧
∃ n4 : Int, cell h16 b2 1 = some (.int .i64 n4) ∧
∃ cs3 : List Value, row h16 b2 4 5 = some cs3 ∧
Runs Tryd.prog 20 #[(.pointer p2), (.int .i64 n4), (.agg (cs3).toArray)] h16 fun r9 h17 =>
∃ (s3 : Option Addr) (s3l s3c : Nat),
∃ n5 : Int,
r9 = (.tuple #[(.slice s3 s3l s3c), (.int .i64 n5)]) ∧
Runs Tryd.prog 21 #[(.slice s2 s2l s2c), (.slice s3 s3l s3c)] h17 fun r10 h18 =>
∃ t5 : Bool,
r10 = (.bool t5) ∧
bcase (!t5) (
Post (.bool false) h18) (
Runs Tryd.prog 17 #[v2, (.int .i64 n5)] h18 fun r11 h19 =>
∃ t6 : Bool,
r11 = (.bool t6) ∧
bcase (!t6) (
Post (.bool false) h19) (
J5 now_1 h19))) (
bcase (decide (n2 = (2 : Int))) (
∃ n6 : Int, cell h14 b2 3 = some (.int .i64 n6) ∧
Runs Tryd.prog 8 #[(.int .i64 n6), (.int .i64 (4000 : Int))] h14 fun r12 h20 =>
∃ n7 : Int,
r12 = (.int .i64 n7) ∧
fits .i64 (now_1 + n7) ∧
∃ n8 : Int, cell h20 b2 1 = some (.int .i64 n8) ∧
∃ n9 : Int, cell h20 b2 2 = some (.int .i64 n9) ∧
Runs Tryd.prog 16 #[(.pointer p1), (.int .i64 n8), (.int .i64 n9), (.int .i64 (now_1 + n7))] h20 fun r13 h21 =>
∃ cs4 : List Value,
∃ (s4 : Option Addr) (s4l s4c : Nat),
∃ t7 : Bool,
r13 = (.tuple #[(.agg (cs4).toArray), (.slice s4 s4l s4c), (.bool t7)]) ∧
∀ (b3 : Nat) (h22 : Heap), b3 = h21.size → h22 = h21.push (.cells ([(.int .i64 (0 : Int)), (.int .u32 (0 : Int)), (.int .i64 (0 : Int)), (.int .i64 (0 : Int)), (.slice none 0 0)] : List Value).toArray 35) →
(((cs4)).length = 5 ∧ wrs h22 b3 0 5 ∧ ∀ u ∈ ((cs4) : List Value), u.oneCell' = true) ∧ ∀ h23 : Heap, h23 = setr h22 b3 0 (cs4) →
∃ n10 : Int, cell h23 b2 1 = some (.int .i64 n10) ∧
∃ n11 : Int, cell h23 b2 2 = some (.int .i64 n11) ∧
Runs Tryd.prog 22 #[(.pointer p2), (.int .i64 n10), (.int .i64 n11), (.int .i64 (now_1 + n7))] h23 fun r14 h24 =>
∃ cs5 : List Value,
∃ (s5 : Option Addr) (s5l s5c : Nat),
∃ t8 : Bool,
r14 = (.tuple #[(.agg (cs5).toArray), (.slice s5 s5l s5c), (.bool t8)]) ∧
∀ (b4 : Nat) (h25 : Heap), b4 = h24.size → h25 = h24.push (.cells ([(.int .i64 (0 : Int)), (.int .u32 (0 : Int)), (.int .i64 (0 : Int)), (.int .i64 (0 : Int)), (.slice none 0 0)] : List Value).toArray 35) →
(((cs5)).length = 5 ∧ wrs h25 b4 0 5 ∧ ∀ u ∈ ((cs5) : List Value), u.oneCell' = true) ∧ ∀ h26 : Heap, h26 = setr h25 b4 0 (cs5) →
∃ J6 : Bool → Heap → Prop, (
bcase (!(t7 == t8)) (
J6 true h26) (
∃ cs6 : List Value, row h26 b3 0 5 = some cs6 ∧
∃ cs7 : List Value, row h26 b4 0 5 = some cs7 ∧
Runs Tryd.prog 23 #[(.agg (cs6).toArray), (.agg (cs7).toArray)] h26 fun r15 h27 =>
∃ t9 : Bool,
r15 = (.bool t9) ∧
J6 (!t9) h27)) ∧ ∀ _ : Env,
∀ (x7 : Bool) (h28 : Heap), J6 x7 h28 →
bcase x7 (
Post (.bool false) h28) (
Runs Tryd.prog 21 #[(.slice s4 s4l s4c), (.slice s5 s5l s5c)] h28 fun r16 h29 =>
∃ t10 : Bool,
r16 = (.bool t10) ∧
bcase (!t10) (
Post (.bool false) h29) (
J5 (now_1 + n7) h29))) (
∃ n12 : Int, cell h14 b2 1 = some (.int .i64 n12) ∧
∃ n13 : Int, cell h14 b2 1 = some (.int .i64 n13) ∧
Runs Tryd.prog 15 #[(.pointer p1), (.int .i64 n12)] h14 fun r17 h30 =>
∃ (s6 : Option Addr) (s6l s6c : Nat),
r17 = (.slice s6 s6l s6c) ∧
cell h30 b2 1 = some (.int .i64 n13) ∧
Runs Tryd.prog 24 #[(.pointer p2), (.int .i64 n13)] h30 fun r18 h31 =>
∃ (s7 : Option Addr) (s7l s7c : Nat),
r18 = (.slice s7 s7l s7c) ∧
Runs Tryd.prog 21 #[(.slice s6 s6l s6c), (.slice s7 s7l s7c)] h31 fun r19 h32 =>
∃ t11 : Bool,
r19 = (.bool t11) ∧
bcase (!t11) (
Post (.bool false) h32) (
J5 now_1 h32)))) ∧ ∀ _ : Env,
∀ (now_2 : Int) (h33 : Heap), J5 now_2 h33 →
Runs Tryd.prog 13 #[(.pointer p1)] h33 fun r20 h34 =>
∃ n14 : Int,
r20 = (.int .i64 n14) ∧
Runs Tryd.prog 25 #[(.pointer p2)] h34 fun r21 h35 =>
∃ n15 : Int,
r21 = (.int .i64 n15) ∧
bcase (!decide (n14 = n15)) (
Post (.bool false) h35) (
Runs Tryd.prog 14 #[(.pointer p1)] h35 fun r22 h36 =>
∃ n16 : Int,
r22 = (.int .i64 n16) ∧
Runs Tryd.prog 26 #[(.pointer p2)] h36 fun r23 h37 =>
∃ n17 : Int,
r23 = (.int .i64 n17) ∧
bcase (!decide (n16 = n17)) (
Post (.bool false) h37) (
∃ n18 : Int, cell h37 b2 1 = some (.int .i64 n18) ∧
∃ n19 : Int, cell h37 b2 2 = some (.int .i64 n19) ∧
∃ n20 : Int, cell h37 b2 1 = some (.int .i64 n20) ∧
∃ n21 : Int, cell h37 b2 2 = some (.int .i64 n21) ∧
Runs Tryd.prog 12 #[(.pointer p1), (.int .i64 n18), (.int .i64 n19)] h37 fun r24 h38 =>
∃ t12 : Bool,
r24 = (.bool t12) ∧
cell h38 b2 2 = some (.int .i64 n21) ∧
cell h38 b2 1 = some (.int .i64 n20) ∧
Runs Tryd.prog 27 #[(.pointer p2), (.int .i64 n20), (.int .i64 n21)] h38 fun r25 h39 =>
∃ t13 : Bool,
r25 = (.bool t13) ∧
bcase (!(t12 == t13)) (
Post (.bool false) h39) (
Runs Tryd.prog 13 #[(.pointer p3)] h39 fun r26 h40 =>
∃ n22 : Int,
r26 = (.int .i64 n22) ∧
bcase (!decide (n22 = n1)) (
Post (.bool false) h40) (
fits .i64 (i_1 + (1 : Int)) ∧
I1 now_2 (i_1 + (1 : Int)) h40 ∧ m1 now_2 (i_1 + (1 : Int)) h40 < m1 now_1 i_1 h10)))))) (
Post (.bool t1) h10)))))))) :
    Runs Tryd.prog 6 #[(.int .u32 seed), (.int .i64 packets), (.int .i64 bytes), (.slice l lL lC)] h0 Post :=
  runs_of (args := [(.int .u32 seed), (.int .i64 packets), (.int .i64 bytes), (.slice l lL lC)]) (fun n => ⟨true, false⟩) (fun n => match n with | 0 => [(13, .int .i64), (14, .int .i64)] | _ => []) (fun n => match n with | 36 => some [(13, .int .i64)] | _ => none) (fun n => match n with | 5 => [(6, [(43, .bool)]), (4, [(47, .bool)])] | 6 => [(5, [(56, .bool)])] | 34 => [(9, [(177, .bool)])] | _ => []) Tryd.func6 rfl (by rw [Tryd.ntmps6]; simp) (Eq.mp (by kernel_rfl) H)

theorem vc_muezzinlaw14_PoolApart (l : Option Addr) (lL lC : Nat) (out : Int) (h0 : Heap) (Post : Value → Heap → Prop) (H :
Runs Tryd.prog 7 #[] h0 fun r1 h1 =>
∃ t1 : Bool,
r1 = (.bool t1) ∧
bcase (!t1) (
Post (.bool false) h1) (
bcase (decide ((30 : Int) < ((lL : Nat) : Int))) (
Post (.bool t1) h1) (
Runs Tryd.prog 9 #[(.int .u32 (5 : Int)), (.int .i64 (1073741824 : Int)), (.int .i64 (1073741824 : Int)), (.int .i64 (512 : Int)), (.int .i64 (1048576 : Int))] h1 fun r2 h2 =>
∃ p1 : Option Addr,
∃ v1 : Value,
r2 = (.tuple #[(.pointer p1), v1]) ∧
bcase (isNilAddr p1) (
Post (.bool false) h2) (
∃ t2 : Bool, ifeqH Tryd.prog h2 true (v1) (.nilIface) = some t2 ∧
bcase (!t2) (
Post (.bool false) h2) (
∀ (b1 : Nat) (h3 : Heap), b1 = h2.size → h3 = h2.push (.cells ([(.int .i64 (0 : Int)), (.int .i64 (0 : Int)), (.int .i64 (0 : Int)), (.int .i64 (0 : Int)), (.int .i64 (0 : Int)), (.int .i64 (0 : Int)), (.int .i64 (0 : Int)), (.int .i64 (0 : Int)), (.int .i64 (0 : Int)), (.int .i64 (0 : Int)), (.int .i64 (0 : Int)), (.int .i64 (0 : Int)), (.int .i64 (0 : Int)), (.int .i64 (0 : Int)), (.int .i64 (0 : Int)), (.int .i64 (0 : Int)), (.int .i64 (0 : Int)), (.int .i64 (0 : Int)), (.int .i64 (0 : Int)), (.int .i64 (0 : Int)), (.int .i64 (0 : Int)), (.int .i64 (0 : Int)), (.int .i64 (0 : Int)), (.int .i64 (0 : Int)), (.int .i64 (0 : Int)), (.int .i64 (0 : Int)), (.int .i64 (0 : Int)), (.int .i64 (0 : Int)), (.int .i64 (0 : Int)), (.int .i64 (0 : Int)), (.int .i64 (0 : Int)), (.int .i64 (0 : Int)), (.int .i64 (0 : Int)), (.int .i64 (0 : Int)), (.int .i64 (0 : Int)), (.int .i64 (0 : Int)), (.int .i64 (0 : Int)), (.int .i64 (0 : Int)), (.int .i64 (0 : Int)), (.int .i64 (0 : Int)), (.int .i64 (0 : Int)), (.int .i64 (0 : Int)), (.int .i64 (0 : Int)), (.int .i64 (0 : Int)), (.int .i64 (0 : Int)), (.int .i64 (0 : Int)), (.int .i64 (0 : Int)), (.int .i64 (0 : Int)), (.int .i64 (0 : Int)), (.int .i64 (0 : Int)), (.int .i64 (0 : Int)), (.int .i64 (0 : Int)), (.int .i64 (0 : Int)), (.int .i64 (0 : Int)), (.int .i64 (0 : Int)), (.int .i64 (0 : Int)), (.int .i64 (0 : Int)), (.int .i64 (0 : Int)), (.int .i64 (0 : Int)), (.int .i64 (0 : Int)), (.int .i64 (0 : Int)), (.int .i64 (0 : Int)), (.int .i64 (0 : Int)), (.int .i64 (0 : Int)), (.int .i64 (0 : Int)), (.int .i64 (0 : Int)), (.int .i64 (0 : Int)), (.int .i64 (0 : Int)), (.int .i64 (0 : Int)), (.int .i64 (0 : Int)), (.int .i64 (0 : Int)), (.int .i64 (0 : Int)), (.int .i64 (0 : Int)), (.int .i64 (0 : Int)), (.int .i64 (0 : Int)), (.int .i64 (0 : Int)), (.int .i64 (0 : Int)), (.int .i64 (0 : Int)), (.int .i64 (0 : Int)), (.int .i64 (0 : Int)), (.int .i64 (0 : Int)), (.int .i64 (0 : Int)), (.int .i64 (0 : Int)), (.int .i64 (0 : Int)), (.int .i64 (0 : Int)), (.int .i64 (0 : Int)), (.int .i64 (0 : Int)), (.int .i64 (0 : Int)), (.int .i64 (0 : Int)), (.int .i64 (0 : Int)), (.int .i64 (0 : Int)), (.int .i64 (0 : Int)), (.int .i64 (0 : Int)), (.int .i64 (0 : Int)), (.int .i64 (0 : Int)), (.int .i64 (0 : Int)), (.int .i64 (0 : Int)), (.int .i64 (0 : Int)), (.int .i64 (0 : Int)), (.int .i64 (0 : Int)), (.int .i64 (0 : Int)), (.int .i64 (0 : Int)), (.int .i64 (0 : Int)), (.int .i64 (0 : Int)), (.int .i64 (0 : Int)), (.int .i64 (0 : Int)), (.int .i64 (0 : Int)), (.int .i64 (0 : Int)), (.int .i64 (0 : Int)), (.int .i64 (0 : Int)), (.int .i64 (0 : Int)), (.int .i64 (0 : Int)), (.int .i64 (0 : Int)), (.int .i64 (0 : Int)), (.int .i64 (0 : Int)), (.int .i64 (0 : Int)), (.int .i64 (0 : Int)), (.int .i64 (0 : Int)), (.int .i64 (0 : Int)), (.int .i64 (0 : Int)), (.int .i64 (0 : Int)), (.int .i64 (0 : Int)), (.int .i64 (0 : Int)), (.int .i64 (0 : Int)), (.int .i64 (0 : Int)), (.int .i64 (0 : Int)), (.int .i64 (0 : Int)), (.int .i64 (0 : Int)), (.int .i64 (0 : Int)), (.int .i64 (0 : Int)), (.int .i64 (0 : Int)), (.int .i64 (0 : Int)), (.int .i64 (0 : Int)), (.int .i64 (0 : Int)), (.int .i64 (0 : Int)), (.int .i64 (0 : Int))] : List Value).toArray 47) →
∃ (I1 : Int → Heap → Prop) (m1 : Int → Heap → Nat), I1 (0 : Int) h3 ∧ ∀ _ : Env,
∀ (i_1 : Int) (h4 : Heap), I1 i_1 h4 →
bcase (decide (i_1 < ((lL : Nat) : Int))) (
(0 ≤ i_1 ∧ i_1 < ((lL : Nat) : Int)) ∧
onAddr l fun b2 o1 =>
∃ n1 : Int, cell h4 b2 ((o1 + ((i_1).toNat * 9)) + 1) = some (.int .i64 n1) ∧
Runs Tryd.prog 8 #[(.int .i64 n1), (.int .i64 (16 : Int))] h4 fun r3 h5 =>
∃ n2 : Int,
r3 = (.int .i64 n2) ∧
fits .i64 (n2 + (1 : Int)) ∧
(0 ≤ i_1 ∧ i_1 < ((lL : Nat) : Int)) ∧
onAddr l fun b3 o2 =>
∃ n3 : Int, cell h5 b3 ((o2 + ((i_1).toNat * 9)) + 2) = some (.int .i64 n3) ∧
Runs Tryd.prog 8 #[(.int .i64 n3), (.int .i64 (8 : Int))] h5 fun r4 h6 =>
∃ n4 : Int,
r4 = (.int .i64 n4) ∧
(0 ≤ i_1 ∧ i_1 < ((lL : Nat) : Int)) ∧
onAddr l fun b4 o3 =>
∃ (s1 : Option Addr) (s1l s1c : Nat), cell h6 b4 (((o3 + ((i_1).toNat * 9)) + 4) + 4) = some (.slice s1 s1l s1c) ∧
bcase (decide ((100 : Int) < ((s1l : Nat) : Int))) (
Post (.bool t1) h6) (
fits .i64 ((100 : Int) * (n2 + (1 : Int))) ∧
fits .i64 (((100 : Int) * (n2 + (1 : Int))) + n4) ∧
(0 ≤ i_1 ∧ i_1 < ((lL : Nat) : Int)) ∧
onAddr l fun b5 o4 =>
∃ n5 : Int, cell h6 b5 (((o4 + ((i_1).toNat * 9)) + 4) + 1) = some (.int .u32 n5) ∧
(0 ≤ i_1 ∧ i_1 < ((lL : Nat) : Int)) ∧
onAddr l fun b6 o5 =>
∃ (s2 : Option Addr) (s2l s2c : Nat), cell h6 b6 (((o5 + ((i_1).toNat * 9)) + 4) + 4) = some (.slice s2 s2l s2c) ∧
Runs Tryd.prog 10 #[(.pointer p1), (.int .i64 (n2 + (1 : Int))), (.agg #[(.int .i64 (((100 : Int) * (n2 + (1 : Int))) + n4)), (.int .u32 n5), (.int .i64 n4), (.int .i64 (0 : Int)), (.slice s2 s2l s2c)])] h6 fun r5 h7 =>
∃ (s3 : Option Addr) (s3l s3c : Nat),
∃ v2 : Value,
r5 = (.tuple #[(.slice s3 s3l s3c), v2]) ∧
cell h7 b6 (((o5 + ((i_1).toNat * 9)) + 4) + 4) = some (.slice s2 s2l s2c) ∧
cell h7 b5 (((o4 + ((i_1).toNat * 9)) + 4) + 1) = some (.int .u32 n5) ∧
∃ t3 : Bool, ifeqH Tryd.prog h7 true (v2) (.nilIface) = some t3 ∧
bcase (!t3) (
Post (.bool false) h7) (
bcase (!decide (((s3l : Nat) : Int) = (0 : Int))) (
Post (.bool false) h7) (
(0 ≤ (n2 + (1 : Int)) ∧ (n2 + (1 : Int)) < ((17 : Nat) : Int)) ∧
(0 ≤ n4 ∧ n4 < ((8 : Nat) : Int)) ∧
∃ n6 : Int, cell h7 b1 ((0 + (((n2 + (1 : Int))).toNat * 8)) + (n4).toNat) = some (.int .i64 n6) ∧
fits .i64 (n6 + (1 : Int)) ∧
(0 ≤ (n2 + (1 : Int)) ∧ (n2 + (1 : Int)) < ((17 : Nat) : Int)) ∧
(0 ≤ n4 ∧ n4 < ((8 : Nat) : Int)) ∧
wr h7 b1 ((0 + (((n2 + (1 : Int))).toNat * 8)) + (n4).toNat) ∧ ∀ h8 : Heap, h8 = setc h7 b1 ((0 + (((n2 + (1 : Int))).toNat * 8)) + (n4).toNat) (.int .i64 (n6 + (1 : Int))) →
fits .i64 (i_1 + (1 : Int)) ∧
I1 (i_1 + (1 : Int)) h8 ∧ m1 (i_1 + (1 : Int)) h8 < m1 i_1 h4)))) (
Runs Tryd.prog 8 #[(.int .i64 out), (.int .i64 (16 : Int))] h4 fun r6 h9 =>
∃ n7 : Int,
r6 = (.int .i64 n7) ∧
fits .i64 (n7 + (1 : Int)) ∧
Runs Tryd.prog 15 #[(.pointer p1), (.int .i64 (n7 + (1 : Int)))] h9 fun r7 h10 =>
∃ (s4 : Option Addr) (s4l s4c : Nat),
r7 = (.slice s4 s4l s4c) ∧
∃ (I2 : Int → Int → Heap → Prop) (m2 : Int → Int → Heap → Nat), I2 (0 : Int) (0 : Int) h10 ∧ ∀ _ : Env,
∀ (n_1 : Int) (t_1 : Int) (h11 : Heap), I2 n_1 t_1 h11 →
bcase (decide (t_1 < (8 : Int))) (
(0 ≤ (n7 + (1 : Int)) ∧ (n7 + (1 : Int)) < ((17 : Nat) : Int)) ∧
(0 ≤ t_1 ∧ t_1 < ((8 : Nat) : Int)) ∧
∃ n8 : Int, cell h11 b1 ((0 + (((n7 + (1 : Int))).toNat * 8)) + (t_1).toNat) = some (.int .i64 n8) ∧
fits .i64 (n_1 + n8) ∧
(0 ≤ (n7 + (1 : Int)) ∧ (n7 + (1 : Int)) < ((17 : Nat) : Int)) ∧
(0 ≤ t_1 ∧ t_1 < ((8 : Nat) : Int)) ∧
wr h11 b1 ((0 + (((n7 + (1 : Int))).toNat * 8)) + (t_1).toNat) ∧ ∀ h12 : Heap, h12 = setc h11 b1 ((0 + (((n7 + (1 : Int))).toNat * 8)) + (t_1).toNat) (.int .i64 (0 : Int)) →
fits .i64 (t_1 + (1 : Int)) ∧
I2 (n_1 + n8) (t_1 + (1 : Int)) h12 ∧ m2 (n_1 + n8) (t_1 + (1 : Int)) h12 < m2 n_1 t_1 h11) (
bcase (!decide (((s4l : Nat) : Int) = n_1)) (
Post (.bool false) h11) (
∃ (I3 : Int → Heap → Prop) (m3 : Int → Heap → Nat), I3 (1 : Int) h11 ∧ ∀ _ : Env,
∀ (a_1 : Int) (h13 : Heap), I3 a_1 h13 →
bcase (decide (a_1 ≤ (16 : Int))) (
∃ (I4 : Int → Heap → Prop) (m4 : Int → Heap → Nat), I4 (0 : Int) h13 ∧ ∀ _ : Env,
∀ (t_2 : Int) (h14 : Heap), I4 t_2 h14 →
bcase (decide (t_2 < (8 : Int))) (
∃ (I5 : Heap → Prop) (m5 : Heap → Nat), I5 h14 ∧ ∀ _ : Env,
∀ (h15 : Heap), I5 h15 →
(0 ≤ a_1 ∧ a_1 < ((17 : Nat) : Int)) ∧
(0 ≤ t_2 ∧ t_2 < ((8 : Nat) : Int)) ∧
∃ n9 : Int, cell h15 b1 ((0 + ((a_1).toNat * 8)) + (t_2).toNat) = some (.int .i64 n9) ∧
bcase (decide ((0 : Int) < n9)) (
Runs Tryd.prog 16 #[(.pointer p1), (.int .i64 a_1), (.int .i64 t_2), (.int .i64 (0 : Int))] h15 fun r8 h16 =>
∃ cs1 : List Value,
∃ (s5 : Option Addr) (s5l s5c : Nat),
∃ t4 : Bool,
r8 = (.tuple #[(.agg (cs1).toArray), (.slice s5 s5l s5c), (.bool t4)]) ∧
∀ (b7 : Nat) (h17 : Heap), b7 = h16.size → h17 = h16.push (.cells ([(.int .i64 (0 : Int)), (.int .u32 (0 : Int)), (.int .i64 (0 : Int)), (.int .i64 (0 : Int)), (.slice none 0 0)] : List Value).toArray 35) →
(((cs1)).length = 5 ∧ wrs h17 b7 0 5 ∧ ∀ u ∈ ((cs1) : List Value), u.oneCell' = true) ∧ ∀ h18 : Heap, h18 = setr h17 b7 0 (cs1) →
bcase (!t4) (
Post (.bool false) h18) (
∃ n10 : Int, cell h18 b7 0 = some (.int .i64 n10) ∧
fits .i64 ((100 : Int) * a_1) ∧
fits .i64 (((100 : Int) * a_1) + t_2) ∧
bcase (!decide (n10 = (((100 : Int) * a_1) + t_2))) (
Post (.bool false) h18) (
(0 ≤ a_1 ∧ a_1 < ((17 : Nat) : Int)) ∧
(0 ≤ t_2 ∧ t_2 < ((8 : Nat) : Int)) ∧
∃ n11 : Int, cell h18 b1 ((0 + ((a_1).toNat * 8)) + (t_2).toNat) = some (.int .i64 n11) ∧
fits .i64 (n11 - (1 : Int)) ∧
(0 ≤ a_1 ∧ a_1 < ((17 : Nat) : Int)) ∧
(0 ≤ t_2 ∧ t_2 < ((8 : Nat) : Int)) ∧
wr h18 b1 ((0 + ((a_1).toNat * 8)) + (t_2).toNat) ∧ ∀ h19 : Heap, h19 = setc h18 b1 ((0 + ((a_1).toNat * 8)) + (t_2).toNat) (.int .i64 (n11 - (1 : Int))) →
I5 h19 ∧ m5 h19 < m5 h15))) (
Runs Tryd.prog 16 #[(.pointer p1), (.int .i64 a_1), (.int .i64 t_2), (.int .i64 (0 : Int))] h15 fun r9 h20 =>
∃ cs2 : List Value,
∃ (s6 : Option Addr) (s6l s6c : Nat),
∃ t5 : Bool,
r9 = (.tuple #[(.agg (cs2).toArray), (.slice s6 s6l s6c), (.bool t5)]) ∧
∀ (b8 : Nat) (h21 : Heap), b8 = h20.size → h21 = h20.push (.cells ([(.int .i64 (0 : Int)), (.int .u32 (0 : Int)), (.int .i64 (0 : Int)), (.int .i64 (0 : Int)), (.slice none 0 0)] : List Value).toArray 35) →
(((cs2)).length = 5 ∧ wrs h21 b8 0 5 ∧ ∀ u ∈ ((cs2) : List Value), u.oneCell' = true) ∧ ∀ h22 : Heap, h22 = setr h21 b8 0 (cs2) →
bcase t5 (
Post (.bool false) h22) (
Runs Tryd.prog 12 #[(.pointer p1), (.int .i64 a_1), (.int .i64 t_2)] h22 fun r10 h23 =>
∃ t6 : Bool,
r10 = (.bool t6) ∧
bcase t6 (
Post (.bool false) h23) (
fits .i64 (t_2 + (1 : Int)) ∧
I4 (t_2 + (1 : Int)) h23 ∧ m4 (t_2 + (1 : Int)) h23 < m4 t_2 h14)))) (
fits .i64 (a_1 + (1 : Int)) ∧
I3 (a_1 + (1 : Int)) h14 ∧ m3 (a_1 + (1 : Int)) h14 < m3 a_1 h13)) (
Runs Tryd.prog 10 #[(.pointer p1), (.int .i64 (0 : Int)), (.agg #[(.int .i64 (0 : Int)), (.int .u32 (0 : Int)), (.int .i64 (0 : Int)), (.int .i64 (0 : Int)), (.slice none 0 0)])] h13 fun r11 h24 =>
∃ (s7 : Option Addr) (s7l s7c : Nat),
∃ v3 : Value,
r11 = (.tuple #[(.slice s7 s7l s7c), v3]) ∧
Runs Tryd.prog 10 #[(.pointer p1), (.int .i64 (17 : Int)), (.agg #[(.int .i64 (0 : Int)), (.int .u32 (0 : Int)), (.int .i64 (0 : Int)), (.int .i64 (0 : Int)), (.slice none 0 0)])] h24 fun r12 h25 =>
∃ (s8 : Option Addr) (s8l s8c : Nat),
∃ v4 : Value,
r12 = (.tuple #[(.slice s8 s8l s8c), v4]) ∧
Runs Tryd.prog 10 #[(.pointer p1), (.int .i64 (1 : Int)), (.agg #[(.int .i64 (0 : Int)), (.int .u32 (0 : Int)), (.int .i64 (8 : Int)), (.int .i64 (0 : Int)), (.slice none 0 0)])] h25 fun r13 h26 =>
∃ (s9 : Option Addr) (s9l s9c : Nat),
∃ v5 : Value,
r13 = (.tuple #[(.slice s9 s9l s9c), v5]) ∧
∃ J1 : Bool → Heap → Prop, (
bcase t1 (
Runs Tryd.prog 13 #[(.pointer p1)] h26 fun r14 h27 =>
∃ n12 : Int,
r14 = (.int .i64 n12) ∧
J1 (decide (n12 = (0 : Int))) h27) (
J1 false h26)) ∧ ∀ _ : Env,
∀ (x6 : Bool) (h28 : Heap), J1 x6 h28 →
∃ J2 : Bool → Heap → Prop, (
bcase x6 (
Runs Tryd.prog 17 #[v3, (.int .i64 (103 : Int))] h28 fun r15 h29 =>
∃ t7 : Bool,
r15 = (.bool t7) ∧
J2 t7 h29) (
J2 false h28)) ∧ ∀ _ : Env,
∀ (x7 : Bool) (h30 : Heap), J2 x7 h30 →
∃ J3 : Bool → Heap → Prop, (
bcase x7 (
Runs Tryd.prog 17 #[v4, (.int .i64 (103 : Int))] h30 fun r16 h31 =>
∃ t8 : Bool,
r16 = (.bool t8) ∧
J3 t8 h31) (
J3 false h30)) ∧ ∀ _ : Env,
∀ (x8 : Bool) (h32 : Heap), J3 x8 h32 →
bcase x8 (
Runs Tryd.prog 17 #[v5, (.int .i64 (103 : Int))] h32 fun r17 h33 =>
∃ t9 : Bool,
r17 = (.bool t9) ∧
Post (.bool t9) h33) (
Post (.bool false) h32)))))))))) :
    Runs Tryd.prog 5 #[(.slice l lL lC), (.int .i64 out)] h0 Post :=
  runs_of (args := [(.slice l lL lC), (.int .i64 out)]) (fun n => ⟨true, false⟩) (fun n => match n with | 0 => [(9, .int .i64)] | 2 => [(15, .int .i64), (16, .int .i64)] | 4 => [(17, .int .i64)] | 6 => [(18, .int .i64)] | 8 => [] | _ => []) (fun _ => none) (fun n => match n with | 48 => [(6, [(219, .bool)]), (4, [(223, .bool)]), (4, [(227, .bool)])] | _ => []) Tryd.func5 rfl (by rw [Tryd.ntmps5]; simp) (Eq.mp (by kernel_rfl) H)
end Go.Proofs.YtpcilleldanfmaaDoor
