/- The conditions for calls of functions of the program, in plain form: written by a program (vcgen) off the elaborated code; each is the reckoner's own, by the kernel. -/
import Derived.Test.YtpcilleldanfmaaDoorRows
import Derived.Test.YtpcilleldanfmaaDoorVc
set_option linter.unusedVariables false
set_option maxRecDepth 100000
namespace Go.Proofs.YtpcilleldanfmaaDoor
open Go.Vc
theorem vc_slices_Clone_byte (s : Option Addr) (sL sC : Nat) (h0 : Heap) (Post : Value → Heap → Prop) (H :
bcase (isNilAddr s) (
Post (.slice none 0 0) h0) (
∀ (b1 : Nat) (h1 : Heap), b1 = h0.size → h1 = h0.push (.cells ([] : List Value).toArray 5) →
∃ news1 : List Value, (src h1 s (sL * 1) news1 ∧ ∀ u ∈ news1, u.oneCell' = true) ∧
appK h1 (some ⟨b1, 0, none⟩) 0 0 sL 1 5 1 news1 fun (a1 : Option Addr) (cap1 : Nat) (h2 : Heap) =>
Post (.slice a1 (0 + sL) cap1) h2)) :
    Runs Tryd.prog 55 #[(.slice s sL sC)] h0 Post :=
  runs_of (args := [(.slice s sL sC)]) (fun n => ⟨true, false⟩) (fun _ => []) (fun _ => none) (fun _ => []) Tryd.func55 rfl (by rw [Tryd.ntmps55]; simp) (Eq.mp (by kernel_rfl) H)

theorem vc_slices_Contains_int (s : Option Addr) (sL sC : Nat) (v : Int) (h0 : Heap) (Post : Value → Heap → Prop) (H :
Runs Tryd.prog 75 #[(.slice s sL sC), (.int .i64 v)] h0 fun r1 h1 =>
∃ n1 : Int,
r1 = (.int .i64 n1) ∧
Post (.bool (decide ((0 : Int) ≤ n1))) h1) :
    Runs Tryd.prog 56 #[(.slice s sL sC), (.int .i64 v)] h0 Post :=
  runs_of (args := [(.slice s sL sC), (.int .i64 v)]) (fun n => ⟨true, false⟩) (fun _ => []) (fun _ => none) (fun _ => []) Tryd.func56 rfl (by rw [Tryd.ntmps56]; simp) (Eq.mp (by kernel_rfl) H)

theorem vc_slices_Index_int (s : Option Addr) (sL sC : Nat) (v : Int) (h0 : Heap) (Post : Value → Heap → Prop) (H :
∃ (I1 : Int → Heap → Prop) (m1 : Int → Heap → Nat), I1 (0 : Int) h0 ∧ ∀ _ : Env,
∀ (x1 : Int) (h1 : Heap), I1 x1 h1 →
bcase (decide (x1 < ((sL : Nat) : Int))) (
(0 ≤ x1 ∧ x1 < ((sL : Nat) : Int)) ∧
onAddr s fun b1 o1 =>
∃ n1 : Int, cell h1 b1 (o1 + (x1).toNat) = some (.int .i64 n1) ∧
bcase (decide (v = n1)) (
Post (.int .i64 x1) h1) (
fits .i64 (x1 + (1 : Int)) ∧
I1 (x1 + (1 : Int)) h1 ∧ m1 (x1 + (1 : Int)) h1 < m1 x1 h1)) (
Post (.int .i64 (-1 : Int)) h1)) :
    Runs Tryd.prog 75 #[(.slice s sL sC), (.int .i64 v)] h0 Post :=
  runs_of (args := [(.slice s sL sC), (.int .i64 v)]) (fun n => ⟨true, false⟩) (fun n => match n with | 0 => [(8, .int .i64)] | _ => []) (fun _ => none) (fun _ => []) Tryd.func75 rfl (by rw [Tryd.ntmps75]; simp) (Eq.mp (by kernel_rfl) H)

theorem vc_slices_Clone_int (s : Option Addr) (sL sC : Nat) (h0 : Heap) (Post : Value → Heap → Prop) (H :
bcase (isNilAddr s) (
Post (.slice none 0 0) h0) (
∀ (b1 : Nat) (h1 : Heap), b1 = h0.size → h1 = h0.push (.cells ([] : List Value).toArray 3) →
∃ news1 : List Value, (src h1 s (sL * 1) news1 ∧ ∀ u ∈ news1, u.oneCell' = true) ∧
appK h1 (some ⟨b1, 0, none⟩) 0 0 sL 1 3 8 news1 fun (a1 : Option Addr) (cap1 : Nat) (h2 : Heap) =>
Post (.slice a1 (0 + sL) cap1) h2)) :
    Runs Tryd.prog 65 #[(.slice s sL sC)] h0 Post :=
  runs_of (args := [(.slice s sL sC)]) (fun n => ⟨true, false⟩) (fun _ => []) (fun _ => none) (fun _ => []) Tryd.func65 rfl (by rw [Tryd.ntmps65]; simp) (Eq.mp (by kernel_rfl) H)

theorem vc_slices_Clone_Packet (s : Option Addr) (sL sC : Nat) (h0 : Heap) (Post : Value → Heap → Prop) (H :
bcase (isNilAddr s) (
Post (.slice none 0 0) h0) (
∀ (b1 : Nat) (h1 : Heap), b1 = h0.size → h1 = h0.push (.cells ([] : List Value).toArray 35) →
∃ news1 : List Value, (src h1 s (sL * 5) news1 ∧ ∀ u ∈ news1, u.oneCell' = true) ∧
appK h1 (some ⟨b1, 0, none⟩) 0 0 sL 5 35 56 news1 fun (a1 : Option Addr) (cap1 : Nat) (h2 : Heap) =>
Post (.slice a1 (0 + sL) cap1) h2)) :
    Runs Tryd.prog 78 #[(.slice s sL sC)] h0 Post :=
  runs_of (args := [(.slice s sL sC)]) (fun n => ⟨true, false⟩) (fun _ => []) (fun _ => none) (fun _ => []) Tryd.func78 rfl (by rw [Tryd.ntmps78]; simp) (Eq.mp (by kernel_rfl) H)

theorem vc_muezzinref_Has (l : Option Addr) (lL lC : Nat) (n : Int) (h0 : Heap) (Post : Value → Heap → Prop) (H :
∃ (I1 : Int → Heap → Prop) (m1 : Int → Heap → Nat), I1 (0 : Int) h0 ∧ ∀ _ : Env,
∀ (i_1 : Int) (h1 : Heap), I1 i_1 h1 →
bcase (decide (i_1 < ((lL : Nat) : Int))) (
(0 ≤ i_1 ∧ i_1 < ((lL : Nat) : Int)) ∧
onAddr l fun b1 o1 =>
∃ n1 : Int, cell h1 b1 (o1 + (i_1).toNat) = some (.int .i64 n1) ∧
bcase (decide (n1 = n)) (
Post (.bool true) h1) (
fits .i64 (i_1 + (1 : Int)) ∧
I1 (i_1 + (1 : Int)) h1 ∧ m1 (i_1 + (1 : Int)) h1 < m1 i_1 h1)) (
Post (.bool false) h1)) :
    Runs Tryd.prog 67 #[(.slice l lL lC), (.int .i64 n)] h0 Post :=
  runs_of (args := [(.slice l lL lC), (.int .i64 n)]) (fun n => ⟨true, false⟩) (fun n => match n with | 0 => [(5, .int .i64)] | _ => []) (fun _ => none) (fun _ => []) Tryd.func67 rfl (by rw [Tryd.ntmps67]; simp) (Eq.mp (by kernel_rfl) H)

theorem vc_muezzinref_Packets (l : Option Addr) (lL lC : Nat) (h0 : Heap) (Post : Value → Heap → Prop) (H :
(0 ≤ (0 : Int) ∧ (0 : Int) ≤ ((lL : Nat) : Int) ∧ ((56 : Nat) : Int) * ((lL : Nat) : Int) ≤ 281474976710656 ∧ ((lL : Nat) : Int) ≤ 9223372036854775807) ∧ ∀ (b1 : Nat) (h1 : Heap), b1 = h0.size → h1 = h0.push (.cells (joinL (List.replicate (((lL : Nat) : Int)).toNat [(.int .i64 (0 : Int)), (.int .u32 (0 : Int)), (.int .i64 (0 : Int)), (.int .i64 (0 : Int)), (.slice none 0 0)])).toArray 35) →
∃ (I1 : Option Addr → Nat → Nat → Int → Heap → Prop) (m1 : Option Addr → Nat → Nat → Int → Heap → Nat), I1 (some ⟨b1, 0, none⟩) 0 (((lL : Nat) : Int)).toNat (0 : Int) h1 ∧ ∀ _ : Env,
∀ (out_1 : Option Addr) (out_1l out_1c : Nat) (i_1 : Int) (h2 : Heap), I1 out_1 out_1l out_1c i_1 h2 →
bcase (decide (i_1 < ((lL : Nat) : Int))) (
(0 ≤ i_1 ∧ i_1 < ((lL : Nat) : Int)) ∧
onAddr l fun b2 o1 =>
∃ cs1 : List Value, row h2 b2 (o1 + ((i_1).toNat * 5)) 5 = some cs1 ∧
(cs1).length = 5 ∧
∀ (b3 : Nat) (h3 : Heap), b3 = h2.size → h3 = h2.push (.cells (((cs1) ++ [])).toArray 35) →
∃ news1 : List Value, (row h3 b3 0 5 = some news1 ∧ ∀ u ∈ news1, u.oneCell' = true) ∧
appK h3 out_1 out_1l out_1c 1 5 35 56 news1 fun (a1 : Option Addr) (cap1 : Nat) (h4 : Heap) =>
fits .i64 (i_1 + (1 : Int)) ∧
I1 a1 (out_1l + 1) cap1 (i_1 + (1 : Int)) h4 ∧ m1 a1 (out_1l + 1) cap1 (i_1 + (1 : Int)) h4 < m1 out_1 out_1l out_1c i_1 h2) (
Post (.slice out_1 out_1l out_1c) h2)) :
    Runs Tryd.prog 70 #[(.slice l lL lC)] h0 Post :=
  runs_of (args := [(.slice l lL lC)]) (fun n => ⟨true, false⟩) (fun n => match n with | 0 => [(3, .slice), (4, .int .i64)] | _ => []) (fun _ => none) (fun _ => []) Tryd.func70 rfl (by rw [Tryd.ntmps70]; simp) (Eq.mp (by kernel_rfl) H)

theorem vc_muezzinref_SameBytes (a : Option Addr) (aL aC : Nat) (b : Option Addr) (bL bC : Nat) (h0 : Heap) (Post : Value → Heap → Prop) (H :
bcase (!decide (((aL : Nat) : Int) = ((bL : Nat) : Int))) (
Post (.bool false) h0) (
∃ (I1 : Int → Heap → Prop) (m1 : Int → Heap → Nat), I1 (0 : Int) h0 ∧ ∀ _ : Env,
∀ (i_1 : Int) (h1 : Heap), I1 i_1 h1 →
bcase (decide (i_1 < ((aL : Nat) : Int))) (
(0 ≤ i_1 ∧ i_1 < ((aL : Nat) : Int)) ∧
onAddr a fun b1 o1 =>
∃ n1 : Int, cell h1 b1 (o1 + (i_1).toNat) = some (.int .u8 n1) ∧
(0 ≤ i_1 ∧ i_1 < ((bL : Nat) : Int)) ∧
onAddr b fun b2 o2 =>
∃ n2 : Int, cell h1 b2 (o2 + (i_1).toNat) = some (.int .u8 n2) ∧
bcase (!(decide (n1 = n2))) (
Post (.bool false) h1) (
fits .i64 (i_1 + (1 : Int)) ∧
I1 (i_1 + (1 : Int)) h1 ∧ m1 (i_1 + (1 : Int)) h1 < m1 i_1 h1)) (
Post (.bool true) h1))) :
    Runs Tryd.prog 50 #[(.slice a aL aC), (.slice b bL bC)] h0 Post :=
  runs_of (args := [(.slice a aL aC), (.slice b bL bC)]) (fun n => ⟨true, false⟩) (fun n => match n with | 0 => [(5, .int .i64)] | _ => []) (fun _ => none) (fun _ => []) Tryd.func50 rfl (by rw [Tryd.ntmps50]; simp) (Eq.mp (by kernel_rfl) H)

theorem vc_muezzinref_Bytes (l : Option Addr) (lL lC : Nat) (h0 : Heap) (Post : Value → Heap → Prop) (H :
(0 ≤ (0 : Int) ∧ (0 : Int) ≤ ((lL : Nat) : Int) ∧ ((1 : Nat) : Int) * ((lL : Nat) : Int) ≤ 281474976710656 ∧ ((lL : Nat) : Int) ≤ 9223372036854775807) ∧ ∀ (b1 : Nat) (h1 : Heap), b1 = h0.size → h1 = h0.push (.cells (joinL (List.replicate (((lL : Nat) : Int)).toNat [(.int .u8 (0 : Int))])).toArray 5) →
∃ (I1 : Option Addr → Nat → Nat → Int → Heap → Prop) (m1 : Option Addr → Nat → Nat → Int → Heap → Nat), I1 (some ⟨b1, 0, none⟩) 0 (((lL : Nat) : Int)).toNat (0 : Int) h1 ∧ ∀ _ : Env,
∀ (out_1 : Option Addr) (out_1l out_1c : Nat) (i_1 : Int) (h2 : Heap), I1 out_1 out_1l out_1c i_1 h2 →
bcase (decide (i_1 < ((lL : Nat) : Int))) (
(0 ≤ i_1 ∧ i_1 < ((lL : Nat) : Int)) ∧
onAddr l fun b2 o1 =>
∃ n1 : Int, cell h2 b2 (o1 + (i_1).toNat) = some (.int .u8 n1) ∧
∀ (b3 : Nat) (h3 : Heap), b3 = h2.size → h3 = h2.push (.cells ([(.int .u8 n1)] : List Value).toArray 5) →
∃ news1 : List Value, (row h3 b3 0 1 = some news1 ∧ ∀ u ∈ news1, u.oneCell' = true) ∧
appK h3 out_1 out_1l out_1c 1 1 5 1 news1 fun (a1 : Option Addr) (cap1 : Nat) (h4 : Heap) =>
fits .i64 (i_1 + (1 : Int)) ∧
I1 a1 (out_1l + 1) cap1 (i_1 + (1 : Int)) h4 ∧ m1 a1 (out_1l + 1) cap1 (i_1 + (1 : Int)) h4 < m1 out_1 out_1l out_1c i_1 h2) (
Post (.slice out_1 out_1l out_1c) h2)) :
    Runs Tryd.prog 82 #[(.slice l lL lC)] h0 Post :=
  runs_of (args := [(.slice l lL lC)]) (fun n => ⟨true, false⟩) (fun n => match n with | 0 => [(3, .slice), (4, .int .i64)] | _ => []) (fun _ => none) (fun _ => []) Tryd.func82 rfl (by rw [Tryd.ntmps82]; simp) (Eq.mp (by kernel_rfl) H)

theorem vc_muezzinref_SamePacket (a : List Value) (b : List Value) (h0 : Heap) (Post : Value → Heap → Prop) (H :
∀ (b1 : Nat) (h1 : Heap), b1 = h0.size → h1 = h0.push (.cells (a).toArray 35) →
∀ (b2 : Nat) (h2 : Heap), b2 = h1.size → h2 = h1.push (.cells (b).toArray 35) →
∃ n1 : Int, cell h2 b1 0 = some (.int .i64 n1) ∧
∃ n2 : Int, cell h2 b2 0 = some (.int .i64 n2) ∧
bcase (decide (n1 = n2)) (
∃ n3 : Int, cell h2 b1 1 = some (.int .u32 n3) ∧
∃ n4 : Int, cell h2 b2 1 = some (.int .u32 n4) ∧
bcase (decide (n3 = n4)) (
∃ n5 : Int, cell h2 b1 2 = some (.int .i64 n5) ∧
∃ n6 : Int, cell h2 b2 2 = some (.int .i64 n6) ∧
bcase (decide (n5 = n6)) (
∃ n7 : Int, cell h2 b1 3 = some (.int .i64 n7) ∧
∃ n8 : Int, cell h2 b2 3 = some (.int .i64 n8) ∧
bcase (decide (n7 = n8)) (
∃ (s1 : Option Addr) (s1l s1c : Nat), cell h2 b1 4 = some (.slice s1 s1l s1c) ∧
∃ (s2 : Option Addr) (s2l s2c : Nat), cell h2 b2 4 = some (.slice s2 s2l s2c) ∧
Runs Tryd.prog 50 #[(.slice s1 s1l s1c), (.slice s2 s2l s2c)] h2 fun r1 h3 =>
∃ t1 : Bool,
r1 = (.bool t1) ∧
Post (.bool t1) h3) (
Post (.bool false) h2)) (
Post (.bool false) h2)) (
Post (.bool false) h2)) (
Post (.bool false) h2)) :
    Runs Tryd.prog 23 #[(.agg (a).toArray), (.agg (b).toArray)] h0 Post :=
  runs_of (args := [(.agg (a).toArray), (.agg (b).toArray)]) (fun n => ⟨true, false⟩) (fun _ => []) (fun _ => none) (fun _ => []) Tryd.func23 rfl (by rw [Tryd.ntmps23]; simp) (Eq.mp (by kernel_rfl) H)

theorem vc_muezzinref_SamePackets (a : Option Addr) (aL aC : Nat) (b : Option Addr) (bL bC : Nat) (h0 : Heap) (Post : Value → Heap → Prop) (H :
bcase (!decide (((aL : Nat) : Int) = ((bL : Nat) : Int))) (
Post (.bool false) h0) (
∃ (I1 : Int → Heap → Prop) (m1 : Int → Heap → Nat), I1 (0 : Int) h0 ∧ ∀ _ : Env,
∀ (i_1 : Int) (h1 : Heap), I1 i_1 h1 →
bcase (decide (i_1 < ((aL : Nat) : Int))) (
(0 ≤ i_1 ∧ i_1 < ((aL : Nat) : Int)) ∧
onAddr a fun b1 o1 =>
∃ cs1 : List Value, row h1 b1 (o1 + ((i_1).toNat * 5)) 5 = some cs1 ∧
(0 ≤ i_1 ∧ i_1 < ((bL : Nat) : Int)) ∧
onAddr b fun b2 o2 =>
∃ cs2 : List Value, row h1 b2 (o2 + ((i_1).toNat * 5)) 5 = some cs2 ∧
Runs Tryd.prog 23 #[(.agg (cs1).toArray), (.agg (cs2).toArray)] h1 fun r1 h2 =>
∃ t1 : Bool,
r1 = (.bool t1) ∧
bcase (!t1) (
Post (.bool false) h2) (
fits .i64 (i_1 + (1 : Int)) ∧
I1 (i_1 + (1 : Int)) h2 ∧ m1 (i_1 + (1 : Int)) h2 < m1 i_1 h1)) (
Post (.bool true) h1))) :
    Runs Tryd.prog 21 #[(.slice a aL aC), (.slice b bL bC)] h0 Post :=
  runs_of (args := [(.slice a aL aC), (.slice b bL bC)]) (fun n => ⟨true, false⟩) (fun n => match n with | 0 => [(5, .int .i64)] | _ => []) (fun _ => none) (fun _ => []) Tryd.func21 rfl (by rw [Tryd.ntmps21]; simp) (Eq.mp (by kernel_rfl) H)

theorem vc_muezzinref_Packet (p : List Value) (h0 : Heap) (Post : Value → Heap → Prop) (H :
∀ (b1 : Nat) (h1 : Heap), b1 = h0.size → h1 = h0.push (.cells (p).toArray 35) →
∀ (b2 : Nat) (h2 : Heap), b2 = h1.size → h2 = h1.push (.cells ([(.int .i64 (0 : Int)), (.int .u32 (0 : Int)), (.int .i64 (0 : Int)), (.int .i64 (0 : Int)), (.slice none 0 0)] : List Value).toArray 35) →
∃ (s1 : Option Addr) (s1l s1c : Nat), cell h2 b1 4 = some (.slice s1 s1l s1c) ∧
Runs Tryd.prog 82 #[(.slice s1 s1l s1c)] h2 fun r1 h3 =>
∃ (s2 : Option Addr) (s2l s2c : Nat),
r1 = (.slice s2 s2l s2c) ∧
wr h3 b1 4 ∧ ∀ h4 : Heap, h4 = setc h3 b1 4 (.slice s2 s2l s2c) →
∃ cs1 : List Value, row h4 b1 0 5 = some cs1 ∧
(((cs1)).length = 5 ∧ wrs h4 b2 0 5 ∧ ∀ u ∈ ((cs1) : List Value), u.oneCell' = true) ∧ ∀ h5 : Heap, h5 = setr h4 b2 0 (cs1) →
∃ cs2 : List Value, row h5 b2 0 5 = some cs2 ∧
Post (.agg (cs2).toArray) h5) :
    Runs Tryd.prog 66 #[(.agg (p).toArray)] h0 Post :=
  runs_of (args := [(.agg (p).toArray)]) (fun n => ⟨true, false⟩) (fun _ => []) (fun _ => none) (fun _ => []) Tryd.func66 rfl (by rw [Tryd.ntmps66]; simp) (Eq.mp (by kernel_rfl) H)

theorem vc_muezzinref_Del (l : Option Addr) (lL lC : Nat) (n : Int) (h0 : Heap) (Post : Value → Heap → Prop) (H :
∃ (I1 : Option Addr → Nat → Nat → Int → Heap → Prop) (m1 : Option Addr → Nat → Nat → Int → Heap → Nat), I1 none 0 0 (0 : Int) h0 ∧ ∀ _ : Env,
∀ (out_1 : Option Addr) (out_1l out_1c : Nat) (i_1 : Int) (h1 : Heap), I1 out_1 out_1l out_1c i_1 h1 →
bcase (decide (i_1 < ((lL : Nat) : Int))) (
(0 ≤ i_1 ∧ i_1 < ((lL : Nat) : Int)) ∧
onAddr l fun b1 o1 =>
∃ n1 : Int, cell h1 b1 (o1 + (i_1).toNat) = some (.int .i64 n1) ∧
bcase (!decide (n1 = n)) (
(0 ≤ i_1 ∧ i_1 < ((lL : Nat) : Int)) ∧
onAddr l fun b2 o2 =>
∃ n2 : Int, cell h1 b2 (o2 + (i_1).toNat) = some (.int .i64 n2) ∧
∀ (b3 : Nat) (h2 : Heap), b3 = h1.size → h2 = h1.push (.cells ([(.int .i64 n2)] : List Value).toArray 3) →
∃ news1 : List Value, (row h2 b3 0 1 = some news1 ∧ ∀ u ∈ news1, u.oneCell' = true) ∧
appK h2 out_1 out_1l out_1c 1 1 3 8 news1 fun (a1 : Option Addr) (cap1 : Nat) (h3 : Heap) =>
fits .i64 (i_1 + (1 : Int)) ∧
I1 a1 (out_1l + 1) cap1 (i_1 + (1 : Int)) h3 ∧ m1 a1 (out_1l + 1) cap1 (i_1 + (1 : Int)) h3 < m1 out_1 out_1l out_1c i_1 h1) (
fits .i64 (i_1 + (1 : Int)) ∧
I1 out_1 out_1l out_1c (i_1 + (1 : Int)) h1 ∧ m1 out_1 out_1l out_1c (i_1 + (1 : Int)) h1 < m1 out_1 out_1l out_1c i_1 h1)) (
Post (.slice out_1 out_1l out_1c) h1)) :
    Runs Tryd.prog 71 #[(.slice l lL lC), (.int .i64 n)] h0 Post :=
  runs_of (args := [(.slice l lL lC), (.int .i64 n)]) (fun n => ⟨true, false⟩) (fun n => match n with | 0 => [(5, .slice), (6, .int .i64)] | _ => []) (fun _ => none) (fun _ => []) Tryd.func71 rfl (by rw [Tryd.ntmps71]; simp) (Eq.mp (by kernel_rfl) H)
end Go.Proofs.YtpcilleldanfmaaDoor
