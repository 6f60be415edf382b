/- The conditions for calls of functions of the program, in plain form: written by a program (vcgen) off the elaborated code; each is the reckoner's own, by the kernel. -/
import Derived.Test.YteojoiglffkbmaaRows
import Derived.Test.YteojoiglffkbmaaVc
set_option linter.unusedVariables false
set_option maxRecDepth 100000
namespace Go.Proofs.Yteojoiglffkbmaa
open Go.Vc
theorem vc_muezzinref8_NewQueue (seed : Int) (target : Int) (interval : Int) (h0 : Heap) (Post : Value → Heap → Prop) (H :
∀ (b1 : Nat) (h1 : Heap), b1 = h0.size → h1 = h0.push (.cells ([(.int .u32 seed), (.int .i64 target), (.int .i64 interval), (.slice none 0 0), (.int .i64 (0 : Int)), (.int .i64 (0 : Int)), (.int .i64 (0 : Int)), (.int .u32 (0 : Int)), (.int .u32 (0 : Int)), (.bool false), (.slice none 0 0), (.int .i64 (0 : Int)), (.int .i64 (0 : Int)), (.int .i64 (0 : Int)), (.int .u32 (0 : Int)), (.int .u32 (0 : Int)), (.bool false), (.slice none 0 0), (.int .i64 (0 : Int)), (.int .i64 (0 : Int)), (.int .i64 (0 : Int)), (.int .u32 (0 : Int)), (.int .u32 (0 : Int)), (.bool false), (.slice none 0 0), (.int .i64 (0 : Int)), (.int .i64 (0 : Int)), (.int .i64 (0 : Int)), (.int .u32 (0 : Int)), (.int .u32 (0 : Int)), (.bool false), (.slice none 0 0), (.int .i64 (0 : Int)), (.int .i64 (0 : Int)), (.int .i64 (0 : Int)), (.int .u32 (0 : Int)), (.int .u32 (0 : Int)), (.bool false), (.slice none 0 0), (.int .i64 (0 : Int)), (.int .i64 (0 : Int)), (.int .i64 (0 : Int)), (.int .u32 (0 : Int)), (.int .u32 (0 : Int)), (.bool false), (.slice none 0 0), (.int .i64 (0 : Int)), (.int .i64 (0 : Int)), (.int .i64 (0 : Int)), (.int .u32 (0 : Int)), (.int .u32 (0 : Int)), (.bool false), (.slice none 0 0), (.int .i64 (0 : Int)), (.int .i64 (0 : Int)), (.int .i64 (0 : Int)), (.int .u32 (0 : Int)), (.int .u32 (0 : Int)), (.bool false), (.slice none 0 0), (.int .i64 (0 : Int)), (.int .i64 (0 : Int)), (.int .i64 (0 : Int)), (.int .u32 (0 : Int)), (.int .u32 (0 : Int)), (.bool false), (.slice none 0 0), (.int .i64 (0 : Int)), (.int .i64 (0 : Int)), (.int .i64 (0 : Int)), (.int .u32 (0 : Int)), (.int .u32 (0 : Int)), (.bool false), (.slice none 0 0), (.int .i64 (0 : Int)), (.int .i64 (0 : Int)), (.int .i64 (0 : Int)), (.int .u32 (0 : Int)), (.int .u32 (0 : Int)), (.bool false), (.slice none 0 0), (.int .i64 (0 : Int)), (.int .i64 (0 : Int)), (.int .i64 (0 : Int)), (.int .u32 (0 : Int)), (.int .u32 (0 : Int)), (.bool false), (.slice none 0 0), (.int .i64 (0 : Int)), (.int .i64 (0 : Int)), (.int .i64 (0 : Int)), (.int .u32 (0 : Int)), (.int .u32 (0 : Int)), (.bool false), (.slice none 0 0), (.int .i64 (0 : Int)), (.int .i64 (0 : Int)), (.int .i64 (0 : Int)), (.int .u32 (0 : Int)), (.int .u32 (0 : Int)), (.bool false), (.slice none 0 0), (.int .i64 (0 : Int)), (.int .i64 (0 : Int)), (.int .i64 (0 : Int)), (.int .u32 (0 : Int)), (.int .u32 (0 : Int)), (.bool false), (.slice none 0 0), (.int .i64 (0 : Int)), (.int .i64 (0 : Int)), (.int .i64 (0 : Int)), (.int .u32 (0 : Int)), (.int .u32 (0 : Int)), (.bool false), (.slice none 0 0), (.slice none 0 0)] : List Value).toArray 87) →
Post (.pointer (some ⟨b1, 0, none⟩)) h1) :
    Runs Try.prog 26 #[(.int .u32 seed), (.int .i64 target), (.int .i64 interval)] h0 Post :=
  runs_of (args := [(.int .u32 seed), (.int .i64 target), (.int .i64 interval)]) (fun n => ⟨true, false⟩) (fun _ => []) (fun _ => none) (fun _ => []) Try.func26 rfl (by rw [Try.ntmps26]; simp) (Eq.mp (by kernel_rfl) H)

theorem vc_muezzinref8_items (l : Option Addr) (lL lC : Nat) (h0 : Heap) (Post : Value → Heap → Prop) (H :
∃ (I1 : Option Addr → Nat → Nat → Int → Heap → Prop) (m1 : Option Addr → Nat → Nat → Int → Heap → Nat), I1 none 0 0 (0 : Int) h0 ∧ ∀ _ : Env,
∀ (out_1 : Option Addr) (out_1l out_1c : Nat) (i_1 : Int) (h1 : Heap), I1 out_1 out_1l out_1c i_1 h1 →
bcase (decide (i_1 < ((lL : Nat) : Int))) (
(0 ≤ i_1 ∧ i_1 < ((lL : Nat) : Int)) ∧
onAddr l fun b1 o1 =>
∃ n1 : Int, cell h1 b1 ((o1 + ((i_1).toNat * 5)) + 3) = some (.int .i64 n1) ∧
(0 ≤ i_1 ∧ i_1 < ((lL : Nat) : Int)) ∧
onAddr l fun b2 o2 =>
∃ (s1 : Option Addr) (s1l s1c : Nat), cell h1 b2 ((o2 + ((i_1).toNat * 5)) + 4) = some (.slice s1 s1l s1c) ∧
([(.int .i64 n1), (.int .i64 ((s1l : Nat) : Int))] : List Value).length = 2 ∧
∀ (b3 : Nat) (h2 : Heap), b3 = h1.size → h2 = h1.push (.cells ([(.int .i64 n1), (.int .i64 ((s1l : Nat) : Int))] : List Value).toArray 98) →
∃ news1 : List Value, (row h2 b3 0 2 = some news1 ∧ ∀ u ∈ news1, u.oneCell' = true) ∧
appK h2 out_1 out_1l out_1c 1 2 98 16 news1 fun (a1 : Option Addr) (cap1 : Nat) (h3 : Heap) =>
cell h3 b2 ((o2 + ((i_1).toNat * 5)) + 4) = some (.slice s1 s1l s1c) ∧
cell h3 b1 ((o1 + ((i_1).toNat * 5)) + 3) = some (.int .i64 n1) ∧
fits .i64 (i_1 + (1 : Int)) ∧
I1 a1 (out_1l + 1) cap1 (i_1 + (1 : Int)) h3 ∧ m1 a1 (out_1l + 1) cap1 (i_1 + (1 : Int)) h3 < m1 out_1 out_1l out_1c i_1 h1) (
Post (.slice out_1 out_1l out_1c) h1)) :
    Runs Try.prog 56 #[(.slice l lL lC)] h0 Post :=
  runs_of (args := [(.slice l lL lC)]) (fun n => ⟨true, false⟩) (fun n => match n with | 0 => [(3, .slice), (4, .int .i64)] | _ => []) (fun _ => none) (fun _ => []) Try.func56 rfl (by rw [Try.ntmps56]; simp) (Eq.mp (by kernel_rfl) H)

theorem vc_muezzinref8_flow_bytes (f : Option Addr) (h0 : Heap) (Post : Value → Heap → Prop) (H :
∃ (I1 : Int → Int → Heap → Prop) (m1 : Int → Int → Heap → Nat), I1 (0 : Int) (0 : Int) h0 ∧ ∀ _ : Env,
∀ (n_1 : Int) (i_1 : Int) (h1 : Heap), I1 n_1 i_1 h1 →
onAddr f fun b1 o1 =>
∃ (s1 : Option Addr) (s1l s1c : Nat), cell h1 b1 o1 = some (.slice s1 s1l s1c) ∧
bcase (decide (i_1 < ((s1l : Nat) : Int))) (
onAddr f fun b2 o2 =>
∃ (s2 : Option Addr) (s2l s2c : Nat), cell h1 b2 o2 = some (.slice s2 s2l s2c) ∧
(0 ≤ i_1 ∧ i_1 < ((s2l : Nat) : Int)) ∧
onAddr s2 fun b3 o3 =>
∃ (s3 : Option Addr) (s3l s3c : Nat), cell h1 b3 ((o3 + ((i_1).toNat * 5)) + 4) = some (.slice s3 s3l s3c) ∧
fits .i64 (n_1 + ((s3l : Nat) : Int)) ∧
fits .i64 (i_1 + (1 : Int)) ∧
I1 (n_1 + ((s3l : Nat) : Int)) (i_1 + (1 : Int)) h1 ∧ m1 (n_1 + ((s3l : Nat) : Int)) (i_1 + (1 : Int)) h1 < m1 n_1 i_1 h1) (
Post (.int .i64 n_1) h1)) :
    Runs Try.prog 55 #[(.pointer f)] h0 Post :=
  runs_of (args := [(.pointer f)]) (fun n => ⟨true, false⟩) (fun n => match n with | 0 => [(3, .int .i64), (4, .int .i64)] | _ => []) (fun _ => none) (fun _ => []) Try.func55 rfl (by rw [Try.ntmps55]; simp) (Eq.mp (by kernel_rfl) H)

theorem vc_muezzinref8_Queue_Put (q : Nat) (p : List Value) (h0 : Heap) (Post : Value → Heap → Prop) (H :
∀ (b1 : Nat) (h1 : Heap), b1 = h0.size → h1 = h0.push (.cells (p).toArray 35) →
∃ n1 : Int, cell h1 b1 1 = some (.int .u32 n1) ∧
∃ n2 : Int, cell h1 q 0 = some (.int .u32 n2) ∧
Runs Try.prog 12 #[(.int .u32 n1), (.int .u32 n2)] h1 fun r1 h2 =>
∃ n3 : Int,
r1 = (.int .i64 n3) ∧
(0 ≤ n3 ∧ n3 < ((16 : Nat) : Int)) ∧
∃ (s1 : Option Addr) (s1l s1c : Nat), cell h2 q (3 + ((n3).toNat * 7)) = some (.slice s1 s1l s1c) ∧
∃ cs1 : List Value, row h2 b1 0 5 = some cs1 ∧
Runs Try.prog 52 #[(.agg (cs1).toArray)] h2 fun r2 h3 =>
∃ cs2 : List Value,
r2 = (.agg (cs2).toArray) ∧
cell h3 q (3 + ((n3).toNat * 7)) = some (.slice s1 s1l s1c) ∧
(cs2).length = 5 ∧
∀ (b2 : Nat) (h4 : Heap), b2 = h3.size → h4 = h3.push (.cells (((cs2) ++ [])).toArray 35) →
∃ news1 : List Value, (row h4 b2 0 5 = some news1 ∧ ∀ u ∈ news1, u.oneCell' = true) ∧
appK h4 s1 s1l s1c 1 5 35 56 news1 fun (a1 : Option Addr) (cap1 : Nat) (h5 : Heap) =>
wr h5 q (3 + ((n3).toNat * 7)) ∧ ∀ h6 : Heap, h6 = setc h5 q (3 + ((n3).toNat * 7)) (.slice a1 (s1l + 1) cap1) →
∃ (s2 : Option Addr) (s2l s2c : Nat), cell h6 q 115 = some (.slice s2 s2l s2c) ∧
Runs Try.prog 13 #[(.slice s2 s2l s2c), (.int .i64 n3)] h6 fun r3 h7 =>
∃ t1 : Bool,
r3 = (.bool t1) ∧
bcase (!t1) (
∃ (s3 : Option Addr) (s3l s3c : Nat), cell h7 q 116 = some (.slice s3 s3l s3c) ∧
Runs Try.prog 13 #[(.slice s3 s3l s3c), (.int .i64 n3)] h7 fun r4 h8 =>
∃ t2 : Bool,
r4 = (.bool t2) ∧
bcase (!t2) (
wr h8 q ((3 + ((n3).toNat * 7)) + 1) ∧ ∀ h9 : Heap, h9 = setc h8 q ((3 + ((n3).toNat * 7)) + 1) (.int .i64 (300 : Int)) →
∃ (s4 : Option Addr) (s4l s4c : Nat), cell h9 q 115 = some (.slice s4 s4l s4c) ∧
∀ (b3 : Nat) (h10 : Heap), b3 = h9.size → h10 = h9.push (.cells ([(.int .i64 n3)] : List Value).toArray 3) →
∃ news2 : List Value, (row h10 b3 0 1 = some news2 ∧ ∀ u ∈ news2, u.oneCell' = true) ∧
appK h10 s4 s4l s4c 1 1 3 8 news2 fun (a2 : Option Addr) (cap2 : Nat) (h11 : Heap) =>
wr h11 q 115 ∧ ∀ h12 : Heap, h12 = setc h11 q 115 (.slice a2 (s4l + 1) cap2) →
Post (.int .i64 n3) h12) (
Post (.int .i64 n3) h8)) (
Post (.int .i64 n3) h7)) :
    Runs Try.prog 27 #[(.pointer (some ⟨q, 0, none⟩)), (.agg (p).toArray)] h0 Post :=
  runs_of (args := [(.pointer (some ⟨q, 0, none⟩)), (.agg (p).toArray)]) (fun n => ⟨true, false⟩) (fun _ => []) (fun _ => none) (fun _ => []) Try.func27 rfl (by rw [Try.ntmps27]; simp) (Eq.mp (by kernel_rfl) H)

theorem vc_muezzinref8_Queue_Take (q : Nat) (now : Int) (h0 : Heap) (Post : Value → Heap → Prop) (H :
∀ (b1 : Nat) (h1 : Heap), b1 = h0.size → h1 = h0.push (.cells ([(.int .i64 (0 : Int)), (.int .u32 (0 : Int)), (.int .i64 (0 : Int)), (.int .i64 (0 : Int)), (.slice none 0 0)] : List Value).toArray 35) →
∃ (I1 : Option Addr → Nat → Nat → Heap → Prop) (m1 : Option Addr → Nat → Nat → Heap → Nat), I1 none 0 0 h1 ∧ ∀ _ : Env,
∀ (dropped_1 : Option Addr) (dropped_1l dropped_1c : Nat) (h2 : Heap), I1 dropped_1 dropped_1l dropped_1c h2 →
∃ (s1 : Option Addr) (s1l s1c : Nat), cell h2 q 115 = some (.slice s1 s1l s1c) ∧
∃ (s2 : Option Addr) (s2l s2c : Nat), cell h2 q 116 = some (.slice s2 s2l s2c) ∧
fits .i64 (((s1l : Nat) : Int) + ((s2l : Nat) : Int)) ∧
bcase (decide ((0 : Int) < (((s1l : Nat) : Int) + ((s2l : Nat) : Int)))) (
∃ (s3 : Option Addr) (s3l s3c : Nat), cell h2 q 115 = some (.slice s3 s3l s3c) ∧
∃ J1 : Int → Heap → Prop, (
bcase (decide ((0 : Int) < ((s3l : Nat) : Int))) (
∃ (s4 : Option Addr) (s4l s4c : Nat), cell h2 q 115 = some (.slice s4 s4l s4c) ∧
(0 ≤ (0 : Int) ∧ (0 : Int) < ((s4l : Nat) : Int)) ∧
onAddr s4 fun b2 o1 =>
∃ n1 : Int, cell h2 b2 o1 = some (.int .i64 n1) ∧
J1 n1 h2) (
∃ (s5 : Option Addr) (s5l s5c : Nat), cell h2 q 116 = some (.slice s5 s5l s5c) ∧
(0 ≤ (0 : Int) ∧ (0 : Int) < ((s5l : Nat) : Int)) ∧
onAddr s5 fun b3 o2 =>
∃ n2 : Int, cell h2 b3 o2 = some (.int .i64 n2) ∧
J1 n2 h2)) ∧ ∀ _ : Env,
∀ (b_1 : Int) (h3 : Heap), J1 b_1 h3 →
(0 ≤ b_1 ∧ b_1 < ((16 : Nat) : Int)) ∧
∃ n3 : Int, cell h3 q ((3 + ((b_1).toNat * 7)) + 1) = some (.int .i64 n3) ∧
bcase (decide (n3 ≤ (0 : Int))) (
∃ n4 : Int, cell h3 q ((3 + ((b_1).toNat * 7)) + 1) = some (.int .i64 n4) ∧
fits .i64 (n4 + (300 : Int)) ∧
wr h3 q ((3 + ((b_1).toNat * 7)) + 1) ∧ ∀ h4 : Heap, h4 = setc h3 q ((3 + ((b_1).toNat * 7)) + 1) (.int .i64 (n4 + (300 : Int))) →
∃ (s6 : Option Addr) (s6l s6c : Nat), cell h4 q 115 = some (.slice s6 s6l s6c) ∧
Runs Try.prog 53 #[(.slice s6 s6l s6c), (.int .i64 b_1)] h4 fun r1 h5 =>
∃ (s7 : Option Addr) (s7l s7c : Nat),
r1 = (.slice s7 s7l s7c) ∧
wr h5 q 115 ∧ ∀ h6 : Heap, h6 = setc h5 q 115 (.slice s7 s7l s7c) →
∃ (s8 : Option Addr) (s8l s8c : Nat), cell h6 q 116 = some (.slice s8 s8l s8c) ∧
Runs Try.prog 53 #[(.slice s8 s8l s8c), (.int .i64 b_1)] h6 fun r2 h7 =>
∃ (s9 : Option Addr) (s9l s9c : Nat),
r2 = (.slice s9 s9l s9c) ∧
∀ (b4 : Nat) (h8 : Heap), b4 = h7.size → h8 = h7.push (.cells ([(.int .i64 b_1)] : List Value).toArray 3) →
∃ news1 : List Value, (row h8 b4 0 1 = some news1 ∧ ∀ u ∈ news1, u.oneCell' = true) ∧
appK h8 s9 s9l s9c 1 1 3 8 news1 fun (a1 : Option Addr) (cap1 : Nat) (h9 : Heap) =>
wr h9 q 116 ∧ ∀ h10 : Heap, h10 = setc h9 q 116 (.slice a1 (s9l + 1) cap1) →
I1 dropped_1 dropped_1l dropped_1c h10 ∧ m1 dropped_1 dropped_1l dropped_1c h10 < m1 dropped_1 dropped_1l dropped_1c h2) (
∃ J2 : Option Addr → Int → Bool → Heap → Prop, (
∃ cs1 : List Value, row h3 q ((3 + ((b_1).toNat * 7)) + 2) 5 = some cs1 ∧
∃ n5 : Int, cell h3 q 1 = some (.int .i64 n5) ∧
∃ n6 : Int, cell h3 q 2 = some (.int .i64 n6) ∧
∃ (s10 : Option Addr) (s10l s10c : Nat), cell h3 q (3 + ((b_1).toNat * 7)) = some (.slice s10 s10l s10c) ∧
(
Runs Try.prog 55 #[(.pointer (some ⟨q, (3 + ((b_1).toNat * 7)), none⟩))] h3 fun r3 h11 =>
∃ n7 : Int,
r3 = (.int .i64 n7) ∧
cell h11 q (3 + ((b_1).toNat * 7)) = some (.slice s10 s10l s10c) ∧
cell h11 q 2 = some (.int .i64 n6) ∧
cell h11 q 1 = some (.int .i64 n5) ∧
row h11 q ((3 + ((b_1).toNat * 7)) + 2) 5 = some (cs1) ∧
(
Runs Try.prog 56 #[(.slice s10 s10l s10c)] h11 fun r4 h12 =>
∃ (s11 : Option Addr) (s11l s11c : Nat),
r4 = (.slice s11 s11l s11c) ∧
cell h12 q 2 = some (.int .i64 n6) ∧
cell h12 q 1 = some (.int .i64 n5) ∧
row h12 q ((3 + ((b_1).toNat * 7)) + 2) 5 = some (cs1) ∧
(
Runs Try.prog 54 #[(.agg (cs1).toArray), (.int .i64 now), (.int .i64 n5), (.int .i64 n6), (.int .i64 n7), (.slice s11 s11l s11c)] h12 fun r5 h13 =>
∃ cs2 : List Value,
∃ n8 : Int,
∃ t1 : Bool,
r5 = (.tuple #[(.agg (cs2).toArray), (.int .i64 n8), (.bool t1)]) ∧
∀ (b5 : Nat) (h14 : Heap), b5 = h13.size → h14 = h13.push (.cells ([(.int .i64 (0 : Int)), (.int .i64 (0 : Int)), (.int .u32 (0 : Int)), (.int .u32 (0 : Int)), (.bool false)] : List Value).toArray 82) →
(((cs2)).length = 5 ∧ wrs h14 b5 0 5 ∧ ∀ u ∈ ((cs2) : List Value), u.oneCell' = true) ∧ ∀ h15 : Heap, h15 = setr h14 b5 0 (cs2) →
J2 (some ⟨b5, 0, none⟩) n8 t1 h15) ∧
(
∀ (b6 : Nat) (h16 : Heap), b6 = h12.size → h16 = h12.push (.cells ([(.int .i64 (0 : Int)), (.int .i64 (0 : Int)), (.int .u32 (0 : Int)), (.int .u32 (0 : Int)), (.bool false)] : List Value).toArray 82) →
Runs Try.prog 54 #[(.agg (cs1).toArray), (.int .i64 now), (.int .i64 n5), (.int .i64 n6), (.int .i64 n7), (.slice s11 s11l s11c)] h16 fun r6 h17 =>
∃ cs3 : List Value,
∃ n9 : Int,
∃ t2 : Bool,
r6 = (.tuple #[(.agg (cs3).toArray), (.int .i64 n9), (.bool t2)]) ∧
(((cs3)).length = 5 ∧ wrs h17 b6 0 5 ∧ ∀ u ∈ ((cs3) : List Value), u.oneCell' = true) ∧ ∀ h18 : Heap, h18 = setr h17 b6 0 (cs3) →
J2 (some ⟨b6, 0, none⟩) n9 t2 h18)) ∧
(
∀ (b7 : Nat) (h19 : Heap), b7 = h11.size → h19 = h11.push (.cells ([(.int .i64 (0 : Int)), (.int .i64 (0 : Int)), (.int .u32 (0 : Int)), (.int .u32 (0 : Int)), (.bool false)] : List Value).toArray 82) →
Runs Try.prog 56 #[(.slice s10 s10l s10c)] h19 fun r7 h20 =>
∃ (s12 : Option Addr) (s12l s12c : Nat),
r7 = (.slice s12 s12l s12c) ∧
cell h20 q 2 = some (.int .i64 n6) ∧
cell h20 q 1 = some (.int .i64 n5) ∧
row h20 q ((3 + ((b_1).toNat * 7)) + 2) 5 = some (cs1) ∧
Runs Try.prog 54 #[(.agg (cs1).toArray), (.int .i64 now), (.int .i64 n5), (.int .i64 n6), (.int .i64 n7), (.slice s12 s12l s12c)] h20 fun r8 h21 =>
∃ cs4 : List Value,
∃ n10 : Int,
∃ t3 : Bool,
r8 = (.tuple #[(.agg (cs4).toArray), (.int .i64 n10), (.bool t3)]) ∧
(((cs4)).length = 5 ∧ wrs h21 b7 0 5 ∧ ∀ u ∈ ((cs4) : List Value), u.oneCell' = true) ∧ ∀ h22 : Heap, h22 = setr h21 b7 0 (cs4) →
J2 (some ⟨b7, 0, none⟩) n10 t3 h22)) ∧
(
∀ (b8 : Nat) (h23 : Heap), b8 = h3.size → h23 = h3.push (.cells ([(.int .i64 (0 : Int)), (.int .i64 (0 : Int)), (.int .u32 (0 : Int)), (.int .u32 (0 : Int)), (.bool false)] : List Value).toArray 82) →
Runs Try.prog 55 #[(.pointer (some ⟨q, (3 + ((b_1).toNat * 7)), none⟩))] h23 fun r9 h24 =>
∃ n11 : Int,
r9 = (.int .i64 n11) ∧
cell h24 q (3 + ((b_1).toNat * 7)) = some (.slice s10 s10l s10c) ∧
cell h24 q 2 = some (.int .i64 n6) ∧
cell h24 q 1 = some (.int .i64 n5) ∧
row h24 q ((3 + ((b_1).toNat * 7)) + 2) 5 = some (cs1) ∧
Runs Try.prog 56 #[(.slice s10 s10l s10c)] h24 fun r10 h25 =>
∃ (s13 : Option Addr) (s13l s13c : Nat),
r10 = (.slice s13 s13l s13c) ∧
cell h25 q 2 = some (.int .i64 n6) ∧
cell h25 q 1 = some (.int .i64 n5) ∧
row h25 q ((3 + ((b_1).toNat * 7)) + 2) 5 = some (cs1) ∧
Runs Try.prog 54 #[(.agg (cs1).toArray), (.int .i64 now), (.int .i64 n5), (.int .i64 n6), (.int .i64 n11), (.slice s13 s13l s13c)] h25 fun r11 h26 =>
∃ cs5 : List Value,
∃ n12 : Int,
∃ t4 : Bool,
r11 = (.tuple #[(.agg (cs5).toArray), (.int .i64 n12), (.bool t4)]) ∧
(((cs5)).length = 5 ∧ wrs h26 b8 0 5 ∧ ∀ u ∈ ((cs5) : List Value), u.oneCell' = true) ∧ ∀ h27 : Heap, h27 = setr h26 b8 0 (cs5) →
J2 (some ⟨b8, 0, none⟩) n12 t4 h27)) ∧ ∀ _ : Env,
∀ (c_1 : Option Addr) (n_1 : Int) (is_1 : Bool) (h28 : Heap), J2 c_1 n_1 is_1 h28 →
onAddr c_1 fun b9 o3 =>
∃ cs6 : List Value, row h28 b9 o3 5 = some cs6 ∧
(((cs6)).length = 5 ∧ wrs h28 q ((3 + ((b_1).toNat * 7)) + 2) 5 ∧ ∀ u ∈ ((cs6) : List Value), u.oneCell' = true) ∧ ∀ h29 : Heap, h29 = setr h28 q ((3 + ((b_1).toNat * 7)) + 2) (cs6) →
∃ (I2 : Option Addr → Nat → Nat → Int → Heap → Prop) (m2 : Option Addr → Nat → Nat → Int → Heap → Nat), I2 dropped_1 dropped_1l dropped_1c (0 : Int) h29 ∧ ∀ _ : Env,
∀ (dropped_2 : Option Addr) (dropped_2l dropped_2c : Nat) (i_1 : Int) (h30 : Heap), I2 dropped_2 dropped_2l dropped_2c i_1 h30 →
bcase (decide (i_1 < n_1)) (
∃ (s14 : Option Addr) (s14l s14c : Nat), cell h30 q (3 + ((b_1).toNat * 7)) = some (.slice s14 s14l s14c) ∧
(0 ≤ i_1 ∧ i_1 < ((s14l : Nat) : Int)) ∧
onAddr s14 fun b10 o4 =>
∃ cs7 : List Value, row h30 b10 (o4 + ((i_1).toNat * 5)) 5 = some cs7 ∧
(cs7).length = 5 ∧
∀ (b11 : Nat) (h31 : Heap), b11 = h30.size → h31 = h30.push (.cells (((cs7) ++ [])).toArray 35) →
∃ news2 : List Value, (row h31 b11 0 5 = some news2 ∧ ∀ u ∈ news2, u.oneCell' = true) ∧
appK h31 dropped_2 dropped_2l dropped_2c 1 5 35 56 news2 fun (a2 : Option Addr) (cap2 : Nat) (h32 : Heap) =>
fits .i64 (i_1 + (1 : Int)) ∧
I2 a2 (dropped_2l + 1) cap2 (i_1 + (1 : Int)) h32 ∧ m2 a2 (dropped_2l + 1) cap2 (i_1 + (1 : Int)) h32 < m2 dropped_2 dropped_2l dropped_2c i_1 h30) (
∃ (s15 : Option Addr) (s15l s15c : Nat), cell h30 q (3 + ((b_1).toNat * 7)) = some (.slice s15 s15l s15c) ∧
(0 ≤ n_1 ∧ n_1 ≤ ((s15l : Nat) : Int)) ∧
Runs Try.prog 17 #[(.slice (slcAddr s15 (n_1).toNat s15c ((n_1).toNat * 5)) (s15l - (n_1).toNat) (s15c - (n_1).toNat))] h30 fun r12 h33 =>
∃ (s16 : Option Addr) (s16l s16c : Nat),
r12 = (.slice s16 s16l s16c) ∧
wr h33 q (3 + ((b_1).toNat * 7)) ∧ ∀ h34 : Heap, h34 = setc h33 q (3 + ((b_1).toNat * 7)) (.slice s16 s16l s16c) →
bcase (!is_1) (
∃ J3 : Bool → Heap → Prop, (
bcase (decide ((0 : Int) < ((s3l : Nat) : Int))) (
∃ (s17 : Option Addr) (s17l s17c : Nat), cell h34 q 116 = some (.slice s17 s17l s17c) ∧
J3 (decide ((0 : Int) < ((s17l : Nat) : Int))) h34) (
J3 false h34)) ∧ ∀ _ : Env,
∀ (again_1 : Bool) (h35 : Heap), J3 again_1 h35 →
∃ (s18 : Option Addr) (s18l s18c : Nat), cell h35 q 115 = some (.slice s18 s18l s18c) ∧
Runs Try.prog 53 #[(.slice s18 s18l s18c), (.int .i64 b_1)] h35 fun r13 h36 =>
∃ (s19 : Option Addr) (s19l s19c : Nat),
r13 = (.slice s19 s19l s19c) ∧
wr h36 q 115 ∧ ∀ h37 : Heap, h37 = setc h36 q 115 (.slice s19 s19l s19c) →
∃ (s20 : Option Addr) (s20l s20c : Nat), cell h37 q 116 = some (.slice s20 s20l s20c) ∧
Runs Try.prog 53 #[(.slice s20 s20l s20c), (.int .i64 b_1)] h37 fun r14 h38 =>
∃ (s21 : Option Addr) (s21l s21c : Nat),
r14 = (.slice s21 s21l s21c) ∧
wr h38 q 116 ∧ ∀ h39 : Heap, h39 = setc h38 q 116 (.slice s21 s21l s21c) →
bcase again_1 (
∃ (s22 : Option Addr) (s22l s22c : Nat), cell h39 q 116 = some (.slice s22 s22l s22c) ∧
∀ (b12 : Nat) (h40 : Heap), b12 = h39.size → h40 = h39.push (.cells ([(.int .i64 b_1)] : List Value).toArray 3) →
∃ news3 : List Value, (row h40 b12 0 1 = some news3 ∧ ∀ u ∈ news3, u.oneCell' = true) ∧
appK h40 s22 s22l s22c 1 1 3 8 news3 fun (a3 : Option Addr) (cap3 : Nat) (h41 : Heap) =>
wr h41 q 116 ∧ ∀ h42 : Heap, h42 = setc h41 q 116 (.slice a3 (s22l + 1) cap3) →
I1 dropped_2 dropped_2l dropped_2c h42 ∧ m1 dropped_2 dropped_2l dropped_2c h42 < m1 dropped_1 dropped_1l dropped_1c h2) (
I1 dropped_2 dropped_2l dropped_2c h39 ∧ m1 dropped_2 dropped_2l dropped_2c h39 < m1 dropped_1 dropped_1l dropped_1c h2)) (
∃ (s23 : Option Addr) (s23l s23c : Nat), cell h34 q (3 + ((b_1).toNat * 7)) = some (.slice s23 s23l s23c) ∧
(0 ≤ (0 : Int) ∧ (0 : Int) < ((s23l : Nat) : Int)) ∧
onAddr s23 fun b13 o5 =>
∃ cs8 : List Value, row h34 b13 o5 5 = some cs8 ∧
∀ (b14 : Nat) (h43 : Heap), b14 = h34.size → h43 = h34.push (.cells ([(.int .i64 (0 : Int)), (.int .u32 (0 : Int)), (.int .i64 (0 : Int)), (.int .i64 (0 : Int)), (.slice none 0 0)] : List Value).toArray 35) →
(((cs8)).length = 5 ∧ wrs h43 b14 0 5 ∧ ∀ u ∈ ((cs8) : List Value), u.oneCell' = true) ∧ ∀ h44 : Heap, h44 = setr h43 b14 0 (cs8) →
∃ (s24 : Option Addr) (s24l s24c : Nat), cell h44 q (3 + ((b_1).toNat * 7)) = some (.slice s24 s24l s24c) ∧
(0 ≤ (1 : Int) ∧ (1 : Int) ≤ ((s24l : Nat) : Int)) ∧
Runs Try.prog 17 #[(.slice (slcAddr s24 1 s24c 5) (s24l - 1) (s24c - 1))] h44 fun r15 h45 =>
∃ (s25 : Option Addr) (s25l s25c : Nat),
r15 = (.slice s25 s25l s25c) ∧
wr h45 q (3 + ((b_1).toNat * 7)) ∧ ∀ h46 : Heap, h46 = setc h45 q (3 + ((b_1).toNat * 7)) (.slice s25 s25l s25c) →
∃ n13 : Int, cell h46 q ((3 + ((b_1).toNat * 7)) + 1) = some (.int .i64 n13) ∧
∃ (s26 : Option Addr) (s26l s26c : Nat), cell h46 b14 4 = some (.slice s26 s26l s26c) ∧
fits .i64 (n13 - ((s26l : Nat) : Int)) ∧
wr h46 q ((3 + ((b_1).toNat * 7)) + 1) ∧ ∀ h47 : Heap, h47 = setc h46 q ((3 + ((b_1).toNat * 7)) + 1) (.int .i64 (n13 - ((s26l : Nat) : Int))) →
∃ cs9 : List Value, row h47 b14 0 5 = some cs9 ∧
(((cs9)).length = 5 ∧ wrs h47 b1 0 5 ∧ ∀ u ∈ ((cs9) : List Value), u.oneCell' = true) ∧ ∀ h48 : Heap, h48 = setr h47 b1 0 (cs9) →
∃ cs10 : List Value, row h48 b1 0 5 = some cs10 ∧
Post (.tuple #[(.agg (cs10).toArray), (.slice dropped_2 dropped_2l dropped_2c), (.bool true)]) h48)))) (
((([(.int .i64 (0 : Int)), (.int .u32 (0 : Int)), (.int .i64 (0 : Int)), (.int .i64 (0 : Int)), (.slice none 0 0)] : List Value)).length = 5 ∧ wrs h2 b1 0 5 ∧ ∀ u ∈ (([(.int .i64 (0 : Int)), (.int .u32 (0 : Int)), (.int .i64 (0 : Int)), (.int .i64 (0 : Int)), (.slice none 0 0)] : List Value) : List Value), u.oneCell' = true) ∧ ∀ h49 : Heap, h49 = setr h2 b1 0 ([(.int .i64 (0 : Int)), (.int .u32 (0 : Int)), (.int .i64 (0 : Int)), (.int .i64 (0 : Int)), (.slice none 0 0)] : List Value) →
∃ cs11 : List Value, row h49 b1 0 5 = some cs11 ∧
Post (.tuple #[(.agg (cs11).toArray), (.slice dropped_1 dropped_1l dropped_1c), (.bool false)]) h49)) :
    Runs Try.prog 28 #[(.pointer (some ⟨q, 0, none⟩)), (.int .i64 now)] h0 Post :=
  runs_of (args := [(.pointer (some ⟨q, 0, none⟩)), (.int .i64 now)]) (fun n => ⟨true, false⟩) (fun n => match n with | 0 => [(7, .slice)] | 2 => [(7, .slice), (14, .int .i64)] | _ => []) (fun n => match n with | 8 => some [(9, .int .i64)] | 14 => some [(11, .ptr), (12, .int .i64), (13, .bool)] | 22 => some [(15, .bool)] | _ => none) (fun _ => []) Try.func28 rfl (by rw [Try.ntmps28]; simp) (Eq.mp (by kernel_rfl) H)

theorem vc_muezzinref8_Queue_Head (q : Nat) (b : Int) (h0 : Heap) (Post : Value → Heap → Prop) (H :
∀ (b1 : Nat) (h1 : Heap), b1 = h0.size → h1 = h0.push (.cells ([(.int .i64 (0 : Int)), (.int .u32 (0 : Int)), (.int .i64 (0 : Int)), (.int .i64 (0 : Int)), (.slice none 0 0)] : List Value).toArray 35) →
bcase (decide (b < (0 : Int))) (
((([(.int .i64 (0 : Int)), (.int .u32 (0 : Int)), (.int .i64 (0 : Int)), (.int .i64 (0 : Int)), (.slice none 0 0)] : List Value)).length = 5 ∧ wrs h1 b1 0 5 ∧ ∀ u ∈ (([(.int .i64 (0 : Int)), (.int .u32 (0 : Int)), (.int .i64 (0 : Int)), (.int .i64 (0 : Int)), (.slice none 0 0)] : List Value) : List Value), u.oneCell' = true) ∧ ∀ h2 : Heap, h2 = setr h1 b1 0 ([(.int .i64 (0 : Int)), (.int .u32 (0 : Int)), (.int .i64 (0 : Int)), (.int .i64 (0 : Int)), (.slice none 0 0)] : List Value) →
∃ cs1 : List Value, row h2 b1 0 5 = some cs1 ∧
Post (.tuple #[(.agg (cs1).toArray), (.bool false)]) h2) (
bcase (decide ((16 : Int) ≤ b)) (
((([(.int .i64 (0 : Int)), (.int .u32 (0 : Int)), (.int .i64 (0 : Int)), (.int .i64 (0 : Int)), (.slice none 0 0)] : List Value)).length = 5 ∧ wrs h1 b1 0 5 ∧ ∀ u ∈ (([(.int .i64 (0 : Int)), (.int .u32 (0 : Int)), (.int .i64 (0 : Int)), (.int .i64 (0 : Int)), (.slice none 0 0)] : List Value) : List Value), u.oneCell' = true) ∧ ∀ h3 : Heap, h3 = setr h1 b1 0 ([(.int .i64 (0 : Int)), (.int .u32 (0 : Int)), (.int .i64 (0 : Int)), (.int .i64 (0 : Int)), (.slice none 0 0)] : List Value) →
∃ cs2 : List Value, row h3 b1 0 5 = some cs2 ∧
Post (.tuple #[(.agg (cs2).toArray), (.bool false)]) h3) (
(0 ≤ b ∧ b < ((16 : Nat) : Int)) ∧
∃ (s1 : Option Addr) (s1l s1c : Nat), cell h1 q (3 + ((b).toNat * 7)) = some (.slice s1 s1l s1c) ∧
bcase (decide (((s1l : Nat) : Int) = (0 : Int))) (
((([(.int .i64 (0 : Int)), (.int .u32 (0 : Int)), (.int .i64 (0 : Int)), (.int .i64 (0 : Int)), (.slice none 0 0)] : List Value)).length = 5 ∧ wrs h1 b1 0 5 ∧ ∀ u ∈ (([(.int .i64 (0 : Int)), (.int .u32 (0 : Int)), (.int .i64 (0 : Int)), (.int .i64 (0 : Int)), (.slice none 0 0)] : List Value) : List Value), u.oneCell' = true) ∧ ∀ h4 : Heap, h4 = setr h1 b1 0 ([(.int .i64 (0 : Int)), (.int .u32 (0 : Int)), (.int .i64 (0 : Int)), (.int .i64 (0 : Int)), (.slice none 0 0)] : List Value) →
∃ cs3 : List Value, row h4 b1 0 5 = some cs3 ∧
Post (.tuple #[(.agg (cs3).toArray), (.bool false)]) h4) (
(0 ≤ b ∧ b < ((16 : Nat) : Int)) ∧
∃ (s2 : Option Addr) (s2l s2c : Nat), cell h1 q (3 + ((b).toNat * 7)) = some (.slice s2 s2l s2c) ∧
(0 ≤ (0 : Int) ∧ (0 : Int) < ((s2l : Nat) : Int)) ∧
onAddr s2 fun b2 o1 =>
∃ cs4 : List Value, row h1 b2 o1 5 = some cs4 ∧
Runs Try.prog 52 #[(.agg (cs4).toArray)] h1 fun r1 h5 =>
∃ cs5 : List Value,
r1 = (.agg (cs5).toArray) ∧
(((cs5)).length = 5 ∧ wrs h5 b1 0 5 ∧ ∀ u ∈ ((cs5) : List Value), u.oneCell' = true) ∧ ∀ h6 : Heap, h6 = setr h5 b1 0 (cs5) →
∃ cs6 : List Value, row h6 b1 0 5 = some cs6 ∧
Post (.tuple #[(.agg (cs6).toArray), (.bool true)]) h6)))) :
    Runs Try.prog 35 #[(.pointer (some ⟨q, 0, none⟩)), (.int .i64 b)] h0 Post :=
  runs_of (args := [(.pointer (some ⟨q, 0, none⟩)), (.int .i64 b)]) (fun n => ⟨true, false⟩) (fun _ => []) (fun _ => none) (fun _ => []) Try.func35 rfl (by rw [Try.ntmps35]; simp) (Eq.mp (by kernel_rfl) H)

theorem vc_muezzinref8_Queue_DropHead (q : Nat) (b : Int) (h0 : Heap) (Post : Value → Heap → Prop) (H :
∀ (b1 : Nat) (h1 : Heap), b1 = h0.size → h1 = h0.push (.cells ([(.int .i64 (0 : Int)), (.int .u32 (0 : Int)), (.int .i64 (0 : Int)), (.int .i64 (0 : Int)), (.slice none 0 0)] : List Value).toArray 35) →
Runs Try.prog 35 #[(.pointer (some ⟨q, 0, none⟩)), (.int .i64 b)] h1 fun r1 h2 =>
∃ cs1 : List Value,
∃ t1 : Bool,
r1 = (.tuple #[(.agg (cs1).toArray), (.bool t1)]) ∧
∀ (b2 : Nat) (h3 : Heap), b2 = h2.size → h3 = h2.push (.cells ([(.int .i64 (0 : Int)), (.int .u32 (0 : Int)), (.int .i64 (0 : Int)), (.int .i64 (0 : Int)), (.slice none 0 0)] : List Value).toArray 35) →
(((cs1)).length = 5 ∧ wrs h3 b2 0 5 ∧ ∀ u ∈ ((cs1) : List Value), u.oneCell' = true) ∧ ∀ h4 : Heap, h4 = setr h3 b2 0 (cs1) →
bcase t1 (
(0 ≤ b ∧ b < ((16 : Nat) : Int)) ∧
∃ (s1 : Option Addr) (s1l s1c : Nat), cell h4 q (3 + ((b).toNat * 7)) = some (.slice s1 s1l s1c) ∧
(0 ≤ (1 : Int) ∧ (1 : Int) ≤ ((s1l : Nat) : Int)) ∧
Runs Try.prog 17 #[(.slice (slcAddr s1 1 s1c 5) (s1l - 1) (s1c - 1))] h4 fun r2 h5 =>
∃ (s2 : Option Addr) (s2l s2c : Nat),
r2 = (.slice s2 s2l s2c) ∧
cell h5 q (3 + ((b).toNat * 7)) = some (.slice s1 s1l s1c) ∧
(0 ≤ b ∧ b < ((16 : Nat) : Int)) ∧
wr h5 q (3 + ((b).toNat * 7)) ∧ ∀ h6 : Heap, h6 = setc h5 q (3 + ((b).toNat * 7)) (.slice s2 s2l s2c) →
∃ cs2 : List Value, row h6 b2 0 5 = some cs2 ∧
(((cs2)).length = 5 ∧ wrs h6 b1 0 5 ∧ ∀ u ∈ ((cs2) : List Value), u.oneCell' = true) ∧ ∀ h7 : Heap, h7 = setr h6 b1 0 (cs2) →
∃ cs3 : List Value, row h7 b1 0 5 = some cs3 ∧
Post (.tuple #[(.agg (cs3).toArray), (.bool t1)]) h7) (
∃ cs4 : List Value, row h4 b2 0 5 = some cs4 ∧
(((cs4)).length = 5 ∧ wrs h4 b1 0 5 ∧ ∀ u ∈ ((cs4) : List Value), u.oneCell' = true) ∧ ∀ h8 : Heap, h8 = setr h4 b1 0 (cs4) →
∃ cs5 : List Value, row h8 b1 0 5 = some cs5 ∧
Post (.tuple #[(.agg (cs5).toArray), (.bool t1)]) h8)) :
    Runs Try.prog 31 #[(.pointer (some ⟨q, 0, none⟩)), (.int .i64 b)] h0 Post :=
  runs_of (args := [(.pointer (some ⟨q, 0, none⟩)), (.int .i64 b)]) (fun n => ⟨true, false⟩) (fun _ => []) (fun _ => none) (fun _ => []) Try.func31 rfl (by rw [Try.ntmps31]; simp) (Eq.mp (by kernel_rfl) H)

theorem vc_muezzinref8_Queue_Fattest (q : Nat) (h0 : Heap) (Post : Value → Heap → Prop) (H :
∃ (I1 : Int → Int → Int → Heap → Prop) (m1 : Int → Int → Int → Heap → Nat), I1 (0 : Int) (-1 : Int) (0 : Int) h0 ∧ ∀ _ : Env,
∀ (best_1 : Int) (most_1 : Int) (b_1 : Int) (h1 : Heap), I1 best_1 most_1 b_1 h1 →
bcase (decide (b_1 < (16 : Int))) (
(0 ≤ b_1 ∧ b_1 < ((16 : Nat) : Int)) ∧
∃ (s1 : Option Addr) (s1l s1c : Nat), cell h1 q (3 + ((b_1).toNat * 7)) = some (.slice s1 s1l s1c) ∧
bcase (decide ((0 : Int) < ((s1l : Nat) : Int))) (
(0 ≤ b_1 ∧ b_1 < ((16 : Nat) : Int)) ∧
Runs Try.prog 55 #[(.pointer (some ⟨q, (3 + ((b_1).toNat * 7)), none⟩))] h1 fun r1 h2 =>
∃ n1 : Int,
r1 = (.int .i64 n1) ∧
bcase (decide (most_1 < n1)) (
(0 ≤ b_1 ∧ b_1 < ((16 : Nat) : Int)) ∧
Runs Try.prog 55 #[(.pointer (some ⟨q, (3 + ((b_1).toNat * 7)), none⟩))] h2 fun r2 h3 =>
∃ n2 : Int,
r2 = (.int .i64 n2) ∧
fits .i64 (b_1 + (1 : Int)) ∧
I1 b_1 n2 (b_1 + (1 : Int)) h3 ∧ m1 b_1 n2 (b_1 + (1 : Int)) h3 < m1 best_1 most_1 b_1 h1) (
fits .i64 (b_1 + (1 : Int)) ∧
I1 best_1 most_1 (b_1 + (1 : Int)) h2 ∧ m1 best_1 most_1 (b_1 + (1 : Int)) h2 < m1 best_1 most_1 b_1 h1)) (
fits .i64 (b_1 + (1 : Int)) ∧
I1 best_1 most_1 (b_1 + (1 : Int)) h1 ∧ m1 best_1 most_1 (b_1 + (1 : Int)) h1 < m1 best_1 most_1 b_1 h1)) (
Post (.tuple #[(.int .i64 best_1), (.int .i64 (max most_1 (0 : Int)))]) h1)) :
    Runs Try.prog 33 #[(.pointer (some ⟨q, 0, none⟩))] h0 Post :=
  runs_of (args := [(.pointer (some ⟨q, 0, none⟩))]) (fun n => ⟨true, false⟩) (fun n => match n with | 0 => [(4, .int .i64), (5, .int .i64), (6, .int .i64)] | _ => []) (fun _ => none) (fun _ => []) Try.func33 rfl (by rw [Try.ntmps33]; simp) (Eq.mp (by kernel_rfl) H)

theorem vc_muezzinref8_Queue_Len (q : Nat) (h0 : Heap) (Post : Value → Heap → Prop) (H :
Runs Try.prog 38 #[(.pointer (some ⟨q, 0, none⟩))] h0 fun r1 h1 =>
∃ (s1 : Option Addr) (s1l s1c : Nat),
r1 = (.slice s1 s1l s1c) ∧
Post (.int .i64 ((s1l : Nat) : Int)) h1) :
    Runs Try.prog 36 #[(.pointer (some ⟨q, 0, none⟩))] h0 Post :=
  runs_of (args := [(.pointer (some ⟨q, 0, none⟩))]) (fun n => ⟨true, false⟩) (fun _ => []) (fun _ => none) (fun _ => []) Try.func36 rfl (by rw [Try.ntmps36]; simp) (Eq.mp (by kernel_rfl) H)

theorem vc_muezzinref8_Queue_Bytes (q : Nat) (h0 : Heap) (Post : Value → Heap → Prop) (H :
∃ (I1 : Int → Int → Heap → Prop) (m1 : Int → Int → Heap → Nat), I1 (0 : Int) (0 : Int) h0 ∧ ∀ _ : Env,
∀ (n_1 : Int) (b_1 : Int) (h1 : Heap), I1 n_1 b_1 h1 →
bcase (decide (b_1 < (16 : Int))) (
(0 ≤ b_1 ∧ b_1 < ((16 : Nat) : Int)) ∧
Runs Try.prog 55 #[(.pointer (some ⟨q, (3 + ((b_1).toNat * 7)), none⟩))] h1 fun r1 h2 =>
∃ n1 : Int,
r1 = (.int .i64 n1) ∧
fits .i64 (n_1 + n1) ∧
fits .i64 (b_1 + (1 : Int)) ∧
I1 (n_1 + n1) (b_1 + (1 : Int)) h2 ∧ m1 (n_1 + n1) (b_1 + (1 : Int)) h2 < m1 n_1 b_1 h1) (
Post (.int .i64 n_1) h1)) :
    Runs Try.prog 37 #[(.pointer (some ⟨q, 0, none⟩))] h0 Post :=
  runs_of (args := [(.pointer (some ⟨q, 0, none⟩))]) (fun n => ⟨true, false⟩) (fun n => match n with | 0 => [(3, .int .i64), (4, .int .i64)] | _ => []) (fun _ => none) (fun _ => []) Try.func37 rfl (by rw [Try.ntmps37]; simp) (Eq.mp (by kernel_rfl) H)

theorem vc_muezzinref8_Queue_All (q : Nat) (h0 : Heap) (Post : Value → Heap → Prop) (H :
∃ (I1 : Option Addr → Nat → Nat → Int → Heap → Prop) (m1 : Option Addr → Nat → Nat → Int → Heap → Nat), I1 none 0 0 (0 : Int) h0 ∧ ∀ _ : Env,
∀ (out_1 : Option Addr) (out_1l out_1c : Nat) (b_1 : Int) (h1 : Heap), I1 out_1 out_1l out_1c b_1 h1 →
bcase (decide (b_1 < (16 : Int))) (
(0 ≤ b_1 ∧ b_1 < ((16 : Nat) : Int)) ∧
∃ (s1 : Option Addr) (s1l s1c : Nat), cell h1 q (3 + ((b_1).toNat * 7)) = some (.slice s1 s1l s1c) ∧
∃ news1 : List Value, (src h1 s1 (s1l * 5) news1 ∧ ∀ u ∈ news1, u.oneCell' = true) ∧
appK h1 out_1 out_1l out_1c s1l 5 35 56 news1 fun (a1 : Option Addr) (cap1 : Nat) (h2 : Heap) =>
fits .i64 (b_1 + (1 : Int)) ∧
I1 a1 (out_1l + s1l) cap1 (b_1 + (1 : Int)) h2 ∧ m1 a1 (out_1l + s1l) cap1 (b_1 + (1 : Int)) h2 < m1 out_1 out_1l out_1c b_1 h1) (
Runs Try.prog 17 #[(.slice out_1 out_1l out_1c)] h1 fun r1 h3 =>
∃ (s2 : Option Addr) (s2l s2c : Nat),
r1 = (.slice s2 s2l s2c) ∧
Post (.slice s2 s2l s2c) h3)) :
    Runs Try.prog 38 #[(.pointer (some ⟨q, 0, none⟩))] h0 Post :=
  runs_of (args := [(.pointer (some ⟨q, 0, none⟩))]) (fun n => ⟨true, false⟩) (fun n => match n with | 0 => [(3, .slice), (4, .int .i64)] | _ => []) (fun _ => none) (fun _ => []) Try.func38 rfl (by rw [Try.ntmps38]; simp) (Eq.mp (by kernel_rfl) H)
end Go.Proofs.Yteojoiglffkbmaa
