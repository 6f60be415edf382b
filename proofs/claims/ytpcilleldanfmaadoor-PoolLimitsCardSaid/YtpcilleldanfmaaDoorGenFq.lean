/- The conditions for calls of functions of the program, in plain form: written by a program (vcgen) off the elaborated code; each is the reckoner's own, by the kernel. -/
import Derived.Test.YtpcilleldanfmaaDoorRows
import Derived.Test.YtpcilleldanfmaaDoorVc
set_option linter.unusedVariables false
set_option maxRecDepth 100000
namespace Go.Proofs.YtpcilleldanfmaaDoor
open Go.Vc
theorem vc_fq_New (seed : Int) (target : Int) (interval : Int) (h0 : Heap) (Post : Value → Heap → Prop) (H :
∀ (b1 : Nat) (h1 : Heap), b1 = h0.size → h1 = h0.push (.cells ([(.int .u32 seed), (.int .i64 target), (.int .i64 interval), (.slice none 0 0), (.int .i64 (0 : Int)), (.int .i64 (0 : Int)), (.int .i64 (0 : Int)), (.int .i64 (0 : Int)), (.int .u32 (0 : Int)), (.int .u32 (0 : Int)), (.bool false), (.slice none 0 0), (.int .i64 (0 : Int)), (.int .i64 (0 : Int)), (.int .i64 (0 : Int)), (.int .i64 (0 : Int)), (.int .u32 (0 : Int)), (.int .u32 (0 : Int)), (.bool false), (.slice none 0 0), (.int .i64 (0 : Int)), (.int .i64 (0 : Int)), (.int .i64 (0 : Int)), (.int .i64 (0 : Int)), (.int .u32 (0 : Int)), (.int .u32 (0 : Int)), (.bool false), (.slice none 0 0), (.int .i64 (0 : Int)), (.int .i64 (0 : Int)), (.int .i64 (0 : Int)), (.int .i64 (0 : Int)), (.int .u32 (0 : Int)), (.int .u32 (0 : Int)), (.bool false), (.slice none 0 0), (.int .i64 (0 : Int)), (.int .i64 (0 : Int)), (.int .i64 (0 : Int)), (.int .i64 (0 : Int)), (.int .u32 (0 : Int)), (.int .u32 (0 : Int)), (.bool false), (.slice none 0 0), (.int .i64 (0 : Int)), (.int .i64 (0 : Int)), (.int .i64 (0 : Int)), (.int .i64 (0 : Int)), (.int .u32 (0 : Int)), (.int .u32 (0 : Int)), (.bool false), (.slice none 0 0), (.int .i64 (0 : Int)), (.int .i64 (0 : Int)), (.int .i64 (0 : Int)), (.int .i64 (0 : Int)), (.int .u32 (0 : Int)), (.int .u32 (0 : Int)), (.bool false), (.slice none 0 0), (.int .i64 (0 : Int)), (.int .i64 (0 : Int)), (.int .i64 (0 : Int)), (.int .i64 (0 : Int)), (.int .u32 (0 : Int)), (.int .u32 (0 : Int)), (.bool false), (.slice none 0 0), (.int .i64 (0 : Int)), (.int .i64 (0 : Int)), (.int .i64 (0 : Int)), (.int .i64 (0 : Int)), (.int .u32 (0 : Int)), (.int .u32 (0 : Int)), (.bool false), (.slice none 0 0), (.int .i64 (0 : Int)), (.int .i64 (0 : Int)), (.int .i64 (0 : Int)), (.int .i64 (0 : Int)), (.int .u32 (0 : Int)), (.int .u32 (0 : Int)), (.bool false), (.slice none 0 0), (.int .i64 (0 : Int)), (.int .i64 (0 : Int)), (.int .i64 (0 : Int)), (.int .i64 (0 : Int)), (.int .u32 (0 : Int)), (.int .u32 (0 : Int)), (.bool false), (.slice none 0 0), (.int .i64 (0 : Int)), (.int .i64 (0 : Int)), (.int .i64 (0 : Int)), (.int .i64 (0 : Int)), (.int .u32 (0 : Int)), (.int .u32 (0 : Int)), (.bool false), (.slice none 0 0), (.int .i64 (0 : Int)), (.int .i64 (0 : Int)), (.int .i64 (0 : Int)), (.int .i64 (0 : Int)), (.int .u32 (0 : Int)), (.int .u32 (0 : Int)), (.bool false), (.slice none 0 0), (.int .i64 (0 : Int)), (.int .i64 (0 : Int)), (.int .i64 (0 : Int)), (.int .i64 (0 : Int)), (.int .u32 (0 : Int)), (.int .u32 (0 : Int)), (.bool false), (.slice none 0 0), (.int .i64 (0 : Int)), (.int .i64 (0 : Int)), (.int .i64 (0 : Int)), (.int .i64 (0 : Int)), (.int .u32 (0 : Int)), (.int .u32 (0 : Int)), (.bool false), (.slice none 0 0), (.int .i64 (0 : Int)), (.int .i64 (0 : Int)), (.int .i64 (0 : Int)), (.int .i64 (0 : Int)), (.int .u32 (0 : Int)), (.int .u32 (0 : Int)), (.bool false), (.slice none 0 0), (.slice none 0 0), (.int .i64 (0 : Int)), (.int .i64 (0 : Int))] : List Value).toArray 97) →
Post (.pointer (some ⟨b1, 0, none⟩)) h1) :
    Runs Tryd.prog 53 #[(.int .u32 seed), (.int .i64 target), (.int .i64 interval)] h0 Post :=
  runs_of (args := [(.int .u32 seed), (.int .i64 target), (.int .i64 interval)]) (fun n => ⟨true, false⟩) (fun _ => []) (fun _ => none) (fun _ => []) Tryd.func53 rfl (by rw [Tryd.ntmps53]; simp) (Eq.mp (by kernel_rfl) H)

theorem vc_fq_Queue_Put (q : Nat) (p : List Value) (h0 : Heap) (Post : Value → Heap → Prop) (H :
∀ (b1 : Nat) (h1 : Heap), b1 = h0.size → h1 = h0.push (.cells (p).toArray 35) →
∃ n1 : Int, cell h1 b1 1 = some (.int .u32 n1) ∧
∃ n2 : Int, cell h1 q 0 = some (.int .u32 n2) ∧
Runs Tryd.prog 54 #[(.int .u32 n1), (.int .u32 n2)] h1 fun r1 h2 =>
∃ n3 : Int,
r1 = (.int .i64 n3) ∧
(0 ≤ n3 ∧ n3 < ((16 : Nat) : Int)) ∧
∃ (s1 : Option Addr) (s1l s1c : Nat), cell h2 b1 4 = some (.slice s1 s1l s1c) ∧
Runs Tryd.prog 55 #[(.slice s1 s1l s1c)] h2 fun r2 h3 =>
∃ (s2 : Option Addr) (s2l s2c : Nat),
r2 = (.slice s2 s2l s2c) ∧
wr h3 b1 4 ∧ ∀ h4 : Heap, h4 = setc h3 b1 4 (.slice s2 s2l s2c) →
∃ (s3 : Option Addr) (s3l s3c : Nat), cell h4 q (3 + ((n3).toNat * 8)) = some (.slice s3 s3l s3c) ∧
∃ cs1 : List Value, row h4 b1 0 5 = some cs1 ∧
(cs1).length = 5 ∧
∀ (b2 : Nat) (h5 : Heap), b2 = h4.size → h5 = h4.push (.cells (((cs1) ++ [])).toArray 35) →
∃ news1 : List Value, (row h5 b2 0 5 = some news1 ∧ ∀ u ∈ news1, u.oneCell' = true) ∧
appK h5 s3 s3l s3c 1 5 35 56 news1 fun (a1 : Option Addr) (cap1 : Nat) (h6 : Heap) =>
wr h6 q (3 + ((n3).toNat * 8)) ∧ ∀ h7 : Heap, h7 = setc h6 q (3 + ((n3).toNat * 8)) (.slice a1 (s3l + 1) cap1) →
∃ n4 : Int, cell h7 q ((3 + ((n3).toNat * 8)) + 1) = some (.int .i64 n4) ∧
∃ (s4 : Option Addr) (s4l s4c : Nat), cell h7 b1 4 = some (.slice s4 s4l s4c) ∧
fits .i64 (n4 + ((s4l : Nat) : Int)) ∧
wr h7 q ((3 + ((n3).toNat * 8)) + 1) ∧ ∀ h8 : Heap, h8 = setc h7 q ((3 + ((n3).toNat * 8)) + 1) (.int .i64 (n4 + ((s4l : Nat) : Int))) →
∃ n5 : Int, cell h8 q 133 = some (.int .i64 n5) ∧
fits .i64 (n5 + (1 : Int)) ∧
wr h8 q 133 ∧ ∀ h9 : Heap, h9 = setc h8 q 133 (.int .i64 (n5 + (1 : Int))) →
∃ n6 : Int, cell h9 q 134 = some (.int .i64 n6) ∧
∃ (s5 : Option Addr) (s5l s5c : Nat), cell h9 b1 4 = some (.slice s5 s5l s5c) ∧
fits .i64 (n6 + ((s5l : Nat) : Int)) ∧
wr h9 q 134 ∧ ∀ h10 : Heap, h10 = setc h9 q 134 (.int .i64 (n6 + ((s5l : Nat) : Int))) →
∃ (s6 : Option Addr) (s6l s6c : Nat), cell h10 q 131 = some (.slice s6 s6l s6c) ∧
Runs Tryd.prog 56 #[(.slice s6 s6l s6c), (.int .i64 n3)] h10 fun r3 h11 =>
∃ t1 : Bool,
r3 = (.bool t1) ∧
bcase (!t1) (
∃ (s7 : Option Addr) (s7l s7c : Nat), cell h11 q 132 = some (.slice s7 s7l s7c) ∧
Runs Tryd.prog 56 #[(.slice s7 s7l s7c), (.int .i64 n3)] h11 fun r4 h12 =>
∃ t2 : Bool,
r4 = (.bool t2) ∧
bcase (!t2) (
wr h12 q ((3 + ((n3).toNat * 8)) + 2) ∧ ∀ h13 : Heap, h13 = setc h12 q ((3 + ((n3).toNat * 8)) + 2) (.int .i64 (300 : Int)) →
∃ (s8 : Option Addr) (s8l s8c : Nat), cell h13 q 131 = some (.slice s8 s8l s8c) ∧
∀ (b3 : Nat) (h14 : Heap), b3 = h13.size → h14 = h13.push (.cells ([(.int .i64 n3)] : List Value).toArray 3) →
∃ news2 : List Value, (row h14 b3 0 1 = some news2 ∧ ∀ u ∈ news2, u.oneCell' = true) ∧
appK h14 s8 s8l s8c 1 1 3 8 news2 fun (a2 : Option Addr) (cap2 : Nat) (h15 : Heap) =>
wr h15 q 131 ∧ ∀ h16 : Heap, h16 = setc h15 q 131 (.slice a2 (s8l + 1) cap2) →
Post (.int .i64 n3) h16) (
Post (.int .i64 n3) h12)) (
Post (.int .i64 n3) h11)) :
    Runs Tryd.prog 30 #[(.pointer (some ⟨q, 0, none⟩)), (.agg (p).toArray)] h0 Post :=
  runs_of (args := [(.pointer (some ⟨q, 0, none⟩)), (.agg (p).toArray)]) (fun n => ⟨true, false⟩) (fun _ => []) (fun _ => none) (fun _ => []) Tryd.func30 rfl (by rw [Tryd.ntmps30]; simp) (Eq.mp (by kernel_rfl) H)

theorem vc_fq_Queue_shift (q : Nat) (k : Int) (h0 : Heap) (Post : Value → Heap → Prop) (H :
∀ (b1 : Nat) (h1 : Heap), b1 = h0.size → h1 = h0.push (.cells ([(.int .i64 (0 : Int)), (.int .u32 (0 : Int)), (.int .i64 (0 : Int)), (.int .i64 (0 : Int)), (.slice none 0 0)] : List Value).toArray 35) →
(0 ≤ k ∧ k < ((16 : Nat) : Int)) ∧
∃ (s1 : Option Addr) (s1l s1c : Nat), cell h1 q (3 + ((k).toNat * 8)) = some (.slice s1 s1l s1c) ∧
(0 ≤ (0 : Int) ∧ (0 : Int) < ((s1l : Nat) : Int)) ∧
onAddr s1 fun b2 o1 =>
∃ cs1 : List Value, row h1 b2 o1 5 = some cs1 ∧
∀ (b3 : Nat) (h2 : Heap), b3 = h1.size → h2 = h1.push (.cells ([(.int .i64 (0 : Int)), (.int .u32 (0 : Int)), (.int .i64 (0 : Int)), (.int .i64 (0 : Int)), (.slice none 0 0)] : List Value).toArray 35) →
(((cs1)).length = 5 ∧ wrs h2 b3 0 5 ∧ ∀ u ∈ ((cs1) : List Value), u.oneCell' = true) ∧ ∀ h3 : Heap, h3 = setr h2 b3 0 (cs1) →
∃ (s2 : Option Addr) (s2l s2c : Nat), cell h3 q (3 + ((k).toNat * 8)) = some (.slice s2 s2l s2c) ∧
(0 ≤ (1 : Int) ∧ (1 : Int) ≤ ((s2l : Nat) : Int)) ∧
Runs Tryd.prog 78 #[(.slice (slcAddr s2 1 s2c 5) (s2l - 1) (s2c - 1))] h3 fun r1 h4 =>
∃ (s3 : Option Addr) (s3l s3c : Nat),
r1 = (.slice s3 s3l s3c) ∧
wr h4 q (3 + ((k).toNat * 8)) ∧ ∀ h5 : Heap, h5 = setc h4 q (3 + ((k).toNat * 8)) (.slice s3 s3l s3c) →
∃ n1 : Int, cell h5 q ((3 + ((k).toNat * 8)) + 1) = some (.int .i64 n1) ∧
∃ (s4 : Option Addr) (s4l s4c : Nat), cell h5 b3 4 = some (.slice s4 s4l s4c) ∧
fits .i64 (n1 - ((s4l : Nat) : Int)) ∧
wr h5 q ((3 + ((k).toNat * 8)) + 1) ∧ ∀ h6 : Heap, h6 = setc h5 q ((3 + ((k).toNat * 8)) + 1) (.int .i64 (n1 - ((s4l : Nat) : Int))) →
∃ n2 : Int, cell h6 q 133 = some (.int .i64 n2) ∧
fits .i64 (n2 - (1 : Int)) ∧
wr h6 q 133 ∧ ∀ h7 : Heap, h7 = setc h6 q 133 (.int .i64 (n2 - (1 : Int))) →
∃ n3 : Int, cell h7 q 134 = some (.int .i64 n3) ∧
∃ (s5 : Option Addr) (s5l s5c : Nat), cell h7 b3 4 = some (.slice s5 s5l s5c) ∧
fits .i64 (n3 - ((s5l : Nat) : Int)) ∧
wr h7 q 134 ∧ ∀ h8 : Heap, h8 = setc h7 q 134 (.int .i64 (n3 - ((s5l : Nat) : Int))) →
∃ cs2 : List Value, row h8 b3 0 5 = some cs2 ∧
(((cs2)).length = 5 ∧ wrs h8 b1 0 5 ∧ ∀ u ∈ ((cs2) : List Value), u.oneCell' = true) ∧ ∀ h9 : Heap, h9 = setr h8 b1 0 (cs2) →
∃ cs3 : List Value, row h9 b1 0 5 = some cs3 ∧
Post (.agg (cs3).toArray) h9) :
    Runs Tryd.prog 62 #[(.pointer (some ⟨q, 0, none⟩)), (.int .i64 k)] h0 Post :=
  runs_of (args := [(.pointer (some ⟨q, 0, none⟩)), (.int .i64 k)]) (fun n => ⟨true, false⟩) (fun _ => []) (fun _ => none) (fun _ => []) Tryd.func62 rfl (by rw [Tryd.ntmps62]; simp) (Eq.mp (by kernel_rfl) H)

theorem vc_fq_Queue_pull (q : Nat) (k : Int) (now : Int) (h0 : Heap) (Post : Value → Heap → Prop) (H :
(0 ≤ k ∧ k < ((16 : Nat) : Int)) ∧
∃ (s1 : Option Addr) (s1l s1c : Nat), cell h0 q (3 + ((k).toNat * 8)) = some (.slice s1 s1l s1c) ∧
∃ (I1 : Option Addr → Nat → Nat → Int → Heap → Prop) (m1 : Option Addr → Nat → Nat → Int → Heap → Nat), I1 none 0 0 (0 : Int) h0 ∧ ∀ _ : Env,
∀ (items_1 : Option Addr) (items_1l items_1c : Nat) (x2 : Int) (h1 : Heap), I1 items_1 items_1l items_1c x2 h1 →
bcase (decide (x2 < ((s1l : Nat) : Int))) (
(0 ≤ x2 ∧ x2 < ((s1l : Nat) : Int)) ∧
onAddr s1 fun b1 o1 =>
∃ cs1 : List Value, row h1 b1 (o1 + ((x2).toNat * 5)) 5 = some cs1 ∧
∀ (b2 : Nat) (h2 : Heap), b2 = h1.size → h2 = h1.push (.cells ([(.int .i64 (0 : Int)), (.int .u32 (0 : Int)), (.int .i64 (0 : Int)), (.int .i64 (0 : Int)), (.slice none 0 0)] : List Value).toArray 35) →
(((cs1)).length = 5 ∧ wrs h2 b2 0 5 ∧ ∀ u ∈ ((cs1) : List Value), u.oneCell' = true) ∧ ∀ h3 : Heap, h3 = setr h2 b2 0 (cs1) →
∃ n1 : Int, cell h3 b2 3 = some (.int .i64 n1) ∧
∃ (s2 : Option Addr) (s2l s2c : Nat), cell h3 b2 4 = some (.slice s2 s2l s2c) ∧
([(.int .i64 n1), (.int .i64 ((s2l : Nat) : Int))] : List Value).length = 2 ∧
∀ (b3 : Nat) (h4 : Heap), b3 = h3.size → h4 = h3.push (.cells ([(.int .i64 n1), (.int .i64 ((s2l : Nat) : Int))] : List Value).toArray 125) →
∃ news1 : List Value, (row h4 b3 0 2 = some news1 ∧ ∀ u ∈ news1, u.oneCell' = true) ∧
appK h4 items_1 items_1l items_1c 1 2 125 16 news1 fun (a1 : Option Addr) (cap1 : Nat) (h5 : Heap) =>
fits .i64 (x2 + (1 : Int)) ∧
I1 a1 (items_1l + 1) cap1 (x2 + (1 : Int)) h5 ∧ m1 a1 (items_1l + 1) cap1 (x2 + (1 : Int)) h5 < m1 items_1 items_1l items_1c x2 h1) (
∃ J1 : Option Addr → Int → Bool → Heap → Prop, (
∃ cs2 : List Value, row h1 q ((3 + ((k).toNat * 8)) + 3) 5 = some cs2 ∧
∃ n2 : Int, cell h1 q 1 = some (.int .i64 n2) ∧
∃ n3 : Int, cell h1 q 2 = some (.int .i64 n3) ∧
∃ n4 : Int, cell h1 q ((3 + ((k).toNat * 8)) + 1) = some (.int .i64 n4) ∧
(
Runs Tryd.prog 77 #[(.agg (cs2).toArray), (.int .i64 now), (.int .i64 n2), (.int .i64 n3), (.int .i64 n4), (.slice items_1 items_1l items_1c)] h1 fun r1 h6 =>
∃ cs3 : List Value,
∃ n5 : Int,
∃ t1 : Bool,
r1 = (.tuple #[(.agg (cs3).toArray), (.int .i64 n5), (.bool t1)]) ∧
∀ (b4 : Nat) (h7 : Heap), b4 = h6.size → h7 = h6.push (.cells ([(.int .i64 (0 : Int)), (.int .i64 (0 : Int)), (.int .u32 (0 : Int)), (.int .u32 (0 : Int)), (.bool false)] : List Value).toArray 91) →
(((cs3)).length = 5 ∧ wrs h7 b4 0 5 ∧ ∀ u ∈ ((cs3) : List Value), u.oneCell' = true) ∧ ∀ h8 : Heap, h8 = setr h7 b4 0 (cs3) →
J1 (some ⟨b4, 0, none⟩) n5 t1 h8) ∧
(
∀ (b5 : Nat) (h9 : Heap), b5 = h1.size → h9 = h1.push (.cells ([(.int .i64 (0 : Int)), (.int .i64 (0 : Int)), (.int .u32 (0 : Int)), (.int .u32 (0 : Int)), (.bool false)] : List Value).toArray 91) →
Runs Tryd.prog 77 #[(.agg (cs2).toArray), (.int .i64 now), (.int .i64 n2), (.int .i64 n3), (.int .i64 n4), (.slice items_1 items_1l items_1c)] h9 fun r2 h10 =>
∃ cs4 : List Value,
∃ n6 : Int,
∃ t2 : Bool,
r2 = (.tuple #[(.agg (cs4).toArray), (.int .i64 n6), (.bool t2)]) ∧
(((cs4)).length = 5 ∧ wrs h10 b5 0 5 ∧ ∀ u ∈ ((cs4) : List Value), u.oneCell' = true) ∧ ∀ h11 : Heap, h11 = setr h10 b5 0 (cs4) →
J1 (some ⟨b5, 0, none⟩) n6 t2 h11)) ∧ ∀ _ : Env,
∀ (c_1 : Option Addr) (n_1 : Int) (is_1 : Bool) (h12 : Heap), J1 c_1 n_1 is_1 h12 →
onAddr c_1 fun b6 o2 =>
∃ cs5 : List Value, row h12 b6 o2 5 = some cs5 ∧
(((cs5)).length = 5 ∧ wrs h12 q ((3 + ((k).toNat * 8)) + 3) 5 ∧ ∀ u ∈ ((cs5) : List Value), u.oneCell' = true) ∧ ∀ h13 : Heap, h13 = setr h12 q ((3 + ((k).toNat * 8)) + 3) (cs5) →
∃ (I2 : Option Addr → Nat → Nat → Int → Heap → Prop) (m2 : Option Addr → Nat → Nat → Int → Heap → Nat), I2 none 0 0 (0 : Int) h13 ∧ ∀ _ : Env,
∀ (out_1 : Option Addr) (out_1l out_1c : Nat) (x7 : Int) (h14 : Heap), I2 out_1 out_1l out_1c x7 h14 →
bcase (decide (x7 < n_1)) (
Runs Tryd.prog 62 #[(.pointer (some ⟨q, 0, none⟩)), (.int .i64 k)] h14 fun r3 h15 =>
∃ cs6 : List Value,
r3 = (.agg (cs6).toArray) ∧
(cs6).length = 5 ∧
∀ (b7 : Nat) (h16 : Heap), b7 = h15.size → h16 = h15.push (.cells (((cs6) ++ [])).toArray 35) →
∃ news2 : List Value, (row h16 b7 0 5 = some news2 ∧ ∀ u ∈ news2, u.oneCell' = true) ∧
appK h16 out_1 out_1l out_1c 1 5 35 56 news2 fun (a2 : Option Addr) (cap2 : Nat) (h17 : Heap) =>
fits .i64 (x7 + (1 : Int)) ∧
I2 a2 (out_1l + 1) cap2 (x7 + (1 : Int)) h17 ∧ m2 a2 (out_1l + 1) cap2 (x7 + (1 : Int)) h17 < m2 out_1 out_1l out_1c x7 h14) (
Post (.tuple #[(.slice out_1 out_1l out_1c), (.bool is_1)]) h14))) :
    Runs Tryd.prog 61 #[(.pointer (some ⟨q, 0, none⟩)), (.int .i64 k), (.int .i64 now)] h0 Post :=
  runs_of (args := [(.pointer (some ⟨q, 0, none⟩)), (.int .i64 k), (.int .i64 now)]) (fun n => ⟨true, false⟩) (fun n => match n with | 0 => [(9, .slice), (26, .int .i64)] | 2 => [(15, .slice), (68, .int .i64)] | _ => []) (fun n => match n with | 9 => some [(12, .ptr), (13, .int .i64), (14, .bool)] | _ => none) (fun _ => []) Tryd.func61 rfl (by rw [Tryd.ntmps61]; simp) (Eq.mp (by kernel_rfl) H)

theorem vc_fq_Queue_Take (q : Nat) (now : Int) (h0 : Heap) (Post : Value → Heap → Prop) (H :
∀ (b1 : Nat) (h1 : Heap), b1 = h0.size → h1 = h0.push (.cells ([(.int .i64 (0 : Int)), (.int .u32 (0 : Int)), (.int .i64 (0 : Int)), (.int .i64 (0 : Int)), (.slice none 0 0)] : List Value).toArray 35) →
∃ (I1 : Option Addr → Nat → Nat → Heap → Prop) (m1 : Option Addr → Nat → Nat → Heap → Nat), I1 none 0 0 h1 ∧ ∀ _ : Env,
∀ (dropped_1 : Option Addr) (dropped_1l dropped_1c : Nat) (h2 : Heap), I1 dropped_1 dropped_1l dropped_1c h2 →
∃ (s1 : Option Addr) (s1l s1c : Nat), cell h2 q 131 = some (.slice s1 s1l s1c) ∧
bcase (decide (((s1l : Nat) : Int) = (0 : Int))) (
∃ (s2 : Option Addr) (s2l s2c : Nat), cell h2 q 132 = some (.slice s2 s2l s2c) ∧
bcase (decide (((s2l : Nat) : Int) = (0 : Int))) (
((([(.int .i64 (0 : Int)), (.int .u32 (0 : Int)), (.int .i64 (0 : Int)), (.int .i64 (0 : Int)), (.slice none 0 0)] : List Value)).length = 5 ∧ wrs h2 b1 0 5 ∧ ∀ u ∈ (([(.int .i64 (0 : Int)), (.int .u32 (0 : Int)), (.int .i64 (0 : Int)), (.int .i64 (0 : Int)), (.slice none 0 0)] : List Value) : List Value), u.oneCell' = true) ∧ ∀ h3 : Heap, h3 = setr h2 b1 0 ([(.int .i64 (0 : Int)), (.int .u32 (0 : Int)), (.int .i64 (0 : Int)), (.int .i64 (0 : Int)), (.slice none 0 0)] : List Value) →
∃ cs1 : List Value, row h3 b1 0 5 = some cs1 ∧
Post (.tuple #[(.agg (cs1).toArray), (.slice dropped_1 dropped_1l dropped_1c), (.bool false)]) h3) (
∃ (s3 : Option Addr) (s3l s3c : Nat), cell h2 q 132 = some (.slice s3 s3l s3c) ∧
(0 ≤ (0 : Int) ∧ (0 : Int) < ((s3l : Nat) : Int)) ∧
onAddr s3 fun b2 o1 =>
∃ n1 : Int, cell h2 b2 o1 = some (.int .i64 n1) ∧
(0 ≤ n1 ∧ n1 < ((16 : Nat) : Int)) ∧
∃ n2 : Int, cell h2 q ((3 + ((n1).toNat * 8)) + 2) = some (.int .i64 n2) ∧
bcase (decide (n2 ≤ (0 : Int))) (
∃ n3 : Int, cell h2 q ((3 + ((n1).toNat * 8)) + 2) = some (.int .i64 n3) ∧
fits .i64 (n3 + (300 : Int)) ∧
wr h2 q ((3 + ((n1).toNat * 8)) + 2) ∧ ∀ h4 : Heap, h4 = setc h2 q ((3 + ((n1).toNat * 8)) + 2) (.int .i64 (n3 + (300 : Int))) →
∃ (s4 : Option Addr) (s4l s4c : Nat), cell h4 q 132 = some (.slice s4 s4l s4c) ∧
(0 ≤ (1 : Int) ∧ (1 : Int) ≤ ((s4l : Nat) : Int)) ∧
wr h4 q 132 ∧ ∀ h5 : Heap, h5 = setc h4 q 132 (.slice (slcAddr s4 1 s4c 1) (s4l - 1) (s4c - 1)) →
∃ (s5 : Option Addr) (s5l s5c : Nat), cell h5 q 132 = some (.slice s5 s5l s5c) ∧
∀ (b3 : Nat) (h6 : Heap), b3 = h5.size → h6 = h5.push (.cells ([(.int .i64 n1)] : List Value).toArray 3) →
∃ news1 : List Value, (row h6 b3 0 1 = some news1 ∧ ∀ u ∈ news1, u.oneCell' = true) ∧
appK h6 s5 s5l s5c 1 1 3 8 news1 fun (a1 : Option Addr) (cap1 : Nat) (h7 : Heap) =>
wr h7 q 132 ∧ ∀ h8 : Heap, h8 = setc h7 q 132 (.slice a1 (s5l + 1) cap1) →
I1 dropped_1 dropped_1l dropped_1c h8 ∧ m1 dropped_1 dropped_1l dropped_1c h8 < m1 dropped_1 dropped_1l dropped_1c h2) (
Runs Tryd.prog 61 #[(.pointer (some ⟨q, 0, none⟩)), (.int .i64 n1), (.int .i64 now)] h2 fun r1 h9 =>
∃ (s6 : Option Addr) (s6l s6c : Nat),
∃ t1 : Bool,
r1 = (.tuple #[(.slice s6 s6l s6c), (.bool t1)]) ∧
∃ news2 : List Value, (src h9 s6 (s6l * 5) news2 ∧ ∀ u ∈ news2, u.oneCell' = true) ∧
appK h9 dropped_1 dropped_1l dropped_1c s6l 5 35 56 news2 fun (a2 : Option Addr) (cap2 : Nat) (h10 : Heap) =>
bcase t1 (
Runs Tryd.prog 62 #[(.pointer (some ⟨q, 0, none⟩)), (.int .i64 n1)] h10 fun r2 h11 =>
∃ cs2 : List Value,
r2 = (.agg (cs2).toArray) ∧
∀ (b4 : Nat) (h12 : Heap), b4 = h11.size → h12 = h11.push (.cells ([(.int .i64 (0 : Int)), (.int .u32 (0 : Int)), (.int .i64 (0 : Int)), (.int .i64 (0 : Int)), (.slice none 0 0)] : List Value).toArray 35) →
(((cs2)).length = 5 ∧ wrs h12 b4 0 5 ∧ ∀ u ∈ ((cs2) : List Value), u.oneCell' = true) ∧ ∀ h13 : Heap, h13 = setr h12 b4 0 (cs2) →
∃ n4 : Int, cell h13 q ((3 + ((n1).toNat * 8)) + 2) = some (.int .i64 n4) ∧
∃ (s7 : Option Addr) (s7l s7c : Nat), cell h13 b4 4 = some (.slice s7 s7l s7c) ∧
fits .i64 (n4 - ((s7l : Nat) : Int)) ∧
wr h13 q ((3 + ((n1).toNat * 8)) + 2) ∧ ∀ h14 : Heap, h14 = setc h13 q ((3 + ((n1).toNat * 8)) + 2) (.int .i64 (n4 - ((s7l : Nat) : Int))) →
∃ cs3 : List Value, row h14 b4 0 5 = some cs3 ∧
(((cs3)).length = 5 ∧ wrs h14 b1 0 5 ∧ ∀ u ∈ ((cs3) : List Value), u.oneCell' = true) ∧ ∀ h15 : Heap, h15 = setr h14 b1 0 (cs3) →
∃ cs4 : List Value, row h15 b1 0 5 = some cs4 ∧
Post (.tuple #[(.agg (cs4).toArray), (.slice a2 (dropped_1l + s6l) cap2), (.bool true)]) h15) (
∃ (s8 : Option Addr) (s8l s8c : Nat), cell h10 q 132 = some (.slice s8 s8l s8c) ∧
(0 ≤ (1 : Int) ∧ (1 : Int) ≤ ((s8l : Nat) : Int)) ∧
wr h10 q 132 ∧ ∀ h16 : Heap, h16 = setc h10 q 132 (.slice (slcAddr s8 1 s8c 1) (s8l - 1) (s8c - 1)) →
I1 a2 (dropped_1l + s6l) cap2 h16 ∧ m1 a2 (dropped_1l + s6l) cap2 h16 < m1 dropped_1 dropped_1l dropped_1c h2)))) (
∃ (s9 : Option Addr) (s9l s9c : Nat), cell h2 q 131 = some (.slice s9 s9l s9c) ∧
bcase (decide (((s9l : Nat) : Int) = (0 : Int))) (
((([(.int .i64 (0 : Int)), (.int .u32 (0 : Int)), (.int .i64 (0 : Int)), (.int .i64 (0 : Int)), (.slice none 0 0)] : List Value)).length = 5 ∧ wrs h2 b1 0 5 ∧ ∀ u ∈ (([(.int .i64 (0 : Int)), (.int .u32 (0 : Int)), (.int .i64 (0 : Int)), (.int .i64 (0 : Int)), (.slice none 0 0)] : List Value) : List Value), u.oneCell' = true) ∧ ∀ h17 : Heap, h17 = setr h2 b1 0 ([(.int .i64 (0 : Int)), (.int .u32 (0 : Int)), (.int .i64 (0 : Int)), (.int .i64 (0 : Int)), (.slice none 0 0)] : List Value) →
∃ cs5 : List Value, row h17 b1 0 5 = some cs5 ∧
Post (.tuple #[(.agg (cs5).toArray), (.slice dropped_1 dropped_1l dropped_1c), (.bool false)]) h17) (
∃ (s10 : Option Addr) (s10l s10c : Nat), cell h2 q 131 = some (.slice s10 s10l s10c) ∧
(0 ≤ (0 : Int) ∧ (0 : Int) < ((s10l : Nat) : Int)) ∧
onAddr s10 fun b5 o2 =>
∃ n5 : Int, cell h2 b5 o2 = some (.int .i64 n5) ∧
(0 ≤ n5 ∧ n5 < ((16 : Nat) : Int)) ∧
∃ n6 : Int, cell h2 q ((3 + ((n5).toNat * 8)) + 2) = some (.int .i64 n6) ∧
bcase (decide (n6 ≤ (0 : Int))) (
∃ n7 : Int, cell h2 q ((3 + ((n5).toNat * 8)) + 2) = some (.int .i64 n7) ∧
fits .i64 (n7 + (300 : Int)) ∧
wr h2 q ((3 + ((n5).toNat * 8)) + 2) ∧ ∀ h18 : Heap, h18 = setc h2 q ((3 + ((n5).toNat * 8)) + 2) (.int .i64 (n7 + (300 : Int))) →
∃ (s11 : Option Addr) (s11l s11c : Nat), cell h18 q 131 = some (.slice s11 s11l s11c) ∧
(0 ≤ (1 : Int) ∧ (1 : Int) ≤ ((s11l : Nat) : Int)) ∧
wr h18 q 131 ∧ ∀ h19 : Heap, h19 = setc h18 q 131 (.slice (slcAddr s11 1 s11c 1) (s11l - 1) (s11c - 1)) →
∃ (s12 : Option Addr) (s12l s12c : Nat), cell h19 q 132 = some (.slice s12 s12l s12c) ∧
∀ (b6 : Nat) (h20 : Heap), b6 = h19.size → h20 = h19.push (.cells ([(.int .i64 n5)] : List Value).toArray 3) →
∃ news3 : List Value, (row h20 b6 0 1 = some news3 ∧ ∀ u ∈ news3, u.oneCell' = true) ∧
appK h20 s12 s12l s12c 1 1 3 8 news3 fun (a3 : Option Addr) (cap3 : Nat) (h21 : Heap) =>
wr h21 q 132 ∧ ∀ h22 : Heap, h22 = setc h21 q 132 (.slice a3 (s12l + 1) cap3) →
I1 dropped_1 dropped_1l dropped_1c h22 ∧ m1 dropped_1 dropped_1l dropped_1c h22 < m1 dropped_1 dropped_1l dropped_1c h2) (
Runs Tryd.prog 61 #[(.pointer (some ⟨q, 0, none⟩)), (.int .i64 n5), (.int .i64 now)] h2 fun r3 h23 =>
∃ (s13 : Option Addr) (s13l s13c : Nat),
∃ t2 : Bool,
r3 = (.tuple #[(.slice s13 s13l s13c), (.bool t2)]) ∧
∃ news4 : List Value, (src h23 s13 (s13l * 5) news4 ∧ ∀ u ∈ news4, u.oneCell' = true) ∧
appK h23 dropped_1 dropped_1l dropped_1c s13l 5 35 56 news4 fun (a4 : Option Addr) (cap4 : Nat) (h24 : Heap) =>
bcase t2 (
Runs Tryd.prog 62 #[(.pointer (some ⟨q, 0, none⟩)), (.int .i64 n5)] h24 fun r4 h25 =>
∃ cs6 : List Value,
r4 = (.agg (cs6).toArray) ∧
∀ (b7 : Nat) (h26 : Heap), b7 = h25.size → h26 = h25.push (.cells ([(.int .i64 (0 : Int)), (.int .u32 (0 : Int)), (.int .i64 (0 : Int)), (.int .i64 (0 : Int)), (.slice none 0 0)] : List Value).toArray 35) →
(((cs6)).length = 5 ∧ wrs h26 b7 0 5 ∧ ∀ u ∈ ((cs6) : List Value), u.oneCell' = true) ∧ ∀ h27 : Heap, h27 = setr h26 b7 0 (cs6) →
∃ n8 : Int, cell h27 q ((3 + ((n5).toNat * 8)) + 2) = some (.int .i64 n8) ∧
∃ (s14 : Option Addr) (s14l s14c : Nat), cell h27 b7 4 = some (.slice s14 s14l s14c) ∧
fits .i64 (n8 - ((s14l : Nat) : Int)) ∧
wr h27 q ((3 + ((n5).toNat * 8)) + 2) ∧ ∀ h28 : Heap, h28 = setc h27 q ((3 + ((n5).toNat * 8)) + 2) (.int .i64 (n8 - ((s14l : Nat) : Int))) →
∃ cs7 : List Value, row h28 b7 0 5 = some cs7 ∧
(((cs7)).length = 5 ∧ wrs h28 b1 0 5 ∧ ∀ u ∈ ((cs7) : List Value), u.oneCell' = true) ∧ ∀ h29 : Heap, h29 = setr h28 b1 0 (cs7) →
∃ cs8 : List Value, row h29 b1 0 5 = some cs8 ∧
Post (.tuple #[(.agg (cs8).toArray), (.slice a4 (dropped_1l + s13l) cap4), (.bool true)]) h29) (
∃ (s15 : Option Addr) (s15l s15c : Nat), cell h24 q 131 = some (.slice s15 s15l s15c) ∧
(0 ≤ (1 : Int) ∧ (1 : Int) ≤ ((s15l : Nat) : Int)) ∧
wr h24 q 131 ∧ ∀ h30 : Heap, h30 = setc h24 q 131 (.slice (slcAddr s15 1 s15c 1) (s15l - 1) (s15c - 1)) →
∃ (s16 : Option Addr) (s16l s16c : Nat), cell h30 q 132 = some (.slice s16 s16l s16c) ∧
bcase (decide ((0 : Int) < ((s16l : Nat) : Int))) (
∃ (s17 : Option Addr) (s17l s17c : Nat), cell h30 q 132 = some (.slice s17 s17l s17c) ∧
∀ (b8 : Nat) (h31 : Heap), b8 = h30.size → h31 = h30.push (.cells ([(.int .i64 n5)] : List Value).toArray 3) →
∃ news5 : List Value, (row h31 b8 0 1 = some news5 ∧ ∀ u ∈ news5, u.oneCell' = true) ∧
appK h31 s17 s17l s17c 1 1 3 8 news5 fun (a5 : Option Addr) (cap5 : Nat) (h32 : Heap) =>
wr h32 q 132 ∧ ∀ h33 : Heap, h33 = setc h32 q 132 (.slice a5 (s17l + 1) cap5) →
I1 a4 (dropped_1l + s13l) cap4 h33 ∧ m1 a4 (dropped_1l + s13l) cap4 h33 < m1 dropped_1 dropped_1l dropped_1c h2) (
I1 a4 (dropped_1l + s13l) cap4 h30 ∧ m1 a4 (dropped_1l + s13l) cap4 h30 < m1 dropped_1 dropped_1l dropped_1c h2)))))) :
    Runs Tryd.prog 39 #[(.pointer (some ⟨q, 0, none⟩)), (.int .i64 now)] h0 Post :=
  runs_of (args := [(.pointer (some ⟨q, 0, none⟩)), (.int .i64 now)]) (fun n => ⟨true, false⟩) (fun n => match n with | 0 => [(7, .slice)] | _ => []) (fun _ => none) (fun _ => []) Tryd.func39 rfl (by rw [Tryd.ntmps39]; simp) (Eq.mp (by kernel_rfl) H)

theorem vc_fq_Queue_Head (q : Nat) (bucket : Int) (h0 : Heap) (Post : Value → Heap → Prop) (H :
∀ (b1 : Nat) (h1 : Heap), b1 = h0.size → h1 = h0.push (.cells ([(.int .i64 (0 : Int)), (.int .u32 (0 : Int)), (.int .i64 (0 : Int)), (.int .i64 (0 : Int)), (.slice none 0 0)] : List Value).toArray 35) →
bcase (decide (bucket < (0 : Int))) (
((([(.int .i64 (0 : Int)), (.int .u32 (0 : Int)), (.int .i64 (0 : Int)), (.int .i64 (0 : Int)), (.slice none 0 0)] : List Value)).length = 5 ∧ wrs h1 b1 0 5 ∧ ∀ u ∈ (([(.int .i64 (0 : Int)), (.int .u32 (0 : Int)), (.int .i64 (0 : Int)), (.int .i64 (0 : Int)), (.slice none 0 0)] : List Value) : List Value), u.oneCell' = true) ∧ ∀ h2 : Heap, h2 = setr h1 b1 0 ([(.int .i64 (0 : Int)), (.int .u32 (0 : Int)), (.int .i64 (0 : Int)), (.int .i64 (0 : Int)), (.slice none 0 0)] : List Value) →
∃ cs1 : List Value, row h2 b1 0 5 = some cs1 ∧
Post (.tuple #[(.agg (cs1).toArray), (.bool false)]) h2) (
bcase (decide ((16 : Int) ≤ bucket)) (
((([(.int .i64 (0 : Int)), (.int .u32 (0 : Int)), (.int .i64 (0 : Int)), (.int .i64 (0 : Int)), (.slice none 0 0)] : List Value)).length = 5 ∧ wrs h1 b1 0 5 ∧ ∀ u ∈ (([(.int .i64 (0 : Int)), (.int .u32 (0 : Int)), (.int .i64 (0 : Int)), (.int .i64 (0 : Int)), (.slice none 0 0)] : List Value) : List Value), u.oneCell' = true) ∧ ∀ h3 : Heap, h3 = setr h1 b1 0 ([(.int .i64 (0 : Int)), (.int .u32 (0 : Int)), (.int .i64 (0 : Int)), (.int .i64 (0 : Int)), (.slice none 0 0)] : List Value) →
∃ cs2 : List Value, row h3 b1 0 5 = some cs2 ∧
Post (.tuple #[(.agg (cs2).toArray), (.bool false)]) h3) (
(0 ≤ bucket ∧ bucket < ((16 : Nat) : Int)) ∧
∃ (s1 : Option Addr) (s1l s1c : Nat), cell h1 q (3 + ((bucket).toNat * 8)) = some (.slice s1 s1l s1c) ∧
bcase (decide (((s1l : Nat) : Int) = (0 : Int))) (
((([(.int .i64 (0 : Int)), (.int .u32 (0 : Int)), (.int .i64 (0 : Int)), (.int .i64 (0 : Int)), (.slice none 0 0)] : List Value)).length = 5 ∧ wrs h1 b1 0 5 ∧ ∀ u ∈ (([(.int .i64 (0 : Int)), (.int .u32 (0 : Int)), (.int .i64 (0 : Int)), (.int .i64 (0 : Int)), (.slice none 0 0)] : List Value) : List Value), u.oneCell' = true) ∧ ∀ h4 : Heap, h4 = setr h1 b1 0 ([(.int .i64 (0 : Int)), (.int .u32 (0 : Int)), (.int .i64 (0 : Int)), (.int .i64 (0 : Int)), (.slice none 0 0)] : List Value) →
∃ cs3 : List Value, row h4 b1 0 5 = some cs3 ∧
Post (.tuple #[(.agg (cs3).toArray), (.bool false)]) h4) (
(0 ≤ bucket ∧ bucket < ((16 : Nat) : Int)) ∧
∃ (s2 : Option Addr) (s2l s2c : Nat), cell h1 q (3 + ((bucket).toNat * 8)) = some (.slice s2 s2l s2c) ∧
(0 ≤ (0 : Int) ∧ (0 : Int) < ((s2l : Nat) : Int)) ∧
onAddr s2 fun b2 o1 =>
∃ cs4 : List Value, row h1 b2 o1 5 = some cs4 ∧
Runs Tryd.prog 60 #[(.agg (cs4).toArray)] h1 fun r1 h5 =>
∃ cs5 : List Value,
r1 = (.agg (cs5).toArray) ∧
(((cs5)).length = 5 ∧ wrs h5 b1 0 5 ∧ ∀ u ∈ ((cs5) : List Value), u.oneCell' = true) ∧ ∀ h6 : Heap, h6 = setr h5 b1 0 (cs5) →
∃ cs6 : List Value, row h6 b1 0 5 = some cs6 ∧
Post (.tuple #[(.agg (cs6).toArray), (.bool true)]) h6)))) :
    Runs Tryd.prog 76 #[(.pointer (some ⟨q, 0, none⟩)), (.int .i64 bucket)] h0 Post :=
  runs_of (args := [(.pointer (some ⟨q, 0, none⟩)), (.int .i64 bucket)]) (fun n => ⟨true, false⟩) (fun _ => []) (fun _ => none) (fun _ => []) Tryd.func76 rfl (by rw [Tryd.ntmps76]; simp) (Eq.mp (by kernel_rfl) H)

theorem vc_fq_own (p : List Value) (h0 : Heap) (Post : Value → Heap → Prop) (H :
∀ (b1 : Nat) (h1 : Heap), b1 = h0.size → h1 = h0.push (.cells (p).toArray 35) →
∀ (b2 : Nat) (h2 : Heap), b2 = h1.size → h2 = h1.push (.cells ([(.int .i64 (0 : Int)), (.int .u32 (0 : Int)), (.int .i64 (0 : Int)), (.int .i64 (0 : Int)), (.slice none 0 0)] : List Value).toArray 35) →
∃ (s1 : Option Addr) (s1l s1c : Nat), cell h2 b1 4 = some (.slice s1 s1l s1c) ∧
Runs Tryd.prog 55 #[(.slice s1 s1l s1c)] h2 fun r1 h3 =>
∃ (s2 : Option Addr) (s2l s2c : Nat),
r1 = (.slice s2 s2l s2c) ∧
wr h3 b1 4 ∧ ∀ h4 : Heap, h4 = setc h3 b1 4 (.slice s2 s2l s2c) →
∃ cs1 : List Value, row h4 b1 0 5 = some cs1 ∧
(((cs1)).length = 5 ∧ wrs h4 b2 0 5 ∧ ∀ u ∈ ((cs1) : List Value), u.oneCell' = true) ∧ ∀ h5 : Heap, h5 = setr h4 b2 0 (cs1) →
∃ cs2 : List Value, row h5 b2 0 5 = some cs2 ∧
Post (.agg (cs2).toArray) h5) :
    Runs Tryd.prog 60 #[(.agg (p).toArray)] h0 Post :=
  runs_of (args := [(.agg (p).toArray)]) (fun n => ⟨true, false⟩) (fun _ => []) (fun _ => none) (fun _ => []) Tryd.func60 rfl (by rw [Tryd.ntmps60]; simp) (Eq.mp (by kernel_rfl) H)

theorem vc_fq_Queue_DropHead (q : Nat) (bucket : Int) (h0 : Heap) (Post : Value → Heap → Prop) (H :
∀ (b1 : Nat) (h1 : Heap), b1 = h0.size → h1 = h0.push (.cells ([(.int .i64 (0 : Int)), (.int .u32 (0 : Int)), (.int .i64 (0 : Int)), (.int .i64 (0 : Int)), (.slice none 0 0)] : List Value).toArray 35) →
Runs Tryd.prog 76 #[(.pointer (some ⟨q, 0, none⟩)), (.int .i64 bucket)] h1 fun r1 h2 =>
∃ cs1 : List Value,
∃ t1 : Bool,
r1 = (.tuple #[(.agg (cs1).toArray), (.bool t1)]) ∧
∀ (b2 : Nat) (h3 : Heap), b2 = h2.size → h3 = h2.push (.cells ([(.int .i64 (0 : Int)), (.int .u32 (0 : Int)), (.int .i64 (0 : Int)), (.int .i64 (0 : Int)), (.slice none 0 0)] : List Value).toArray 35) →
(((cs1)).length = 5 ∧ wrs h3 b2 0 5 ∧ ∀ u ∈ ((cs1) : List Value), u.oneCell' = true) ∧ ∀ h4 : Heap, h4 = setr h3 b2 0 (cs1) →
bcase (!t1) (
((([(.int .i64 (0 : Int)), (.int .u32 (0 : Int)), (.int .i64 (0 : Int)), (.int .i64 (0 : Int)), (.slice none 0 0)] : List Value)).length = 5 ∧ wrs h4 b1 0 5 ∧ ∀ u ∈ (([(.int .i64 (0 : Int)), (.int .u32 (0 : Int)), (.int .i64 (0 : Int)), (.int .i64 (0 : Int)), (.slice none 0 0)] : List Value) : List Value), u.oneCell' = true) ∧ ∀ h5 : Heap, h5 = setr h4 b1 0 ([(.int .i64 (0 : Int)), (.int .u32 (0 : Int)), (.int .i64 (0 : Int)), (.int .i64 (0 : Int)), (.slice none 0 0)] : List Value) →
∃ cs2 : List Value, row h5 b1 0 5 = some cs2 ∧
Post (.tuple #[(.agg (cs2).toArray), (.bool false)]) h5) (
Runs Tryd.prog 62 #[(.pointer (some ⟨q, 0, none⟩)), (.int .i64 bucket)] h4 fun r2 h6 =>
∃ cs3 : List Value,
r2 = (.agg (cs3).toArray) ∧
(((cs3)).length = 5 ∧ wrs h6 b1 0 5 ∧ ∀ u ∈ ((cs3) : List Value), u.oneCell' = true) ∧ ∀ h7 : Heap, h7 = setr h6 b1 0 (cs3) →
∃ cs4 : List Value, row h7 b1 0 5 = some cs4 ∧
Post (.tuple #[(.agg (cs4).toArray), (.bool true)]) h7)) :
    Runs Tryd.prog 59 #[(.pointer (some ⟨q, 0, none⟩)), (.int .i64 bucket)] h0 Post :=
  runs_of (args := [(.pointer (some ⟨q, 0, none⟩)), (.int .i64 bucket)]) (fun n => ⟨true, false⟩) (fun _ => []) (fun _ => none) (fun _ => []) Tryd.func59 rfl (by rw [Tryd.ntmps59]; simp) (Eq.mp (by kernel_rfl) H)

theorem vc_fq_Queue_Fattest (q : Nat) (h0 : Heap) (Post : Value → Heap → Prop) (H :
∃ (I1 : Int → Int → Int → Heap → Prop) (m1 : Int → Int → Int → Heap → Nat), I1 (0 : Int) (-1 : Int) (0 : Int) h0 ∧ ∀ _ : Env,
∀ (best_1 : Int) (most_1 : Int) (x3 : Int) (h1 : Heap), I1 best_1 most_1 x3 h1 →
bcase (decide (x3 < (16 : Int))) (
(0 ≤ x3 ∧ x3 < ((16 : Nat) : Int)) ∧
∃ (s1 : Option Addr) (s1l s1c : Nat), cell h1 q (3 + ((x3).toNat * 8)) = some (.slice s1 s1l s1c) ∧
bcase (decide ((0 : Int) < ((s1l : Nat) : Int))) (
∃ n1 : Int, cell h1 q ((3 + ((x3).toNat * 8)) + 1) = some (.int .i64 n1) ∧
bcase (decide (most_1 < n1)) (
∃ n2 : Int, cell h1 q ((3 + ((x3).toNat * 8)) + 1) = some (.int .i64 n2) ∧
fits .i64 (x3 + (1 : Int)) ∧
I1 x3 n2 (x3 + (1 : Int)) h1 ∧ m1 x3 n2 (x3 + (1 : Int)) h1 < m1 best_1 most_1 x3 h1) (
fits .i64 (x3 + (1 : Int)) ∧
I1 best_1 most_1 (x3 + (1 : Int)) h1 ∧ m1 best_1 most_1 (x3 + (1 : Int)) h1 < m1 best_1 most_1 x3 h1)) (
fits .i64 (x3 + (1 : Int)) ∧
I1 best_1 most_1 (x3 + (1 : Int)) h1 ∧ m1 best_1 most_1 (x3 + (1 : Int)) h1 < m1 best_1 most_1 x3 h1)) (
Post (.tuple #[(.int .i64 best_1), (.int .i64 (max most_1 (0 : Int)))]) h1)) :
    Runs Tryd.prog 58 #[(.pointer (some ⟨q, 0, none⟩))] h0 Post :=
  runs_of (args := [(.pointer (some ⟨q, 0, none⟩))]) (fun n => ⟨true, false⟩) (fun n => match n with | 0 => [(4, .int .i64), (5, .int .i64), (8, .int .i64)] | _ => []) (fun _ => none) (fun _ => []) Tryd.func58 rfl (by rw [Tryd.ntmps58]; simp) (Eq.mp (by kernel_rfl) H)

theorem vc_fq_Queue_Len (q : Nat) (h0 : Heap) (Post : Value → Heap → Prop) (H :
∃ n1 : Int, cell h0 q 133 = some (.int .i64 n1) ∧
Post (.int .i64 n1) h0) :
    Runs Tryd.prog 33 #[(.pointer (some ⟨q, 0, none⟩))] h0 Post :=
  runs_of (args := [(.pointer (some ⟨q, 0, none⟩))]) (fun n => ⟨true, false⟩) (fun _ => []) (fun _ => none) (fun _ => []) Tryd.func33 rfl (by rw [Tryd.ntmps33]; simp) (Eq.mp (by kernel_rfl) H)

theorem vc_fq_Queue_Bytes (q : Nat) (h0 : Heap) (Post : Value → Heap → Prop) (H :
∃ n1 : Int, cell h0 q 134 = some (.int .i64 n1) ∧
Post (.int .i64 n1) h0) :
    Runs Tryd.prog 37 #[(.pointer (some ⟨q, 0, none⟩))] h0 Post :=
  runs_of (args := [(.pointer (some ⟨q, 0, none⟩))]) (fun n => ⟨true, false⟩) (fun _ => []) (fun _ => none) (fun _ => []) Tryd.func37 rfl (by rw [Tryd.ntmps37]; simp) (Eq.mp (by kernel_rfl) H)

theorem vc_fq_Queue_All (q : Nat) (h0 : Heap) (Post : Value → Heap → Prop) (H :
∃ (I1 : Option Addr → Nat → Nat → Int → Heap → Prop) (m1 : Option Addr → Nat → Nat → Int → Heap → Nat), I1 none 0 0 (0 : Int) h0 ∧ ∀ _ : Env,
∀ (out_1 : Option Addr) (out_1l out_1c : Nat) (x2 : Int) (h1 : Heap), I1 out_1 out_1l out_1c x2 h1 →
bcase (decide (x2 < (16 : Int))) (
(0 ≤ x2 ∧ x2 < ((16 : Nat) : Int)) ∧
∃ (s1 : Option Addr) (s1l s1c : Nat), cell h1 q (3 + ((x2).toNat * 8)) = some (.slice s1 s1l s1c) ∧
∃ (I2 : Option Addr → Nat → Nat → Int → Heap → Prop) (m2 : Option Addr → Nat → Nat → Int → Heap → Nat), I2 out_1 out_1l out_1c (0 : Int) h1 ∧ ∀ _ : Env,
∀ (out_2 : Option Addr) (out_2l out_2c : Nat) (x4 : Int) (h2 : Heap), I2 out_2 out_2l out_2c x4 h2 →
bcase (decide (x4 < ((s1l : Nat) : Int))) (
(0 ≤ x4 ∧ x4 < ((s1l : Nat) : Int)) ∧
onAddr s1 fun b1 o1 =>
∃ cs1 : List Value, row h2 b1 (o1 + ((x4).toNat * 5)) 5 = some cs1 ∧
∀ (b2 : Nat) (h3 : Heap), b2 = h2.size → h3 = h2.push (.cells ([(.int .i64 (0 : Int)), (.int .u32 (0 : Int)), (.int .i64 (0 : Int)), (.int .i64 (0 : Int)), (.slice none 0 0)] : List Value).toArray 35) →
(((cs1)).length = 5 ∧ wrs h3 b2 0 5 ∧ ∀ u ∈ ((cs1) : List Value), u.oneCell' = true) ∧ ∀ h4 : Heap, h4 = setr h3 b2 0 (cs1) →
∃ cs2 : List Value, row h4 b2 0 5 = some cs2 ∧
Runs Tryd.prog 60 #[(.agg (cs2).toArray)] h4 fun r1 h5 =>
∃ cs3 : List Value,
r1 = (.agg (cs3).toArray) ∧
(cs3).length = 5 ∧
∀ (b3 : Nat) (h6 : Heap), b3 = h5.size → h6 = h5.push (.cells (((cs3) ++ [])).toArray 35) →
∃ news1 : List Value, (row h6 b3 0 5 = some news1 ∧ ∀ u ∈ news1, u.oneCell' = true) ∧
appK h6 out_2 out_2l out_2c 1 5 35 56 news1 fun (a1 : Option Addr) (cap1 : Nat) (h7 : Heap) =>
fits .i64 (x4 + (1 : Int)) ∧
I2 a1 (out_2l + 1) cap1 (x4 + (1 : Int)) h7 ∧ m2 a1 (out_2l + 1) cap1 (x4 + (1 : Int)) h7 < m2 out_2 out_2l out_2c x4 h2) (
fits .i64 (x2 + (1 : Int)) ∧
I1 out_2 out_2l out_2c (x2 + (1 : Int)) h2 ∧ m1 out_2 out_2l out_2c (x2 + (1 : Int)) h2 < m1 out_1 out_1l out_1c x2 h1)) (
Post (.slice out_1 out_1l out_1c) h1)) :
    Runs Tryd.prog 38 #[(.pointer (some ⟨q, 0, none⟩))] h0 Post :=
  runs_of (args := [(.pointer (some ⟨q, 0, none⟩))]) (fun n => ⟨true, false⟩) (fun n => match n with | 0 => [(3, .slice), (7, .int .i64)] | 2 => [(3, .slice), (18, .int .i64)] | _ => []) (fun _ => none) (fun _ => []) Tryd.func38 rfl (by rw [Tryd.ntmps38]; simp) (Eq.mp (by kernel_rfl) H)

theorem vc_fq_Queue_Clone (q : Nat) (h0 : Heap) (Post : Value → Heap → Prop) (H :
∃ cs1 : List Value, row h0 q 0 135 = some cs1 ∧
∀ (b1 : Nat) (h1 : Heap), b1 = h0.size → h1 = h0.push (.cells ([(.int .u32 (0 : Int)), (.int .i64 (0 : Int)), (.int .i64 (0 : Int)), (.slice none 0 0), (.int .i64 (0 : Int)), (.int .i64 (0 : Int)), (.int .i64 (0 : Int)), (.int .i64 (0 : Int)), (.int .u32 (0 : Int)), (.int .u32 (0 : Int)), (.bool false), (.slice none 0 0), (.int .i64 (0 : Int)), (.int .i64 (0 : Int)), (.int .i64 (0 : Int)), (.int .i64 (0 : Int)), (.int .u32 (0 : Int)), (.int .u32 (0 : Int)), (.bool false), (.slice none 0 0), (.int .i64 (0 : Int)), (.int .i64 (0 : Int)), (.int .i64 (0 : Int)), (.int .i64 (0 : Int)), (.int .u32 (0 : Int)), (.int .u32 (0 : Int)), (.bool false), (.slice none 0 0), (.int .i64 (0 : Int)), (.int .i64 (0 : Int)), (.int .i64 (0 : Int)), (.int .i64 (0 : Int)), (.int .u32 (0 : Int)), (.int .u32 (0 : Int)), (.bool false), (.slice none 0 0), (.int .i64 (0 : Int)), (.int .i64 (0 : Int)), (.int .i64 (0 : Int)), (.int .i64 (0 : Int)), (.int .u32 (0 : Int)), (.int .u32 (0 : Int)), (.bool false), (.slice none 0 0), (.int .i64 (0 : Int)), (.int .i64 (0 : Int)), (.int .i64 (0 : Int)), (.int .i64 (0 : Int)), (.int .u32 (0 : Int)), (.int .u32 (0 : Int)), (.bool false), (.slice none 0 0), (.int .i64 (0 : Int)), (.int .i64 (0 : Int)), (.int .i64 (0 : Int)), (.int .i64 (0 : Int)), (.int .u32 (0 : Int)), (.int .u32 (0 : Int)), (.bool false), (.slice none 0 0), (.int .i64 (0 : Int)), (.int .i64 (0 : Int)), (.int .i64 (0 : Int)), (.int .i64 (0 : Int)), (.int .u32 (0 : Int)), (.int .u32 (0 : Int)), (.bool false), (.slice none 0 0), (.int .i64 (0 : Int)), (.int .i64 (0 : Int)), (.int .i64 (0 : Int)), (.int .i64 (0 : Int)), (.int .u32 (0 : Int)), (.int .u32 (0 : Int)), (.bool false), (.slice none 0 0), (.int .i64 (0 : Int)), (.int .i64 (0 : Int)), (.int .i64 (0 : Int)), (.int .i64 (0 : Int)), (.int .u32 (0 : Int)), (.int .u32 (0 : Int)), (.bool false), (.slice none 0 0), (.int .i64 (0 : Int)), (.int .i64 (0 : Int)), (.int .i64 (0 : Int)), (.int .i64 (0 : Int)), (.int .u32 (0 : Int)), (.int .u32 (0 : Int)), (.bool false), (.slice none 0 0), (.int .i64 (0 : Int)), (.int .i64 (0 : Int)), (.int .i64 (0 : Int)), (.int .i64 (0 : Int)), (.int .u32 (0 : Int)), (.int .u32 (0 : Int)), (.bool false), (.slice none 0 0), (.int .i64 (0 : Int)), (.int .i64 (0 : Int)), (.int .i64 (0 : Int)), (.int .i64 (0 : Int)), (.int .u32 (0 : Int)), (.int .u32 (0 : Int)), (.bool false), (.slice none 0 0), (.int .i64 (0 : Int)), (.int .i64 (0 : Int)), (.int .i64 (0 : Int)), (.int .i64 (0 : Int)), (.int .u32 (0 : Int)), (.int .u32 (0 : Int)), (.bool false), (.slice none 0 0), (.int .i64 (0 : Int)), (.int .i64 (0 : Int)), (.int .i64 (0 : Int)), (.int .i64 (0 : Int)), (.int .u32 (0 : Int)), (.int .u32 (0 : Int)), (.bool false), (.slice none 0 0), (.int .i64 (0 : Int)), (.int .i64 (0 : Int)), (.int .i64 (0 : Int)), (.int .i64 (0 : Int)), (.int .u32 (0 : Int)), (.int .u32 (0 : Int)), (.bool false), (.slice none 0 0), (.slice none 0 0), (.int .i64 (0 : Int)), (.int .i64 (0 : Int))] : List Value).toArray 97) →
(((cs1)).length = 135 ∧ wrs h1 b1 0 135 ∧ ∀ u ∈ ((cs1) : List Value), u.oneCell' = true) ∧ ∀ h2 : Heap, h2 = setr h1 b1 0 (cs1) →
∃ (s1 : Option Addr) (s1l s1c : Nat), cell h2 q 131 = some (.slice s1 s1l s1c) ∧
∃ (s2 : Option Addr) (s2l s2c : Nat), cell h2 q 132 = some (.slice s2 s2l s2c) ∧
Runs Tryd.prog 65 #[(.slice s1 s1l s1c)] h2 fun r1 h3 =>
∃ (s3 : Option Addr) (s3l s3c : Nat),
r1 = (.slice s3 s3l s3c) ∧
cell h3 q 132 = some (.slice s2 s2l s2c) ∧
Runs Tryd.prog 65 #[(.slice s2 s2l s2c)] h3 fun r2 h4 =>
∃ (s4 : Option Addr) (s4l s4c : Nat),
r2 = (.slice s4 s4l s4c) ∧
wr h4 b1 131 ∧ ∀ h5 : Heap, h5 = setc h4 b1 131 (.slice s3 s3l s3c) →
wr h5 b1 132 ∧ ∀ h6 : Heap, h6 = setc h5 b1 132 (.slice s4 s4l s4c) →
∃ (I1 : Int → Heap → Prop) (m1 : Int → Heap → Nat), I1 (0 : Int) h6 ∧ ∀ _ : Env,
∀ (x1 : Int) (h7 : Heap), I1 x1 h7 →
bcase (decide (x1 < (16 : Int))) (
(0 ≤ x1 ∧ x1 < ((16 : Nat) : Int)) ∧
∃ (s5 : Option Addr) (s5l s5c : Nat), cell h7 b1 (3 + ((x1).toNat * 8)) = some (.slice s5 s5l s5c) ∧
(0 ≤ x1 ∧ x1 < ((16 : Nat) : Int)) ∧
wr h7 b1 (3 + ((x1).toNat * 8)) ∧ ∀ h8 : Heap, h8 = setc h7 b1 (3 + ((x1).toNat * 8)) (.slice none 0 0) →
∃ (I2 : Int → Heap → Prop) (m2 : Int → Heap → Nat), I2 (0 : Int) h8 ∧ ∀ _ : Env,
∀ (x2 : Int) (h9 : Heap), I2 x2 h9 →
bcase (decide (x2 < ((s5l : Nat) : Int))) (
(0 ≤ x2 ∧ x2 < ((s5l : Nat) : Int)) ∧
onAddr s5 fun b2 o1 =>
∃ cs2 : List Value, row h9 b2 (o1 + ((x2).toNat * 5)) 5 = some cs2 ∧
∀ (b3 : Nat) (h10 : Heap), b3 = h9.size → h10 = h9.push (.cells ([(.int .i64 (0 : Int)), (.int .u32 (0 : Int)), (.int .i64 (0 : Int)), (.int .i64 (0 : Int)), (.slice none 0 0)] : List Value).toArray 35) →
(((cs2)).length = 5 ∧ wrs h10 b3 0 5 ∧ ∀ u ∈ ((cs2) : List Value), u.oneCell' = true) ∧ ∀ h11 : Heap, h11 = setr h10 b3 0 (cs2) →
(0 ≤ x1 ∧ x1 < ((16 : Nat) : Int)) ∧
∃ (s6 : Option Addr) (s6l s6c : Nat), cell h11 b1 (3 + ((x1).toNat * 8)) = some (.slice s6 s6l s6c) ∧
∃ cs3 : List Value, row h11 b3 0 5 = some cs3 ∧
Runs Tryd.prog 60 #[(.agg (cs3).toArray)] h11 fun r3 h12 =>
∃ cs4 : List Value,
r3 = (.agg (cs4).toArray) ∧
cell h12 b1 (3 + ((x1).toNat * 8)) = some (.slice s6 s6l s6c) ∧
(cs4).length = 5 ∧
∀ (b4 : Nat) (h13 : Heap), b4 = h12.size → h13 = h12.push (.cells (((cs4) ++ [])).toArray 35) →
∃ news1 : List Value, (row h13 b4 0 5 = some news1 ∧ ∀ u ∈ news1, u.oneCell' = true) ∧
appK h13 s6 s6l s6c 1 5 35 56 news1 fun (a1 : Option Addr) (cap1 : Nat) (h14 : Heap) =>
(0 ≤ x1 ∧ x1 < ((16 : Nat) : Int)) ∧
wr h14 b1 (3 + ((x1).toNat * 8)) ∧ ∀ h15 : Heap, h15 = setc h14 b1 (3 + ((x1).toNat * 8)) (.slice a1 (s6l + 1) cap1) →
fits .i64 (x2 + (1 : Int)) ∧
I2 (x2 + (1 : Int)) h15 ∧ m2 (x2 + (1 : Int)) h15 < m2 x2 h9) (
fits .i64 (x1 + (1 : Int)) ∧
I1 (x1 + (1 : Int)) h9 ∧ m1 (x1 + (1 : Int)) h9 < m1 x1 h7)) (
Post (.pointer (some ⟨b1, 0, none⟩)) h7)) :
    Runs Tryd.prog 43 #[(.pointer (some ⟨q, 0, none⟩))] h0 Post :=
  runs_of (args := [(.pointer (some ⟨q, 0, none⟩))]) (fun n => ⟨true, false⟩) (fun n => match n with | 0 => [(23, .int .i64)] | 2 => [(37, .int .i64)] | _ => []) (fun _ => none) (fun _ => []) Tryd.func43 rfl (by rw [Tryd.ntmps43]; simp) (Eq.mp (by kernel_rfl) H)
end Go.Proofs.YtpcilleldanfmaaDoor
