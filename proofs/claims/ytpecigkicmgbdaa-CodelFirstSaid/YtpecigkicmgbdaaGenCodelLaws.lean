/- The conditions for calls of functions of the program, in plain form: written by a program (vcgen) off the elaborated code; each is the reckoner's own, by the kernel. -/
import Derived.Test.YtpecigkicmgbdaaRows
import Derived.Test.YtpecigkicmgbdaaVc
set_option linter.unusedVariables false
set_option maxRecDepth 100000
namespace Go.Proofs.Ytpecigkicmgbdaa
open Go.Vc
theorem vc_muezzinlaw11_right (c : List Value) (now : Int) (l : Option Addr) (lL lC : Nat) (h0 : Heap) (Post : Value → Heap → Prop) (H :
∀ (b1 : Nat) (h1 : Heap), b1 = h0.size → h1 = h0.push (.cells (c).toArray 29) →
bcase (decide (now < (0 : Int))) (
Post (.bool false) h1) (
bcase (decide ((1125899906842624 : Int) < now)) (
Post (.bool false) h1) (
∃ n1 : Int, cell h1 b1 0 = some (.int .i64 n1) ∧
bcase (decide (n1 < (0 : Int))) (
Post (.bool false) h1) (
∃ n2 : Int, cell h1 b1 0 = some (.int .i64 n2) ∧
bcase (decide ((1125899906842624 : Int) < n2)) (
Post (.bool false) h1) (
∃ n3 : Int, cell h1 b1 1 = some (.int .i64 n3) ∧
bcase (decide (n3 < (0 : Int))) (
Post (.bool false) h1) (
∃ n4 : Int, cell h1 b1 1 = some (.int .i64 n4) ∧
bcase (decide ((1125899906842624 : Int) < n4)) (
Post (.bool false) h1) (
bcase (decide ((40 : Int) < ((lL : Nat) : Int))) (
Post (.bool false) h1) (
∃ (I1 : Int → Heap → Prop) (m1 : Int → Heap → Nat), I1 (0 : Int) h1 ∧ ∀ _ : Env,
∀ (i_1 : Int) (h2 : Heap), I1 i_1 h2 →
bcase (decide (i_1 < ((lL : Nat) : Int))) (
(0 ≤ i_1 ∧ i_1 < ((lL : Nat) : Int)) ∧
onAddr l fun b2 o1 =>
∃ n5 : Int, cell h2 b2 (o1 + ((i_1).toNat * 2)) = some (.int .i64 n5) ∧
bcase (decide (n5 < (0 : Int))) (
Post (.bool false) h2) (
(0 ≤ i_1 ∧ i_1 < ((lL : Nat) : Int)) ∧
onAddr l fun b3 o2 =>
∃ n6 : Int, cell h2 b3 (o2 + ((i_1).toNat * 2)) = some (.int .i64 n6) ∧
bcase (decide (now < n6)) (
Post (.bool false) h2) (
(0 ≤ i_1 ∧ i_1 < ((lL : Nat) : Int)) ∧
onAddr l fun b4 o3 =>
∃ n7 : Int, cell h2 b4 ((o3 + ((i_1).toNat * 2)) + 1) = some (.int .i64 n7) ∧
bcase (decide ((1048576 : Int) < n7)) (
Post (.bool false) h2) (
fits .i64 (i_1 + (1 : Int)) ∧
I1 (i_1 + (1 : Int)) h2 ∧ m1 (i_1 + (1 : Int)) h2 < m1 i_1 h2)))) (
Post (.bool true) h2))))))))) :
    Runs Try.prog 12 #[(.agg (c).toArray), (.int .i64 now), (.slice l lL lC)] h0 Post :=
  runs_of (args := [(.agg (c).toArray), (.int .i64 now), (.slice l lL lC)]) (fun n => ⟨true, false⟩) (fun n => match n with | 0 => [(7, .int .i64)] | _ => []) (fun _ => none) (fun _ => []) Try.func12 rfl (by rw [Try.ntmps12]; simp) (Eq.mp (by kernel_rfl) H)

theorem vc_muezzinlaw11_same (c : List Value) (x : List Value) (h0 : Heap) (Post : Value → Heap → Prop) (H :
∀ (b1 : Nat) (h1 : Heap), b1 = h0.size → h1 = h0.push (.cells (c).toArray 29) →
∀ (b2 : Nat) (h2 : Heap), b2 = h1.size → h2 = h1.push (.cells (x).toArray 36) →
∃ n1 : Int, cell h2 b1 0 = some (.int .i64 n1) ∧
∃ n2 : Int, cell h2 b2 0 = some (.int .i64 n2) ∧
bcase (decide (n1 = n2)) (
∃ n3 : Int, cell h2 b1 1 = some (.int .i64 n3) ∧
∃ n4 : Int, cell h2 b2 1 = some (.int .i64 n4) ∧
bcase (decide (n3 = n4)) (
∃ n5 : Int, cell h2 b1 2 = some (.int .u32 n5) ∧
∃ n6 : Int, cell h2 b2 2 = some (.int .u32 n6) ∧
bcase (decide (n5 = n6)) (
∃ n7 : Int, cell h2 b1 3 = some (.int .u32 n7) ∧
∃ n8 : Int, cell h2 b2 3 = some (.int .u32 n8) ∧
bcase (decide (n7 = n8)) (
∃ t1 : Bool, cell h2 b1 4 = some (.bool t1) ∧
∃ t2 : Bool, cell h2 b2 4 = some (.bool t2) ∧
Post (.bool (t1 == t2)) h2) (
Post (.bool false) h2)) (
Post (.bool false) h2)) (
Post (.bool false) h2)) (
Post (.bool false) h2)) :
    Runs Try.prog 13 #[(.agg (c).toArray), (.agg (x).toArray)] h0 Post :=
  runs_of (args := [(.agg (c).toArray), (.agg (x).toArray)]) (fun n => ⟨true, false⟩) (fun _ => []) (fun _ => none) (fun _ => []) Try.func13 rfl (by rw [Try.ntmps13]; simp) (Eq.mp (by kernel_rfl) H)

theorem vc_muezzinlaw11_other (c : List Value) (h0 : Heap) (Post : Value → Heap → Prop) (H :
∀ (b1 : Nat) (h1 : Heap), b1 = h0.size → h1 = h0.push (.cells (c).toArray 29) →
∀ (b2 : Nat) (h2 : Heap), b2 = h1.size → h2 = h1.push (.cells ([(.int .i64 (0 : Int)), (.int .i64 (0 : Int)), (.int .u32 (0 : Int)), (.int .u32 (0 : Int)), (.bool false)] : List Value).toArray 36) →
∃ n1 : Int, cell h2 b1 0 = some (.int .i64 n1) ∧
∃ n2 : Int, cell h2 b1 1 = some (.int .i64 n2) ∧
∃ n3 : Int, cell h2 b1 2 = some (.int .u32 n3) ∧
∃ n4 : Int, cell h2 b1 3 = some (.int .u32 n4) ∧
∃ t1 : Bool, cell h2 b1 4 = some (.bool t1) ∧
((([(.int .i64 n1), (.int .i64 n2), (.int .u32 n3), (.int .u32 n4), (.bool t1)] : List Value)).length = 5 ∧ wrs h2 b2 0 5 ∧ ∀ u ∈ (([(.int .i64 n1), (.int .i64 n2), (.int .u32 n3), (.int .u32 n4), (.bool t1)] : List Value) : List Value), u.oneCell' = true) ∧ ∀ h3 : Heap, h3 = setr h2 b2 0 ([(.int .i64 n1), (.int .i64 n2), (.int .u32 n3), (.int .u32 n4), (.bool t1)] : List Value) →
∃ cs1 : List Value, row h3 b2 0 5 = some cs1 ∧
Post (.agg (cs1).toArray) h3) :
    Runs Try.prog 14 #[(.agg (c).toArray)] h0 Post :=
  runs_of (args := [(.agg (c).toArray)]) (fun n => ⟨true, false⟩) (fun _ => []) (fun _ => none) (fun _ => []) Try.func14 rfl (by rw [Try.ntmps14]; simp) (Eq.mp (by kernel_rfl) H)

theorem vc_muezzinlaw11_first  (h0 : Heap) (Post : Value → Heap → Prop) (H :
∀ (b1 : Nat) (h1 : Heap), b1 = h0.size → h1 = h0.push (.cells ([(.int .i64 (0 : Int)), (.int .i64 (0 : Int)), (.int .u32 (0 : Int)), (.int .u32 (0 : Int)), (.bool false)] : List Value).toArray 29) →
∃ cs1 : List Value, row h1 b1 0 5 = some cs1 ∧
Runs Try.prog 11 #[(.agg (cs1).toArray), (.int .i64 (0 : Int)), (.int .i64 (5 : Int)), (.int .i64 (100 : Int)), (.int .i64 (0 : Int)), (.slice none 0 0)] h1 fun r1 h2 =>
∃ cs2 : List Value,
∃ n1 : Int,
∃ t1 : Bool,
r1 = (.tuple #[(.agg (cs2).toArray), (.int .i64 n1), (.bool t1)]) ∧
∀ (b2 : Nat) (h3 : Heap), b2 = h2.size → h3 = h2.push (.cells ([(.int .i64 (0 : Int)), (.int .i64 (0 : Int)), (.int .u32 (0 : Int)), (.int .u32 (0 : Int)), (.bool false)] : List Value).toArray 29) →
(((cs2)).length = 5 ∧ wrs h3 b2 0 5 ∧ ∀ u ∈ ((cs2) : List Value), u.oneCell' = true) ∧ ∀ h4 : Heap, h4 = setr h3 b2 0 (cs2) →
∃ cs3 : List Value, row h4 b1 0 5 = some cs3 ∧
([(.int .i64 (0 : Int)), (.int .i64 (100 : Int))] : List Value).length = 2 ∧
∀ (b3 : Nat) (h5 : Heap), b3 = h4.size → h5 = h4.push (.cells ([(.int .i64 (0 : Int)), (.int .i64 (100 : Int))] : List Value).toArray 26) →
Runs Try.prog 11 #[(.agg (cs3).toArray), (.int .i64 (9 : Int)), (.int .i64 (5 : Int)), (.int .i64 (100 : Int)), (.int .i64 (5000 : Int)), (.slice (some ⟨b3, 0, none⟩) 1 1)] h5 fun r2 h6 =>
∃ cs4 : List Value,
∃ n2 : Int,
∃ t2 : Bool,
r2 = (.tuple #[(.agg (cs4).toArray), (.int .i64 n2), (.bool t2)]) ∧
∀ (b4 : Nat) (h7 : Heap), b4 = h6.size → h7 = h6.push (.cells ([(.int .i64 (0 : Int)), (.int .i64 (0 : Int)), (.int .u32 (0 : Int)), (.int .u32 (0 : Int)), (.bool false)] : List Value).toArray 29) →
(((cs4)).length = 5 ∧ wrs h7 b4 0 5 ∧ ∀ u ∈ ((cs4) : List Value), u.oneCell' = true) ∧ ∀ h8 : Heap, h8 = setr h7 b4 0 (cs4) →
bcase (decide (n1 = (0 : Int))) (
bcase (!t1) (
bcase (decide (n2 = (0 : Int))) (
bcase t2 (
∃ n3 : Int, cell h8 b4 0 = some (.int .i64 n3) ∧
Post (.bool (decide (n3 = (109 : Int)))) h8) (
Post (.bool false) h8)) (
Post (.bool false) h8)) (
Post (.bool false) h8)) (
Post (.bool false) h8)) :
    Runs Try.prog 9 #[] h0 Post :=
  runs_of (args := []) (fun n => ⟨true, false⟩) (fun _ => []) (fun _ => none) (fun _ => []) Try.func9 rfl (by rw [Try.ntmps9]; simp) (Eq.mp (by kernel_rfl) H)

theorem vc_muezzinlaw11_CodelCalm (l : Option Addr) (lL lC : Nat) (now : Int) (target : Int) (short : Bool) (h0 : Heap) (Post : Value → Heap → Prop) (H :
Runs Try.prog 9 #[] h0 fun r1 h1 =>
∃ t1 : Bool,
r1 = (.bool t1) ∧
bcase (!t1) (
Post (.bool false) h1) (
∃ J1 : Bool → Heap → Prop, (
bcase (decide (target < (1 : Int))) (
J1 true h1) (
J1 (decide ((1073741824 : Int) < target)) h1)) ∧ ∀ _ : Env,
∀ (x1 : Bool) (h2 : Heap), J1 x1 h2 →
∃ J2 : Bool → Heap → Prop, (
bcase x1 (
J2 true h2) (
J2 (decide (now < target)) h2)) ∧ ∀ _ : Env,
∀ (x2 : Bool) (h3 : Heap), J2 x2 h3 →
∃ J3 : Bool → Heap → Prop, (
bcase x2 (
J3 true h3) (
J3 (decide ((1125899906842624 : Int) < now)) h3)) ∧ ∀ _ : Env,
∀ (x3 : Bool) (h4 : Heap), J3 x3 h4 →
bcase x3 (
Post (.bool t1) h4) (
bcase (decide ((40 : Int) < ((lL : Nat) : Int))) (
Post (.bool t1) h4) (
∃ (I1 : Option Addr → Nat → Nat → Int → Int → Heap → Prop) (m1 : Option Addr → Nat → Nat → Int → Int → Heap → Nat), I1 none 0 0 (0 : Int) (0 : Int) h4 ∧ ∀ _ : Env,
∀ (q_1 : Option Addr) (q_1l q_1c : Nat) (bytes_1 : Int) (i_1 : Int) (h5 : Heap), I1 q_1 q_1l q_1c bytes_1 i_1 h5 →
bcase (decide (i_1 < ((lL : Nat) : Int))) (
fits .i64 (now - target) ∧
fits .i64 ((now - target) + (1 : Int)) ∧
(0 ≤ i_1 ∧ i_1 < ((lL : Nat) : Int)) ∧
onAddr l fun b1 o1 =>
∃ n1 : Int, cell h5 b1 ((o1 + ((i_1).toNat * 2)) + 1) = some (.int .i64 n1) ∧
Runs Try.prog 10 #[(.int .i64 n1), (.int .i64 (3000 : Int))] h5 fun r2 h6 =>
∃ n2 : Int,
r2 = (.int .i64 n2) ∧
∀ (b2 : Nat) (h7 : Heap), b2 = h6.size → h7 = h6.push (.cells ([(.int .i64 (0 : Int)), (.int .i64 (0 : Int))] : List Value).toArray 26) →
((([(.int .i64 ((now - target) + (1 : Int))), (.int .i64 n2)] : List Value)).length = 2 ∧ wrs h7 b2 0 2 ∧ ∀ u ∈ (([(.int .i64 ((now - target) + (1 : Int))), (.int .i64 n2)] : List Value) : List Value), u.oneCell' = true) ∧ ∀ h8 : Heap, h8 = setr h7 b2 0 ([(.int .i64 ((now - target) + (1 : Int))), (.int .i64 n2)] : List Value) →
bcase short (
((([(.int .i64 (0 : Int)), (.int .i64 (30 : Int))] : List Value)).length = 2 ∧ wrs h8 b2 0 2 ∧ ∀ u ∈ (([(.int .i64 (0 : Int)), (.int .i64 (30 : Int))] : List Value) : List Value), u.oneCell' = true) ∧ ∀ h9 : Heap, h9 = setr h8 b2 0 ([(.int .i64 (0 : Int)), (.int .i64 (30 : Int))] : List Value) →
∃ cs1 : List Value, row h9 b2 0 2 = some cs1 ∧
(cs1).length = 2 ∧
∀ (b3 : Nat) (h10 : Heap), b3 = h9.size → h10 = h9.push (.cells (((cs1) ++ [])).toArray 26) →
∃ news1 : List Value, (row h10 b3 0 2 = some news1 ∧ ∀ u ∈ news1, u.oneCell' = true) ∧
((q_1l + 1) ≤ q_1c →
appIn q_1 (
∃ n4 : Int, cell h10 b2 1 = some (.int .i64 n4) ∧
fits .i64 (bytes_1 + n4) ∧
fits .i64 (i_1 + (1 : Int)) ∧
I1 none (q_1l + 1) q_1c (bytes_1 + n4) (i_1 + (1 : Int)) h10 ∧ m1 none (q_1l + 1) q_1c (bytes_1 + n4) (i_1 + (1 : Int)) h10 < m1 q_1 q_1l q_1c bytes_1 i_1 h5) (fun b5 o2 =>
wrs h10 b5 (o2 + (q_1l * 2)) news1.length ∧ ∀ h12 : Heap, h12 = setr h10 b5 (o2 + (q_1l * 2)) news1 →
∃ n5 : Int, cell h12 b2 1 = some (.int .i64 n5) ∧
fits .i64 (bytes_1 + n5) ∧
fits .i64 (i_1 + (1 : Int)) ∧
I1 (some ⟨b5, o2, none⟩) (q_1l + 1) q_1c (bytes_1 + n5) (i_1 + (1 : Int)) h12 ∧ m1 (some ⟨b5, o2, none⟩) (q_1l + 1) q_1c (bytes_1 + n5) (i_1 + (1 : Int)) h12 < m1 q_1 q_1l q_1c bytes_1 i_1 h5)) ∧
(q_1c < (q_1l + 1) →
(((q_1l + 1)) * 16 ≤ 140737488355328 ∧ 0 < 16) ∧ ∃ olds1 : List Value, src h10 q_1 (q_1l * 2) olds1 ∧ ∀ (cap1 : Nat) (zs1 : List Value) (b4 : Nat) (h11 : Heap), (q_1l + 1) ≤ cap1 → zs1.length = (cap1 - (q_1l + 1)) * 2 → b4 = h10.size → h11 = h10.push (.cells (olds1 ++ news1 ++ zs1).toArray 26) →
∃ n3 : Int, cell h11 b2 1 = some (.int .i64 n3) ∧
fits .i64 (bytes_1 + n3) ∧
fits .i64 (i_1 + (1 : Int)) ∧
I1 (some ⟨b4, 0, none⟩) (q_1l + 1) cap1 (bytes_1 + n3) (i_1 + (1 : Int)) h11 ∧ m1 (some ⟨b4, 0, none⟩) (q_1l + 1) cap1 (bytes_1 + n3) (i_1 + (1 : Int)) h11 < m1 q_1 q_1l q_1c bytes_1 i_1 h5)) (
∃ cs2 : List Value, row h8 b2 0 2 = some cs2 ∧
(cs2).length = 2 ∧
∀ (b6 : Nat) (h13 : Heap), b6 = h8.size → h13 = h8.push (.cells (((cs2) ++ [])).toArray 26) →
∃ news2 : List Value, (row h13 b6 0 2 = some news2 ∧ ∀ u ∈ news2, u.oneCell' = true) ∧
((q_1l + 1) ≤ q_1c →
appIn q_1 (
∃ n7 : Int, cell h13 b2 1 = some (.int .i64 n7) ∧
fits .i64 (bytes_1 + n7) ∧
fits .i64 (i_1 + (1 : Int)) ∧
I1 none (q_1l + 1) q_1c (bytes_1 + n7) (i_1 + (1 : Int)) h13 ∧ m1 none (q_1l + 1) q_1c (bytes_1 + n7) (i_1 + (1 : Int)) h13 < m1 q_1 q_1l q_1c bytes_1 i_1 h5) (fun b8 o3 =>
wrs h13 b8 (o3 + (q_1l * 2)) news2.length ∧ ∀ h15 : Heap, h15 = setr h13 b8 (o3 + (q_1l * 2)) news2 →
∃ n8 : Int, cell h15 b2 1 = some (.int .i64 n8) ∧
fits .i64 (bytes_1 + n8) ∧
fits .i64 (i_1 + (1 : Int)) ∧
I1 (some ⟨b8, o3, none⟩) (q_1l + 1) q_1c (bytes_1 + n8) (i_1 + (1 : Int)) h15 ∧ m1 (some ⟨b8, o3, none⟩) (q_1l + 1) q_1c (bytes_1 + n8) (i_1 + (1 : Int)) h15 < m1 q_1 q_1l q_1c bytes_1 i_1 h5)) ∧
(q_1c < (q_1l + 1) →
(((q_1l + 1)) * 16 ≤ 140737488355328 ∧ 0 < 16) ∧ ∃ olds2 : List Value, src h13 q_1 (q_1l * 2) olds2 ∧ ∀ (cap2 : Nat) (zs2 : List Value) (b7 : Nat) (h14 : Heap), (q_1l + 1) ≤ cap2 → zs2.length = (cap2 - (q_1l + 1)) * 2 → b7 = h13.size → h14 = h13.push (.cells (olds2 ++ news2 ++ zs2).toArray 26) →
∃ n6 : Int, cell h14 b2 1 = some (.int .i64 n6) ∧
fits .i64 (bytes_1 + n6) ∧
fits .i64 (i_1 + (1 : Int)) ∧
I1 (some ⟨b7, 0, none⟩) (q_1l + 1) cap2 (bytes_1 + n6) (i_1 + (1 : Int)) h14 ∧ m1 (some ⟨b7, 0, none⟩) (q_1l + 1) cap2 (bytes_1 + n6) (i_1 + (1 : Int)) h14 < m1 q_1 q_1l q_1c bytes_1 i_1 h5))) (
∀ (b9 : Nat) (h16 : Heap), b9 = h5.size → h16 = h5.push (.cells ([(.int .i64 (0 : Int)), (.int .i64 (0 : Int)), (.int .u32 (0 : Int)), (.int .u32 (0 : Int)), (.bool false)] : List Value).toArray 29) →
∃ (I2 : Int → Int → Heap → Prop) (m2 : Int → Int → Heap → Nat), I2 bytes_1 (0 : Int) h16 ∧ ∀ _ : Env,
∀ (bytes_2 : Int) (i_2 : Int) (h17 : Heap), I2 bytes_2 i_2 h17 →
bcase (decide (i_2 < ((lL : Nat) : Int))) (
∃ cs3 : List Value, row h17 b9 0 5 = some cs3 ∧
(0 ≤ i_2 ∧ i_2 ≤ ((q_1l : Nat) : Int)) ∧
(
Runs Try.prog 11 #[(.agg (cs3).toArray), (.int .i64 now), (.int .i64 target), (.int .i64 (100 : Int)), (.int .i64 bytes_2), (.slice (slcAddr q_1 (i_2).toNat q_1c ((i_2).toNat * 2)) (q_1l - (i_2).toNat) (q_1c - (i_2).toNat))] h17 fun r3 h18 =>
∃ cs4 : List Value,
∃ n9 : Int,
∃ t2 : Bool,
r3 = (.tuple #[(.agg (cs4).toArray), (.int .i64 n9), (.bool t2)]) ∧
∀ (b10 : Nat) (h19 : Heap), b10 = h18.size → h19 = h18.push (.cells ([(.int .i64 (0 : Int)), (.int .i64 (0 : Int)), (.int .u32 (0 : Int)), (.int .u32 (0 : Int)), (.bool false)] : List Value).toArray 29) →
(((cs4)).length = 5 ∧ wrs h19 b10 0 5 ∧ ∀ u ∈ ((cs4) : List Value), u.oneCell' = true) ∧ ∀ h20 : Heap, h20 = setr h19 b10 0 (cs4) →
∃ J4 : Bool → Heap → Prop, (
bcase (!decide (n9 = (0 : Int))) (
J4 true h20) (
J4 (!t2) h20)) ∧ ∀ _ : Env,
∀ (x9 : Bool) (h21 : Heap), J4 x9 h21 →
∃ J5 : Bool → Heap → Prop, (
bcase x9 (
J5 true h21) (
∃ t3 : Bool, cell h21 b10 4 = some (.bool t3) ∧
J5 t3 h21)) ∧ ∀ _ : Env,
∀ (x10 : Bool) (h22 : Heap), J5 x10 h22 →
bcase x10 (
Post (.bool false) h22) (
∃ n10 : Int, cell h22 b10 0 = some (.int .i64 n10) ∧
bcase (!decide (n10 = (0 : Int))) (
Post (.bool false) h22) (
(0 ≤ i_2 ∧ i_2 < ((q_1l : Nat) : Int)) ∧
onAddr q_1 fun b11 o4 =>
∃ n11 : Int, cell h22 b11 ((o4 + ((i_2).toNat * 2)) + 1) = some (.int .i64 n11) ∧
fits .i64 (bytes_2 - n11) ∧
∃ cs5 : List Value, row h22 b10 0 5 = some cs5 ∧
(((cs5)).length = 5 ∧ wrs h22 b9 0 5 ∧ ∀ u ∈ ((cs5) : List Value), u.oneCell' = true) ∧ ∀ h23 : Heap, h23 = setr h22 b9 0 (cs5) →
fits .i64 (i_2 + (1 : Int)) ∧
I2 (bytes_2 - n11) (i_2 + (1 : Int)) h23 ∧ m2 (bytes_2 - n11) (i_2 + (1 : Int)) h23 < m2 bytes_2 i_2 h17))) ∧
(
∀ (b12 : Nat) (h24 : Heap), b12 = h17.size → h24 = h17.push (.cells ([(.int .i64 (0 : Int)), (.int .i64 (0 : Int)), (.int .u32 (0 : Int)), (.int .u32 (0 : Int)), (.bool false)] : List Value).toArray 29) →
Runs Try.prog 11 #[(.agg (cs3).toArray), (.int .i64 now), (.int .i64 target), (.int .i64 (100 : Int)), (.int .i64 bytes_2), (.slice (slcAddr q_1 (i_2).toNat q_1c ((i_2).toNat * 2)) (q_1l - (i_2).toNat) (q_1c - (i_2).toNat))] h24 fun r4 h25 =>
∃ cs6 : List Value,
∃ n12 : Int,
∃ t4 : Bool,
r4 = (.tuple #[(.agg (cs6).toArray), (.int .i64 n12), (.bool t4)]) ∧
(((cs6)).length = 5 ∧ wrs h25 b12 0 5 ∧ ∀ u ∈ ((cs6) : List Value), u.oneCell' = true) ∧ ∀ h26 : Heap, h26 = setr h25 b12 0 (cs6) →
∃ J6 : Bool → Heap → Prop, (
bcase (!decide (n12 = (0 : Int))) (
J6 true h26) (
J6 (!t4) h26)) ∧ ∀ _ : Env,
∀ (x11 : Bool) (h27 : Heap), J6 x11 h27 →
∃ J7 : Bool → Heap → Prop, (
bcase x11 (
J7 true h27) (
∃ t5 : Bool, cell h27 b12 4 = some (.bool t5) ∧
J7 t5 h27)) ∧ ∀ _ : Env,
∀ (x12 : Bool) (h28 : Heap), J7 x12 h28 →
bcase x12 (
Post (.bool false) h28) (
∃ n13 : Int, cell h28 b12 0 = some (.int .i64 n13) ∧
bcase (!decide (n13 = (0 : Int))) (
Post (.bool false) h28) (
(0 ≤ i_2 ∧ i_2 < ((q_1l : Nat) : Int)) ∧
onAddr q_1 fun b13 o5 =>
∃ n14 : Int, cell h28 b13 ((o5 + ((i_2).toNat * 2)) + 1) = some (.int .i64 n14) ∧
fits .i64 (bytes_2 - n14) ∧
∃ cs7 : List Value, row h28 b12 0 5 = some cs7 ∧
(((cs7)).length = 5 ∧ wrs h28 b9 0 5 ∧ ∀ u ∈ ((cs7) : List Value), u.oneCell' = true) ∧ ∀ h29 : Heap, h29 = setr h28 b9 0 (cs7) →
fits .i64 (i_2 + (1 : Int)) ∧
I2 (bytes_2 - n14) (i_2 + (1 : Int)) h29 ∧ m2 (bytes_2 - n14) (i_2 + (1 : Int)) h29 < m2 bytes_2 i_2 h17)))) (
∃ cs8 : List Value, row h17 b9 0 5 = some cs8 ∧
Runs Try.prog 11 #[(.agg (cs8).toArray), (.int .i64 now), (.int .i64 target), (.int .i64 (100 : Int)), (.int .i64 (0 : Int)), (.slice none 0 0)] h17 fun r5 h30 =>
∃ cs9 : List Value,
∃ n15 : Int,
∃ t6 : Bool,
r5 = (.tuple #[(.agg (cs9).toArray), (.int .i64 n15), (.bool t6)]) ∧
∀ (b14 : Nat) (h31 : Heap), b14 = h30.size → h31 = h30.push (.cells ([(.int .i64 (0 : Int)), (.int .i64 (0 : Int)), (.int .u32 (0 : Int)), (.int .u32 (0 : Int)), (.bool false)] : List Value).toArray 29) →
(((cs9)).length = 5 ∧ wrs h31 b14 0 5 ∧ ∀ u ∈ ((cs9) : List Value), u.oneCell' = true) ∧ ∀ h32 : Heap, h32 = setr h31 b14 0 (cs9) →
∃ J8 : Bool → Heap → Prop, (
bcase t1 (
J8 (decide (n15 = (0 : Int))) h32) (
J8 false h32)) ∧ ∀ _ : Env,
∀ (x13 : Bool) (h33 : Heap), J8 x13 h33 →
bcase x13 (
Post (.bool (!t6)) h33) (
Post (.bool false) h33))))))) :
    Runs Try.prog 3 #[(.slice l lL lC), (.int .i64 now), (.int .i64 target), (.bool short)] h0 Post :=
  runs_of (args := [(.slice l lL lC), (.int .i64 now), (.int .i64 target), (.bool short)]) (fun n => ⟨true, false⟩) (fun n => match n with | 0 => [(10, .slice), (11, .int .i64), (12, .int .i64)] | 2 => [(11, .int .i64), (15, .int .i64)] | _ => []) (fun _ => none) (fun n => match n with | 4 => [(6, [(30, .bool)]), (5, [(35, .bool)]), (4, [(39, .bool)])] | 21 => [(6, [(96, .bool)]), (4, [(100, .bool)])] | 26 => [(5, [(126, .bool)])] | _ => []) Try.func3 rfl (by rw [Try.ntmps3]; simp) (Eq.mp (by kernel_rfl) H)

theorem vc_muezzinlaw11_CodelStands (interval : Int) (size : Int) (h0 : Heap) (Post : Value → Heap → Prop) (H :
Runs Try.prog 9 #[] h0 fun r1 h1 =>
∃ t1 : Bool,
r1 = (.bool t1) ∧
bcase (!t1) (
Post (.bool false) h1) (
Runs Try.prog 10 #[(.int .i64 interval), (.int .i64 (1000 : Int))] h1 fun r2 h2 =>
∃ n1 : Int,
r2 = (.int .i64 n1) ∧
fits .i64 (n1 + (100 : Int)) ∧
Runs Try.prog 10 #[(.int .i64 size), (.int .i64 (400 : Int))] h2 fun r3 h3 =>
∃ n2 : Int,
r3 = (.int .i64 n2) ∧
fits .i64 (n2 + (1000 : Int)) ∧
∀ (b1 : Nat) (h4 : Heap), b1 = h3.size → h4 = h3.push (.cells ([(.int .i64 (0 : Int)), (.int .i64 (0 : Int))] : List Value).toArray 26) →
((([(.int .i64 (0 : Int)), (.int .i64 (n2 + (1000 : Int)))] : List Value)).length = 2 ∧ wrs h4 b1 0 2 ∧ ∀ u ∈ (([(.int .i64 (0 : Int)), (.int .i64 (n2 + (1000 : Int)))] : List Value) : List Value), u.oneCell' = true) ∧ ∀ h5 : Heap, h5 = setr h4 b1 0 ([(.int .i64 (0 : Int)), (.int .i64 (n2 + (1000 : Int)))] : List Value) →
∃ cs1 : List Value, row h5 b1 0 2 = some cs1 ∧
∃ cs2 : List Value, row h5 b1 0 2 = some cs2 ∧
∃ cs3 : List Value, row h5 b1 0 2 = some cs3 ∧
∃ cs4 : List Value, row h5 b1 0 2 = some cs4 ∧
∃ cs5 : List Value, row h5 b1 0 2 = some cs5 ∧
∃ cs6 : List Value, row h5 b1 0 2 = some cs6 ∧
(cs1).length = 2 ∧
(cs2).length = 2 ∧
(cs3).length = 2 ∧
(cs4).length = 2 ∧
(cs5).length = 2 ∧
(cs6).length = 2 ∧
∀ (b2 : Nat) (h6 : Heap), b2 = h5.size → h6 = h5.push (.cells (((cs1) ++ ((cs2) ++ ((cs3) ++ ((cs4) ++ ((cs5) ++ ((cs6) ++ []))))))).toArray 26) →
fits .i64 ((100 : Int) * (n2 + (1000 : Int))) ∧
∀ (b3 : Nat) (h7 : Heap), b3 = h6.size → h7 = h6.push (.cells ([(.int .i64 (0 : Int)), (.int .i64 (0 : Int)), (.int .u32 (0 : Int)), (.int .u32 (0 : Int)), (.bool false)] : List Value).toArray 29) →
∃ cs7 : List Value, row h7 b3 0 5 = some cs7 ∧
Runs Try.prog 11 #[(.agg (cs7).toArray), (.int .i64 (1000 : Int)), (.int .i64 (10 : Int)), (.int .i64 (n1 + (100 : Int))), (.int .i64 ((100 : Int) * (n2 + (1000 : Int)))), (.slice (some ⟨b2, 0, none⟩) 6 6)] h7 fun r4 h8 =>
∃ cs8 : List Value,
∃ n3 : Int,
∃ t2 : Bool,
r4 = (.tuple #[(.agg (cs8).toArray), (.int .i64 n3), (.bool t2)]) ∧
∀ (b4 : Nat) (h9 : Heap), b4 = h8.size → h9 = h8.push (.cells ([(.int .i64 (0 : Int)), (.int .i64 (0 : Int)), (.int .u32 (0 : Int)), (.int .u32 (0 : Int)), (.bool false)] : List Value).toArray 29) →
(((cs8)).length = 5 ∧ wrs h9 b4 0 5 ∧ ∀ u ∈ ((cs8) : List Value), u.oneCell' = true) ∧ ∀ h10 : Heap, h10 = setr h9 b4 0 (cs8) →
∃ cs9 : List Value, row h10 b4 0 5 = some cs9 ∧
fits .i64 ((1000 : Int) + (n1 + (100 : Int))) ∧
fits .i64 (((1000 : Int) + (n1 + (100 : Int))) - (1 : Int)) ∧
Runs Try.prog 11 #[(.agg (cs9).toArray), (.int .i64 (((1000 : Int) + (n1 + (100 : Int))) - (1 : Int))), (.int .i64 (10 : Int)), (.int .i64 (n1 + (100 : Int))), (.int .i64 ((100 : Int) * (n2 + (1000 : Int)))), (.slice (some ⟨b2, 0, none⟩) 6 6)] h10 fun r5 h11 =>
∃ cs10 : List Value,
∃ n4 : Int,
∃ t3 : Bool,
r5 = (.tuple #[(.agg (cs10).toArray), (.int .i64 n4), (.bool t3)]) ∧
∀ (b5 : Nat) (h12 : Heap), b5 = h11.size → h12 = h11.push (.cells ([(.int .i64 (0 : Int)), (.int .i64 (0 : Int)), (.int .u32 (0 : Int)), (.int .u32 (0 : Int)), (.bool false)] : List Value).toArray 29) →
(((cs10)).length = 5 ∧ wrs h12 b5 0 5 ∧ ∀ u ∈ ((cs10) : List Value), u.oneCell' = true) ∧ ∀ h13 : Heap, h13 = setr h12 b5 0 (cs10) →
∃ cs11 : List Value, row h13 b5 0 5 = some cs11 ∧
fits .i64 ((1000 : Int) + (n1 + (100 : Int))) ∧
Runs Try.prog 11 #[(.agg (cs11).toArray), (.int .i64 ((1000 : Int) + (n1 + (100 : Int)))), (.int .i64 (10 : Int)), (.int .i64 (n1 + (100 : Int))), (.int .i64 ((100 : Int) * (n2 + (1000 : Int)))), (.slice (some ⟨b2, 0, none⟩) 6 6)] h13 fun r6 h14 =>
∃ cs12 : List Value,
∃ n5 : Int,
∃ t4 : Bool,
r6 = (.tuple #[(.agg (cs12).toArray), (.int .i64 n5), (.bool t4)]) ∧
∀ (b6 : Nat) (h15 : Heap), b6 = h14.size → h15 = h14.push (.cells ([(.int .i64 (0 : Int)), (.int .i64 (0 : Int)), (.int .u32 (0 : Int)), (.int .u32 (0 : Int)), (.bool false)] : List Value).toArray 29) →
(((cs12)).length = 5 ∧ wrs h15 b6 0 5 ∧ ∀ u ∈ ((cs12) : List Value), u.oneCell' = true) ∧ ∀ h16 : Heap, h16 = setr h15 b6 0 (cs12) →
∃ cs13 : List Value, row h16 b6 0 5 = some cs13 ∧
fits .i64 ((2 : Int) * (n1 + (100 : Int))) ∧
fits .i64 ((1000 : Int) + ((2 : Int) * (n1 + (100 : Int)))) ∧
fits .i64 (((1000 : Int) + ((2 : Int) * (n1 + (100 : Int)))) - (1 : Int)) ∧
Runs Try.prog 11 #[(.agg (cs13).toArray), (.int .i64 (((1000 : Int) + ((2 : Int) * (n1 + (100 : Int)))) - (1 : Int))), (.int .i64 (10 : Int)), (.int .i64 (n1 + (100 : Int))), (.int .i64 ((100 : Int) * (n2 + (1000 : Int)))), (.slice (some ⟨b2, 0, none⟩) 6 6)] h16 fun r7 h17 =>
∃ cs14 : List Value,
∃ n6 : Int,
∃ t5 : Bool,
r7 = (.tuple #[(.agg (cs14).toArray), (.int .i64 n6), (.bool t5)]) ∧
∀ (b7 : Nat) (h18 : Heap), b7 = h17.size → h18 = h17.push (.cells ([(.int .i64 (0 : Int)), (.int .i64 (0 : Int)), (.int .u32 (0 : Int)), (.int .u32 (0 : Int)), (.bool false)] : List Value).toArray 29) →
(((cs14)).length = 5 ∧ wrs h18 b7 0 5 ∧ ∀ u ∈ ((cs14) : List Value), u.oneCell' = true) ∧ ∀ h19 : Heap, h19 = setr h18 b7 0 (cs14) →
∃ cs15 : List Value, row h19 b7 0 5 = some cs15 ∧
fits .i64 ((2 : Int) * (n1 + (100 : Int))) ∧
fits .i64 ((1000 : Int) + ((2 : Int) * (n1 + (100 : Int)))) ∧
Runs Try.prog 11 #[(.agg (cs15).toArray), (.int .i64 ((1000 : Int) + ((2 : Int) * (n1 + (100 : Int))))), (.int .i64 (10 : Int)), (.int .i64 (n1 + (100 : Int))), (.int .i64 ((100 : Int) * (n2 + (1000 : Int)))), (.slice (some ⟨b2, 0, none⟩) 6 6)] h19 fun r8 h20 =>
∃ cs16 : List Value,
∃ n7 : Int,
∃ t6 : Bool,
r8 = (.tuple #[(.agg (cs16).toArray), (.int .i64 n7), (.bool t6)]) ∧
∀ (b8 : Nat) (h21 : Heap), b8 = h20.size → h21 = h20.push (.cells ([(.int .i64 (0 : Int)), (.int .i64 (0 : Int)), (.int .u32 (0 : Int)), (.int .u32 (0 : Int)), (.bool false)] : List Value).toArray 29) →
(((cs16)).length = 5 ∧ wrs h21 b8 0 5 ∧ ∀ u ∈ ((cs16) : List Value), u.oneCell' = true) ∧ ∀ h22 : Heap, h22 = setr h21 b8 0 (cs16) →
fits .i64 ((2 : Int) * (n1 + (100 : Int))) ∧
fits .i64 ((1000 : Int) + ((2 : Int) * (n1 + (100 : Int)))) ∧
∀ (b9 : Nat) (h23 : Heap), b9 = h22.size → h23 = h22.push (.cells ([(.int .i64 (0 : Int)), (.int .i64 (0 : Int))] : List Value).toArray 26) →
((([(.int .i64 ((1000 : Int) + ((2 : Int) * (n1 + (100 : Int))))), (.int .i64 (n2 + (1000 : Int)))] : List Value)).length = 2 ∧ wrs h23 b9 0 2 ∧ ∀ u ∈ (([(.int .i64 ((1000 : Int) + ((2 : Int) * (n1 + (100 : Int))))), (.int .i64 (n2 + (1000 : Int)))] : List Value) : List Value), u.oneCell' = true) ∧ ∀ h24 : Heap, h24 = setr h23 b9 0 ([(.int .i64 ((1000 : Int) + ((2 : Int) * (n1 + (100 : Int))))), (.int .i64 (n2 + (1000 : Int)))] : List Value) →
∃ cs17 : List Value, row h24 b8 0 5 = some cs17 ∧
fits .i64 ((2 : Int) * (n1 + (100 : Int))) ∧
fits .i64 ((1000 : Int) + ((2 : Int) * (n1 + (100 : Int)))) ∧
∃ cs18 : List Value, row h24 b9 0 2 = some cs18 ∧
∃ cs19 : List Value, row h24 b9 0 2 = some cs19 ∧
(cs18).length = 2 ∧
(cs19).length = 2 ∧
∀ (b10 : Nat) (h25 : Heap), b10 = h24.size → h25 = h24.push (.cells (((cs18) ++ ((cs19) ++ []))).toArray 26) →
Runs Try.prog 11 #[(.agg (cs17).toArray), (.int .i64 ((1000 : Int) + ((2 : Int) * (n1 + (100 : Int))))), (.int .i64 (10 : Int)), (.int .i64 (n1 + (100 : Int))), (.int .i64 ((100 : Int) * (n2 + (1000 : Int)))), (.slice (some ⟨b10, 0, none⟩) 2 2)] h25 fun r9 h26 =>
∃ cs20 : List Value,
∃ n8 : Int,
∃ t7 : Bool,
r9 = (.tuple #[(.agg (cs20).toArray), (.int .i64 n8), (.bool t7)]) ∧
∀ (b11 : Nat) (h27 : Heap), b11 = h26.size → h27 = h26.push (.cells ([(.int .i64 (0 : Int)), (.int .i64 (0 : Int)), (.int .u32 (0 : Int)), (.int .u32 (0 : Int)), (.bool false)] : List Value).toArray 29) →
(((cs20)).length = 5 ∧ wrs h27 b11 0 5 ∧ ∀ u ∈ ((cs20) : List Value), u.oneCell' = true) ∧ ∀ h28 : Heap, h28 = setr h27 b11 0 (cs20) →
∃ J1 : Bool → Heap → Prop, (
bcase (!t2) (
J1 true h28) (
J1 (!t3) h28)) ∧ ∀ _ : Env,
∀ (x1 : Bool) (h29 : Heap), J1 x1 h29 →
∃ J2 : Bool → Heap → Prop, (
bcase x1 (
J2 true h29) (
J2 (!t4) h29)) ∧ ∀ _ : Env,
∀ (x2 : Bool) (h30 : Heap), J2 x2 h30 →
∃ J3 : Bool → Heap → Prop, (
bcase x2 (
J3 true h30) (
J3 (!t5) h30)) ∧ ∀ _ : Env,
∀ (x3 : Bool) (h31 : Heap), J3 x3 h31 →
∃ J4 : Bool → Heap → Prop, (
bcase x3 (
J4 true h31) (
J4 (!t6) h31)) ∧ ∀ _ : Env,
∀ (x4 : Bool) (h32 : Heap), J4 x4 h32 →
bcase x4 (
Post (.bool false) h32) (
bcase (!t7) (
Post (.bool false) h32) (
∃ J5 : Bool → Heap → Prop, (
bcase t1 (
J5 (decide (n3 = (0 : Int))) h32) (
J5 false h32)) ∧ ∀ _ : Env,
∀ (x5 : Bool) (h33 : Heap), J5 x5 h33 →
∃ J6 : Bool → Heap → Prop, (
bcase x5 (
∃ t8 : Bool, cell h33 b4 4 = some (.bool t8) ∧
J6 (!t8) h33) (
J6 false h33)) ∧ ∀ _ : Env,
∀ (x6 : Bool) (h34 : Heap), J6 x6 h34 →
∃ J7 : Bool → Heap → Prop, (
bcase x6 (
∃ n9 : Int, cell h34 b4 0 = some (.int .i64 n9) ∧
fits .i64 ((1000 : Int) + (n1 + (100 : Int))) ∧
J7 (decide (n9 = ((1000 : Int) + (n1 + (100 : Int))))) h34) (
J7 false h34)) ∧ ∀ _ : Env,
∀ (x7 : Bool) (h35 : Heap), J7 x7 h35 →
∃ J8 : Bool → Heap → Prop, (
bcase x7 (
J8 (decide (n4 = (0 : Int))) h35) (
J8 false h35)) ∧ ∀ _ : Env,
∀ (x8 : Bool) (h36 : Heap), J8 x8 h36 →
∃ J9 : Bool → Heap → Prop, (
bcase x8 (
J9 (decide (n5 = (1 : Int))) h36) (
J9 false h36)) ∧ ∀ _ : Env,
∀ (x9 : Bool) (h37 : Heap), J9 x9 h37 →
∃ J10 : Bool → Heap → Prop, (
bcase x9 (
∃ t9 : Bool, cell h37 b6 4 = some (.bool t9) ∧
J10 t9 h37) (
J10 false h37)) ∧ ∀ _ : Env,
∀ (x10 : Bool) (h38 : Heap), J10 x10 h38 →
∃ J11 : Bool → Heap → Prop, (
bcase x10 (
∃ n10 : Int, cell h38 b6 2 = some (.int .u32 n10) ∧
J11 (decide (n10 = (1 : Int))) h38) (
J11 false h38)) ∧ ∀ _ : Env,
∀ (x11 : Bool) (h39 : Heap), J11 x11 h39 →
∃ J12 : Bool → Heap → Prop, (
bcase x11 (
∃ n11 : Int, cell h39 b6 1 = some (.int .i64 n11) ∧
fits .i64 ((2 : Int) * (n1 + (100 : Int))) ∧
fits .i64 ((1000 : Int) + ((2 : Int) * (n1 + (100 : Int)))) ∧
J12 (decide (n11 = ((1000 : Int) + ((2 : Int) * (n1 + (100 : Int)))))) h39) (
J12 false h39)) ∧ ∀ _ : Env,
∀ (x12 : Bool) (h40 : Heap), J12 x12 h40 →
∃ J13 : Bool → Heap → Prop, (
bcase x12 (
J13 (decide (n6 = (0 : Int))) h40) (
J13 false h40)) ∧ ∀ _ : Env,
∀ (x13 : Bool) (h41 : Heap), J13 x13 h41 →
∃ J14 : Bool → Heap → Prop, (
bcase x13 (
J14 (decide (n7 = (1 : Int))) h41) (
J14 false h41)) ∧ ∀ _ : Env,
∀ (x14 : Bool) (h42 : Heap), J14 x14 h42 →
∃ J15 : Bool → Heap → Prop, (
bcase x14 (
∃ t10 : Bool, cell h42 b8 4 = some (.bool t10) ∧
J15 t10 h42) (
J15 false h42)) ∧ ∀ _ : Env,
∀ (x15 : Bool) (h43 : Heap), J15 x15 h43 →
∃ J16 : Bool → Heap → Prop, (
bcase x15 (
∃ n12 : Int, cell h43 b8 2 = some (.int .u32 n12) ∧
J16 (decide (n12 = (2 : Int))) h43) (
J16 false h43)) ∧ ∀ _ : Env,
∀ (x16 : Bool) (h44 : Heap), J16 x16 h44 →
∃ J17 : Bool → Heap → Prop, (
bcase x16 (
∃ n13 : Int, cell h44 b8 1 = some (.int .i64 n13) ∧
fits .i64 ((3 : Int) * (n1 + (100 : Int))) ∧
fits .i64 ((1000 : Int) + ((3 : Int) * (n1 + (100 : Int)))) ∧
J17 (decide (n13 < ((1000 : Int) + ((3 : Int) * (n1 + (100 : Int)))))) h44) (
J17 false h44)) ∧ ∀ _ : Env,
∀ (x17 : Bool) (h45 : Heap), J17 x17 h45 →
∃ J18 : Bool → Heap → Prop, (
bcase x17 (
J18 (decide (n8 = (0 : Int))) h45) (
J18 false h45)) ∧ ∀ _ : Env,
∀ (x18 : Bool) (h46 : Heap), J18 x18 h46 →
bcase x18 (
∃ t11 : Bool, cell h46 b11 4 = some (.bool t11) ∧
Post (.bool (!t11)) h46) (
Post (.bool false) h46))))) :
    Runs Try.prog 4 #[(.int .i64 interval), (.int .i64 size)] h0 Post :=
  runs_of (args := [(.int .i64 interval), (.int .i64 size)]) (fun n => ⟨true, false⟩) (fun _ => []) (fun _ => none) (fun n => match n with | 17 => [(6, [(130, .bool)]), (4, [(134, .bool)]), (4, [(138, .bool)]), (4, [(142, .bool)])] | 19 => [(5, [(151, .bool)]), (5, [(156, .bool)]), (7, [(163, .bool)]), (4, [(167, .bool)]), (4, [(171, .bool)]), (4, [(175, .bool)]), (5, [(180, .bool)]), (8, [(188, .bool)]), (4, [(192, .bool)]), (4, [(196, .bool)]), (4, [(200, .bool)]), (5, [(205, .bool)]), (8, [(213, .bool)]), (4, [(217, .bool)])] | _ => []) Try.func4 rfl (by rw [Try.ntmps4]; simp) (Eq.mp (by kernel_rfl) H)

theorem vc_muezzinlaw11_CodelFirst (c : List Value) (now : Int) (target : Int) (interval : Int) (bytes : Int) (l : Option Addr) (lL lC : Nat) (h0 : Heap) (Post : Value → Heap → Prop) (H :
∀ (b1 : Nat) (h1 : Heap), b1 = h0.size → h1 = h0.push (.cells (c).toArray 29) →
Runs Try.prog 9 #[] h1 fun r1 h2 =>
∃ t1 : Bool,
r1 = (.bool t1) ∧
bcase (!t1) (
Post (.bool false) h2) (
∃ J1 : Bool → Heap → Prop, (
∃ cs1 : List Value, row h2 b1 0 5 = some cs1 ∧
Runs Try.prog 12 #[(.agg (cs1).toArray), (.int .i64 now), (.slice l lL lC)] h2 fun r2 h3 =>
∃ t2 : Bool,
r2 = (.bool t2) ∧
bcase (!t2) (
J1 true h3) (
J1 (decide (bytes < (0 : Int))) h3)) ∧ ∀ _ : Env,
∀ (x1 : Bool) (h4 : Heap), J1 x1 h4 →
bcase x1 (
Post (.bool t1) h4) (
bcase (decide ((1073741824 : Int) < bytes)) (
Post (.bool t1) h4) (
∃ cs2 : List Value, row h4 b1 0 5 = some cs2 ∧
Runs Try.prog 11 #[(.agg (cs2).toArray), (.int .i64 now), (.int .i64 target), (.int .i64 interval), (.int .i64 bytes), (.slice l lL lC)] h4 fun r3 h5 =>
∃ cs3 : List Value,
∃ n1 : Int,
∃ t3 : Bool,
r3 = (.tuple #[(.agg (cs3).toArray), (.int .i64 n1), (.bool t3)]) ∧
∀ (b2 : Nat) (h6 : Heap), b2 = h5.size → h6 = h5.push (.cells ([(.int .i64 (0 : Int)), (.int .i64 (0 : Int)), (.int .u32 (0 : Int)), (.int .u32 (0 : Int)), (.bool false)] : List Value).toArray 29) →
(((cs3)).length = 5 ∧ wrs h6 b2 0 5 ∧ ∀ u ∈ ((cs3) : List Value), u.oneCell' = true) ∧ ∀ h7 : Heap, h7 = setr h6 b2 0 (cs3) →
∃ J2 : Heap → Prop, (
∃ J3 : Bool → Heap → Prop, (
bcase (decide (n1 < (0 : Int))) (
J3 true h7) (
J3 (decide (((lL : Nat) : Int) < n1)) h7)) ∧ ∀ _ : Env,
∀ (x2 : Bool) (h8 : Heap), J3 x2 h8 →
∃ J4 : Bool → Heap → Prop, (
bcase x2 (
J4 true h8) (
bcase (!t3) (
J4 (!decide (n1 = ((lL : Nat) : Int))) h8) (
J4 false h8))) ∧ ∀ _ : Env,
∀ (x3 : Bool) (h9 : Heap), J4 x3 h9 →
bcase x3 (
Post (.bool false) h9) (
bcase t3 (
bcase (decide (((lL : Nat) : Int) ≤ n1)) (
Post (.bool false) h9) (
J2 h9)) (
J2 h9))) ∧ ∀ _ : Env,
∀ (h10 : Heap), J2 h10 →
∃ cs4 : List Value, row h10 b1 0 5 = some cs4 ∧
Runs Try.prog 11 #[(.agg (cs4).toArray), (.int .i64 now), (.int .i64 target), (.int .i64 interval), (.int .i64 bytes), (.slice l lL lC)] h10 fun r4 h11 =>
∃ cs5 : List Value,
∃ n2 : Int,
∃ t4 : Bool,
r4 = (.tuple #[(.agg (cs5).toArray), (.int .i64 n2), (.bool t4)]) ∧
∀ (b3 : Nat) (h12 : Heap), b3 = h11.size → h12 = h11.push (.cells ([(.int .i64 (0 : Int)), (.int .i64 (0 : Int)), (.int .u32 (0 : Int)), (.int .u32 (0 : Int)), (.bool false)] : List Value).toArray 29) →
(((cs5)).length = 5 ∧ wrs h12 b3 0 5 ∧ ∀ u ∈ ((cs5) : List Value), u.oneCell' = true) ∧ ∀ h13 : Heap, h13 = setr h12 b3 0 (cs5) →
bcase t1 (
∃ cs6 : List Value, row h13 b2 0 5 = some cs6 ∧
∃ cs7 : List Value, row h13 b3 0 5 = some cs7 ∧
Runs Try.prog 14 #[(.agg (cs7).toArray)] h13 fun r5 h14 =>
∃ cs8 : List Value,
r5 = (.agg (cs8).toArray) ∧
row h14 b2 0 5 = some (cs6) ∧
Runs Try.prog 13 #[(.agg (cs6).toArray), (.agg (cs8).toArray)] h14 fun r6 h15 =>
∃ t5 : Bool,
r6 = (.bool t5) ∧
bcase t5 (
bcase (decide (n1 = n2)) (
bcase (t3 == t4) (
bcase t3 (
Post (.bool true) h15) (
∃ t6 : Bool, cell h15 b2 4 = some (.bool t6) ∧
bcase (!t6) (
Post (.bool true) h15) (
Post (.bool (decide ((0 : Int) < n1))) h15))) (
Post (.bool false) h15)) (
Post (.bool false) h15)) (
Post (.bool false) h15)) (
Post (.bool false) h13))))) :
    Runs Try.prog 5 #[(.agg (c).toArray), (.int .i64 now), (.int .i64 target), (.int .i64 interval), (.int .i64 bytes), (.slice l lL lC)] h0 Post :=
  runs_of (args := [(.agg (c).toArray), (.int .i64 now), (.int .i64 target), (.int .i64 interval), (.int .i64 bytes), (.slice l lL lC)]) (fun n => ⟨true, false⟩) (fun _ => []) (fun n => match n with | 9 => some [] | _ => none) (fun n => match n with | 4 => [(9, [(31, .bool)])] | 7 => [(8, [(55, .bool)]), (10, [(65, .bool)])] | _ => []) Try.func5 rfl (by rw [Try.ntmps5]; simp) (Eq.mp (by kernel_rfl) H)

theorem vc_muezzinlaw11_CodelMeans (count : Int) (gap : Int) (interval : Int) (h0 : Heap) (Post : Value → Heap → Prop) (H :
Runs Try.prog 9 #[] h0 fun r1 h1 =>
∃ t1 : Bool,
r1 = (.bool t1) ∧
bcase (!t1) (
Post (.bool false) h1) (
(0 ≤ count ∧ 0 < (1000 : Int)) ∧
fits .u32 ((count % (1000 : Int)) + (2 : Int)) ∧
Runs Try.prog 10 #[(.int .i64 interval), (.int .i64 (1000 : Int))] h1 fun r2 h2 =>
∃ n1 : Int,
r2 = (.int .i64 n1) ∧
fits .i64 (n1 + (1 : Int)) ∧
Runs Try.prog 10 #[(.int .i64 gap), (.int .i64 (32 : Int))] h2 fun r3 h3 =>
∃ n2 : Int,
r3 = (.int .i64 n2) ∧
∀ (b1 : Nat) (h4 : Heap), b1 = h3.size → h4 = h3.push (.cells ([(.int .i64 (0 : Int)), (.int .i64 (0 : Int))] : List Value).toArray 26) →
((([(.int .i64 (0 : Int)), (.int .i64 (2000 : Int))] : List Value)).length = 2 ∧ wrs h4 b1 0 2 ∧ ∀ u ∈ (([(.int .i64 (0 : Int)), (.int .i64 (2000 : Int))] : List Value) : List Value), u.oneCell' = true) ∧ ∀ h5 : Heap, h5 = setr h4 b1 0 ([(.int .i64 (0 : Int)), (.int .i64 (2000 : Int))] : List Value) →
fits .i64 ((1073741824 : Int) - (1 : Int)) ∧
fits .i64 (n2 * (n1 + (1 : Int))) ∧
fits .i64 ((1073741824 : Int) - (n2 * (n1 + (1 : Int)))) ∧
fits .u32 (((count % (1000 : Int)) + (2 : Int)) + (5 : Int)) ∧
∀ (b2 : Nat) (h6 : Heap), b2 = h5.size → h6 = h5.push (.cells ([(.int .i64 (0 : Int)), (.int .i64 (0 : Int)), (.int .u32 (0 : Int)), (.int .u32 (0 : Int)), (.bool false)] : List Value).toArray 29) →
((([(.int .i64 ((1073741824 : Int) - (1 : Int))), (.int .i64 ((1073741824 : Int) - (n2 * (n1 + (1 : Int))))), (.int .u32 (((count % (1000 : Int)) + (2 : Int)) + (5 : Int))), (.int .u32 (3 : Int)), (.bool false)] : List Value)).length = 5 ∧ wrs h6 b2 0 5 ∧ ∀ u ∈ (([(.int .i64 ((1073741824 : Int) - (1 : Int))), (.int .i64 ((1073741824 : Int) - (n2 * (n1 + (1 : Int))))), (.int .u32 (((count % (1000 : Int)) + (2 : Int)) + (5 : Int))), (.int .u32 (3 : Int)), (.bool false)] : List Value) : List Value), u.oneCell' = true) ∧ ∀ h7 : Heap, h7 = setr h6 b2 0 ([(.int .i64 ((1073741824 : Int) - (1 : Int))), (.int .i64 ((1073741824 : Int) - (n2 * (n1 + (1 : Int))))), (.int .u32 (((count % (1000 : Int)) + (2 : Int)) + (5 : Int))), (.int .u32 (3 : Int)), (.bool false)] : List Value) →
∃ cs1 : List Value, row h7 b2 0 5 = some cs1 ∧
∃ cs2 : List Value, row h7 b1 0 2 = some cs2 ∧
∃ cs3 : List Value, row h7 b1 0 2 = some cs3 ∧
∃ cs4 : List Value, row h7 b1 0 2 = some cs4 ∧
(cs2).length = 2 ∧
(cs3).length = 2 ∧
(cs4).length = 2 ∧
∀ (b3 : Nat) (h8 : Heap), b3 = h7.size → h8 = h7.push (.cells (((cs2) ++ ((cs3) ++ ((cs4) ++ [])))).toArray 26) →
Runs Try.prog 11 #[(.agg (cs1).toArray), (.int .i64 (1073741824 : Int)), (.int .i64 (10 : Int)), (.int .i64 (n1 + (1 : Int))), (.int .i64 (1048576 : Int)), (.slice (some ⟨b3, 0, none⟩) 3 3)] h8 fun r4 h9 =>
∃ cs5 : List Value,
∃ n3 : Int,
∃ t2 : Bool,
r4 = (.tuple #[(.agg (cs5).toArray), (.int .i64 n3), (.bool t2)]) ∧
∀ (b4 : Nat) (h10 : Heap), b4 = h9.size → h10 = h9.push (.cells ([(.int .i64 (0 : Int)), (.int .i64 (0 : Int)), (.int .u32 (0 : Int)), (.int .u32 (0 : Int)), (.bool false)] : List Value).toArray 29) →
(((cs5)).length = 5 ∧ wrs h10 b4 0 5 ∧ ∀ u ∈ ((cs5) : List Value), u.oneCell' = true) ∧ ∀ h11 : Heap, h11 = setr h10 b4 0 (cs5) →
bcase (decide (n2 < (16 : Int))) (
fits .u32 (((count % (1000 : Int)) + (2 : Int)) + (2 : Int)) ∧
∃ J1 : Bool → Heap → Prop, (
bcase t1 (
J1 t2 h11) (
J1 false h11)) ∧ ∀ _ : Env,
∀ (x1 : Bool) (h12 : Heap), J1 x1 h12 →
∃ J2 : Bool → Heap → Prop, (
bcase x1 (
J2 (decide (n3 = (1 : Int))) h12) (
J2 false h12)) ∧ ∀ _ : Env,
∀ (x2 : Bool) (h13 : Heap), J2 x2 h13 →
∃ J3 : Bool → Heap → Prop, (
bcase x2 (
∃ t3 : Bool, cell h13 b4 4 = some (.bool t3) ∧
J3 t3 h13) (
J3 false h13)) ∧ ∀ _ : Env,
∀ (x3 : Bool) (h14 : Heap), J3 x3 h14 →
∃ J4 : Bool → Heap → Prop, (
bcase x3 (
∃ n4 : Int, cell h14 b4 2 = some (.int .u32 n4) ∧
J4 (decide (n4 = (((count % (1000 : Int)) + (2 : Int)) + (2 : Int)))) h14) (
J4 false h14)) ∧ ∀ _ : Env,
∀ (x4 : Bool) (h15 : Heap), J4 x4 h15 →
∃ J5 : Bool → Heap → Prop, (
bcase x4 (
∃ n5 : Int, cell h15 b4 3 = some (.int .u32 n5) ∧
J5 (decide (n5 = (((count % (1000 : Int)) + (2 : Int)) + (2 : Int)))) h15) (
J5 false h15)) ∧ ∀ _ : Env,
∀ (x5 : Bool) (h16 : Heap), J5 x5 h16 →
∃ J6 : Bool → Heap → Prop, (
bcase x5 (
∃ n6 : Int, cell h16 b4 1 = some (.int .i64 n6) ∧
fits .i64 ((1073741824 : Int) - (1 : Int)) ∧
J6 (decide (((1073741824 : Int) - (1 : Int)) < n6)) h16) (
J6 false h16)) ∧ ∀ _ : Env,
∀ (x6 : Bool) (h17 : Heap), J6 x6 h17 →
bcase x6 (
∃ n7 : Int, cell h17 b4 1 = some (.int .i64 n7) ∧
fits .i64 ((1073741824 : Int) + (n1 + (1 : Int))) ∧
Post (.bool (decide (n7 ≤ ((1073741824 : Int) + (n1 + (1 : Int)))))) h17) (
Post (.bool false) h17)) (
∃ J7 : Bool → Heap → Prop, (
bcase t1 (
J7 t2 h11) (
J7 false h11)) ∧ ∀ _ : Env,
∀ (x7 : Bool) (h18 : Heap), J7 x7 h18 →
∃ J8 : Bool → Heap → Prop, (
bcase x7 (
J8 (decide (n3 = (1 : Int))) h18) (
J8 false h18)) ∧ ∀ _ : Env,
∀ (x8 : Bool) (h19 : Heap), J8 x8 h19 →
∃ J9 : Bool → Heap → Prop, (
bcase x8 (
∃ t4 : Bool, cell h19 b4 4 = some (.bool t4) ∧
J9 t4 h19) (
J9 false h19)) ∧ ∀ _ : Env,
∀ (x9 : Bool) (h20 : Heap), J9 x9 h20 →
∃ J10 : Bool → Heap → Prop, (
bcase x9 (
∃ n8 : Int, cell h20 b4 2 = some (.int .u32 n8) ∧
J10 (decide (n8 = (1 : Int))) h20) (
J10 false h20)) ∧ ∀ _ : Env,
∀ (x10 : Bool) (h21 : Heap), J10 x10 h21 →
∃ J11 : Bool → Heap → Prop, (
bcase x10 (
∃ n9 : Int, cell h21 b4 3 = some (.int .u32 n9) ∧
J11 (decide (n9 = (1 : Int))) h21) (
J11 false h21)) ∧ ∀ _ : Env,
∀ (x11 : Bool) (h22 : Heap), J11 x11 h22 →
∃ J12 : Bool → Heap → Prop, (
bcase x11 (
∃ n10 : Int, cell h22 b4 1 = some (.int .i64 n10) ∧
fits .i64 ((1073741824 : Int) - (1 : Int)) ∧
J12 (decide (((1073741824 : Int) - (1 : Int)) < n10)) h22) (
J12 false h22)) ∧ ∀ _ : Env,
∀ (x12 : Bool) (h23 : Heap), J12 x12 h23 →
bcase x12 (
∃ n11 : Int, cell h23 b4 1 = some (.int .i64 n11) ∧
fits .i64 ((1073741824 : Int) + (n1 + (1 : Int))) ∧
Post (.bool (decide (n11 ≤ ((1073741824 : Int) + (n1 + (1 : Int)))))) h23) (
Post (.bool false) h23)))) :
    Runs Try.prog 6 #[(.int .u32 count), (.int .i64 gap), (.int .i64 interval)] h0 Post :=
  runs_of (args := [(.int .u32 count), (.int .i64 gap), (.int .i64 interval)]) (fun n => ⟨true, false⟩) (fun _ => []) (fun _ => none) (fun n => match n with | 14 => [(4, [(56, .bool)]), (4, [(60, .bool)]), (4, [(64, .bool)]), (6, [(70, .bool)]), (6, [(76, .bool)]), (7, [(83, .bool)])] | _ => []) Try.func6 rfl (by rw [Try.ntmps6]; simp) (Eq.mp (by kernel_rfl) H)

theorem vc_muezzinlaw11_CodelSays (c : List Value) (now : Int) (target : Int) (interval : Int) (bytes : Int) (l : Option Addr) (lL lC : Nat) (h0 : Heap) (Post : Value → Heap → Prop) (H :
∀ (b1 : Nat) (h1 : Heap), b1 = h0.size → h1 = h0.push (.cells (c).toArray 29) →
Runs Try.prog 9 #[] h1 fun r1 h2 =>
∃ t1 : Bool,
r1 = (.bool t1) ∧
bcase (!t1) (
Post (.bool false) h2) (
∃ J1 : Bool → Heap → Prop, (
∃ cs1 : List Value, row h2 b1 0 5 = some cs1 ∧
Runs Try.prog 12 #[(.agg (cs1).toArray), (.int .i64 now), (.slice l lL lC)] h2 fun r2 h3 =>
∃ t2 : Bool,
r2 = (.bool t2) ∧
bcase (!t2) (
J1 true h3) (
J1 (decide (bytes < (0 : Int))) h3)) ∧ ∀ _ : Env,
∀ (x1 : Bool) (h4 : Heap), J1 x1 h4 →
bcase x1 (
Post (.bool t1) h4) (
bcase (decide ((1073741824 : Int) < bytes)) (
Post (.bool t1) h4) (
∃ cs2 : List Value, row h4 b1 0 5 = some cs2 ∧
Runs Try.prog 11 #[(.agg (cs2).toArray), (.int .i64 now), (.int .i64 target), (.int .i64 interval), (.int .i64 bytes), (.slice l lL lC)] h4 fun r3 h5 =>
∃ cs3 : List Value,
∃ n1 : Int,
∃ t3 : Bool,
r3 = (.tuple #[(.agg (cs3).toArray), (.int .i64 n1), (.bool t3)]) ∧
∀ (b2 : Nat) (h6 : Heap), b2 = h5.size → h6 = h5.push (.cells ([(.int .i64 (0 : Int)), (.int .i64 (0 : Int)), (.int .u32 (0 : Int)), (.int .u32 (0 : Int)), (.bool false)] : List Value).toArray 29) →
(((cs3)).length = 5 ∧ wrs h6 b2 0 5 ∧ ∀ u ∈ ((cs3) : List Value), u.oneCell' = true) ∧ ∀ h7 : Heap, h7 = setr h6 b2 0 (cs3) →
∃ cs4 : List Value, row h7 b1 0 5 = some cs4 ∧
Runs Try.prog 14 #[(.agg (cs4).toArray)] h7 fun r4 h8 =>
∃ cs5 : List Value,
r4 = (.agg (cs5).toArray) ∧
Runs Try.prog 15 #[(.agg (cs5).toArray), (.int .i64 now), (.int .i64 target), (.int .i64 interval), (.int .i64 bytes), (.slice l lL lC)] h8 fun r5 h9 =>
∃ cs6 : List Value,
∃ n2 : Int,
∃ t4 : Bool,
r5 = (.tuple #[(.agg (cs6).toArray), (.int .i64 n2), (.bool t4)]) ∧
∀ (b3 : Nat) (h10 : Heap), b3 = h9.size → h10 = h9.push (.cells ([(.int .i64 (0 : Int)), (.int .i64 (0 : Int)), (.int .u32 (0 : Int)), (.int .u32 (0 : Int)), (.bool false)] : List Value).toArray 36) →
(((cs6)).length = 5 ∧ wrs h10 b3 0 5 ∧ ∀ u ∈ ((cs6) : List Value), u.oneCell' = true) ∧ ∀ h11 : Heap, h11 = setr h10 b3 0 (cs6) →
∃ J2 : Bool → Heap → Prop, (
bcase t1 (
∃ cs7 : List Value, row h11 b2 0 5 = some cs7 ∧
∃ cs8 : List Value, row h11 b3 0 5 = some cs8 ∧
Runs Try.prog 13 #[(.agg (cs7).toArray), (.agg (cs8).toArray)] h11 fun r6 h12 =>
∃ t5 : Bool,
r6 = (.bool t5) ∧
J2 t5 h12) (
J2 false h11)) ∧ ∀ _ : Env,
∀ (x2 : Bool) (h13 : Heap), J2 x2 h13 →
∃ J3 : Bool → Heap → Prop, (
bcase x2 (
J3 (decide (n1 = n2)) h13) (
J3 false h13)) ∧ ∀ _ : Env,
∀ (x3 : Bool) (h14 : Heap), J3 x3 h14 →
bcase x3 (
Post (.bool (t3 == t4)) h14) (
Post (.bool false) h14))))) :
    Runs Try.prog 7 #[(.agg (c).toArray), (.int .i64 now), (.int .i64 target), (.int .i64 interval), (.int .i64 bytes), (.slice l lL lC)] h0 Post :=
  runs_of (args := [(.agg (c).toArray), (.int .i64 now), (.int .i64 target), (.int .i64 interval), (.int .i64 bytes), (.slice l lL lC)]) (fun n => ⟨true, false⟩) (fun _ => []) (fun _ => none) (fun n => match n with | 4 => [(9, [(31, .bool)])] | 8 => [(6, [(65, .bool)]), (5, [(70, .bool)])] | _ => []) Try.func7 rfl (by rw [Try.ntmps7]; simp) (Eq.mp (by kernel_rfl) H)

theorem vc_muezzinlaw11_CodelRuns (l : Option Addr) (lL lC : Nat) (gaps : Option Addr) (gapsL gapsC : Nat) (target : Int) (interval : Int) (h0 : Heap) (Post : Value → Heap → Prop) (H :
Runs Try.prog 9 #[] h0 fun r1 h1 =>
∃ t1 : Bool,
r1 = (.bool t1) ∧
bcase (!t1) (
Post (.bool false) h1) (
∃ J1 : Bool → Heap → Prop, (
bcase (decide ((40 : Int) < ((lL : Nat) : Int))) (
J1 true h1) (
J1 (decide ((60 : Int) < ((gapsL : Nat) : Int))) h1)) ∧ ∀ _ : Env,
∀ (x1 : Bool) (h2 : Heap), J1 x1 h2 →
∃ J2 : Bool → Heap → Prop, (
bcase x1 (
J2 true h2) (
J2 (decide (target < (0 : Int))) h2)) ∧ ∀ _ : Env,
∀ (x2 : Bool) (h3 : Heap), J2 x2 h3 →
∃ J3 : Bool → Heap → Prop, (
bcase x2 (
J3 true h3) (
J3 (decide ((1073741824 : Int) < target)) h3)) ∧ ∀ _ : Env,
∀ (x3 : Bool) (h4 : Heap), J3 x3 h4 →
∃ J4 : Bool → Heap → Prop, (
bcase x3 (
J4 true h4) (
J4 (decide (interval < (0 : Int))) h4)) ∧ ∀ _ : Env,
∀ (x4 : Bool) (h5 : Heap), J4 x4 h5 →
bcase x4 (
Post (.bool t1) h5) (
bcase (decide ((1073741824 : Int) < interval)) (
Post (.bool t1) h5) (
∃ (I1 : Int → Int → Int → Heap → Prop) (m1 : Int → Int → Int → Heap → Nat), I1 (0 : Int) (0 : Int) (0 : Int) h5 ∧ ∀ _ : Env,
∀ (now_1 : Int) (bytes_1 : Int) (i_1 : Int) (h6 : Heap), I1 now_1 bytes_1 i_1 h6 →
bcase (decide (i_1 < ((lL : Nat) : Int))) (
∃ J5 : Bool → Heap → Prop, (
(0 ≤ i_1 ∧ i_1 < ((lL : Nat) : Int)) ∧
onAddr l fun b1 o1 =>
∃ n1 : Int, cell h6 b1 (o1 + ((i_1).toNat * 2)) = some (.int .i64 n1) ∧
bcase (decide (n1 < (0 : Int))) (
J5 true h6) (
(0 ≤ i_1 ∧ i_1 < ((lL : Nat) : Int)) ∧
onAddr l fun b2 o2 =>
∃ n2 : Int, cell h6 b2 (o2 + ((i_1).toNat * 2)) = some (.int .i64 n2) ∧
J5 (decide ((1099511627776 : Int) < n2)) h6)) ∧ ∀ _ : Env,
∀ (x8 : Bool) (h7 : Heap), J5 x8 h7 →
∃ J6 : Bool → Heap → Prop, (
bcase x8 (
J6 true h7) (
(0 ≤ i_1 ∧ i_1 < ((lL : Nat) : Int)) ∧
onAddr l fun b3 o3 =>
∃ n3 : Int, cell h7 b3 ((o3 + ((i_1).toNat * 2)) + 1) = some (.int .i64 n3) ∧
J6 (decide (n3 < (0 : Int))) h7)) ∧ ∀ _ : Env,
∀ (x9 : Bool) (h8 : Heap), J6 x9 h8 →
bcase x9 (
Post (.bool t1) h8) (
(0 ≤ i_1 ∧ i_1 < ((lL : Nat) : Int)) ∧
onAddr l fun b4 o4 =>
∃ n4 : Int, cell h8 b4 ((o4 + ((i_1).toNat * 2)) + 1) = some (.int .i64 n4) ∧
bcase (decide ((1048576 : Int) < n4)) (
Post (.bool t1) h8) (
(0 ≤ i_1 ∧ i_1 < ((lL : Nat) : Int)) ∧
onAddr l fun b5 o5 =>
∃ n5 : Int, cell h8 b5 (o5 + ((i_1).toNat * 2)) = some (.int .i64 n5) ∧
(0 ≤ i_1 ∧ i_1 < ((lL : Nat) : Int)) ∧
onAddr l fun b6 o6 =>
∃ n6 : Int, cell h8 b6 ((o6 + ((i_1).toNat * 2)) + 1) = some (.int .i64 n6) ∧
fits .i64 (bytes_1 + n6) ∧
fits .i64 (i_1 + (1 : Int)) ∧
I1 (max now_1 n5) (bytes_1 + n6) (i_1 + (1 : Int)) h8 ∧ m1 (max now_1 n5) (bytes_1 + n6) (i_1 + (1 : Int)) h8 < m1 now_1 bytes_1 i_1 h6))) (
∀ (b7 : Nat) (h9 : Heap), b7 = h6.size → h9 = h6.push (.cells ([(.int .i64 (0 : Int)), (.int .i64 (0 : Int)), (.int .u32 (0 : Int)), (.int .u32 (0 : Int)), (.bool false)] : List Value).toArray 29) →
∀ (b8 : Nat) (h10 : Heap), b8 = h9.size → h10 = h9.push (.cells ([(.int .i64 (0 : Int)), (.int .i64 (0 : Int)), (.int .u32 (0 : Int)), (.int .u32 (0 : Int)), (.bool false)] : List Value).toArray 36) →
∀ (b9 : Nat) (h11 : Heap), b9 = h10.size → h11 = h10.push (.cells ([] : List Value).toArray 26) →
∃ news1 : List Value, (src h11 l (lL * 2) news1 ∧ ∀ u ∈ news1, u.oneCell' = true) ∧
((0 + lL) ≤ 0 →
wrs h11 b9 0 news1.length ∧ ∀ h34 : Heap, h34 = setr h11 b9 0 news1 →
∃ (I5 : Int → Int → Option Addr → Nat → Nat → Int → Heap → Prop) (m5 : Int → Int → Option Addr → Nat → Nat → Int → Heap → Nat), I5 now_1 bytes_1 (some ⟨b9, 0, none⟩) (0 + lL) 0 (0 : Int) h34 ∧ ∀ _ : Env,
∀ (now_3 : Int) (bytes_5 : Int) (rest_2 : Option Addr) (rest_2l rest_2c : Nat) (i_3 : Int) (h35 : Heap), I5 now_3 bytes_5 rest_2 rest_2l rest_2c i_3 h35 →
bcase (decide (i_3 < ((gapsL : Nat) : Int))) (
(0 ≤ i_3 ∧ i_3 < ((gapsL : Nat) : Int)) ∧
onAddr gaps fun b20 o10 =>
∃ n13 : Int, cell h35 b20 (o10 + (i_3).toNat) = some (.int .i64 n13) ∧
Runs Try.prog 10 #[(.int .i64 n13), (.int .i64 (1048576 : Int))] h35 fun r6 h36 =>
∃ n14 : Int,
r6 = (.int .i64 n14) ∧
fits .i64 (now_3 + n14) ∧
∃ cs9 : List Value, row h36 b7 0 5 = some cs9 ∧
Runs Try.prog 11 #[(.agg (cs9).toArray), (.int .i64 (now_3 + n14)), (.int .i64 target), (.int .i64 interval), (.int .i64 bytes_5), (.slice rest_2 rest_2l rest_2c)] h36 fun r7 h37 =>
∃ cs10 : List Value,
∃ n15 : Int,
∃ t5 : Bool,
r7 = (.tuple #[(.agg (cs10).toArray), (.int .i64 n15), (.bool t5)]) ∧
∀ (b21 : Nat) (h38 : Heap), b21 = h37.size → h38 = h37.push (.cells ([(.int .i64 (0 : Int)), (.int .i64 (0 : Int)), (.int .u32 (0 : Int)), (.int .u32 (0 : Int)), (.bool false)] : List Value).toArray 29) →
(((cs10)).length = 5 ∧ wrs h38 b21 0 5 ∧ ∀ u ∈ ((cs10) : List Value), u.oneCell' = true) ∧ ∀ h39 : Heap, h39 = setr h38 b21 0 (cs10) →
∃ cs11 : List Value, row h39 b8 0 5 = some cs11 ∧
Runs Try.prog 15 #[(.agg (cs11).toArray), (.int .i64 (now_3 + n14)), (.int .i64 target), (.int .i64 interval), (.int .i64 bytes_5), (.slice rest_2 rest_2l rest_2c)] h39 fun r8 h40 =>
∃ cs12 : List Value,
∃ n16 : Int,
∃ t6 : Bool,
r8 = (.tuple #[(.agg (cs12).toArray), (.int .i64 n16), (.bool t6)]) ∧
∀ (b22 : Nat) (h41 : Heap), b22 = h40.size → h41 = h40.push (.cells ([(.int .i64 (0 : Int)), (.int .i64 (0 : Int)), (.int .u32 (0 : Int)), (.int .u32 (0 : Int)), (.bool false)] : List Value).toArray 36) →
(((cs12)).length = 5 ∧ wrs h41 b22 0 5 ∧ ∀ u ∈ ((cs12) : List Value), u.oneCell' = true) ∧ ∀ h42 : Heap, h42 = setr h41 b22 0 (cs12) →
∃ J9 : Bool → Heap → Prop, (
∃ cs13 : List Value, row h42 b21 0 5 = some cs13 ∧
∃ cs14 : List Value, row h42 b22 0 5 = some cs14 ∧
Runs Try.prog 13 #[(.agg (cs13).toArray), (.agg (cs14).toArray)] h42 fun r9 h43 =>
∃ t7 : Bool,
r9 = (.bool t7) ∧
bcase (!t7) (
J9 true h43) (
J9 (!decide (n15 = n16)) h43)) ∧ ∀ _ : Env,
∀ (x24 : Bool) (h44 : Heap), J9 x24 h44 →
∃ J10 : Bool → Heap → Prop, (
bcase x24 (
J10 true h44) (
J10 (!(t5 == t6)) h44)) ∧ ∀ _ : Env,
∀ (x25 : Bool) (h45 : Heap), J10 x25 h45 →
bcase x25 (
Post (.bool false) h45) (
bcase (decide (((rest_2l : Nat) : Int) < n15)) (
Post (.bool false) h45) (
∃ cs15 : List Value, row h45 b21 0 5 = some cs15 ∧
(((cs15)).length = 5 ∧ wrs h45 b7 0 5 ∧ ∀ u ∈ ((cs15) : List Value), u.oneCell' = true) ∧ ∀ h46 : Heap, h46 = setr h45 b7 0 (cs15) →
∃ cs16 : List Value, row h46 b22 0 5 = some cs16 ∧
(((cs16)).length = 5 ∧ wrs h46 b8 0 5 ∧ ∀ u ∈ ((cs16) : List Value), u.oneCell' = true) ∧ ∀ h47 : Heap, h47 = setr h46 b8 0 (cs16) →
bcase t5 (
fits .i64 (n15 + (1 : Int)) ∧
∃ (I6 : Int → Int → Heap → Prop) (m6 : Int → Int → Heap → Nat), I6 bytes_5 (0 : Int) h47 ∧ ∀ _ : Env,
∀ (bytes_6 : Int) (k_3 : Int) (h48 : Heap), I6 bytes_6 k_3 h48 →
bcase (decide (k_3 < (n15 + (1 : Int)))) (
(0 ≤ k_3 ∧ k_3 < ((rest_2l : Nat) : Int)) ∧
onAddr rest_2 fun b23 o11 =>
∃ n17 : Int, cell h48 b23 ((o11 + ((k_3).toNat * 2)) + 1) = some (.int .i64 n17) ∧
fits .i64 (bytes_6 - n17) ∧
fits .i64 (k_3 + (1 : Int)) ∧
I6 (bytes_6 - n17) (k_3 + (1 : Int)) h48 ∧ m6 (bytes_6 - n17) (k_3 + (1 : Int)) h48 < m6 bytes_6 k_3 h48) (
∀ (b24 : Nat) (h49 : Heap), b24 = h48.size → h49 = h48.push (.cells ([] : List Value).toArray 26) →
(0 ≤ (n15 + (1 : Int)) ∧ (n15 + (1 : Int)) ≤ ((rest_2l : Nat) : Int)) ∧
∃ news4 : List Value, (src h49 (slcAddr rest_2 ((n15 + (1 : Int))).toNat rest_2c (((n15 + (1 : Int))).toNat * 2)) ((rest_2l - ((n15 + (1 : Int))).toNat) * 2) news4 ∧ ∀ u ∈ news4, u.oneCell' = true) ∧
((0 + (rest_2l - ((n15 + (1 : Int))).toNat)) ≤ 0 →
wrs h49 b24 0 news4.length ∧ ∀ h51 : Heap, h51 = setr h49 b24 0 news4 →
fits .i64 (i_3 + (1 : Int)) ∧
I5 (now_3 + n14) bytes_6 (some ⟨b24, 0, none⟩) (0 + (rest_2l - ((n15 + (1 : Int))).toNat)) 0 (i_3 + (1 : Int)) h51 ∧ m5 (now_3 + n14) bytes_6 (some ⟨b24, 0, none⟩) (0 + (rest_2l - ((n15 + (1 : Int))).toNat)) 0 (i_3 + (1 : Int)) h51 < m5 now_3 bytes_5 rest_2 rest_2l rest_2c i_3 h35) ∧
(0 < (0 + (rest_2l - ((n15 + (1 : Int))).toNat)) →
(((0 + (rest_2l - ((n15 + (1 : Int))).toNat))) * 16 ≤ 140737488355328 ∧ 0 < 16) ∧ ∃ olds4 : List Value, row h49 b24 0 0 = some olds4 ∧ ∀ (cap4 : Nat) (zs4 : List Value) (b25 : Nat) (h50 : Heap), (0 + (rest_2l - ((n15 + (1 : Int))).toNat)) ≤ cap4 → zs4.length = (cap4 - (0 + (rest_2l - ((n15 + (1 : Int))).toNat))) * 2 → b25 = h49.size → h50 = h49.push (.cells (olds4 ++ news4 ++ zs4).toArray 26) →
fits .i64 (i_3 + (1 : Int)) ∧
I5 (now_3 + n14) bytes_6 (some ⟨b25, 0, none⟩) (0 + (rest_2l - ((n15 + (1 : Int))).toNat)) cap4 (i_3 + (1 : Int)) h50 ∧ m5 (now_3 + n14) bytes_6 (some ⟨b25, 0, none⟩) (0 + (rest_2l - ((n15 + (1 : Int))).toNat)) cap4 (i_3 + (1 : Int)) h50 < m5 now_3 bytes_5 rest_2 rest_2l rest_2c i_3 h35))) (
∃ (I7 : Int → Int → Heap → Prop) (m7 : Int → Int → Heap → Nat), I7 bytes_5 (0 : Int) h47 ∧ ∀ _ : Env,
∀ (bytes_7 : Int) (k_4 : Int) (h52 : Heap), I7 bytes_7 k_4 h52 →
bcase (decide (k_4 < n15)) (
(0 ≤ k_4 ∧ k_4 < ((rest_2l : Nat) : Int)) ∧
onAddr rest_2 fun b26 o12 =>
∃ n18 : Int, cell h52 b26 ((o12 + ((k_4).toNat * 2)) + 1) = some (.int .i64 n18) ∧
fits .i64 (bytes_7 - n18) ∧
fits .i64 (k_4 + (1 : Int)) ∧
I7 (bytes_7 - n18) (k_4 + (1 : Int)) h52 ∧ m7 (bytes_7 - n18) (k_4 + (1 : Int)) h52 < m7 bytes_7 k_4 h52) (
∀ (b27 : Nat) (h53 : Heap), b27 = h52.size → h53 = h52.push (.cells ([] : List Value).toArray 26) →
(0 ≤ n15 ∧ n15 ≤ ((rest_2l : Nat) : Int)) ∧
∃ news5 : List Value, (src h53 (slcAddr rest_2 (n15).toNat rest_2c ((n15).toNat * 2)) ((rest_2l - (n15).toNat) * 2) news5 ∧ ∀ u ∈ news5, u.oneCell' = true) ∧
((0 + (rest_2l - (n15).toNat)) ≤ 0 →
wrs h53 b27 0 news5.length ∧ ∀ h55 : Heap, h55 = setr h53 b27 0 news5 →
fits .i64 (i_3 + (1 : Int)) ∧
I5 (now_3 + n14) bytes_7 (some ⟨b27, 0, none⟩) (0 + (rest_2l - (n15).toNat)) 0 (i_3 + (1 : Int)) h55 ∧ m5 (now_3 + n14) bytes_7 (some ⟨b27, 0, none⟩) (0 + (rest_2l - (n15).toNat)) 0 (i_3 + (1 : Int)) h55 < m5 now_3 bytes_5 rest_2 rest_2l rest_2c i_3 h35) ∧
(0 < (0 + (rest_2l - (n15).toNat)) →
(((0 + (rest_2l - (n15).toNat))) * 16 ≤ 140737488355328 ∧ 0 < 16) ∧ ∃ olds5 : List Value, row h53 b27 0 0 = some olds5 ∧ ∀ (cap5 : Nat) (zs5 : List Value) (b28 : Nat) (h54 : Heap), (0 + (rest_2l - (n15).toNat)) ≤ cap5 → zs5.length = (cap5 - (0 + (rest_2l - (n15).toNat))) * 2 → b28 = h53.size → h54 = h53.push (.cells (olds5 ++ news5 ++ zs5).toArray 26) →
fits .i64 (i_3 + (1 : Int)) ∧
I5 (now_3 + n14) bytes_7 (some ⟨b28, 0, none⟩) (0 + (rest_2l - (n15).toNat)) cap5 (i_3 + (1 : Int)) h54 ∧ m5 (now_3 + n14) bytes_7 (some ⟨b28, 0, none⟩) (0 + (rest_2l - (n15).toNat)) cap5 (i_3 + (1 : Int)) h54 < m5 now_3 bytes_5 rest_2 rest_2l rest_2c i_3 h35)))))) (
Post (.bool t1) h35)) ∧
(0 < (0 + lL) →
(((0 + lL)) * 16 ≤ 140737488355328 ∧ 0 < 16) ∧ ∃ olds1 : List Value, row h11 b9 0 0 = some olds1 ∧ ∀ (cap1 : Nat) (zs1 : List Value) (b10 : Nat) (h12 : Heap), (0 + lL) ≤ cap1 → zs1.length = (cap1 - (0 + lL)) * 2 → b10 = h11.size → h12 = h11.push (.cells (olds1 ++ news1 ++ zs1).toArray 26) →
∃ (I2 : Int → Int → Option Addr → Nat → Nat → Int → Heap → Prop) (m2 : Int → Int → Option Addr → Nat → Nat → Int → Heap → Nat), I2 now_1 bytes_1 (some ⟨b10, 0, none⟩) (0 + lL) cap1 (0 : Int) h12 ∧ ∀ _ : Env,
∀ (now_2 : Int) (bytes_2 : Int) (rest_1 : Option Addr) (rest_1l rest_1c : Nat) (i_2 : Int) (h13 : Heap), I2 now_2 bytes_2 rest_1 rest_1l rest_1c i_2 h13 →
bcase (decide (i_2 < ((gapsL : Nat) : Int))) (
(0 ≤ i_2 ∧ i_2 < ((gapsL : Nat) : Int)) ∧
onAddr gaps fun b11 o7 =>
∃ n7 : Int, cell h13 b11 (o7 + (i_2).toNat) = some (.int .i64 n7) ∧
Runs Try.prog 10 #[(.int .i64 n7), (.int .i64 (1048576 : Int))] h13 fun r2 h14 =>
∃ n8 : Int,
r2 = (.int .i64 n8) ∧
fits .i64 (now_2 + n8) ∧
∃ cs1 : List Value, row h14 b7 0 5 = some cs1 ∧
Runs Try.prog 11 #[(.agg (cs1).toArray), (.int .i64 (now_2 + n8)), (.int .i64 target), (.int .i64 interval), (.int .i64 bytes_2), (.slice rest_1 rest_1l rest_1c)] h14 fun r3 h15 =>
∃ cs2 : List Value,
∃ n9 : Int,
∃ t2 : Bool,
r3 = (.tuple #[(.agg (cs2).toArray), (.int .i64 n9), (.bool t2)]) ∧
∀ (b12 : Nat) (h16 : Heap), b12 = h15.size → h16 = h15.push (.cells ([(.int .i64 (0 : Int)), (.int .i64 (0 : Int)), (.int .u32 (0 : Int)), (.int .u32 (0 : Int)), (.bool false)] : List Value).toArray 29) →
(((cs2)).length = 5 ∧ wrs h16 b12 0 5 ∧ ∀ u ∈ ((cs2) : List Value), u.oneCell' = true) ∧ ∀ h17 : Heap, h17 = setr h16 b12 0 (cs2) →
∃ cs3 : List Value, row h17 b8 0 5 = some cs3 ∧
Runs Try.prog 15 #[(.agg (cs3).toArray), (.int .i64 (now_2 + n8)), (.int .i64 target), (.int .i64 interval), (.int .i64 bytes_2), (.slice rest_1 rest_1l rest_1c)] h17 fun r4 h18 =>
∃ cs4 : List Value,
∃ n10 : Int,
∃ t3 : Bool,
r4 = (.tuple #[(.agg (cs4).toArray), (.int .i64 n10), (.bool t3)]) ∧
∀ (b13 : Nat) (h19 : Heap), b13 = h18.size → h19 = h18.push (.cells ([(.int .i64 (0 : Int)), (.int .i64 (0 : Int)), (.int .u32 (0 : Int)), (.int .u32 (0 : Int)), (.bool false)] : List Value).toArray 36) →
(((cs4)).length = 5 ∧ wrs h19 b13 0 5 ∧ ∀ u ∈ ((cs4) : List Value), u.oneCell' = true) ∧ ∀ h20 : Heap, h20 = setr h19 b13 0 (cs4) →
∃ J7 : Bool → Heap → Prop, (
∃ cs5 : List Value, row h20 b12 0 5 = some cs5 ∧
∃ cs6 : List Value, row h20 b13 0 5 = some cs6 ∧
Runs Try.prog 13 #[(.agg (cs5).toArray), (.agg (cs6).toArray)] h20 fun r5 h21 =>
∃ t4 : Bool,
r5 = (.bool t4) ∧
bcase (!t4) (
J7 true h21) (
J7 (!decide (n9 = n10)) h21)) ∧ ∀ _ : Env,
∀ (x14 : Bool) (h22 : Heap), J7 x14 h22 →
∃ J8 : Bool → Heap → Prop, (
bcase x14 (
J8 true h22) (
J8 (!(t2 == t3)) h22)) ∧ ∀ _ : Env,
∀ (x15 : Bool) (h23 : Heap), J8 x15 h23 →
bcase x15 (
Post (.bool false) h23) (
bcase (decide (((rest_1l : Nat) : Int) < n9)) (
Post (.bool false) h23) (
∃ cs7 : List Value, row h23 b12 0 5 = some cs7 ∧
(((cs7)).length = 5 ∧ wrs h23 b7 0 5 ∧ ∀ u ∈ ((cs7) : List Value), u.oneCell' = true) ∧ ∀ h24 : Heap, h24 = setr h23 b7 0 (cs7) →
∃ cs8 : List Value, row h24 b13 0 5 = some cs8 ∧
(((cs8)).length = 5 ∧ wrs h24 b8 0 5 ∧ ∀ u ∈ ((cs8) : List Value), u.oneCell' = true) ∧ ∀ h25 : Heap, h25 = setr h24 b8 0 (cs8) →
bcase t2 (
fits .i64 (n9 + (1 : Int)) ∧
∃ (I3 : Int → Int → Heap → Prop) (m3 : Int → Int → Heap → Nat), I3 bytes_2 (0 : Int) h25 ∧ ∀ _ : Env,
∀ (bytes_3 : Int) (k_1 : Int) (h26 : Heap), I3 bytes_3 k_1 h26 →
bcase (decide (k_1 < (n9 + (1 : Int)))) (
(0 ≤ k_1 ∧ k_1 < ((rest_1l : Nat) : Int)) ∧
onAddr rest_1 fun b14 o8 =>
∃ n11 : Int, cell h26 b14 ((o8 + ((k_1).toNat * 2)) + 1) = some (.int .i64 n11) ∧
fits .i64 (bytes_3 - n11) ∧
fits .i64 (k_1 + (1 : Int)) ∧
I3 (bytes_3 - n11) (k_1 + (1 : Int)) h26 ∧ m3 (bytes_3 - n11) (k_1 + (1 : Int)) h26 < m3 bytes_3 k_1 h26) (
∀ (b15 : Nat) (h27 : Heap), b15 = h26.size → h27 = h26.push (.cells ([] : List Value).toArray 26) →
(0 ≤ (n9 + (1 : Int)) ∧ (n9 + (1 : Int)) ≤ ((rest_1l : Nat) : Int)) ∧
∃ news2 : List Value, (src h27 (slcAddr rest_1 ((n9 + (1 : Int))).toNat rest_1c (((n9 + (1 : Int))).toNat * 2)) ((rest_1l - ((n9 + (1 : Int))).toNat) * 2) news2 ∧ ∀ u ∈ news2, u.oneCell' = true) ∧
((0 + (rest_1l - ((n9 + (1 : Int))).toNat)) ≤ 0 →
wrs h27 b15 0 news2.length ∧ ∀ h29 : Heap, h29 = setr h27 b15 0 news2 →
fits .i64 (i_2 + (1 : Int)) ∧
I2 (now_2 + n8) bytes_3 (some ⟨b15, 0, none⟩) (0 + (rest_1l - ((n9 + (1 : Int))).toNat)) 0 (i_2 + (1 : Int)) h29 ∧ m2 (now_2 + n8) bytes_3 (some ⟨b15, 0, none⟩) (0 + (rest_1l - ((n9 + (1 : Int))).toNat)) 0 (i_2 + (1 : Int)) h29 < m2 now_2 bytes_2 rest_1 rest_1l rest_1c i_2 h13) ∧
(0 < (0 + (rest_1l - ((n9 + (1 : Int))).toNat)) →
(((0 + (rest_1l - ((n9 + (1 : Int))).toNat))) * 16 ≤ 140737488355328 ∧ 0 < 16) ∧ ∃ olds2 : List Value, row h27 b15 0 0 = some olds2 ∧ ∀ (cap2 : Nat) (zs2 : List Value) (b16 : Nat) (h28 : Heap), (0 + (rest_1l - ((n9 + (1 : Int))).toNat)) ≤ cap2 → zs2.length = (cap2 - (0 + (rest_1l - ((n9 + (1 : Int))).toNat))) * 2 → b16 = h27.size → h28 = h27.push (.cells (olds2 ++ news2 ++ zs2).toArray 26) →
fits .i64 (i_2 + (1 : Int)) ∧
I2 (now_2 + n8) bytes_3 (some ⟨b16, 0, none⟩) (0 + (rest_1l - ((n9 + (1 : Int))).toNat)) cap2 (i_2 + (1 : Int)) h28 ∧ m2 (now_2 + n8) bytes_3 (some ⟨b16, 0, none⟩) (0 + (rest_1l - ((n9 + (1 : Int))).toNat)) cap2 (i_2 + (1 : Int)) h28 < m2 now_2 bytes_2 rest_1 rest_1l rest_1c i_2 h13))) (
∃ (I4 : Int → Int → Heap → Prop) (m4 : Int → Int → Heap → Nat), I4 bytes_2 (0 : Int) h25 ∧ ∀ _ : Env,
∀ (bytes_4 : Int) (k_2 : Int) (h30 : Heap), I4 bytes_4 k_2 h30 →
bcase (decide (k_2 < n9)) (
(0 ≤ k_2 ∧ k_2 < ((rest_1l : Nat) : Int)) ∧
onAddr rest_1 fun b17 o9 =>
∃ n12 : Int, cell h30 b17 ((o9 + ((k_2).toNat * 2)) + 1) = some (.int .i64 n12) ∧
fits .i64 (bytes_4 - n12) ∧
fits .i64 (k_2 + (1 : Int)) ∧
I4 (bytes_4 - n12) (k_2 + (1 : Int)) h30 ∧ m4 (bytes_4 - n12) (k_2 + (1 : Int)) h30 < m4 bytes_4 k_2 h30) (
∀ (b18 : Nat) (h31 : Heap), b18 = h30.size → h31 = h30.push (.cells ([] : List Value).toArray 26) →
(0 ≤ n9 ∧ n9 ≤ ((rest_1l : Nat) : Int)) ∧
∃ news3 : List Value, (src h31 (slcAddr rest_1 (n9).toNat rest_1c ((n9).toNat * 2)) ((rest_1l - (n9).toNat) * 2) news3 ∧ ∀ u ∈ news3, u.oneCell' = true) ∧
((0 + (rest_1l - (n9).toNat)) ≤ 0 →
wrs h31 b18 0 news3.length ∧ ∀ h33 : Heap, h33 = setr h31 b18 0 news3 →
fits .i64 (i_2 + (1 : Int)) ∧
I2 (now_2 + n8) bytes_4 (some ⟨b18, 0, none⟩) (0 + (rest_1l - (n9).toNat)) 0 (i_2 + (1 : Int)) h33 ∧ m2 (now_2 + n8) bytes_4 (some ⟨b18, 0, none⟩) (0 + (rest_1l - (n9).toNat)) 0 (i_2 + (1 : Int)) h33 < m2 now_2 bytes_2 rest_1 rest_1l rest_1c i_2 h13) ∧
(0 < (0 + (rest_1l - (n9).toNat)) →
(((0 + (rest_1l - (n9).toNat))) * 16 ≤ 140737488355328 ∧ 0 < 16) ∧ ∃ olds3 : List Value, row h31 b18 0 0 = some olds3 ∧ ∀ (cap3 : Nat) (zs3 : List Value) (b19 : Nat) (h32 : Heap), (0 + (rest_1l - (n9).toNat)) ≤ cap3 → zs3.length = (cap3 - (0 + (rest_1l - (n9).toNat))) * 2 → b19 = h31.size → h32 = h31.push (.cells (olds3 ++ news3 ++ zs3).toArray 26) →
fits .i64 (i_2 + (1 : Int)) ∧
I2 (now_2 + n8) bytes_4 (some ⟨b19, 0, none⟩) (0 + (rest_1l - (n9).toNat)) cap3 (i_2 + (1 : Int)) h32 ∧ m2 (now_2 + n8) bytes_4 (some ⟨b19, 0, none⟩) (0 + (rest_1l - (n9).toNat)) cap3 (i_2 + (1 : Int)) h32 < m2 now_2 bytes_2 rest_1 rest_1l rest_1c i_2 h13)))))) (
Post (.bool t1) h13))))))) :
    Runs Try.prog 8 #[(.slice l lL lC), (.slice gaps gapsL gapsC), (.int .i64 target), (.int .i64 interval)] h0 Post :=
  runs_of (args := [(.slice l lL lC), (.slice gaps gapsL gapsC), (.int .i64 target), (.int .i64 interval)]) (fun n => ⟨true, false⟩) (fun n => match n with | 0 => [(10, .int .i64), (11, .int .i64), (12, .int .i64)] | 2 => [(10, .int .i64), (11, .int .i64), (15, .slice), (16, .int .i64)] | 4 => [(11, .int .i64), (23, .int .i64)] | _ => []) (fun _ => none) (fun n => match n with | 4 => [(8, [(34, .bool)]), (4, [(38, .bool)]), (4, [(42, .bool)]), (4, [(46, .bool)])] | 11 => [(14, [(71, .bool)]), (8, [(79, .bool)])] | 24 => [(9, [(149, .bool)]), (5, [(154, .bool)])] | _ => []) Try.func8 rfl (by rw [Try.ntmps8]; simp) (Eq.mp (by kernel_rfl) H)
end Go.Proofs.Ytpecigkicmgbdaa
