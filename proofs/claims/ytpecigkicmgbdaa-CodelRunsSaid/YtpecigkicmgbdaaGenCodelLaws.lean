/- The conditions for calls of functions of the program, in plain form: written by a program (vcgen) off the elaborated code; each is the reckoner's own, by the kernel. -/
import Derived.Test.YtpecigkicmgbdaaRows
import Derived.Test.YtpecigkicmgbdaaVc
set_option linter.unusedVariables false
set_option maxRecDepth 100000
namespace Go.Proofs.Ytpecigkicmgbdaa
open Go.Vc
theorem vc_muezzinlaw11_right (c : List Value) (now : Int) (l : Option Addr) (lL lC : Nat) (h0 : Heap) (Post : Value → Heap → Prop) (H :
∀ (b1 : Nat) (h1 : Heap), b1 = h0.size → h1 = h0.push (.cells (c).toArray 29) →
bcase (decide (now < (0 : Int))) (
Post (.bool false) h1) (
bcase (decide ((1125899906842624 : Int) < now)) (
Post (.bool false) h1) (
∃ n1 : Int, cell h1 b1 0 = some (.int .i64 n1) ∧
bcase (decide (n1 < (0 : Int))) (
Post (.bool false) h1) (
∃ n2 : Int, cell h1 b1 0 = some (.int .i64 n2) ∧
bcase (decide ((1125899906842624 : Int) < n2)) (
Post (.bool false) h1) (
∃ n3 : Int, cell h1 b1 1 = some (.int .i64 n3) ∧
bcase (decide (n3 < (0 : Int))) (
Post (.bool false) h1) (
∃ n4 : Int, cell h1 b1 1 = some (.int .i64 n4) ∧
bcase (decide ((1125899906842624 : Int) < n4)) (
Post (.bool false) h1) (
bcase (decide ((40 : Int) < ((lL : Nat) : Int))) (
Post (.bool false) h1) (
∃ (I1 : Int → Heap → Prop) (m1 : Int → Heap → Nat), I1 (0 : Int) h1 ∧ ∀ _ : Env,
∀ (i_1 : Int) (h2 : Heap), I1 i_1 h2 →
bcase (decide (i_1 < ((lL : Nat) : Int))) (
(0 ≤ i_1 ∧ i_1 < ((lL : Nat) : Int)) ∧
onAddr l fun b2 o1 =>
∃ n5 : Int, cell h2 b2 (o1 + ((i_1).toNat * 2)) = some (.int .i64 n5) ∧
bcase (decide (n5 < (0 : Int))) (
Post (.bool false) h2) (
(0 ≤ i_1 ∧ i_1 < ((lL : Nat) : Int)) ∧
onAddr l fun b3 o2 =>
∃ n6 : Int, cell h2 b3 (o2 + ((i_1).toNat * 2)) = some (.int .i64 n6) ∧
bcase (decide (now < n6)) (
Post (.bool false) h2) (
(0 ≤ i_1 ∧ i_1 < ((lL : Nat) : Int)) ∧
onAddr l fun b4 o3 =>
∃ n7 : Int, cell h2 b4 ((o3 + ((i_1).toNat * 2)) + 1) = some (.int .i64 n7) ∧
bcase (decide ((1048576 : Int) < n7)) (
Post (.bool false) h2) (
fits .i64 (i_1 + (1 : Int)) ∧
I1 (i_1 + (1 : Int)) h2 ∧ m1 (i_1 + (1 : Int)) h2 < m1 i_1 h2)))) (
Post (.bool true) h2))))))))) :
    Runs Try.prog 12 #[(.agg (c).toArray), (.int .i64 now), (.slice l lL lC)] h0 Post :=
  runs_of (args := [(.agg (c).toArray), (.int .i64 now), (.slice l lL lC)]) (fun n => ⟨true, false⟩) (fun n => match n with | 0 => [(7, .int .i64)] | _ => []) (fun _ => none) (fun _ => []) Try.func12 rfl (by rw [Try.ntmps12]; simp) (Eq.mp (by kernel_rfl) H)

theorem vc_muezzinlaw11_same (c : List Value) (x : List Value) (h0 : Heap) (Post : Value → Heap → Prop) (H :
∀ (b1 : Nat) (h1 : Heap), b1 = h0.size → h1 = h0.push (.cells (c).toArray 29) →
∀ (b2 : Nat) (h2 : Heap), b2 = h1.size → h2 = h1.push (.cells (x).toArray 36) →
∃ n1 : Int, cell h2 b1 0 = some (.int .i64 n1) ∧
∃ n2 : Int, cell h2 b2 0 = some (.int .i64 n2) ∧
bcase (decide (n1 = n2)) (
∃ n3 : Int, cell h2 b1 1 = some (.int .i64 n3) ∧
∃ n4 : Int, cell h2 b2 1 = some (.int .i64 n4) ∧
bcase (decide (n3 = n4)) (
∃ n5 : Int, cell h2 b1 2 = some (.int .u32 n5) ∧
∃ n6 : Int, cell h2 b2 2 = some (.int .u32 n6) ∧
bcase (decide (n5 = n6)) (
∃ n7 : Int, cell h2 b1 3 = some (.int .u32 n7) ∧
∃ n8 : Int, cell h2 b2 3 = some (.int .u32 n8) ∧
bcase (decide (n7 = n8)) (
∃ t1 : Bool, cell h2 b1 4 = some (.bool t1) ∧
∃ t2 : Bool, cell h2 b2 4 = some (.bool t2) ∧
Post (.bool (t1 == t2)) h2) (
Post (.bool false) h2)) (
Post (.bool false) h2)) (
Post (.bool false) h2)) (
Post (.bool false) h2)) :
    Runs Try.prog 13 #[(.agg (c).toArray), (.agg (x).toArray)] h0 Post :=
  runs_of (args := [(.agg (c).toArray), (.agg (x).toArray)]) (fun n => ⟨true, false⟩) (fun _ => []) (fun _ => none) (fun _ => []) Try.func13 rfl (by rw [Try.ntmps13]; simp) (Eq.mp (by kernel_rfl) H)

theorem vc_muezzinlaw11_other (c : List Value) (h0 : Heap) (Post : Value → Heap → Prop) (H :
∀ (b1 : Nat) (h1 : Heap), b1 = h0.size → h1 = h0.push (.cells (c).toArray 29) →
∀ (b2 : Nat) (h2 : Heap), b2 = h1.size → h2 = h1.push (.cells ([(.int .i64 (0 : Int)), (.int .i64 (0 : Int)), (.int .u32 (0 : Int)), (.int .u32 (0 : Int)), (.bool false)] : List Value).toArray 36) →
∃ n1 : Int, cell h2 b1 0 = some (.int .i64 n1) ∧
∃ n2 : Int, cell h2 b1 1 = some (.int .i64 n2) ∧
∃ n3 : Int, cell h2 b1 2 = some (.int .u32 n3) ∧
∃ n4 : Int, cell h2 b1 3 = some (.int .u32 n4) ∧
∃ t1 : Bool, cell h2 b1 4 = some (.bool t1) ∧
((([(.int .i64 n1), (.int .i64 n2), (.int .u32 n3), (.int .u32 n4), (.bool t1)] : List Value)).length = 5 ∧ wrs h2 b2 0 5 ∧ ∀ u ∈ (([(.int .i64 n1), (.int .i64 n2), (.int .u32 n3), (.int .u32 n4), (.bool t1)] : List Value) : List Value), u.oneCell' = true) ∧ ∀ h3 : Heap, h3 = setr h2 b2 0 ([(.int .i64 n1), (.int .i64 n2), (.int .u32 n3), (.int .u32 n4), (.bool t1)] : List Value) →
∃ cs1 : List Value, row h3 b2 0 5 = some cs1 ∧
Post (.agg (cs1).toArray) h3) :
    Runs Try.prog 14 #[(.agg (c).toArray)] h0 Post :=
  runs_of (args := [(.agg (c).toArray)]) (fun n => ⟨true, false⟩) (fun _ => []) (fun _ => none) (fun _ => []) Try.func14 rfl (by rw [Try.ntmps14]; simp) (Eq.mp (by kernel_rfl) H)

theorem vc_muezzinlaw11_first  (h0 : Heap) (Post : Value → Heap → Prop) (H :
∀ (b1 : Nat) (h1 : Heap), b1 = h0.size → h1 = h0.push (.cells ([(.int .i64 (0 : Int)), (.int .i64 (0 : Int)), (.int .u32 (0 : Int)), (.int .u32 (0 : Int)), (.bool false)] : List Value).toArray 29) →
∃ cs1 : List Value, row h1 b1 0 5 = some cs1 ∧
Runs Try.prog 11 #[(.agg (cs1).toArray), (.int .i64 (0 : Int)), (.int .i64 (5 : Int)), (.int .i64 (100 : Int)), (.int .i64 (0 : Int)), (.slice none 0 0)] h1 fun r1 h2 =>
∃ cs2 : List Value,
∃ n1 : Int,
∃ t1 : Bool,
r1 = (.tuple #[(.agg (cs2).toArray), (.int .i64 n1), (.bool t1)]) ∧
∀ (b2 : Nat) (h3 : Heap), b2 = h2.size → h3 = h2.push (.cells ([(.int .i64 (0 : Int)), (.int .i64 (0 : Int)), (.int .u32 (0 : Int)), (.int .u32 (0 : Int)), (.bool false)] : List Value).toArray 29) →
(((cs2)).length = 5 ∧ wrs h3 b2 0 5 ∧ ∀ u ∈ ((cs2) : List Value), u.oneCell' = true) ∧ ∀ h4 : Heap, h4 = setr h3 b2 0 (cs2) →
∃ cs3 : List Value, row h4 b1 0 5 = some cs3 ∧
([(.int .i64 (0 : Int)), (.int .i64 (100 : Int))] : List Value).length = 2 ∧
∀ (b3 : Nat) (h5 : Heap), b3 = h4.size → h5 = h4.push (.cells ([(.int .i64 (0 : Int)), (.int .i64 (100 : Int))] : List Value).toArray 26) →
Runs Try.prog 11 #[(.agg (cs3).toArray), (.int .i64 (9 : Int)), (.int .i64 (5 : Int)), (.int .i64 (100 : Int)), (.int .i64 (5000 : Int)), (.slice (some ⟨b3, 0, none⟩) 1 1)] h5 fun r2 h6 =>
∃ cs4 : List Value,
∃ n2 : Int,
∃ t2 : Bool,
r2 = (.tuple #[(.agg (cs4).toArray), (.int .i64 n2), (.bool t2)]) ∧
∀ (b4 : Nat) (h7 : Heap), b4 = h6.size → h7 = h6.push (.cells ([(.int .i64 (0 : Int)), (.int .i64 (0 : Int)), (.int .u32 (0 : Int)), (.int .u32 (0 : Int)), (.bool false)] : List Value).toArray 29) →
(((cs4)).length = 5 ∧ wrs h7 b4 0 5 ∧ ∀ u ∈ ((cs4) : List Value), u.oneCell' = true) ∧ ∀ h8 : Heap, h8 = setr h7 b4 0 (cs4) →
bcase (decide (n1 = (0 : Int))) (
bcase (!t1) (
bcase (decide (n2 = (0 : Int))) (
bcase t2 (
∃ n3 : Int, cell h8 b4 0 = some (.int .i64 n3) ∧
Post (.bool (decide (n3 = (109 : Int)))) h8) (
Post (.bool false) h8)) (
Post (.bool false) h8)) (
Post (.bool false) h8)) (
Post (.bool false) h8)) :
    Runs Try.prog 9 #[] h0 Post :=
  runs_of (args := []) (fun n => ⟨true, false⟩) (fun _ => []) (fun _ => none) (fun _ => []) Try.func9 rfl (by rw [Try.ntmps9]; simp) (Eq.mp (by kernel_rfl) H)

theorem vc_muezzinlaw11_CodelCalm (l : Option Addr) (lL lC : Nat) (now : Int) (target : Int) (short : Bool) (h0 : Heap) (Post : Value → Heap → Prop) (H :
Runs Try.prog 9 #[] h0 fun r1 h1 =>
∃ t1 : Bool,
r1 = (.bool t1) ∧
bcase (!t1) (
Post (.bool false) h1) (
∃ J1 : Bool → Heap → Prop, (
bcase (decide (target < (1 : Int))) (
J1 true h1) (
J1 (decide ((1073741824 : Int) < target)) h1)) ∧ ∀ _ : Env,
∀ (x1 : Bool) (h2 : Heap), J1 x1 h2 →
∃ J2 : Bool → Heap → Prop, (
bcase x1 (
J2 true h2) (
J2 (decide (now < target)) h2)) ∧ ∀ _ : Env,
∀ (x2 : Bool) (h3 : Heap), J2 x2 h3 →
∃ J3 : Bool → Heap → Prop, (
bcase x2 (
J3 true h3) (
J3 (decide ((1125899906842624 : Int) < now)) h3)) ∧ ∀ _ : Env,
∀ (x3 : Bool) (h4 : Heap), J3 x3 h4 →
bcase x3 (
Post (.bool t1) h4) (
bcase (decide ((40 : Int) < ((lL : Nat) : Int))) (
Post (.bool t1) h4) (
∃ (I1 : Option Addr → Nat → Nat → Int → Int → Heap → Prop) (m1 : Option Addr → Nat → Nat → Int → Int → Heap → Nat), I1 none 0 0 (0 : Int) (0 : Int) h4 ∧ ∀ _ : Env,
∀ (q_1 : Option Addr) (q_1l q_1c : Nat) (bytes_1 : Int) (i_1 : Int) (h5 : Heap), I1 q_1 q_1l q_1c bytes_1 i_1 h5 →
bcase (decide (i_1 < ((lL : Nat) : Int))) (
fits .i64 (now - target) ∧
fits .i64 ((now - target) + (1 : Int)) ∧
(0 ≤ i_1 ∧ i_1 < ((lL : Nat) : Int)) ∧
onAddr l fun b1 o1 =>
∃ n1 : Int, cell h5 b1 ((o1 + ((i_1).toNat * 2)) + 1) = some (.int .i64 n1) ∧
Runs Try.prog 10 #[(.int .i64 n1), (.int .i64 (3000 : Int))] h5 fun r2 h6 =>
∃ n2 : Int,
r2 = (.int .i64 n2) ∧
∀ (b2 : Nat) (h7 : Heap), b2 = h6.size → h7 = h6.push (.cells ([(.int .i64 (0 : Int)), (.int .i64 (0 : Int))] : List Value).toArray 26) →
((([(.int .i64 ((now - target) + (1 : Int))), (.int .i64 n2)] : List Value)).length = 2 ∧ wrs h7 b2 0 2 ∧ ∀ u ∈ (([(.int .i64 ((now - target) + (1 : Int))), (.int .i64 n2)] : List Value) : List Value), u.oneCell' = true) ∧ ∀ h8 : Heap, h8 = setr h7 b2 0 ([(.int .i64 ((now - target) + (1 : Int))), (.int .i64 n2)] : List Value) →
∃ J4 : Heap → Prop, (
bcase short (
((([(.int .i64 (0 : Int)), (.int .i64 (30 : Int))] : List Value)).length = 2 ∧ wrs h8 b2 0 2 ∧ ∀ u ∈ (([(.int .i64 (0 : Int)), (.int .i64 (30 : Int))] : List Value) : List Value), u.oneCell' = true) ∧ ∀ h9 : Heap, h9 = setr h8 b2 0 ([(.int .i64 (0 : Int)), (.int .i64 (30 : Int))] : List Value) →
J4 h9) (
J4 h8)) ∧ ∀ _ : Env,
∀ (h10 : Heap), J4 h10 →
∃ J5 : Option Addr → Nat → Nat → Heap → Prop, (
∃ cs1 : List Value, row h10 b2 0 2 = some cs1 ∧
(cs1).length = 2 ∧
∀ (b3 : Nat) (h11 : Heap), b3 = h10.size → h11 = h10.push (.cells (((cs1) ++ [])).toArray 26) →
∃ news1 : List Value, (row h11 b3 0 2 = some news1 ∧ ∀ u ∈ news1, u.oneCell' = true) ∧
((q_1l + 1) ≤ q_1c →
appIn q_1 (
J5 none (q_1l + 1) q_1c h11) (fun b5 o2 =>
wrs h11 b5 (o2 + (q_1l * 2)) news1.length ∧ ∀ h13 : Heap, h13 = setr h11 b5 (o2 + (q_1l * 2)) news1 →
J5 (some ⟨b5, o2, none⟩) (q_1l + 1) q_1c h13)) ∧
(q_1c < (q_1l + 1) →
(((q_1l + 1)) * 16 ≤ 140737488355328 ∧ 0 < 16) ∧ ∃ olds1 : List Value, src h11 q_1 (q_1l * 2) olds1 ∧ ∀ (cap1 : Nat) (zs1 : List Value) (b4 : Nat) (h12 : Heap), (q_1l + 1) ≤ cap1 → zs1.length = (cap1 - (q_1l + 1)) * 2 → b4 = h11.size → h12 = h11.push (.cells (olds1 ++ news1 ++ zs1).toArray 26) →
J5 (some ⟨b4, 0, none⟩) (q_1l + 1) cap1 h12)) ∧ ∀ _ : Env,
∀ (q_2 : Option Addr) (q_2l q_2c : Nat) (h14 : Heap), J5 q_2 q_2l q_2c h14 →
∃ n3 : Int, cell h14 b2 1 = some (.int .i64 n3) ∧
fits .i64 (bytes_1 + n3) ∧
fits .i64 (i_1 + (1 : Int)) ∧
I1 q_2 q_2l q_2c (bytes_1 + n3) (i_1 + (1 : Int)) h14 ∧ m1 q_2 q_2l q_2c (bytes_1 + n3) (i_1 + (1 : Int)) h14 < m1 q_1 q_1l q_1c bytes_1 i_1 h5) (
∀ (b6 : Nat) (h15 : Heap), b6 = h5.size → h15 = h5.push (.cells ([(.int .i64 (0 : Int)), (.int .i64 (0 : Int)), (.int .u32 (0 : Int)), (.int .u32 (0 : Int)), (.bool false)] : List Value).toArray 29) →
∃ (I2 : Int → Int → Heap → Prop) (m2 : Int → Int → Heap → Nat), I2 bytes_1 (0 : Int) h15 ∧ ∀ _ : Env,
∀ (bytes_2 : Int) (i_2 : Int) (h16 : Heap), I2 bytes_2 i_2 h16 →
bcase (decide (i_2 < ((lL : Nat) : Int))) (
∃ J6 : Option Addr → Int → Bool → Heap → Prop, (
∃ cs2 : List Value, row h16 b6 0 5 = some cs2 ∧
(0 ≤ i_2 ∧ i_2 ≤ ((q_1l : Nat) : Int)) ∧
(
Runs Try.prog 11 #[(.agg (cs2).toArray), (.int .i64 now), (.int .i64 target), (.int .i64 (100 : Int)), (.int .i64 bytes_2), (.slice (slcAddr q_1 (i_2).toNat q_1c ((i_2).toNat * 2)) (q_1l - (i_2).toNat) (q_1c - (i_2).toNat))] h16 fun r3 h17 =>
∃ cs3 : List Value,
∃ n4 : Int,
∃ t2 : Bool,
r3 = (.tuple #[(.agg (cs3).toArray), (.int .i64 n4), (.bool t2)]) ∧
∀ (b7 : Nat) (h18 : Heap), b7 = h17.size → h18 = h17.push (.cells ([(.int .i64 (0 : Int)), (.int .i64 (0 : Int)), (.int .u32 (0 : Int)), (.int .u32 (0 : Int)), (.bool false)] : List Value).toArray 29) →
(((cs3)).length = 5 ∧ wrs h18 b7 0 5 ∧ ∀ u ∈ ((cs3) : List Value), u.oneCell' = true) ∧ ∀ h19 : Heap, h19 = setr h18 b7 0 (cs3) →
J6 (some ⟨b7, 0, none⟩) n4 t2 h19) ∧
(
∀ (b8 : Nat) (h20 : Heap), b8 = h16.size → h20 = h16.push (.cells ([(.int .i64 (0 : Int)), (.int .i64 (0 : Int)), (.int .u32 (0 : Int)), (.int .u32 (0 : Int)), (.bool false)] : List Value).toArray 29) →
Runs Try.prog 11 #[(.agg (cs2).toArray), (.int .i64 now), (.int .i64 target), (.int .i64 (100 : Int)), (.int .i64 bytes_2), (.slice (slcAddr q_1 (i_2).toNat q_1c ((i_2).toNat * 2)) (q_1l - (i_2).toNat) (q_1c - (i_2).toNat))] h20 fun r4 h21 =>
∃ cs4 : List Value,
∃ n5 : Int,
∃ t3 : Bool,
r4 = (.tuple #[(.agg (cs4).toArray), (.int .i64 n5), (.bool t3)]) ∧
(((cs4)).length = 5 ∧ wrs h21 b8 0 5 ∧ ∀ u ∈ ((cs4) : List Value), u.oneCell' = true) ∧ ∀ h22 : Heap, h22 = setr h21 b8 0 (cs4) →
J6 (some ⟨b8, 0, none⟩) n5 t3 h22)) ∧ ∀ _ : Env,
∀ (d_1 : Option Addr) (n_1 : Int) (is_1 : Bool) (h23 : Heap), J6 d_1 n_1 is_1 h23 →
∃ J7 : Bool → Heap → Prop, (
bcase (!decide (n_1 = (0 : Int))) (
J7 true h23) (
J7 (!is_1) h23)) ∧ ∀ _ : Env,
∀ (x13 : Bool) (h24 : Heap), J7 x13 h24 →
∃ J8 : Bool → Heap → Prop, (
bcase x13 (
J8 true h24) (
onAddr d_1 fun b9 o3 =>
∃ t4 : Bool, cell h24 b9 (o3 + 4) = some (.bool t4) ∧
J8 t4 h24)) ∧ ∀ _ : Env,
∀ (x14 : Bool) (h25 : Heap), J8 x14 h25 →
bcase x14 (
Post (.bool false) h25) (
onAddr d_1 fun b10 o4 =>
∃ n6 : Int, cell h25 b10 o4 = some (.int .i64 n6) ∧
bcase (!decide (n6 = (0 : Int))) (
Post (.bool false) h25) (
(0 ≤ i_2 ∧ i_2 < ((q_1l : Nat) : Int)) ∧
onAddr q_1 fun b11 o5 =>
∃ n7 : Int, cell h25 b11 ((o5 + ((i_2).toNat * 2)) + 1) = some (.int .i64 n7) ∧
fits .i64 (bytes_2 - n7) ∧
onAddr d_1 fun b12 o6 =>
∃ cs5 : List Value, row h25 b12 o6 5 = some cs5 ∧
(((cs5)).length = 5 ∧ wrs h25 b6 0 5 ∧ ∀ u ∈ ((cs5) : List Value), u.oneCell' = true) ∧ ∀ h26 : Heap, h26 = setr h25 b6 0 (cs5) →
fits .i64 (i_2 + (1 : Int)) ∧
I2 (bytes_2 - n7) (i_2 + (1 : Int)) h26 ∧ m2 (bytes_2 - n7) (i_2 + (1 : Int)) h26 < m2 bytes_2 i_2 h16))) (
∃ cs6 : List Value, row h16 b6 0 5 = some cs6 ∧
Runs Try.prog 11 #[(.agg (cs6).toArray), (.int .i64 now), (.int .i64 target), (.int .i64 (100 : Int)), (.int .i64 (0 : Int)), (.slice none 0 0)] h16 fun r5 h27 =>
∃ cs7 : List Value,
∃ n8 : Int,
∃ t5 : Bool,
r5 = (.tuple #[(.agg (cs7).toArray), (.int .i64 n8), (.bool t5)]) ∧
∀ (b13 : Nat) (h28 : Heap), b13 = h27.size → h28 = h27.push (.cells ([(.int .i64 (0 : Int)), (.int .i64 (0 : Int)), (.int .u32 (0 : Int)), (.int .u32 (0 : Int)), (.bool false)] : List Value).toArray 29) →
(((cs7)).length = 5 ∧ wrs h28 b13 0 5 ∧ ∀ u ∈ ((cs7) : List Value), u.oneCell' = true) ∧ ∀ h29 : Heap, h29 = setr h28 b13 0 (cs7) →
∃ J9 : Bool → Heap → Prop, (
bcase t1 (
J9 (decide (n8 = (0 : Int))) h29) (
J9 false h29)) ∧ ∀ _ : Env,
∀ (x15 : Bool) (h30 : Heap), J9 x15 h30 →
bcase x15 (
Post (.bool (!t5)) h30) (
Post (.bool false) h30))))))) :
    Runs Try.prog 3 #[(.slice l lL lC), (.int .i64 now), (.int .i64 target), (.bool short)] h0 Post :=
  runs_of (args := [(.slice l lL lC), (.int .i64 now), (.int .i64 target), (.bool short)]) (fun n => ⟨true, false⟩) (fun n => match n with | 0 => [(10, .slice), (11, .int .i64), (12, .int .i64)] | 2 => [(11, .int .i64), (15, .int .i64)] | _ => []) (fun n => match n with | 14 => some [] | 15 => some [(10, .slice)] | 21 => some [(16, .ptr), (17, .int .i64), (18, .bool)] | _ => none) (fun n => match n with | 4 => [(6, [(30, .bool)]), (5, [(35, .bool)]), (4, [(39, .bool)])] | 21 => [(6, [(96, .bool)]), (4, [(100, .bool)])] | 26 => [(5, [(126, .bool)])] | _ => []) Try.func3 rfl (by rw [Try.ntmps3]; simp) (Eq.mp (by kernel_rfl) H)

theorem vc_muezzinlaw11_CodelStands (interval : Int) (size : Int) (h0 : Heap) (Post : Value → Heap → Prop) (H :
Runs Try.prog 9 #[] h0 fun r1 h1 =>
∃ t1 : Bool,
r1 = (.bool t1) ∧
bcase (!t1) (
Post (.bool false) h1) (
Runs Try.prog 10 #[(.int .i64 interval), (.int .i64 (1000 : Int))] h1 fun r2 h2 =>
∃ n1 : Int,
r2 = (.int .i64 n1) ∧
fits .i64 (n1 + (100 : Int)) ∧
Runs Try.prog 10 #[(.int .i64 size), (.int .i64 (400 : Int))] h2 fun r3 h3 =>
∃ n2 : Int,
r3 = (.int .i64 n2) ∧
fits .i64 (n2 + (1000 : Int)) ∧
∀ (b1 : Nat) (h4 : Heap), b1 = h3.size → h4 = h3.push (.cells ([(.int .i64 (0 : Int)), (.int .i64 (0 : Int))] : List Value).toArray 26) →
((([(.int .i64 (0 : Int)), (.int .i64 (n2 + (1000 : Int)))] : List Value)).length = 2 ∧ wrs h4 b1 0 2 ∧ ∀ u ∈ (([(.int .i64 (0 : Int)), (.int .i64 (n2 + (1000 : Int)))] : List Value) : List Value), u.oneCell' = true) ∧ ∀ h5 : Heap, h5 = setr h4 b1 0 ([(.int .i64 (0 : Int)), (.int .i64 (n2 + (1000 : Int)))] : List Value) →
∃ cs1 : List Value, row h5 b1 0 2 = some cs1 ∧
∃ cs2 : List Value, row h5 b1 0 2 = some cs2 ∧
∃ cs3 : List Value, row h5 b1 0 2 = some cs3 ∧
∃ cs4 : List Value, row h5 b1 0 2 = some cs4 ∧
∃ cs5 : List Value, row h5 b1 0 2 = some cs5 ∧
∃ cs6 : List Value, row h5 b1 0 2 = some cs6 ∧
(cs1).length = 2 ∧
(cs2).length = 2 ∧
(cs3).length = 2 ∧
(cs4).length = 2 ∧
(cs5).length = 2 ∧
(cs6).length = 2 ∧
∀ (b2 : Nat) (h6 : Heap), b2 = h5.size → h6 = h5.push (.cells (((cs1) ++ ((cs2) ++ ((cs3) ++ ((cs4) ++ ((cs5) ++ ((cs6) ++ []))))))).toArray 26) →
fits .i64 ((100 : Int) * (n2 + (1000 : Int))) ∧
∀ (b3 : Nat) (h7 : Heap), b3 = h6.size → h7 = h6.push (.cells ([(.int .i64 (0 : Int)), (.int .i64 (0 : Int)), (.int .u32 (0 : Int)), (.int .u32 (0 : Int)), (.bool false)] : List Value).toArray 29) →
∃ cs7 : List Value, row h7 b3 0 5 = some cs7 ∧
Runs Try.prog 11 #[(.agg (cs7).toArray), (.int .i64 (1000 : Int)), (.int .i64 (10 : Int)), (.int .i64 (n1 + (100 : Int))), (.int .i64 ((100 : Int) * (n2 + (1000 : Int)))), (.slice (some ⟨b2, 0, none⟩) 6 6)] h7 fun r4 h8 =>
∃ cs8 : List Value,
∃ n3 : Int,
∃ t2 : Bool,
r4 = (.tuple #[(.agg (cs8).toArray), (.int .i64 n3), (.bool t2)]) ∧
∀ (b4 : Nat) (h9 : Heap), b4 = h8.size → h9 = h8.push (.cells ([(.int .i64 (0 : Int)), (.int .i64 (0 : Int)), (.int .u32 (0 : Int)), (.int .u32 (0 : Int)), (.bool false)] : List Value).toArray 29) →
(((cs8)).length = 5 ∧ wrs h9 b4 0 5 ∧ ∀ u ∈ ((cs8) : List Value), u.oneCell' = true) ∧ ∀ h10 : Heap, h10 = setr h9 b4 0 (cs8) →
∃ cs9 : List Value, row h10 b4 0 5 = some cs9 ∧
fits .i64 ((1000 : Int) + (n1 + (100 : Int))) ∧
fits .i64 (((1000 : Int) + (n1 + (100 : Int))) - (1 : Int)) ∧
Runs Try.prog 11 #[(.agg (cs9).toArray), (.int .i64 (((1000 : Int) + (n1 + (100 : Int))) - (1 : Int))), (.int .i64 (10 : Int)), (.int .i64 (n1 + (100 : Int))), (.int .i64 ((100 : Int) * (n2 + (1000 : Int)))), (.slice (some ⟨b2, 0, none⟩) 6 6)] h10 fun r5 h11 =>
∃ cs10 : List Value,
∃ n4 : Int,
∃ t3 : Bool,
r5 = (.tuple #[(.agg (cs10).toArray), (.int .i64 n4), (.bool t3)]) ∧
∀ (b5 : Nat) (h12 : Heap), b5 = h11.size → h12 = h11.push (.cells ([(.int .i64 (0 : Int)), (.int .i64 (0 : Int)), (.int .u32 (0 : Int)), (.int .u32 (0 : Int)), (.bool false)] : List Value).toArray 29) →
(((cs10)).length = 5 ∧ wrs h12 b5 0 5 ∧ ∀ u ∈ ((cs10) : List Value), u.oneCell' = true) ∧ ∀ h13 : Heap, h13 = setr h12 b5 0 (cs10) →
∃ cs11 : List Value, row h13 b5 0 5 = some cs11 ∧
fits .i64 ((1000 : Int) + (n1 + (100 : Int))) ∧
Runs Try.prog 11 #[(.agg (cs11).toArray), (.int .i64 ((1000 : Int) + (n1 + (100 : Int)))), (.int .i64 (10 : Int)), (.int .i64 (n1 + (100 : Int))), (.int .i64 ((100 : Int) * (n2 + (1000 : Int)))), (.slice (some ⟨b2, 0, none⟩) 6 6)] h13 fun r6 h14 =>
∃ cs12 : List Value,
∃ n5 : Int,
∃ t4 : Bool,
r6 = (.tuple #[(.agg (cs12).toArray), (.int .i64 n5), (.bool t4)]) ∧
∀ (b6 : Nat) (h15 : Heap), b6 = h14.size → h15 = h14.push (.cells ([(.int .i64 (0 : Int)), (.int .i64 (0 : Int)), (.int .u32 (0 : Int)), (.int .u32 (0 : Int)), (.bool false)] : List Value).toArray 29) →
(((cs12)).length = 5 ∧ wrs h15 b6 0 5 ∧ ∀ u ∈ ((cs12) : List Value), u.oneCell' = true) ∧ ∀ h16 : Heap, h16 = setr h15 b6 0 (cs12) →
∃ cs13 : List Value, row h16 b6 0 5 = some cs13 ∧
fits .i64 ((2 : Int) * (n1 + (100 : Int))) ∧
fits .i64 ((1000 : Int) + ((2 : Int) * (n1 + (100 : Int)))) ∧
fits .i64 (((1000 : Int) + ((2 : Int) * (n1 + (100 : Int)))) - (1 : Int)) ∧
Runs Try.prog 11 #[(.agg (cs13).toArray), (.int .i64 (((1000 : Int) + ((2 : Int) * (n1 + (100 : Int)))) - (1 : Int))), (.int .i64 (10 : Int)), (.int .i64 (n1 + (100 : Int))), (.int .i64 ((100 : Int) * (n2 + (1000 : Int)))), (.slice (some ⟨b2, 0, none⟩) 6 6)] h16 fun r7 h17 =>
∃ cs14 : List Value,
∃ n6 : Int,
∃ t5 : Bool,
r7 = (.tuple #[(.agg (cs14).toArray), (.int .i64 n6), (.bool t5)]) ∧
∀ (b7 : Nat) (h18 : Heap), b7 = h17.size → h18 = h17.push (.cells ([(.int .i64 (0 : Int)), (.int .i64 (0 : Int)), (.int .u32 (0 : Int)), (.int .u32 (0 : Int)), (.bool false)] : List Value).toArray 29) →
(((cs14)).length = 5 ∧ wrs h18 b7 0 5 ∧ ∀ u ∈ ((cs14) : List Value), u.oneCell' = true) ∧ ∀ h19 : Heap, h19 = setr h18 b7 0 (cs14) →
∃ cs15 : List Value, row h19 b7 0 5 = some cs15 ∧
fits .i64 ((2 : Int) * (n1 + (100 : Int))) ∧
fits .i64 ((1000 : Int) + ((2 : Int) * (n1 + (100 : Int)))) ∧
Runs Try.prog 11 #[(.agg (cs15).toArray), (.int .i64 ((1000 : Int) + ((2 : Int) * (n1 + (100 : Int))))), (.int .i64 (10 : Int)), (.int .i64 (n1 + (100 : Int))), (.int .i64 ((100 : Int) * (n2 + (1000 : Int)))), (.slice (some ⟨b2, 0, none⟩) 6 6)] h19 fun r8 h20 =>
∃ cs16 : List Value,
∃ n7 : Int,
∃ t6 : Bool,
r8 = (.tuple #[(.agg (cs16).toArray), (.int .i64 n7), (.bool t6)]) ∧
∀ (b8 : Nat) (h21 : Heap), b8 = h20.size → h21 = h20.push (.cells ([(.int .i64 (0 : Int)), (.int .i64 (0 : Int)), (.int .u32 (0 : Int)), (.int .u32 (0 : Int)), (.bool false)] : List Value).toArray 29) →
(((cs16)).length = 5 ∧ wrs h21 b8 0 5 ∧ ∀ u ∈ ((cs16) : List Value), u.oneCell' = true) ∧ ∀ h22 : Heap, h22 = setr h21 b8 0 (cs16) →
fits .i64 ((2 : Int) * (n1 + (100 : Int))) ∧
fits .i64 ((1000 : Int) + ((2 : Int) * (n1 + (100 : Int)))) ∧
∀ (b9 : Nat) (h23 : Heap), b9 = h22.size → h23 = h22.push (.cells ([(.int .i64 (0 : Int)), (.int .i64 (0 : Int))] : List Value).toArray 26) →
((([(.int .i64 ((1000 : Int) + ((2 : Int) * (n1 + (100 : Int))))), (.int .i64 (n2 + (1000 : Int)))] : List Value)).length = 2 ∧ wrs h23 b9 0 2 ∧ ∀ u ∈ (([(.int .i64 ((1000 : Int) + ((2 : Int) * (n1 + (100 : Int))))), (.int .i64 (n2 + (1000 : Int)))] : List Value) : List Value), u.oneCell' = true) ∧ ∀ h24 : Heap, h24 = setr h23 b9 0 ([(.int .i64 ((1000 : Int) + ((2 : Int) * (n1 + (100 : Int))))), (.int .i64 (n2 + (1000 : Int)))] : List Value) →
∃ cs17 : List Value, row h24 b8 0 5 = some cs17 ∧
fits .i64 ((2 : Int) * (n1 + (100 : Int))) ∧
fits .i64 ((1000 : Int) + ((2 : Int) * (n1 + (100 : Int)))) ∧
∃ cs18 : List Value, row h24 b9 0 2 = some cs18 ∧
∃ cs19 : List Value, row h24 b9 0 2 = some cs19 ∧
(cs18).length = 2 ∧
(cs19).length = 2 ∧
∀ (b10 : Nat) (h25 : Heap), b10 = h24.size → h25 = h24.push (.cells (((cs18) ++ ((cs19) ++ []))).toArray 26) →
Runs Try.prog 11 #[(.agg (cs17).toArray), (.int .i64 ((1000 : Int) + ((2 : Int) * (n1 + (100 : Int))))), (.int .i64 (10 : Int)), (.int .i64 (n1 + (100 : Int))), (.int .i64 ((100 : Int) * (n2 + (1000 : Int)))), (.slice (some ⟨b10, 0, none⟩) 2 2)] h25 fun r9 h26 =>
∃ cs20 : List Value,
∃ n8 : Int,
∃ t7 : Bool,
r9 = (.tuple #[(.agg (cs20).toArray), (.int .i64 n8), (.bool t7)]) ∧
∀ (b11 : Nat) (h27 : Heap), b11 = h26.size → h27 = h26.push (.cells ([(.int .i64 (0 : Int)), (.int .i64 (0 : Int)), (.int .u32 (0 : Int)), (.int .u32 (0 : Int)), (.bool false)] : List Value).toArray 29) →
(((cs20)).length = 5 ∧ wrs h27 b11 0 5 ∧ ∀ u ∈ ((cs20) : List Value), u.oneCell' = true) ∧ ∀ h28 : Heap, h28 = setr h27 b11 0 (cs20) →
∃ J1 : Bool → Heap → Prop, (
bcase (!t2) (
J1 true h28) (
J1 (!t3) h28)) ∧ ∀ _ : Env,
∀ (x1 : Bool) (h29 : Heap), J1 x1 h29 →
∃ J2 : Bool → Heap → Prop, (
bcase x1 (
J2 true h29) (
J2 (!t4) h29)) ∧ ∀ _ : Env,
∀ (x2 : Bool) (h30 : Heap), J2 x2 h30 →
∃ J3 : Bool → Heap → Prop, (
bcase x2 (
J3 true h30) (
J3 (!t5) h30)) ∧ ∀ _ : Env,
∀ (x3 : Bool) (h31 : Heap), J3 x3 h31 →
∃ J4 : Bool → Heap → Prop, (
bcase x3 (
J4 true h31) (
J4 (!t6) h31)) ∧ ∀ _ : Env,
∀ (x4 : Bool) (h32 : Heap), J4 x4 h32 →
bcase x4 (
Post (.bool false) h32) (
bcase (!t7) (
Post (.bool false) h32) (
∃ J5 : Bool → Heap → Prop, (
bcase t1 (
J5 (decide (n3 = (0 : Int))) h32) (
J5 false h32)) ∧ ∀ _ : Env,
∀ (x5 : Bool) (h33 : Heap), J5 x5 h33 →
∃ J6 : Bool → Heap → Prop, (
bcase x5 (
∃ t8 : Bool, cell h33 b4 4 = some (.bool t8) ∧
J6 (!t8) h33) (
J6 false h33)) ∧ ∀ _ : Env,
∀ (x6 : Bool) (h34 : Heap), J6 x6 h34 →
∃ J7 : Bool → Heap → Prop, (
bcase x6 (
∃ n9 : Int, cell h34 b4 0 = some (.int .i64 n9) ∧
fits .i64 ((1000 : Int) + (n1 + (100 : Int))) ∧
J7 (decide (n9 = ((1000 : Int) + (n1 + (100 : Int))))) h34) (
J7 false h34)) ∧ ∀ _ : Env,
∀ (x7 : Bool) (h35 : Heap), J7 x7 h35 →
∃ J8 : Bool → Heap → Prop, (
bcase x7 (
J8 (decide (n4 = (0 : Int))) h35) (
J8 false h35)) ∧ ∀ _ : Env,
∀ (x8 : Bool) (h36 : Heap), J8 x8 h36 →
∃ J9 : Bool → Heap → Prop, (
bcase x8 (
J9 (decide (n5 = (1 : Int))) h36) (
J9 false h36)) ∧ ∀ _ : Env,
∀ (x9 : Bool) (h37 : Heap), J9 x9 h37 →
∃ J10 : Bool → Heap → Prop, (
bcase x9 (
∃ t9 : Bool, cell h37 b6 4 = some (.bool t9) ∧
J10 t9 h37) (
J10 false h37)) ∧ ∀ _ : Env,
∀ (x10 : Bool) (h38 : Heap), J10 x10 h38 →
∃ J11 : Bool → Heap → Prop, (
bcase x10 (
∃ n10 : Int, cell h38 b6 2 = some (.int .u32 n10) ∧
J11 (decide (n10 = (1 : Int))) h38) (
J11 false h38)) ∧ ∀ _ : Env,
∀ (x11 : Bool) (h39 : Heap), J11 x11 h39 →
∃ J12 : Bool → Heap → Prop, (
bcase x11 (
∃ n11 : Int, cell h39 b6 1 = some (.int .i64 n11) ∧
fits .i64 ((2 : Int) * (n1 + (100 : Int))) ∧
fits .i64 ((1000 : Int) + ((2 : Int) * (n1 + (100 : Int)))) ∧
J12 (decide (n11 = ((1000 : Int) + ((2 : Int) * (n1 + (100 : Int)))))) h39) (
J12 false h39)) ∧ ∀ _ : Env,
∀ (x12 : Bool) (h40 : Heap), J12 x12 h40 →
∃ J13 : Bool → Heap → Prop, (
bcase x12 (
J13 (decide (n6 = (0 : Int))) h40) (
J13 false h40)) ∧ ∀ _ : Env,
∀ (x13 : Bool) (h41 : Heap), J13 x13 h41 →
∃ J14 : Bool → Heap → Prop, (
bcase x13 (
J14 (decide (n7 = (1 : Int))) h41) (
J14 false h41)) ∧ ∀ _ : Env,
∀ (x14 : Bool) (h42 : Heap), J14 x14 h42 →
∃ J15 : Bool → Heap → Prop, (
bcase x14 (
∃ t10 : Bool, cell h42 b8 4 = some (.bool t10) ∧
J15 t10 h42) (
J15 false h42)) ∧ ∀ _ : Env,
∀ (x15 : Bool) (h43 : Heap), J15 x15 h43 →
∃ J16 : Bool → Heap → Prop, (
bcase x15 (
∃ n12 : Int, cell h43 b8 2 = some (.int .u32 n12) ∧
J16 (decide (n12 = (2 : Int))) h43) (
J16 false h43)) ∧ ∀ _ : Env,
∀ (x16 : Bool) (h44 : Heap), J16 x16 h44 →
∃ J17 : Bool → Heap → Prop, (
bcase x16 (
∃ n13 : Int, cell h44 b8 1 = some (.int .i64 n13) ∧
fits .i64 ((3 : Int) * (n1 + (100 : Int))) ∧
fits .i64 ((1000 : Int) + ((3 : Int) * (n1 + (100 : Int)))) ∧
J17 (decide (n13 < ((1000 : Int) + ((3 : Int) * (n1 + (100 : Int)))))) h44) (
J17 false h44)) ∧ ∀ _ : Env,
∀ (x17 : Bool) (h45 : Heap), J17 x17 h45 →
∃ J18 : Bool → Heap → Prop, (
bcase x17 (
J18 (decide (n8 = (0 : Int))) h45) (
J18 false h45)) ∧ ∀ _ : Env,
∀ (x18 : Bool) (h46 : Heap), J18 x18 h46 →
bcase x18 (
∃ t11 : Bool, cell h46 b11 4 = some (.bool t11) ∧
Post (.bool (!t11)) h46) (
Post (.bool false) h46))))) :
    Runs Try.prog 4 #[(.int .i64 interval), (.int .i64 size)] h0 Post :=
  runs_of (args := [(.int .i64 interval), (.int .i64 size)]) (fun n => ⟨true, false⟩) (fun _ => []) (fun _ => none) (fun n => match n with | 17 => [(6, [(130, .bool)]), (4, [(134, .bool)]), (4, [(138, .bool)]), (4, [(142, .bool)])] | 19 => [(5, [(151, .bool)]), (5, [(156, .bool)]), (7, [(163, .bool)]), (4, [(167, .bool)]), (4, [(171, .bool)]), (4, [(175, .bool)]), (5, [(180, .bool)]), (8, [(188, .bool)]), (4, [(192, .bool)]), (4, [(196, .bool)]), (4, [(200, .bool)]), (5, [(205, .bool)]), (8, [(213, .bool)]), (4, [(217, .bool)])] | _ => []) Try.func4 rfl (by rw [Try.ntmps4]; simp) (Eq.mp (by kernel_rfl) H)

theorem vc_muezzinlaw11_CodelFirst (c : List Value) (now : Int) (target : Int) (interval : Int) (bytes : Int) (l : Option Addr) (lL lC : Nat) (h0 : Heap) (Post : Value → Heap → Prop) (H :
∀ (b1 : Nat) (h1 : Heap), b1 = h0.size → h1 = h0.push (.cells (c).toArray 29) →
Runs Try.prog 9 #[] h1 fun r1 h2 =>
∃ t1 : Bool,
r1 = (.bool t1) ∧
bcase (!t1) (
Post (.bool false) h2) (
∃ J1 : Bool → Heap → Prop, (
∃ cs1 : List Value, row h2 b1 0 5 = some cs1 ∧
Runs Try.prog 12 #[(.agg (cs1).toArray), (.int .i64 now), (.slice l lL lC)] h2 fun r2 h3 =>
∃ t2 : Bool,
r2 = (.bool t2) ∧
bcase (!t2) (
J1 true h3) (
J1 (decide (bytes < (0 : Int))) h3)) ∧ ∀ _ : Env,
∀ (x1 : Bool) (h4 : Heap), J1 x1 h4 →
bcase x1 (
Post (.bool t1) h4) (
bcase (decide ((1073741824 : Int) < bytes)) (
Post (.bool t1) h4) (
∃ cs2 : List Value, row h4 b1 0 5 = some cs2 ∧
Runs Try.prog 11 #[(.agg (cs2).toArray), (.int .i64 now), (.int .i64 target), (.int .i64 interval), (.int .i64 bytes), (.slice l lL lC)] h4 fun r3 h5 =>
∃ cs3 : List Value,
∃ n1 : Int,
∃ t3 : Bool,
r3 = (.tuple #[(.agg (cs3).toArray), (.int .i64 n1), (.bool t3)]) ∧
∀ (b2 : Nat) (h6 : Heap), b2 = h5.size → h6 = h5.push (.cells ([(.int .i64 (0 : Int)), (.int .i64 (0 : Int)), (.int .u32 (0 : Int)), (.int .u32 (0 : Int)), (.bool false)] : List Value).toArray 29) →
(((cs3)).length = 5 ∧ wrs h6 b2 0 5 ∧ ∀ u ∈ ((cs3) : List Value), u.oneCell' = true) ∧ ∀ h7 : Heap, h7 = setr h6 b2 0 (cs3) →
∃ J2 : Heap → Prop, (
∃ J3 : Bool → Heap → Prop, (
bcase (decide (n1 < (0 : Int))) (
J3 true h7) (
J3 (decide (((lL : Nat) : Int) < n1)) h7)) ∧ ∀ _ : Env,
∀ (x2 : Bool) (h8 : Heap), J3 x2 h8 →
∃ J4 : Bool → Heap → Prop, (
bcase x2 (
J4 true h8) (
bcase (!t3) (
J4 (!decide (n1 = ((lL : Nat) : Int))) h8) (
J4 false h8))) ∧ ∀ _ : Env,
∀ (x3 : Bool) (h9 : Heap), J4 x3 h9 →
bcase x3 (
Post (.bool false) h9) (
bcase t3 (
bcase (decide (((lL : Nat) : Int) ≤ n1)) (
Post (.bool false) h9) (
J2 h9)) (
J2 h9))) ∧ ∀ _ : Env,
∀ (h10 : Heap), J2 h10 →
∃ cs4 : List Value, row h10 b1 0 5 = some cs4 ∧
Runs Try.prog 11 #[(.agg (cs4).toArray), (.int .i64 now), (.int .i64 target), (.int .i64 interval), (.int .i64 bytes), (.slice l lL lC)] h10 fun r4 h11 =>
∃ cs5 : List Value,
∃ n2 : Int,
∃ t4 : Bool,
r4 = (.tuple #[(.agg (cs5).toArray), (.int .i64 n2), (.bool t4)]) ∧
∀ (b3 : Nat) (h12 : Heap), b3 = h11.size → h12 = h11.push (.cells ([(.int .i64 (0 : Int)), (.int .i64 (0 : Int)), (.int .u32 (0 : Int)), (.int .u32 (0 : Int)), (.bool false)] : List Value).toArray 29) →
(((cs5)).length = 5 ∧ wrs h12 b3 0 5 ∧ ∀ u ∈ ((cs5) : List Value), u.oneCell' = true) ∧ ∀ h13 : Heap, h13 = setr h12 b3 0 (cs5) →
bcase t1 (
∃ cs6 : List Value, row h13 b2 0 5 = some cs6 ∧
∃ cs7 : List Value, row h13 b3 0 5 = some cs7 ∧
Runs Try.prog 14 #[(.agg (cs7).toArray)] h13 fun r5 h14 =>
∃ cs8 : List Value,
r5 = (.agg (cs8).toArray) ∧
row h14 b2 0 5 = some (cs6) ∧
Runs Try.prog 13 #[(.agg (cs6).toArray), (.agg (cs8).toArray)] h14 fun r6 h15 =>
∃ t5 : Bool,
r6 = (.bool t5) ∧
bcase t5 (
bcase (decide (n1 = n2)) (
bcase (t3 == t4) (
bcase t3 (
Post (.bool true) h15) (
∃ t6 : Bool, cell h15 b2 4 = some (.bool t6) ∧
bcase (!t6) (
Post (.bool true) h15) (
Post (.bool (decide ((0 : Int) < n1))) h15))) (
Post (.bool false) h15)) (
Post (.bool false) h15)) (
Post (.bool false) h15)) (
Post (.bool false) h13))))) :
    Runs Try.prog 5 #[(.agg (c).toArray), (.int .i64 now), (.int .i64 target), (.int .i64 interval), (.int .i64 bytes), (.slice l lL lC)] h0 Post :=
  runs_of (args := [(.agg (c).toArray), (.int .i64 now), (.int .i64 target), (.int .i64 interval), (.int .i64 bytes), (.slice l lL lC)]) (fun n => ⟨true, false⟩) (fun _ => []) (fun n => match n with | 9 => some [] | _ => none) (fun n => match n with | 4 => [(9, [(31, .bool)])] | 7 => [(8, [(55, .bool)]), (10, [(65, .bool)])] | _ => []) Try.func5 rfl (by rw [Try.ntmps5]; simp) (Eq.mp (by kernel_rfl) H)

theorem vc_muezzinlaw11_CodelMeans (count : Int) (gap : Int) (interval : Int) (h0 : Heap) (Post : Value → Heap → Prop) (H :
Runs Try.prog 9 #[] h0 fun r1 h1 =>
∃ t1 : Bool,
r1 = (.bool t1) ∧
bcase (!t1) (
Post (.bool false) h1) (
(0 ≤ count ∧ 0 < (1000 : Int)) ∧
fits .u32 ((count % (1000 : Int)) + (2 : Int)) ∧
Runs Try.prog 10 #[(.int .i64 interval), (.int .i64 (1000 : Int))] h1 fun r2 h2 =>
∃ n1 : Int,
r2 = (.int .i64 n1) ∧
fits .i64 (n1 + (1 : Int)) ∧
Runs Try.prog 10 #[(.int .i64 gap), (.int .i64 (32 : Int))] h2 fun r3 h3 =>
∃ n2 : Int,
r3 = (.int .i64 n2) ∧
∀ (b1 : Nat) (h4 : Heap), b1 = h3.size → h4 = h3.push (.cells ([(.int .i64 (0 : Int)), (.int .i64 (0 : Int))] : List Value).toArray 26) →
((([(.int .i64 (0 : Int)), (.int .i64 (2000 : Int))] : List Value)).length = 2 ∧ wrs h4 b1 0 2 ∧ ∀ u ∈ (([(.int .i64 (0 : Int)), (.int .i64 (2000 : Int))] : List Value) : List Value), u.oneCell' = true) ∧ ∀ h5 : Heap, h5 = setr h4 b1 0 ([(.int .i64 (0 : Int)), (.int .i64 (2000 : Int))] : List Value) →
fits .i64 ((1073741824 : Int) - (1 : Int)) ∧
fits .i64 (n2 * (n1 + (1 : Int))) ∧
fits .i64 ((1073741824 : Int) - (n2 * (n1 + (1 : Int)))) ∧
fits .u32 (((count % (1000 : Int)) + (2 : Int)) + (5 : Int)) ∧
∀ (b2 : Nat) (h6 : Heap), b2 = h5.size → h6 = h5.push (.cells ([(.int .i64 (0 : Int)), (.int .i64 (0 : Int)), (.int .u32 (0 : Int)), (.int .u32 (0 : Int)), (.bool false)] : List Value).toArray 29) →
((([(.int .i64 ((1073741824 : Int) - (1 : Int))), (.int .i64 ((1073741824 : Int) - (n2 * (n1 + (1 : Int))))), (.int .u32 (((count % (1000 : Int)) + (2 : Int)) + (5 : Int))), (.int .u32 (3 : Int)), (.bool false)] : List Value)).length = 5 ∧ wrs h6 b2 0 5 ∧ ∀ u ∈ (([(.int .i64 ((1073741824 : Int) - (1 : Int))), (.int .i64 ((1073741824 : Int) - (n2 * (n1 + (1 : Int))))), (.int .u32 (((count % (1000 : Int)) + (2 : Int)) + (5 : Int))), (.int .u32 (3 : Int)), (.bool false)] : List Value) : List Value), u.oneCell' = true) ∧ ∀ h7 : Heap, h7 = setr h6 b2 0 ([(.int .i64 ((1073741824 : Int) - (1 : Int))), (.int .i64 ((1073741824 : Int) - (n2 * (n1 + (1 : Int))))), (.int .u32 (((count % (1000 : Int)) + (2 : Int)) + (5 : Int))), (.int .u32 (3 : Int)), (.bool false)] : List Value) →
∃ cs1 : List Value, row h7 b2 0 5 = some cs1 ∧
∃ cs2 : List Value, row h7 b1 0 2 = some cs2 ∧
∃ cs3 : List Value, row h7 b1 0 2 = some cs3 ∧
∃ cs4 : List Value, row h7 b1 0 2 = some cs4 ∧
(cs2).length = 2 ∧
(cs3).length = 2 ∧
(cs4).length = 2 ∧
∀ (b3 : Nat) (h8 : Heap), b3 = h7.size → h8 = h7.push (.cells (((cs2) ++ ((cs3) ++ ((cs4) ++ [])))).toArray 26) →
Runs Try.prog 11 #[(.agg (cs1).toArray), (.int .i64 (1073741824 : Int)), (.int .i64 (10 : Int)), (.int .i64 (n1 + (1 : Int))), (.int .i64 (1048576 : Int)), (.slice (some ⟨b3, 0, none⟩) 3 3)] h8 fun r4 h9 =>
∃ cs5 : List Value,
∃ n3 : Int,
∃ t2 : Bool,
r4 = (.tuple #[(.agg (cs5).toArray), (.int .i64 n3), (.bool t2)]) ∧
∀ (b4 : Nat) (h10 : Heap), b4 = h9.size → h10 = h9.push (.cells ([(.int .i64 (0 : Int)), (.int .i64 (0 : Int)), (.int .u32 (0 : Int)), (.int .u32 (0 : Int)), (.bool false)] : List Value).toArray 29) →
(((cs5)).length = 5 ∧ wrs h10 b4 0 5 ∧ ∀ u ∈ ((cs5) : List Value), u.oneCell' = true) ∧ ∀ h11 : Heap, h11 = setr h10 b4 0 (cs5) →
bcase (decide (n2 < (16 : Int))) (
fits .u32 (((count % (1000 : Int)) + (2 : Int)) + (2 : Int)) ∧
∃ J1 : Bool → Heap → Prop, (
bcase t1 (
J1 t2 h11) (
J1 false h11)) ∧ ∀ _ : Env,
∀ (x1 : Bool) (h12 : Heap), J1 x1 h12 →
∃ J2 : Bool → Heap → Prop, (
bcase x1 (
J2 (decide (n3 = (1 : Int))) h12) (
J2 false h12)) ∧ ∀ _ : Env,
∀ (x2 : Bool) (h13 : Heap), J2 x2 h13 →
∃ J3 : Bool → Heap → Prop, (
bcase x2 (
∃ t3 : Bool, cell h13 b4 4 = some (.bool t3) ∧
J3 t3 h13) (
J3 false h13)) ∧ ∀ _ : Env,
∀ (x3 : Bool) (h14 : Heap), J3 x3 h14 →
∃ J4 : Bool → Heap → Prop, (
bcase x3 (
∃ n4 : Int, cell h14 b4 2 = some (.int .u32 n4) ∧
J4 (decide (n4 = (((count % (1000 : Int)) + (2 : Int)) + (2 : Int)))) h14) (
J4 false h14)) ∧ ∀ _ : Env,
∀ (x4 : Bool) (h15 : Heap), J4 x4 h15 →
∃ J5 : Bool → Heap → Prop, (
bcase x4 (
∃ n5 : Int, cell h15 b4 3 = some (.int .u32 n5) ∧
J5 (decide (n5 = (((count % (1000 : Int)) + (2 : Int)) + (2 : Int)))) h15) (
J5 false h15)) ∧ ∀ _ : Env,
∀ (x5 : Bool) (h16 : Heap), J5 x5 h16 →
∃ J6 : Bool → Heap → Prop, (
bcase x5 (
∃ n6 : Int, cell h16 b4 1 = some (.int .i64 n6) ∧
fits .i64 ((1073741824 : Int) - (1 : Int)) ∧
J6 (decide (((1073741824 : Int) - (1 : Int)) < n6)) h16) (
J6 false h16)) ∧ ∀ _ : Env,
∀ (x6 : Bool) (h17 : Heap), J6 x6 h17 →
bcase x6 (
∃ n7 : Int, cell h17 b4 1 = some (.int .i64 n7) ∧
fits .i64 ((1073741824 : Int) + (n1 + (1 : Int))) ∧
Post (.bool (decide (n7 ≤ ((1073741824 : Int) + (n1 + (1 : Int)))))) h17) (
Post (.bool false) h17)) (
∃ J7 : Bool → Heap → Prop, (
bcase t1 (
J7 t2 h11) (
J7 false h11)) ∧ ∀ _ : Env,
∀ (x7 : Bool) (h18 : Heap), J7 x7 h18 →
∃ J8 : Bool → Heap → Prop, (
bcase x7 (
J8 (decide (n3 = (1 : Int))) h18) (
J8 false h18)) ∧ ∀ _ : Env,
∀ (x8 : Bool) (h19 : Heap), J8 x8 h19 →
∃ J9 : Bool → Heap → Prop, (
bcase x8 (
∃ t4 : Bool, cell h19 b4 4 = some (.bool t4) ∧
J9 t4 h19) (
J9 false h19)) ∧ ∀ _ : Env,
∀ (x9 : Bool) (h20 : Heap), J9 x9 h20 →
∃ J10 : Bool → Heap → Prop, (
bcase x9 (
∃ n8 : Int, cell h20 b4 2 = some (.int .u32 n8) ∧
J10 (decide (n8 = (1 : Int))) h20) (
J10 false h20)) ∧ ∀ _ : Env,
∀ (x10 : Bool) (h21 : Heap), J10 x10 h21 →
∃ J11 : Bool → Heap → Prop, (
bcase x10 (
∃ n9 : Int, cell h21 b4 3 = some (.int .u32 n9) ∧
J11 (decide (n9 = (1 : Int))) h21) (
J11 false h21)) ∧ ∀ _ : Env,
∀ (x11 : Bool) (h22 : Heap), J11 x11 h22 →
∃ J12 : Bool → Heap → Prop, (
bcase x11 (
∃ n10 : Int, cell h22 b4 1 = some (.int .i64 n10) ∧
fits .i64 ((1073741824 : Int) - (1 : Int)) ∧
J12 (decide (((1073741824 : Int) - (1 : Int)) < n10)) h22) (
J12 false h22)) ∧ ∀ _ : Env,
∀ (x12 : Bool) (h23 : Heap), J12 x12 h23 →
bcase x12 (
∃ n11 : Int, cell h23 b4 1 = some (.int .i64 n11) ∧
fits .i64 ((1073741824 : Int) + (n1 + (1 : Int))) ∧
Post (.bool (decide (n11 ≤ ((1073741824 : Int) + (n1 + (1 : Int)))))) h23) (
Post (.bool false) h23)))) :
    Runs Try.prog 6 #[(.int .u32 count), (.int .i64 gap), (.int .i64 interval)] h0 Post :=
  runs_of (args := [(.int .u32 count), (.int .i64 gap), (.int .i64 interval)]) (fun n => ⟨true, false⟩) (fun _ => []) (fun _ => none) (fun n => match n with | 14 => [(4, [(56, .bool)]), (4, [(60, .bool)]), (4, [(64, .bool)]), (6, [(70, .bool)]), (6, [(76, .bool)]), (7, [(83, .bool)])] | _ => []) Try.func6 rfl (by rw [Try.ntmps6]; simp) (Eq.mp (by kernel_rfl) H)

theorem vc_muezzinlaw11_CodelSays (c : List Value) (now : Int) (target : Int) (interval : Int) (bytes : Int) (l : Option Addr) (lL lC : Nat) (h0 : Heap) (Post : Value → Heap → Prop) (H :
∀ (b1 : Nat) (h1 : Heap), b1 = h0.size → h1 = h0.push (.cells (c).toArray 29) →
Runs Try.prog 9 #[] h1 fun r1 h2 =>
∃ t1 : Bool,
r1 = (.bool t1) ∧
bcase (!t1) (
Post (.bool false) h2) (
∃ J1 : Bool → Heap → Prop, (
∃ cs1 : List Value, row h2 b1 0 5 = some cs1 ∧
Runs Try.prog 12 #[(.agg (cs1).toArray), (.int .i64 now), (.slice l lL lC)] h2 fun r2 h3 =>
∃ t2 : Bool,
r2 = (.bool t2) ∧
bcase (!t2) (
J1 true h3) (
J1 (decide (bytes < (0 : Int))) h3)) ∧ ∀ _ : Env,
∀ (x1 : Bool) (h4 : Heap), J1 x1 h4 →
bcase x1 (
Post (.bool t1) h4) (
bcase (decide ((1073741824 : Int) < bytes)) (
Post (.bool t1) h4) (
∃ cs2 : List Value, row h4 b1 0 5 = some cs2 ∧
Runs Try.prog 11 #[(.agg (cs2).toArray), (.int .i64 now), (.int .i64 target), (.int .i64 interval), (.int .i64 bytes), (.slice l lL lC)] h4 fun r3 h5 =>
∃ cs3 : List Value,
∃ n1 : Int,
∃ t3 : Bool,
r3 = (.tuple #[(.agg (cs3).toArray), (.int .i64 n1), (.bool t3)]) ∧
∀ (b2 : Nat) (h6 : Heap), b2 = h5.size → h6 = h5.push (.cells ([(.int .i64 (0 : Int)), (.int .i64 (0 : Int)), (.int .u32 (0 : Int)), (.int .u32 (0 : Int)), (.bool false)] : List Value).toArray 29) →
(((cs3)).length = 5 ∧ wrs h6 b2 0 5 ∧ ∀ u ∈ ((cs3) : List Value), u.oneCell' = true) ∧ ∀ h7 : Heap, h7 = setr h6 b2 0 (cs3) →
∃ cs4 : List Value, row h7 b1 0 5 = some cs4 ∧
Runs Try.prog 14 #[(.agg (cs4).toArray)] h7 fun r4 h8 =>
∃ cs5 : List Value,
r4 = (.agg (cs5).toArray) ∧
Runs Try.prog 15 #[(.agg (cs5).toArray), (.int .i64 now), (.int .i64 target), (.int .i64 interval), (.int .i64 bytes), (.slice l lL lC)] h8 fun r5 h9 =>
∃ cs6 : List Value,
∃ n2 : Int,
∃ t4 : Bool,
r5 = (.tuple #[(.agg (cs6).toArray), (.int .i64 n2), (.bool t4)]) ∧
∀ (b3 : Nat) (h10 : Heap), b3 = h9.size → h10 = h9.push (.cells ([(.int .i64 (0 : Int)), (.int .i64 (0 : Int)), (.int .u32 (0 : Int)), (.int .u32 (0 : Int)), (.bool false)] : List Value).toArray 36) →
(((cs6)).length = 5 ∧ wrs h10 b3 0 5 ∧ ∀ u ∈ ((cs6) : List Value), u.oneCell' = true) ∧ ∀ h11 : Heap, h11 = setr h10 b3 0 (cs6) →
∃ J2 : Bool → Heap → Prop, (
bcase t1 (
∃ cs7 : List Value, row h11 b2 0 5 = some cs7 ∧
∃ cs8 : List Value, row h11 b3 0 5 = some cs8 ∧
Runs Try.prog 13 #[(.agg (cs7).toArray), (.agg (cs8).toArray)] h11 fun r6 h12 =>
∃ t5 : Bool,
r6 = (.bool t5) ∧
J2 t5 h12) (
J2 false h11)) ∧ ∀ _ : Env,
∀ (x2 : Bool) (h13 : Heap), J2 x2 h13 →
∃ J3 : Bool → Heap → Prop, (
bcase x2 (
J3 (decide (n1 = n2)) h13) (
J3 false h13)) ∧ ∀ _ : Env,
∀ (x3 : Bool) (h14 : Heap), J3 x3 h14 →
bcase x3 (
Post (.bool (t3 == t4)) h14) (
Post (.bool false) h14))))) :
    Runs Try.prog 7 #[(.agg (c).toArray), (.int .i64 now), (.int .i64 target), (.int .i64 interval), (.int .i64 bytes), (.slice l lL lC)] h0 Post :=
  runs_of (args := [(.agg (c).toArray), (.int .i64 now), (.int .i64 target), (.int .i64 interval), (.int .i64 bytes), (.slice l lL lC)]) (fun n => ⟨true, false⟩) (fun _ => []) (fun _ => none) (fun n => match n with | 4 => [(9, [(31, .bool)])] | 8 => [(6, [(65, .bool)]), (5, [(70, .bool)])] | _ => []) Try.func7 rfl (by rw [Try.ntmps7]; simp) (Eq.mp (by kernel_rfl) H)

theorem vc_muezzinlaw11_CodelRuns (l : Option Addr) (lL lC : Nat) (gaps : Option Addr) (gapsL gapsC : Nat) (target : Int) (interval : Int) (h0 : Heap) (Post : Value → Heap → Prop) (H :
Runs Try.prog 9 #[] h0 fun r1 h1 =>
∃ t1 : Bool,
r1 = (.bool t1) ∧
bcase (!t1) (
Post (.bool false) h1) (
∃ J1 : Bool → Heap → Prop, (
bcase (decide ((40 : Int) < ((lL : Nat) : Int))) (
J1 true h1) (
J1 (decide ((60 : Int) < ((gapsL : Nat) : Int))) h1)) ∧ ∀ _ : Env,
∀ (x1 : Bool) (h2 : Heap), J1 x1 h2 →
∃ J2 : Bool → Heap → Prop, (
bcase x1 (
J2 true h2) (
J2 (decide (target < (0 : Int))) h2)) ∧ ∀ _ : Env,
∀ (x2 : Bool) (h3 : Heap), J2 x2 h3 →
∃ J3 : Bool → Heap → Prop, (
bcase x2 (
J3 true h3) (
J3 (decide ((1073741824 : Int) < target)) h3)) ∧ ∀ _ : Env,
∀ (x3 : Bool) (h4 : Heap), J3 x3 h4 →
∃ J4 : Bool → Heap → Prop, (
bcase x3 (
J4 true h4) (
J4 (decide (interval < (0 : Int))) h4)) ∧ ∀ _ : Env,
∀ (x4 : Bool) (h5 : Heap), J4 x4 h5 →
bcase x4 (
Post (.bool t1) h5) (
bcase (decide ((1073741824 : Int) < interval)) (
Post (.bool t1) h5) (
∃ (I1 : Int → Int → Int → Heap → Prop) (m1 : Int → Int → Int → Heap → Nat), I1 (0 : Int) (0 : Int) (0 : Int) h5 ∧ ∀ _ : Env,
∀ (now_1 : Int) (bytes_1 : Int) (i_1 : Int) (h6 : Heap), I1 now_1 bytes_1 i_1 h6 →
bcase (decide (i_1 < ((lL : Nat) : Int))) (
∃ J5 : Bool → Heap → Prop, (
(0 ≤ i_1 ∧ i_1 < ((lL : Nat) : Int)) ∧
onAddr l fun b1 o1 =>
∃ n1 : Int, cell h6 b1 (o1 + ((i_1).toNat * 2)) = some (.int .i64 n1) ∧
bcase (decide (n1 < (0 : Int))) (
J5 true h6) (
(0 ≤ i_1 ∧ i_1 < ((lL : Nat) : Int)) ∧
onAddr l fun b2 o2 =>
∃ n2 : Int, cell h6 b2 (o2 + ((i_1).toNat * 2)) = some (.int .i64 n2) ∧
J5 (decide ((1099511627776 : Int) < n2)) h6)) ∧ ∀ _ : Env,
∀ (x8 : Bool) (h7 : Heap), J5 x8 h7 →
∃ J6 : Bool → Heap → Prop, (
bcase x8 (
J6 true h7) (
(0 ≤ i_1 ∧ i_1 < ((lL : Nat) : Int)) ∧
onAddr l fun b3 o3 =>
∃ n3 : Int, cell h7 b3 ((o3 + ((i_1).toNat * 2)) + 1) = some (.int .i64 n3) ∧
J6 (decide (n3 < (0 : Int))) h7)) ∧ ∀ _ : Env,
∀ (x9 : Bool) (h8 : Heap), J6 x9 h8 →
bcase x9 (
Post (.bool t1) h8) (
(0 ≤ i_1 ∧ i_1 < ((lL : Nat) : Int)) ∧
onAddr l fun b4 o4 =>
∃ n4 : Int, cell h8 b4 ((o4 + ((i_1).toNat * 2)) + 1) = some (.int .i64 n4) ∧
bcase (decide ((1048576 : Int) < n4)) (
Post (.bool t1) h8) (
(0 ≤ i_1 ∧ i_1 < ((lL : Nat) : Int)) ∧
onAddr l fun b5 o5 =>
∃ n5 : Int, cell h8 b5 (o5 + ((i_1).toNat * 2)) = some (.int .i64 n5) ∧
(0 ≤ i_1 ∧ i_1 < ((lL : Nat) : Int)) ∧
onAddr l fun b6 o6 =>
∃ n6 : Int, cell h8 b6 ((o6 + ((i_1).toNat * 2)) + 1) = some (.int .i64 n6) ∧
fits .i64 (bytes_1 + n6) ∧
fits .i64 (i_1 + (1 : Int)) ∧
I1 (max now_1 n5) (bytes_1 + n6) (i_1 + (1 : Int)) h8 ∧ m1 (max now_1 n5) (bytes_1 + n6) (i_1 + (1 : Int)) h8 < m1 now_1 bytes_1 i_1 h6))) (
∀ (b7 : Nat) (h9 : Heap), b7 = h6.size → h9 = h6.push (.cells ([(.int .i64 (0 : Int)), (.int .i64 (0 : Int)), (.int .u32 (0 : Int)), (.int .u32 (0 : Int)), (.bool false)] : List Value).toArray 29) →
∀ (b8 : Nat) (h10 : Heap), b8 = h9.size → h10 = h9.push (.cells ([(.int .i64 (0 : Int)), (.int .i64 (0 : Int)), (.int .u32 (0 : Int)), (.int .u32 (0 : Int)), (.bool false)] : List Value).toArray 36) →
∃ J7 : Option Addr → Nat → Nat → Heap → Prop, (
∀ (b9 : Nat) (h11 : Heap), b9 = h10.size → h11 = h10.push (.cells ([] : List Value).toArray 26) →
∃ news1 : List Value, (src h11 l (lL * 2) news1 ∧ ∀ u ∈ news1, u.oneCell' = true) ∧
((0 + lL) ≤ 0 →
wrs h11 b9 0 news1.length ∧ ∀ h13 : Heap, h13 = setr h11 b9 0 news1 →
J7 (some ⟨b9, 0, none⟩) (0 + lL) 0 h13) ∧
(0 < (0 + lL) →
(((0 + lL)) * 16 ≤ 140737488355328 ∧ 0 < 16) ∧ ∃ olds1 : List Value, row h11 b9 0 0 = some olds1 ∧ ∀ (cap1 : Nat) (zs1 : List Value) (b10 : Nat) (h12 : Heap), (0 + lL) ≤ cap1 → zs1.length = (cap1 - (0 + lL)) * 2 → b10 = h11.size → h12 = h11.push (.cells (olds1 ++ news1 ++ zs1).toArray 26) →
J7 (some ⟨b10, 0, none⟩) (0 + lL) cap1 h12)) ∧ ∀ _ : Env,
∀ (rest_1 : Option Addr) (rest_1l rest_1c : Nat) (h14 : Heap), J7 rest_1 rest_1l rest_1c h14 →
∃ (I2 : Int → Int → Option Addr → Nat → Nat → Int → Heap → Prop) (m2 : Int → Int → Option Addr → Nat → Nat → Int → Heap → Nat), I2 now_1 bytes_1 rest_1 rest_1l rest_1c (0 : Int) h14 ∧ ∀ _ : Env,
∀ (now_2 : Int) (bytes_2 : Int) (rest_2 : Option Addr) (rest_2l rest_2c : Nat) (i_2 : Int) (h15 : Heap), I2 now_2 bytes_2 rest_2 rest_2l rest_2c i_2 h15 →
bcase (decide (i_2 < ((gapsL : Nat) : Int))) (
∃ J8 : Int → Int → Option Addr → Nat → Nat → Heap → Prop, (
(0 ≤ i_2 ∧ i_2 < ((gapsL : Nat) : Int)) ∧
onAddr gaps fun b11 o7 =>
∃ n7 : Int, cell h15 b11 (o7 + (i_2).toNat) = some (.int .i64 n7) ∧
Runs Try.prog 10 #[(.int .i64 n7), (.int .i64 (1048576 : Int))] h15 fun r2 h16 =>
∃ n8 : Int,
r2 = (.int .i64 n8) ∧
fits .i64 (now_2 + n8) ∧
∃ cs1 : List Value, row h16 b7 0 5 = some cs1 ∧
Runs Try.prog 11 #[(.agg (cs1).toArray), (.int .i64 (now_2 + n8)), (.int .i64 target), (.int .i64 interval), (.int .i64 bytes_2), (.slice rest_2 rest_2l rest_2c)] h16 fun r3 h17 =>
∃ cs2 : List Value,
∃ n9 : Int,
∃ t2 : Bool,
r3 = (.tuple #[(.agg (cs2).toArray), (.int .i64 n9), (.bool t2)]) ∧
∀ (b12 : Nat) (h18 : Heap), b12 = h17.size → h18 = h17.push (.cells ([(.int .i64 (0 : Int)), (.int .i64 (0 : Int)), (.int .u32 (0 : Int)), (.int .u32 (0 : Int)), (.bool false)] : List Value).toArray 29) →
(((cs2)).length = 5 ∧ wrs h18 b12 0 5 ∧ ∀ u ∈ ((cs2) : List Value), u.oneCell' = true) ∧ ∀ h19 : Heap, h19 = setr h18 b12 0 (cs2) →
∃ cs3 : List Value, row h19 b8 0 5 = some cs3 ∧
Runs Try.prog 15 #[(.agg (cs3).toArray), (.int .i64 (now_2 + n8)), (.int .i64 target), (.int .i64 interval), (.int .i64 bytes_2), (.slice rest_2 rest_2l rest_2c)] h19 fun r4 h20 =>
∃ cs4 : List Value,
∃ n10 : Int,
∃ t3 : Bool,
r4 = (.tuple #[(.agg (cs4).toArray), (.int .i64 n10), (.bool t3)]) ∧
∀ (b13 : Nat) (h21 : Heap), b13 = h20.size → h21 = h20.push (.cells ([(.int .i64 (0 : Int)), (.int .i64 (0 : Int)), (.int .u32 (0 : Int)), (.int .u32 (0 : Int)), (.bool false)] : List Value).toArray 36) →
(((cs4)).length = 5 ∧ wrs h21 b13 0 5 ∧ ∀ u ∈ ((cs4) : List Value), u.oneCell' = true) ∧ ∀ h22 : Heap, h22 = setr h21 b13 0 (cs4) →
∃ J9 : Bool → Heap → Prop, (
∃ cs5 : List Value, row h22 b12 0 5 = some cs5 ∧
∃ cs6 : List Value, row h22 b13 0 5 = some cs6 ∧
Runs Try.prog 13 #[(.agg (cs5).toArray), (.agg (cs6).toArray)] h22 fun r5 h23 =>
∃ t4 : Bool,
r5 = (.bool t4) ∧
bcase (!t4) (
J9 true h23) (
J9 (!decide (n9 = n10)) h23)) ∧ ∀ _ : Env,
∀ (x15 : Bool) (h24 : Heap), J9 x15 h24 →
∃ J10 : Bool → Heap → Prop, (
bcase x15 (
J10 true h24) (
J10 (!(t2 == t3)) h24)) ∧ ∀ _ : Env,
∀ (x16 : Bool) (h25 : Heap), J10 x16 h25 →
bcase x16 (
Post (.bool false) h25) (
bcase (decide (((rest_2l : Nat) : Int) < n9)) (
Post (.bool false) h25) (
∃ cs7 : List Value, row h25 b12 0 5 = some cs7 ∧
(((cs7)).length = 5 ∧ wrs h25 b7 0 5 ∧ ∀ u ∈ ((cs7) : List Value), u.oneCell' = true) ∧ ∀ h26 : Heap, h26 = setr h25 b7 0 (cs7) →
∃ cs8 : List Value, row h26 b13 0 5 = some cs8 ∧
(((cs8)).length = 5 ∧ wrs h26 b8 0 5 ∧ ∀ u ∈ ((cs8) : List Value), u.oneCell' = true) ∧ ∀ h27 : Heap, h27 = setr h26 b8 0 (cs8) →
∃ J11 : Int → Heap → Prop, (
bcase t2 (
fits .i64 (n9 + (1 : Int)) ∧
J11 (n9 + (1 : Int)) h27) (
J11 n9 h27)) ∧ ∀ _ : Env,
∀ (n_1 : Int) (h28 : Heap), J11 n_1 h28 →
∃ (I3 : Int → Int → Heap → Prop) (m3 : Int → Int → Heap → Nat), I3 bytes_2 (0 : Int) h28 ∧ ∀ _ : Env,
∀ (bytes_3 : Int) (k_1 : Int) (h29 : Heap), I3 bytes_3 k_1 h29 →
bcase (decide (k_1 < n_1)) (
(0 ≤ k_1 ∧ k_1 < ((rest_2l : Nat) : Int)) ∧
onAddr rest_2 fun b14 o8 =>
∃ n11 : Int, cell h29 b14 ((o8 + ((k_1).toNat * 2)) + 1) = some (.int .i64 n11) ∧
fits .i64 (bytes_3 - n11) ∧
fits .i64 (k_1 + (1 : Int)) ∧
I3 (bytes_3 - n11) (k_1 + (1 : Int)) h29 ∧ m3 (bytes_3 - n11) (k_1 + (1 : Int)) h29 < m3 bytes_3 k_1 h29) (
∀ (b15 : Nat) (h30 : Heap), b15 = h29.size → h30 = h29.push (.cells ([] : List Value).toArray 26) →
(0 ≤ n_1 ∧ n_1 ≤ ((rest_2l : Nat) : Int)) ∧
∃ news2 : List Value, (src h30 (slcAddr rest_2 (n_1).toNat rest_2c ((n_1).toNat * 2)) ((rest_2l - (n_1).toNat) * 2) news2 ∧ ∀ u ∈ news2, u.oneCell' = true) ∧
((0 + (rest_2l - (n_1).toNat)) ≤ 0 →
wrs h30 b15 0 news2.length ∧ ∀ h32 : Heap, h32 = setr h30 b15 0 news2 →
J8 (now_2 + n8) bytes_3 (some ⟨b15, 0, none⟩) (0 + (rest_2l - (n_1).toNat)) 0 h32) ∧
(0 < (0 + (rest_2l - (n_1).toNat)) →
(((0 + (rest_2l - (n_1).toNat))) * 16 ≤ 140737488355328 ∧ 0 < 16) ∧ ∃ olds2 : List Value, row h30 b15 0 0 = some olds2 ∧ ∀ (cap2 : Nat) (zs2 : List Value) (b16 : Nat) (h31 : Heap), (0 + (rest_2l - (n_1).toNat)) ≤ cap2 → zs2.length = (cap2 - (0 + (rest_2l - (n_1).toNat))) * 2 → b16 = h30.size → h31 = h30.push (.cells (olds2 ++ news2 ++ zs2).toArray 26) →
J8 (now_2 + n8) bytes_3 (some ⟨b16, 0, none⟩) (0 + (rest_2l - (n_1).toNat)) cap2 h31))))) ∧ ∀ _ : Env,
∀ (now_3 : Int) (bytes_4 : Int) (rest_3 : Option Addr) (rest_3l rest_3c : Nat) (h33 : Heap), J8 now_3 bytes_4 rest_3 rest_3l rest_3c h33 →
fits .i64 (i_2 + (1 : Int)) ∧
I2 now_3 bytes_4 rest_3 rest_3l rest_3c (i_2 + (1 : Int)) h33 ∧ m2 now_3 bytes_4 rest_3 rest_3l rest_3c (i_2 + (1 : Int)) h33 < m2 now_2 bytes_2 rest_2 rest_2l rest_2c i_2 h15) (
Post (.bool t1) h15)))))) :
    Runs Try.prog 8 #[(.slice l lL lC), (.slice gaps gapsL gapsC), (.int .i64 target), (.int .i64 interval)] h0 Post :=
  runs_of (args := [(.slice l lL lC), (.slice gaps gapsL gapsC), (.int .i64 target), (.int .i64 interval)]) (fun n => ⟨true, false⟩) (fun n => match n with | 0 => [(10, .int .i64), (11, .int .i64), (12, .int .i64)] | 2 => [(10, .int .i64), (11, .int .i64), (15, .slice), (16, .int .i64)] | 4 => [(11, .int .i64), (23, .int .i64)] | _ => []) (fun n => match n with | 18 => some [(15, .slice)] | 20 => some [(10, .int .i64), (11, .int .i64), (15, .slice)] | 30 => some [(18, .int .i64)] | _ => none) (fun n => match n with | 4 => [(8, [(34, .bool)]), (4, [(38, .bool)]), (4, [(42, .bool)]), (4, [(46, .bool)])] | 11 => [(14, [(71, .bool)]), (8, [(79, .bool)])] | 24 => [(9, [(149, .bool)]), (5, [(154, .bool)])] | _ => []) Try.func8 rfl (by rw [Try.ntmps8]; simp) (Eq.mp (by kernel_rfl) H)
end Go.Proofs.Ytpecigkicmgbdaa
