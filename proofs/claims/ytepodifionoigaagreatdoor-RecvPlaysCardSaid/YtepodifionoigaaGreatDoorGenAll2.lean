import Derived.Test.YtepodifionoigaaGreatDoorRows
import Derived.Test.YtepodifionoigaaGreatDoorVc
set_option linter.unusedVariables false
set_option linter.unusedSimpArgs false
set_option maxRecDepth 100000
namespace Go.Proofs.YtepodifionoigaaGreatDoor
open Go.Vc
theorem vc_ampdu_Unpack (b : Option Addr) (bL bC : Nat) (h0 : Heap) (Post : Value → Heap → Prop) (H :
∃ (I1 : Option Addr → Nat → Nat → Option Addr → Nat → Nat → Heap → Prop) (m1 : Option Addr → Nat → Nat → Option Addr → Nat → Nat → Heap → Nat), I1 b bL bC none 0 0 h0 ∧ ∀ _ : Env,
∀ (b_1 : Option Addr) (b_1l b_1c : Nat) (out_1 : Option Addr) (out_1l out_1c : Nat) (h1 : Heap), I1 b_1 b_1l b_1c out_1 out_1l out_1c h1 →
bcase (decide ((4 : Int) ≤ ((b_1l : Nat) : Int))) (
Runs Tryz.prog 72 #[(.slice b_1 b_1l b_1c)] h1 fun r1 h2 =>
∃ (s1 : Option Addr) (s1l s1c : Nat),
∃ v1 : Value,
r1 = (.tuple #[(.slice s1 s1l s1c), v1]) ∧
∃ t1 : Bool, ifeqH Tryz.prog h2 true (v1) (.nilIface) = some t1 ∧
bcase (!t1) (
(0 ≤ (4 : Int) ∧ (4 : Int) ≤ ((b_1l : Nat) : Int)) ∧
I1 (slcAddr b_1 4 b_1c 4) (b_1l - 4) (b_1c - 4) out_1 out_1l out_1c h2 ∧ m1 (slcAddr b_1 4 b_1c 4) (b_1l - 4) (b_1c - 4) out_1 out_1l out_1c h2 < m1 b_1 b_1l b_1c out_1 out_1l out_1c h1) (
∀ (b1 : Nat) (h3 : Heap), b1 = h2.size → h3 = h2.push (.cells ([(.slice s1 s1l s1c)] : List Value).toArray 36) →
∃ news1 : List Value, (row h3 b1 0 1 = some news1 ∧ ∀ u ∈ news1, u.oneCell' = true) ∧
appK h3 out_1 out_1l out_1c 1 1 36 24 news1 fun (a1 : Option Addr) (cap1 : Nat) (h4 : Heap) =>
Runs Tryz.prog 73 #[(.int .i64 ((s1l : Nat) : Int))] h4 fun r2 h5 =>
∃ n1 : Int,
r2 = (.int .i64 n1) ∧
fits .i64 ((4 : Int) + n1) ∧
(0 ≤ (min ((b_1l : Nat) : Int) ((4 : Int) + n1)) ∧ (min ((b_1l : Nat) : Int) ((4 : Int) + n1)) ≤ ((b_1l : Nat) : Int)) ∧
I1 (slcAddr b_1 ((min ((b_1l : Nat) : Int) ((4 : Int) + n1))).toNat b_1c (((min ((b_1l : Nat) : Int) ((4 : Int) + n1))).toNat * 1)) (b_1l - ((min ((b_1l : Nat) : Int) ((4 : Int) + n1))).toNat) (b_1c - ((min ((b_1l : Nat) : Int) ((4 : Int) + n1))).toNat) a1 (out_1l + 1) cap1 h5 ∧ m1 (slcAddr b_1 ((min ((b_1l : Nat) : Int) ((4 : Int) + n1))).toNat b_1c (((min ((b_1l : Nat) : Int) ((4 : Int) + n1))).toNat * 1)) (b_1l - ((min ((b_1l : Nat) : Int) ((4 : Int) + n1))).toNat) (b_1c - ((min ((b_1l : Nat) : Int) ((4 : Int) + n1))).toNat) a1 (out_1l + 1) cap1 h5 < m1 b_1 b_1l b_1c out_1 out_1l out_1c h1)) (
Post (.slice out_1 out_1l out_1c) h1)) :
    Runs Tryz.prog 36 #[(.slice b bL bC)] h0 Post :=
  runs_of (args := [(.slice b bL bC)]) (fun n => ⟨true, false⟩) (fun n => match n with | 0 => [(0, .slice), (3, .slice)] | _ => []) (fun _ => none) (fun _ => []) Tryz.func36 rfl (by rw [Tryz.ntmps36]; simp) (Eq.mp (by kernel_rfl) H)

theorem vc_ampdu_part (b : Option Addr) (bL bC : Nat) (h0 : Heap) (Post : Value → Heap → Prop) (H :
bcase (decide (((bL : Nat) : Int) < (4 : Int))) (
∃ v1 : Value, cell h0 1 0 = some v1 ∧
Post (.tuple #[(.slice none 0 0), v1]) h0) (
Runs Tryz.prog 103 #[(.slice b bL bC)] h0 fun r1 h1 =>
∃ n1 : Int,
∃ n2 : Int,
r1 = (.tuple #[(.int .i64 n1), (.int .i64 n2)]) ∧
(0 ≤ (0 : Int) ∧ (0 : Int) ≤ (3 : Int) ∧ (3 : Int) ≤ ((bC : Nat) : Int)) ∧
Runs Tryz.prog 104 #[(.slice (slcAddr b 0 bC 0) 3 bC)] h1 fun r2 h2 =>
∃ t1 : Bool,
r2 = (.bool t1) ∧
bcase (!t1) (
∃ v2 : Value, cell h2 4 0 = some v2 ∧
Post (.tuple #[(.slice none 0 0), v2]) h2) (
(0 ≤ (3 : Int) ∧ (3 : Int) < ((bL : Nat) : Int)) ∧
onAddr b fun b1 o1 =>
∃ n3 : Int, cell h2 b1 (o1 + 3) = some (.int .u8 n3) ∧
bcase (!decide (n3 = (78 : Int))) (
∃ v3 : Value, cell h2 3 0 = some v3 ∧
Post (.tuple #[(.slice none 0 0), v3]) h2) (
bcase (!decide (n2 = (0 : Int))) (
∃ v4 : Value, cell h2 3 0 = some v4 ∧
Post (.tuple #[(.slice none 0 0), v4]) h2) (
bcase (decide (n1 = (0 : Int))) (
∃ v5 : Value, cell h2 3 0 = some v5 ∧
Post (.tuple #[(.slice none 0 0), v5]) h2) (
fits .i64 (((bL : Nat) : Int) - (4 : Int)) ∧
bcase (decide ((((bL : Nat) : Int) - (4 : Int)) < n1)) (
∃ v6 : Value, cell h2 1 0 = some v6 ∧
Post (.tuple #[(.slice none 0 0), v6]) h2) (
fits .i64 ((4 : Int) + n1) ∧
(0 ≤ (4 : Int) ∧ (4 : Int) ≤ ((4 : Int) + n1) ∧ ((4 : Int) + n1) ≤ ((bC : Nat) : Int)) ∧
Runs Tryz.prog 74 #[(.slice (slcAddr b 4 bC 4) ((((4 : Int) + n1)).toNat - 4) (bC - 4))] h2 fun r3 h3 =>
∃ (s1 : Option Addr) (s1l s1c : Nat),
r3 = (.slice s1 s1l s1c) ∧
Post (.tuple #[(.slice s1 s1l s1c), .nilIface]) h3))))))) :
    Runs Tryz.prog 72 #[(.slice b bL bC)] h0 Post :=
  runs_of (args := [(.slice b bL bC)]) (fun n => ⟨true, false⟩) (fun _ => []) (fun _ => none) (fun _ => []) Tryz.func72 rfl (by rw [Tryz.ntmps72]; simp) (Eq.mp (by kernel_rfl) H)

theorem vc_ampdu_up (n : Int) (h0 : Heap) (Post : Value → Heap → Prop) (H :
fits .i64 (n + (4 : Int)) ∧
fits .i64 ((n + (4 : Int)) - (1 : Int)) ∧
(0 ≤ ((n + (4 : Int)) - (1 : Int)) ∧ 0 < (4 : Int) ∧ fits .i64 (((n + (4 : Int)) - (1 : Int)) / (4 : Int))) ∧
fits .i64 ((((n + (4 : Int)) - (1 : Int)) / (4 : Int)) * (4 : Int)) ∧
Post (.int .i64 ((((n + (4 : Int)) - (1 : Int)) / (4 : Int)) * (4 : Int))) h0) :
    Runs Tryz.prog 73 #[(.int .i64 n)] h0 Post :=
  runs_of (args := [(.int .i64 n)]) (fun n => ⟨true, false⟩) (fun _ => []) (fun _ => none) (fun _ => []) Tryz.func73 rfl (by rw [Tryz.ntmps73]; simp) (Eq.mp (by kernel_rfl) H)

theorem vc_ampdu_long (b : Option Addr) (bL bC : Nat) (h0 : Heap) (Post : Value → Heap → Prop) (H :
(0 ≤ (0 : Int) ∧ (0 : Int) < ((bL : Nat) : Int)) ∧
onAddr b fun b1 o1 =>
∃ n1 : Int, cell h0 b1 o1 = some (.int .u8 n1) ∧
fits .i64 n1 ∧
(0 ≤ (1 : Int) ∧ (1 : Int) < ((bL : Nat) : Int)) ∧
onAddr b fun b2 o2 =>
∃ n2 : Int, cell h0 b2 (o2 + 1) = some (.int .u8 n2) ∧
fits .i64 n2 ∧
(0 ≤ (8 : Int) ∧ (8 : Int) ≤ kbits .i64) ∧
fits .i64 (n2 * (256 : Int)) ∧
(0 ≤ (bits .or .i64 n1 (n2 * (256 : Int))) ∧ 0 < (16 : Int) ∧ fits .i64 ((bits .or .i64 n1 (n2 * (256 : Int))) / (16 : Int))) ∧
(0 ≤ (bits .or .i64 n1 (n2 * (256 : Int))) ∧ 0 < (16 : Int)) ∧
Post (.tuple #[(.int .i64 ((bits .or .i64 n1 (n2 * (256 : Int))) / (16 : Int))), (.int .i64 ((bits .or .i64 n1 (n2 * (256 : Int))) % (16 : Int)))]) h0) :
    Runs Tryz.prog 103 #[(.slice b bL bC)] h0 Post :=
  runs_of (args := [(.slice b bL bC)]) (fun n => ⟨true, false⟩) (fun _ => []) (fun _ => none) (fun _ => []) Tryz.func103 rfl (by rw [Tryz.ntmps103]; simp) (Eq.mp (by kernel_rfl) H)

theorem vc_crc_Fits (b : Option Addr) (bL bC : Nat) (h0 : Heap) (Post : Value → Heap → Prop) (H :
bcase (decide ((0 : Int) < ((bL : Nat) : Int))) (
fits .i64 (((bL : Nat) : Int) - (1 : Int)) ∧
(0 ≤ (((bL : Nat) : Int) - (1 : Int)) ∧ (((bL : Nat) : Int) - (1 : Int)) < ((bL : Nat) : Int)) ∧
onAddr b fun b1 o1 =>
∃ n1 : Int, cell h0 b1 (o1 + ((((bL : Nat) : Int) - (1 : Int))).toNat) = some (.int .u8 n1) ∧
fits .i64 (((bL : Nat) : Int) - (1 : Int)) ∧
(0 ≤ (0 : Int) ∧ (0 : Int) ≤ (((bL : Nat) : Int) - (1 : Int)) ∧ (((bL : Nat) : Int) - (1 : Int)) ≤ ((bC : Nat) : Int)) ∧
Runs Tryz.prog 115 #[(.slice (slcAddr b 0 bC 0) ((((bL : Nat) : Int) - (1 : Int))).toNat bC)] h0 fun r1 h1 =>
∃ n2 : Int,
r1 = (.int .u8 n2) ∧
cell h1 b1 (o1 + ((((bL : Nat) : Int) - (1 : Int))).toNat) = some (.int .u8 n1) ∧
Post (.bool (decide (n1 = n2))) h1) (
Post (.bool false) h0)) :
    Runs Tryz.prog 104 #[(.slice b bL bC)] h0 Post :=
  runs_of (args := [(.slice b bL bC)]) (fun n => ⟨true, false⟩) (fun _ => []) (fun _ => none) (fun _ => []) Tryz.func104 rfl (by rw [Tryz.ntmps104]; simp) (Eq.mp (by kernel_rfl) H)

theorem vc_crc_Sum (b : Option Addr) (bL bC : Nat) (h0 : Heap) (Post : Value → Heap → Prop) (H :
∃ (I1 : Int → Int → Heap → Prop) (m1 : Int → Int → Heap → Nat), I1 (255 : Int) (0 : Int) h0 ∧ ∀ _ : Env,
∀ (r_1 : Int) (x2 : Int) (h1 : Heap), I1 r_1 x2 h1 →
bcase (decide (x2 < ((bL : Nat) : Int))) (
(0 ≤ x2 ∧ x2 < ((bL : Nat) : Int)) ∧
onAddr b fun b1 o1 =>
∃ n1 : Int, cell h1 b1 (o1 + (x2).toNat) = some (.int .u8 n1) ∧
∃ (I2 : Int → Int → Int → Heap → Prop) (m2 : Int → Int → Int → Heap → Nat), I2 r_1 n1 (0 : Int) h1 ∧ ∀ _ : Env,
∀ (r_2 : Int) (x_1 : Int) (x5 : Int) (h2 : Heap), I2 r_2 x_1 x5 h2 →
bcase (decide (x5 < (8 : Int))) (
(0 ≤ (7 : Int) ∧ (7 : Int) ≤ kbits .u8) ∧
(0 ≤ (1 : Int) ∧ (1 : Int) ≤ kbits .u8) ∧
bcase (decide ((bits .xor .u8 (r_2 / (128 : Int)) (bits .and .u8 x_1 (1 : Int))) = (1 : Int))) (
(0 ≤ (1 : Int) ∧ (1 : Int) ≤ kbits .u8) ∧
I2 (bits .xor .u8 (IntKind.u8.wrap (r_2 * (2 : Int))) (7 : Int)) (x_1 / (2 : Int)) (IntKind.i64.wrap (x5 + (1 : Int))) h2 ∧ m2 (bits .xor .u8 (IntKind.u8.wrap (r_2 * (2 : Int))) (7 : Int)) (x_1 / (2 : Int)) (IntKind.i64.wrap (x5 + (1 : Int))) h2 < m2 r_2 x_1 x5 h2) (
(0 ≤ (1 : Int) ∧ (1 : Int) ≤ kbits .u8) ∧
I2 (IntKind.u8.wrap (r_2 * (2 : Int))) (x_1 / (2 : Int)) (IntKind.i64.wrap (x5 + (1 : Int))) h2 ∧ m2 (IntKind.u8.wrap (r_2 * (2 : Int))) (x_1 / (2 : Int)) (IntKind.i64.wrap (x5 + (1 : Int))) h2 < m2 r_2 x_1 x5 h2)) (
I1 r_2 (IntKind.i64.wrap (x2 + (1 : Int))) h2 ∧ m1 r_2 (IntKind.i64.wrap (x2 + (1 : Int))) h2 < m1 r_1 x2 h1)) (
Runs Tryz.prog 120 #[(.int .u8 (bits .xor .u8 (255 : Int) r_1))] h1 fun r1 h3 =>
∃ n2 : Int,
r1 = (.int .u8 n2) ∧
Post (.int .u8 n2) h3)) :
    Runs Tryz.prog 115 #[(.slice b bL bC)] h0 Post :=
  runs_of (args := [(.slice b bL bC)]) (fun n => ⟨false, false⟩) (fun n => match n with | 0 => [(3, .int .u8), (9, .int .i64)] | 2 => [(3, .int .u8), (5, .int .u8), (13, .int .i64)] | _ => []) (fun _ => none) (fun _ => []) Tryz.func115 rfl (by rw [Tryz.ntmps115]; simp) (Eq.mp (by kernel_rfl) H)

theorem vc_math_bits_Reverse8 (x : Int) (h0 : Heap) (Post : Value → Heap → Prop) (H :
(0 ≤ x ∧ x < (((⟨#[0, 128, 64, 192, 32, 160, 96, 224, 16, 144, 80, 208, 48, 176, 112, 240, 8, 136, 72, 200, 40, 168, 104, 232, 24, 152, 88, 216, 56, 184, 120, 248, 4, 132, 68, 196, 36, 164, 100, 228, 20, 148, 84, 212, 52, 180, 116, 244, 12, 140, 76, 204, 44, 172, 108, 236, 28, 156, 92, 220, 60, 188, 124, 252, 2, 130, 66, 194, 34, 162, 98, 226, 18, 146, 82, 210, 50, 178, 114, 242, 10, 138, 74, 202, 42, 170, 106, 234, 26, 154, 90, 218, 58, 186, 122, 250, 6, 134, 70, 198, 38, 166, 102, 230, 22, 150, 86, 214, 54, 182, 118, 246, 14, 142, 78, 206, 46, 174, 110, 238, 30, 158, 94, 222, 62, 190, 126, 254, 1, 129, 65, 193, 33, 161, 97, 225, 17, 145, 81, 209, 49, 177, 113, 241, 9, 137, 73, 201, 41, 169, 105, 233, 25, 153, 89, 217, 57, 185, 121, 249, 5, 133, 69, 197, 37, 165, 101, 229, 21, 149, 85, 213, 53, 181, 117, 245, 13, 141, 77, 205, 45, 173, 109, 237, 29, 157, 93, 221, 61, 189, 125, 253, 3, 131, 67, 195, 35, 163, 99, 227, 19, 147, 83, 211, 51, 179, 115, 243, 11, 139, 75, 203, 43, 171, 107, 235, 27, 155, 91, 219, 59, 187, 123, 251, 7, 135, 71, 199, 39, 167, 103, 231, 23, 151, 87, 215, 55, 183, 119, 247, 15, 143, 79, 207, 47, 175, 111, 239, 31, 159, 95, 223, 63, 191, 127, 255]⟩ : ByteArray).size : Nat) : Int)) ∧
Post (.int .u8 (strAt ⟨#[0, 128, 64, 192, 32, 160, 96, 224, 16, 144, 80, 208, 48, 176, 112, 240, 8, 136, 72, 200, 40, 168, 104, 232, 24, 152, 88, 216, 56, 184, 120, 248, 4, 132, 68, 196, 36, 164, 100, 228, 20, 148, 84, 212, 52, 180, 116, 244, 12, 140, 76, 204, 44, 172, 108, 236, 28, 156, 92, 220, 60, 188, 124, 252, 2, 130, 66, 194, 34, 162, 98, 226, 18, 146, 82, 210, 50, 178, 114, 242, 10, 138, 74, 202, 42, 170, 106, 234, 26, 154, 90, 218, 58, 186, 122, 250, 6, 134, 70, 198, 38, 166, 102, 230, 22, 150, 86, 214, 54, 182, 118, 246, 14, 142, 78, 206, 46, 174, 110, 238, 30, 158, 94, 222, 62, 190, 126, 254, 1, 129, 65, 193, 33, 161, 97, 225, 17, 145, 81, 209, 49, 177, 113, 241, 9, 137, 73, 201, 41, 169, 105, 233, 25, 153, 89, 217, 57, 185, 121, 249, 5, 133, 69, 197, 37, 165, 101, 229, 21, 149, 85, 213, 53, 181, 117, 245, 13, 141, 77, 205, 45, 173, 109, 237, 29, 157, 93, 221, 61, 189, 125, 253, 3, 131, 67, 195, 35, 163, 99, 227, 19, 147, 83, 211, 51, 179, 115, 243, 11, 139, 75, 203, 43, 171, 107, 235, 27, 155, 91, 219, 59, 187, 123, 251, 7, 135, 71, 199, 39, 167, 103, 231, 23, 151, 87, 215, 55, 183, 119, 247, 15, 143, 79, 207, 47, 175, 111, 239, 31, 159, 95, 223, 63, 191, 127, 255]⟩ (x).toNat)) h0) :
    Runs Tryz.prog 120 #[(.int .u8 x)] h0 Post :=
  runs_of (args := [(.int .u8 x)]) (fun n => ⟨true, false⟩) (fun _ => []) (fun _ => none) (fun _ => []) Tryz.func120 rfl (by rw [Tryz.ntmps120]; simp) (Eq.mp (by kernel_rfl) H)

theorem vc_muezzinref1_Pack (l : Option Addr) (lL lC : Nat) (h0 : Heap) (Post : Value → Heap → Prop) (H :
bcase (decide (((lL : Nat) : Int) = (0 : Int))) (
Post (.tuple #[(.slice none 0 0), (.int .i64 (103 : Int))]) h0) (
∃ (I1 : Int → Heap → Prop) (m1 : Int → Heap → Nat), I1 (0 : Int) h0 ∧ ∀ _ : Env,
∀ (i_1 : Int) (h1 : Heap), I1 i_1 h1 →
bcase (decide (i_1 < ((lL : Nat) : Int))) (
(0 ≤ i_1 ∧ i_1 < ((lL : Nat) : Int)) ∧
onAddr l fun b1 o1 =>
∃ (s1 : Option Addr) (s1l s1c : Nat), cell h1 b1 (o1 + (i_1).toNat) = some (.slice s1 s1l s1c) ∧
bcase (decide (((s1l : Nat) : Int) < (1 : Int))) (
Post (.tuple #[(.slice none 0 0), (.int .i64 (103 : Int))]) h1) (
(0 ≤ i_1 ∧ i_1 < ((lL : Nat) : Int)) ∧
onAddr l fun b2 o2 =>
∃ (s2 : Option Addr) (s2l s2c : Nat), cell h1 b2 (o2 + (i_1).toNat) = some (.slice s2 s2l s2c) ∧
bcase (decide ((4095 : Int) < ((s2l : Nat) : Int))) (
Post (.tuple #[(.slice none 0 0), (.int .i64 (103 : Int))]) h1) (
fits .i64 (i_1 + (1 : Int)) ∧
I1 (i_1 + (1 : Int)) h1 ∧ m1 (i_1 + (1 : Int)) h1 < m1 i_1 h1))) (
bcase (decide ((64 : Int) < ((lL : Nat) : Int))) (
Post (.tuple #[(.slice none 0 0), (.int .i64 (104 : Int))]) h1) (
Runs Tryz.prog 44 #[(.slice l lL lC)] h1 fun r1 h2 =>
∃ (s3 : Option Addr) (s3l s3c : Nat),
r1 = (.slice s3 s3l s3c) ∧
Runs Tryz.prog 43 #[(.slice s3 s3l s3c)] h2 fun r2 h3 =>
∃ n1 : Int,
r2 = (.int .i64 n1) ∧
bcase (decide ((65535 : Int) < n1)) (
Post (.tuple #[(.slice none 0 0), (.int .i64 (104 : Int))]) h3) (
∃ (I2 : Option Addr → Nat → Nat → Int → Heap → Prop) (m2 : Option Addr → Nat → Nat → Int → Heap → Nat), I2 none 0 0 (0 : Int) h3 ∧ ∀ _ : Env,
∀ (b_1 : Option Addr) (b_1l b_1c : Nat) (i_2 : Int) (h4 : Heap), I2 b_1 b_1l b_1c i_2 h4 →
bcase (decide (i_2 < ((lL : Nat) : Int))) (
∃ (I3 : Option Addr → Nat → Nat → Heap → Prop) (m3 : Option Addr → Nat → Nat → Heap → Nat), I3 b_1 b_1l b_1c h4 ∧ ∀ _ : Env,
∀ (b_2 : Option Addr) (b_2l b_2c : Nat) (h5 : Heap), I3 b_2 b_2l b_2c h5 →
(0 ≤ ((b_2l : Nat) : Int) ∧ 0 < (4 : Int)) ∧
bcase (!decide ((((b_2l : Nat) : Int) % (4 : Int)) = (0 : Int))) (
∀ (b3 : Nat) (h6 : Heap), b3 = h5.size → h6 = h5.push (.cells ([(.int .u8 (0 : Int))] : List Value).toArray 5) →
∃ news1 : List Value, (row h6 b3 0 1 = some news1 ∧ ∀ u ∈ news1, u.oneCell' = true) ∧
appK h6 b_2 b_2l b_2c 1 1 5 1 news1 fun (a1 : Option Addr) (cap1 : Nat) (h7 : Heap) =>
I3 a1 (b_2l + 1) cap1 h7 ∧ m3 a1 (b_2l + 1) cap1 h7 < m3 b_2 b_2l b_2c h5) (
(0 ≤ i_2 ∧ i_2 < ((lL : Nat) : Int)) ∧
onAddr l fun b4 o3 =>
∃ (s4 : Option Addr) (s4l s4c : Nat), cell h5 b4 (o3 + (i_2).toNat) = some (.slice s4 s4l s4c) ∧
fits .i64 (((s4l : Nat) : Int) * (16 : Int)) ∧
Runs Tryz.prog 45 #[(.slice none 0 0), (.int .i64 (((s4l : Nat) : Int) * (16 : Int)))] h5 fun r3 h8 =>
∃ (s5 : Option Addr) (s5l s5c : Nat),
r3 = (.slice s5 s5l s5c) ∧
(0 ≤ (0 : Int) ∧ (0 : Int) < ((s5l : Nat) : Int)) ∧
onAddr s5 fun b5 o4 =>
∃ n2 : Int, cell h8 b5 o4 = some (.int .u8 n2) ∧
(0 ≤ (1 : Int) ∧ (1 : Int) < ((s5l : Nat) : Int)) ∧
onAddr s5 fun b6 o5 =>
∃ n3 : Int, cell h8 b6 (o5 + 1) = some (.int .u8 n3) ∧
Runs Tryz.prog 46 #[(.slice s5 s5l s5c)] h8 fun r4 h9 =>
∃ n4 : Int,
r4 = (.int .u8 n4) ∧
cell h9 b6 (o5 + 1) = some (.int .u8 n3) ∧
cell h9 b5 o4 = some (.int .u8 n2) ∧
∀ (b7 : Nat) (h10 : Heap), b7 = h9.size → h10 = h9.push (.cells ([(.int .u8 n2), (.int .u8 n3), (.int .u8 n4), (.int .u8 (78 : Int))] : List Value).toArray 5) →
∃ news2 : List Value, (row h10 b7 0 4 = some news2 ∧ ∀ u ∈ news2, u.oneCell' = true) ∧
appK h10 b_2 b_2l b_2c 4 1 5 1 news2 fun (a2 : Option Addr) (cap2 : Nat) (h11 : Heap) =>
(0 ≤ i_2 ∧ i_2 < ((lL : Nat) : Int)) ∧
onAddr l fun b8 o6 =>
∃ (s6 : Option Addr) (s6l s6c : Nat), cell h11 b8 (o6 + (i_2).toNat) = some (.slice s6 s6l s6c) ∧
∃ news3 : List Value, (src h11 s6 (s6l * 1) news3 ∧ ∀ u ∈ news3, u.oneCell' = true) ∧
appK h11 a2 (b_2l + 4) cap2 s6l 1 5 1 news3 fun (a3 : Option Addr) (cap3 : Nat) (h12 : Heap) =>
fits .i64 (i_2 + (1 : Int)) ∧
I2 a3 ((b_2l + 4) + s6l) cap3 (i_2 + (1 : Int)) h12 ∧ m2 a3 ((b_2l + 4) + s6l) cap3 (i_2 + (1 : Int)) h12 < m2 b_1 b_1l b_1c i_2 h4)) (
Post (.tuple #[(.slice b_1 b_1l b_1c), (.int .i64 (0 : Int))]) h4)))))) :
    Runs Tryz.prog 22 #[(.slice l lL lC)] h0 Post :=
  runs_of (args := [(.slice l lL lC)]) (fun n => ⟨true, false⟩) (fun n => match n with | 0 => [(4, .int .i64)] | 2 => [(5, .slice), (6, .int .i64)] | 4 => [(5, .slice)] | _ => []) (fun _ => none) (fun _ => []) Tryz.func22 rfl (by rw [Tryz.ntmps22]; simp) (Eq.mp (by kernel_rfl) H)

theorem vc_muezzinref1_AggLen (lens : Option Addr) (lensL lensC : Nat) (h0 : Heap) (Post : Value → Heap → Prop) (H :
∃ (I1 : Int → Int → Heap → Prop) (m1 : Int → Int → Heap → Nat), I1 (0 : Int) (0 : Int) h0 ∧ ∀ _ : Env,
∀ (n_1 : Int) (i_1 : Int) (h1 : Heap), I1 n_1 i_1 h1 →
bcase (decide (i_1 < ((lensL : Nat) : Int))) (
fits .i64 (n_1 + (3 : Int)) ∧
(0 ≤ (n_1 + (3 : Int)) ∧ 0 < (4 : Int) ∧ fits .i64 ((n_1 + (3 : Int)) / (4 : Int))) ∧
fits .i64 (((n_1 + (3 : Int)) / (4 : Int)) * (4 : Int)) ∧
fits .i64 ((((n_1 + (3 : Int)) / (4 : Int)) * (4 : Int)) + (4 : Int)) ∧
(0 ≤ i_1 ∧ i_1 < ((lensL : Nat) : Int)) ∧
onAddr lens fun b1 o1 =>
∃ n1 : Int, cell h1 b1 (o1 + (i_1).toNat) = some (.int .i64 n1) ∧
fits .i64 (((((n_1 + (3 : Int)) / (4 : Int)) * (4 : Int)) + (4 : Int)) + (max n1 (0 : Int))) ∧
fits .i64 (i_1 + (1 : Int)) ∧
I1 (((((n_1 + (3 : Int)) / (4 : Int)) * (4 : Int)) + (4 : Int)) + (max n1 (0 : Int))) (i_1 + (1 : Int)) h1 ∧ m1 (((((n_1 + (3 : Int)) / (4 : Int)) * (4 : Int)) + (4 : Int)) + (max n1 (0 : Int))) (i_1 + (1 : Int)) h1 < m1 n_1 i_1 h1) (
Post (.int .i64 n_1) h1)) :
    Runs Tryz.prog 43 #[(.slice lens lensL lensC)] h0 Post :=
  runs_of (args := [(.slice lens lensL lensC)]) (fun n => ⟨true, false⟩) (fun n => match n with | 0 => [(3, .int .i64), (4, .int .i64)] | _ => []) (fun _ => none) (fun _ => []) Tryz.func43 rfl (by rw [Tryz.ntmps43]; simp) (Eq.mp (by kernel_rfl) H)

theorem vc_muezzinref1_lens (l : Option Addr) (lL lC : Nat) (h0 : Heap) (Post : Value → Heap → Prop) (H :
∃ (I1 : Option Addr → Nat → Nat → Int → Heap → Prop) (m1 : Option Addr → Nat → Nat → Int → Heap → Nat), I1 none 0 0 (0 : Int) h0 ∧ ∀ _ : Env,
∀ (out_1 : Option Addr) (out_1l out_1c : Nat) (i_1 : Int) (h1 : Heap), I1 out_1 out_1l out_1c i_1 h1 →
bcase (decide (i_1 < ((lL : Nat) : Int))) (
(0 ≤ i_1 ∧ i_1 < ((lL : Nat) : Int)) ∧
onAddr l fun b1 o1 =>
∃ (s1 : Option Addr) (s1l s1c : Nat), cell h1 b1 (o1 + (i_1).toNat) = some (.slice s1 s1l s1c) ∧
∀ (b2 : Nat) (h2 : Heap), b2 = h1.size → h2 = h1.push (.cells ([(.int .i64 ((s1l : Nat) : Int))] : List Value).toArray 3) →
∃ news1 : List Value, (row h2 b2 0 1 = some news1 ∧ ∀ u ∈ news1, u.oneCell' = true) ∧
appK h2 out_1 out_1l out_1c 1 1 3 8 news1 fun (a1 : Option Addr) (cap1 : Nat) (h3 : Heap) =>
fits .i64 (i_1 + (1 : Int)) ∧
I1 a1 (out_1l + 1) cap1 (i_1 + (1 : Int)) h3 ∧ m1 a1 (out_1l + 1) cap1 (i_1 + (1 : Int)) h3 < m1 out_1 out_1l out_1c i_1 h1) (
Post (.slice out_1 out_1l out_1c) h1)) :
    Runs Tryz.prog 44 #[(.slice l lL lC)] h0 Post :=
  runs_of (args := [(.slice l lL lC)]) (fun n => ⟨true, false⟩) (fun n => match n with | 0 => [(3, .slice), (4, .int .i64)] | _ => []) (fun _ => none) (fun _ => []) Tryz.func44 rfl (by rw [Tryz.ntmps44]; simp) (Eq.mp (by kernel_rfl) H)

theorem vc_muezzinref1_Sum (b : Option Addr) (bL bC : Nat) (h0 : Heap) (Post : Value → Heap → Prop) (H :
∃ (I1 : Int → Int → Heap → Prop) (m1 : Int → Int → Heap → Nat), I1 (255 : Int) (0 : Int) h0 ∧ ∀ _ : Env,
∀ (r_1 : Int) (i_1 : Int) (h1 : Heap), I1 r_1 i_1 h1 →
bcase (decide (i_1 < ((bL : Nat) : Int))) (
∃ (I2 : Int → Int → Heap → Prop) (m2 : Int → Int → Heap → Nat), I2 r_1 (0 : Int) h1 ∧ ∀ _ : Env,
∀ (r_2 : Int) (k_1 : Int) (h2 : Heap), I2 r_2 k_1 h2 →
bcase (decide (k_1 < (8 : Int))) (
(0 ≤ (7 : Int) ∧ (7 : Int) ≤ kbits .i64) ∧
(0 ≤ i_1 ∧ i_1 < ((bL : Nat) : Int)) ∧
onAddr b fun b1 o1 =>
∃ n1 : Int, cell h2 b1 (o1 + (i_1).toNat) = some (.int .u8 n1) ∧
(0 ≤ (IntKind.u64.wrap k_1) ∧ (IntKind.u64.wrap k_1) ≤ kbits .i64) ∧
(0 ≤ (1 : Int) ∧ (1 : Int) ≤ kbits .i64) ∧
bcase (decide ((bits .xor .i64 (bits .and .i64 (r_2 / (128 : Int)) (1 : Int)) (bits .and .i64 ((IntKind.i64.wrap n1) / (pow2 (IntKind.u64.wrap k_1))) (1 : Int))) = (1 : Int))) (
I2 (bits .xor .i64 (bits .and .i64 (IntKind.i64.wrap (r_2 * (2 : Int))) (255 : Int)) (7 : Int)) (IntKind.i64.wrap (k_1 + (1 : Int))) h2 ∧ m2 (bits .xor .i64 (bits .and .i64 (IntKind.i64.wrap (r_2 * (2 : Int))) (255 : Int)) (7 : Int)) (IntKind.i64.wrap (k_1 + (1 : Int))) h2 < m2 r_2 k_1 h2) (
I2 (bits .and .i64 (IntKind.i64.wrap (r_2 * (2 : Int))) (255 : Int)) (IntKind.i64.wrap (k_1 + (1 : Int))) h2 ∧ m2 (bits .and .i64 (IntKind.i64.wrap (r_2 * (2 : Int))) (255 : Int)) (IntKind.i64.wrap (k_1 + (1 : Int))) h2 < m2 r_2 k_1 h2)) (
I1 r_2 (IntKind.i64.wrap (i_1 + (1 : Int))) h2 ∧ m1 r_2 (IntKind.i64.wrap (i_1 + (1 : Int))) h2 < m1 r_1 i_1 h1)) (
∃ (I3 : Int → Int → Heap → Prop) (m3 : Int → Int → Heap → Nat), I3 (0 : Int) (0 : Int) h1 ∧ ∀ _ : Env,
∀ (out_1 : Int) (k_2 : Int) (h3 : Heap), I3 out_1 k_2 h3 →
bcase (decide (k_2 < (8 : Int))) (
(0 ≤ (IntKind.u64.wrap k_2) ∧ (IntKind.u64.wrap k_2) ≤ kbits .i64) ∧
bcase (decide ((bits .and .i64 (r_1 / (pow2 (IntKind.u64.wrap k_2))) (1 : Int)) = (0 : Int))) (
(0 ≤ (IntKind.u64.wrap k_2) ∧ (IntKind.u64.wrap k_2) ≤ kbits .i64) ∧
I3 (bits .or .i64 out_1 ((128 : Int) / (pow2 (IntKind.u64.wrap k_2)))) (IntKind.i64.wrap (k_2 + (1 : Int))) h3 ∧ m3 (bits .or .i64 out_1 ((128 : Int) / (pow2 (IntKind.u64.wrap k_2)))) (IntKind.i64.wrap (k_2 + (1 : Int))) h3 < m3 out_1 k_2 h3) (
I3 out_1 (IntKind.i64.wrap (k_2 + (1 : Int))) h3 ∧ m3 out_1 (IntKind.i64.wrap (k_2 + (1 : Int))) h3 < m3 out_1 k_2 h3)) (
Post (.int .u8 (IntKind.u8.wrap out_1)) h3))) :
    Runs Tryz.prog 46 #[(.slice b bL bC)] h0 Post :=
  runs_of (args := [(.slice b bL bC)]) (fun n => ⟨false, false⟩) (fun n => match n with | 0 => [(3, .int .i64), (4, .int .i64)] | 2 => [(3, .int .i64), (5, .int .i64)] | 4 => [(7, .int .i64), (8, .int .i64)] | _ => []) (fun _ => none) (fun _ => []) Tryz.func46 rfl (by rw [Tryz.ntmps46]; simp) (Eq.mp (by kernel_rfl) H)
end Go.Proofs.YtepodifionoigaaGreatDoor
set_option linter.unusedVariables false
set_option linter.unusedSimpArgs false
set_option maxRecDepth 100000
namespace Go.Proofs.YtepodifionoigaaGreatDoor
open Go.Vc
theorem vc_muezzinref1_ReadBar (b : Option Addr) (bL bC : Nat) (h0 : Heap) (Post : Value → Heap → Prop) (H :
∀ (b1 : Nat) (h1 : Heap), b1 = h0.size → h1 = h0.push (.cells ([(.int .u8 (0 : Int)), (.int .u8 (0 : Int)), (.int .u8 (0 : Int)), (.int .u8 (0 : Int)), (.int .u8 (0 : Int)), (.int .u8 (0 : Int)), (.int .u8 (0 : Int)), (.int .u8 (0 : Int)), (.int .u8 (0 : Int)), (.int .u8 (0 : Int)), (.int .u8 (0 : Int)), (.int .u8 (0 : Int)), (.int .i64 (0 : Int)), (.int .i64 (0 : Int))] : List Value).toArray 75) →
Runs Tryz.prog 101 #[(.slice b bL bC), (.int .u8 (132 : Int)), (.int .i64 (20 : Int))] h1 fun r1 h2 =>
∃ n1 : Int,
r1 = (.int .i64 n1) ∧
bcase (!decide (n1 = (0 : Int))) (
((([(.int .u8 (0 : Int)), (.int .u8 (0 : Int)), (.int .u8 (0 : Int)), (.int .u8 (0 : Int)), (.int .u8 (0 : Int)), (.int .u8 (0 : Int)), (.int .u8 (0 : Int)), (.int .u8 (0 : Int)), (.int .u8 (0 : Int)), (.int .u8 (0 : Int)), (.int .u8 (0 : Int)), (.int .u8 (0 : Int)), (.int .i64 (0 : Int)), (.int .i64 (0 : Int))] : List Value)).length = 14 ∧ wrs h2 b1 0 14 ∧ ∀ u ∈ (([(.int .u8 (0 : Int)), (.int .u8 (0 : Int)), (.int .u8 (0 : Int)), (.int .u8 (0 : Int)), (.int .u8 (0 : Int)), (.int .u8 (0 : Int)), (.int .u8 (0 : Int)), (.int .u8 (0 : Int)), (.int .u8 (0 : Int)), (.int .u8 (0 : Int)), (.int .u8 (0 : Int)), (.int .u8 (0 : Int)), (.int .i64 (0 : Int)), (.int .i64 (0 : Int))] : List Value) : List Value), u.oneCell' = true) ∧ ∀ h3 : Heap, h3 = setr h2 b1 0 ([(.int .u8 (0 : Int)), (.int .u8 (0 : Int)), (.int .u8 (0 : Int)), (.int .u8 (0 : Int)), (.int .u8 (0 : Int)), (.int .u8 (0 : Int)), (.int .u8 (0 : Int)), (.int .u8 (0 : Int)), (.int .u8 (0 : Int)), (.int .u8 (0 : Int)), (.int .u8 (0 : Int)), (.int .u8 (0 : Int)), (.int .i64 (0 : Int)), (.int .i64 (0 : Int))] : List Value) →
∃ cs1 : List Value, row h3 b1 0 14 = some cs1 ∧
Post (.tuple #[(.agg (cs1).toArray), (.int .i64 n1)]) h3) (
∃ J1 : Option Addr → Heap → Prop, (
(0 ≤ (4 : Int) ∧ (4 : Int) ≤ ((bL : Nat) : Int)) ∧
(0 ≤ (10 : Int) ∧ (10 : Int) ≤ ((bL : Nat) : Int)) ∧
(0 ≤ (16 : Int) ∧ (16 : Int) ≤ ((bL : Nat) : Int)) ∧
(0 ≤ (18 : Int) ∧ (18 : Int) ≤ ((bL : Nat) : Int)) ∧
(
Runs Tryz.prog 87 #[(.slice (slcAddr b 4 bC 4) (bL - 4) (bC - 4))] h2 fun r2 h4 =>
∃ cs2 : List Value,
r2 = (.agg (cs2).toArray) ∧
(
Runs Tryz.prog 87 #[(.slice (slcAddr b 10 bC 10) (bL - 10) (bC - 10))] h4 fun r3 h5 =>
∃ cs3 : List Value,
r3 = (.agg (cs3).toArray) ∧
(
Runs Tryz.prog 85 #[(.slice (slcAddr b 16 bC 16) (bL - 16) (bC - 16))] h5 fun r4 h6 =>
∃ n2 : Int,
r4 = (.int .i64 n2) ∧
(0 ≤ n2 ∧ 0 < (4096 : Int) ∧ fits .i64 (n2 / (4096 : Int))) ∧
(
Runs Tryz.prog 85 #[(.slice (slcAddr b 18 bC 18) (bL - 18) (bC - 18))] h6 fun r5 h7 =>
∃ n3 : Int,
r5 = (.int .i64 n3) ∧
(0 ≤ n3 ∧ 0 < (16 : Int) ∧ fits .i64 (n3 / (16 : Int))) ∧
(cs2).length = 6 ∧
(cs3).length = 6 ∧
∀ (b2 : Nat) (h8 : Heap), b2 = h7.size → h8 = h7.push (.cells ([(.int .u8 (0 : Int)), (.int .u8 (0 : Int)), (.int .u8 (0 : Int)), (.int .u8 (0 : Int)), (.int .u8 (0 : Int)), (.int .u8 (0 : Int)), (.int .u8 (0 : Int)), (.int .u8 (0 : Int)), (.int .u8 (0 : Int)), (.int .u8 (0 : Int)), (.int .u8 (0 : Int)), (.int .u8 (0 : Int)), (.int .i64 (0 : Int)), (.int .i64 (0 : Int))] : List Value).toArray 75) →
(((((cs2) ++ ((cs3) ++ ([(.int .i64 (n2 / (4096 : Int))), (.int .i64 (n3 / (16 : Int)))] : List Value))))).length = 14 ∧ wrs h8 b2 0 14 ∧ ∀ u ∈ ((((cs2) ++ ((cs3) ++ ([(.int .i64 (n2 / (4096 : Int))), (.int .i64 (n3 / (16 : Int)))] : List Value)))) : List Value), u.oneCell' = true) ∧ ∀ h9 : Heap, h9 = setr h8 b2 0 (((cs2) ++ ((cs3) ++ ([(.int .i64 (n2 / (4096 : Int))), (.int .i64 (n3 / (16 : Int)))] : List Value)))) →
J1 (some ⟨b2, 0, none⟩) h9) ∧
(
∀ (b3 : Nat) (h10 : Heap), b3 = h6.size → h10 = h6.push (.cells ([(.int .u8 (0 : Int)), (.int .u8 (0 : Int)), (.int .u8 (0 : Int)), (.int .u8 (0 : Int)), (.int .u8 (0 : Int)), (.int .u8 (0 : Int)), (.int .u8 (0 : Int)), (.int .u8 (0 : Int)), (.int .u8 (0 : Int)), (.int .u8 (0 : Int)), (.int .u8 (0 : Int)), (.int .u8 (0 : Int)), (.int .i64 (0 : Int)), (.int .i64 (0 : Int))] : List Value).toArray 75) →
Runs Tryz.prog 85 #[(.slice (slcAddr b 18 bC 18) (bL - 18) (bC - 18))] h10 fun r6 h11 =>
∃ n4 : Int,
r6 = (.int .i64 n4) ∧
(0 ≤ n4 ∧ 0 < (16 : Int) ∧ fits .i64 (n4 / (16 : Int))) ∧
(cs2).length = 6 ∧
(cs3).length = 6 ∧
(((((cs2) ++ ((cs3) ++ ([(.int .i64 (n2 / (4096 : Int))), (.int .i64 (n4 / (16 : Int)))] : List Value))))).length = 14 ∧ wrs h11 b3 0 14 ∧ ∀ u ∈ ((((cs2) ++ ((cs3) ++ ([(.int .i64 (n2 / (4096 : Int))), (.int .i64 (n4 / (16 : Int)))] : List Value)))) : List Value), u.oneCell' = true) ∧ ∀ h12 : Heap, h12 = setr h11 b3 0 (((cs2) ++ ((cs3) ++ ([(.int .i64 (n2 / (4096 : Int))), (.int .i64 (n4 / (16 : Int)))] : List Value)))) →
J1 (some ⟨b3, 0, none⟩) h12)) ∧
(
∀ (b4 : Nat) (h13 : Heap), b4 = h5.size → h13 = h5.push (.cells ([(.int .u8 (0 : Int)), (.int .u8 (0 : Int)), (.int .u8 (0 : Int)), (.int .u8 (0 : Int)), (.int .u8 (0 : Int)), (.int .u8 (0 : Int)), (.int .u8 (0 : Int)), (.int .u8 (0 : Int)), (.int .u8 (0 : Int)), (.int .u8 (0 : Int)), (.int .u8 (0 : Int)), (.int .u8 (0 : Int)), (.int .i64 (0 : Int)), (.int .i64 (0 : Int))] : List Value).toArray 75) →
Runs Tryz.prog 85 #[(.slice (slcAddr b 16 bC 16) (bL - 16) (bC - 16))] h13 fun r7 h14 =>
∃ n5 : Int,
r7 = (.int .i64 n5) ∧
(0 ≤ n5 ∧ 0 < (4096 : Int) ∧ fits .i64 (n5 / (4096 : Int))) ∧
Runs Tryz.prog 85 #[(.slice (slcAddr b 18 bC 18) (bL - 18) (bC - 18))] h14 fun r8 h15 =>
∃ n6 : Int,
r8 = (.int .i64 n6) ∧
(0 ≤ n6 ∧ 0 < (16 : Int) ∧ fits .i64 (n6 / (16 : Int))) ∧
(cs2).length = 6 ∧
(cs3).length = 6 ∧
(((((cs2) ++ ((cs3) ++ ([(.int .i64 (n5 / (4096 : Int))), (.int .i64 (n6 / (16 : Int)))] : List Value))))).length = 14 ∧ wrs h15 b4 0 14 ∧ ∀ u ∈ ((((cs2) ++ ((cs3) ++ ([(.int .i64 (n5 / (4096 : Int))), (.int .i64 (n6 / (16 : Int)))] : List Value)))) : List Value), u.oneCell' = true) ∧ ∀ h16 : Heap, h16 = setr h15 b4 0 (((cs2) ++ ((cs3) ++ ([(.int .i64 (n5 / (4096 : Int))), (.int .i64 (n6 / (16 : Int)))] : List Value)))) →
J1 (some ⟨b4, 0, none⟩) h16)) ∧
(
∀ (b5 : Nat) (h17 : Heap), b5 = h4.size → h17 = h4.push (.cells ([(.int .u8 (0 : Int)), (.int .u8 (0 : Int)), (.int .u8 (0 : Int)), (.int .u8 (0 : Int)), (.int .u8 (0 : Int)), (.int .u8 (0 : Int)), (.int .u8 (0 : Int)), (.int .u8 (0 : Int)), (.int .u8 (0 : Int)), (.int .u8 (0 : Int)), (.int .u8 (0 : Int)), (.int .u8 (0 : Int)), (.int .i64 (0 : Int)), (.int .i64 (0 : Int))] : List Value).toArray 75) →
Runs Tryz.prog 87 #[(.slice (slcAddr b 10 bC 10) (bL - 10) (bC - 10))] h17 fun r9 h18 =>
∃ cs4 : List Value,
r9 = (.agg (cs4).toArray) ∧
Runs Tryz.prog 85 #[(.slice (slcAddr b 16 bC 16) (bL - 16) (bC - 16))] h18 fun r10 h19 =>
∃ n7 : Int,
r10 = (.int .i64 n7) ∧
(0 ≤ n7 ∧ 0 < (4096 : Int) ∧ fits .i64 (n7 / (4096 : Int))) ∧
Runs Tryz.prog 85 #[(.slice (slcAddr b 18 bC 18) (bL - 18) (bC - 18))] h19 fun r11 h20 =>
∃ n8 : Int,
r11 = (.int .i64 n8) ∧
(0 ≤ n8 ∧ 0 < (16 : Int) ∧ fits .i64 (n8 / (16 : Int))) ∧
(cs2).length = 6 ∧
(cs4).length = 6 ∧
(((((cs2) ++ ((cs4) ++ ([(.int .i64 (n7 / (4096 : Int))), (.int .i64 (n8 / (16 : Int)))] : List Value))))).length = 14 ∧ wrs h20 b5 0 14 ∧ ∀ u ∈ ((((cs2) ++ ((cs4) ++ ([(.int .i64 (n7 / (4096 : Int))), (.int .i64 (n8 / (16 : Int)))] : List Value)))) : List Value), u.oneCell' = true) ∧ ∀ h21 : Heap, h21 = setr h20 b5 0 (((cs2) ++ ((cs4) ++ ([(.int .i64 (n7 / (4096 : Int))), (.int .i64 (n8 / (16 : Int)))] : List Value)))) →
J1 (some ⟨b5, 0, none⟩) h21)) ∧
(
∀ (b6 : Nat) (h22 : Heap), b6 = h2.size → h22 = h2.push (.cells ([(.int .u8 (0 : Int)), (.int .u8 (0 : Int)), (.int .u8 (0 : Int)), (.int .u8 (0 : Int)), (.int .u8 (0 : Int)), (.int .u8 (0 : Int)), (.int .u8 (0 : Int)), (.int .u8 (0 : Int)), (.int .u8 (0 : Int)), (.int .u8 (0 : Int)), (.int .u8 (0 : Int)), (.int .u8 (0 : Int)), (.int .i64 (0 : Int)), (.int .i64 (0 : Int))] : List Value).toArray 75) →
Runs Tryz.prog 87 #[(.slice (slcAddr b 4 bC 4) (bL - 4) (bC - 4))] h22 fun r12 h23 =>
∃ cs5 : List Value,
r12 = (.agg (cs5).toArray) ∧
Runs Tryz.prog 87 #[(.slice (slcAddr b 10 bC 10) (bL - 10) (bC - 10))] h23 fun r13 h24 =>
∃ cs6 : List Value,
r13 = (.agg (cs6).toArray) ∧
Runs Tryz.prog 85 #[(.slice (slcAddr b 16 bC 16) (bL - 16) (bC - 16))] h24 fun r14 h25 =>
∃ n9 : Int,
r14 = (.int .i64 n9) ∧
(0 ≤ n9 ∧ 0 < (4096 : Int) ∧ fits .i64 (n9 / (4096 : Int))) ∧
Runs Tryz.prog 85 #[(.slice (slcAddr b 18 bC 18) (bL - 18) (bC - 18))] h25 fun r15 h26 =>
∃ n10 : Int,
r15 = (.int .i64 n10) ∧
(0 ≤ n10 ∧ 0 < (16 : Int) ∧ fits .i64 (n10 / (16 : Int))) ∧
(cs5).length = 6 ∧
(cs6).length = 6 ∧
(((((cs5) ++ ((cs6) ++ ([(.int .i64 (n9 / (4096 : Int))), (.int .i64 (n10 / (16 : Int)))] : List Value))))).length = 14 ∧ wrs h26 b6 0 14 ∧ ∀ u ∈ ((((cs5) ++ ((cs6) ++ ([(.int .i64 (n9 / (4096 : Int))), (.int .i64 (n10 / (16 : Int)))] : List Value)))) : List Value), u.oneCell' = true) ∧ ∀ h27 : Heap, h27 = setr h26 b6 0 (((cs5) ++ ((cs6) ++ ([(.int .i64 (n9 / (4096 : Int))), (.int .i64 (n10 / (16 : Int)))] : List Value)))) →
J1 (some ⟨b6, 0, none⟩) h27)) ∧ ∀ _ : Env,
∀ (f_1 : Option Addr) (h28 : Heap), J1 f_1 h28 →
onAddr f_1 fun b7 o1 =>
∃ cs7 : List Value, row h28 b7 o1 14 = some cs7 ∧
Runs Tryz.prog 23 #[(.agg (cs7).toArray)] h28 fun r16 h29 =>
∃ (s1 : Option Addr) (s1l s1c : Nat),
∃ n11 : Int,
r16 = (.tuple #[(.slice s1 s1l s1c), (.int .i64 n11)]) ∧
bcase (!decide (n11 = (0 : Int))) (
((([(.int .u8 (0 : Int)), (.int .u8 (0 : Int)), (.int .u8 (0 : Int)), (.int .u8 (0 : Int)), (.int .u8 (0 : Int)), (.int .u8 (0 : Int)), (.int .u8 (0 : Int)), (.int .u8 (0 : Int)), (.int .u8 (0 : Int)), (.int .u8 (0 : Int)), (.int .u8 (0 : Int)), (.int .u8 (0 : Int)), (.int .i64 (0 : Int)), (.int .i64 (0 : Int))] : List Value)).length = 14 ∧ wrs h29 b1 0 14 ∧ ∀ u ∈ (([(.int .u8 (0 : Int)), (.int .u8 (0 : Int)), (.int .u8 (0 : Int)), (.int .u8 (0 : Int)), (.int .u8 (0 : Int)), (.int .u8 (0 : Int)), (.int .u8 (0 : Int)), (.int .u8 (0 : Int)), (.int .u8 (0 : Int)), (.int .u8 (0 : Int)), (.int .u8 (0 : Int)), (.int .u8 (0 : Int)), (.int .i64 (0 : Int)), (.int .i64 (0 : Int))] : List Value) : List Value), u.oneCell' = true) ∧ ∀ h30 : Heap, h30 = setr h29 b1 0 ([(.int .u8 (0 : Int)), (.int .u8 (0 : Int)), (.int .u8 (0 : Int)), (.int .u8 (0 : Int)), (.int .u8 (0 : Int)), (.int .u8 (0 : Int)), (.int .u8 (0 : Int)), (.int .u8 (0 : Int)), (.int .u8 (0 : Int)), (.int .u8 (0 : Int)), (.int .u8 (0 : Int)), (.int .u8 (0 : Int)), (.int .i64 (0 : Int)), (.int .i64 (0 : Int))] : List Value) →
∃ cs8 : List Value, row h30 b1 0 14 = some cs8 ∧
Post (.tuple #[(.agg (cs8).toArray), (.int .i64 (102 : Int))]) h30) (
Runs Tryz.prog 31 #[(.slice b bL bC), (.slice s1 s1l s1c)] h29 fun r17 h31 =>
∃ t1 : Bool,
r17 = (.bool t1) ∧
bcase (!t1) (
((([(.int .u8 (0 : Int)), (.int .u8 (0 : Int)), (.int .u8 (0 : Int)), (.int .u8 (0 : Int)), (.int .u8 (0 : Int)), (.int .u8 (0 : Int)), (.int .u8 (0 : Int)), (.int .u8 (0 : Int)), (.int .u8 (0 : Int)), (.int .u8 (0 : Int)), (.int .u8 (0 : Int)), (.int .u8 (0 : Int)), (.int .i64 (0 : Int)), (.int .i64 (0 : Int))] : List Value)).length = 14 ∧ wrs h31 b1 0 14 ∧ ∀ u ∈ (([(.int .u8 (0 : Int)), (.int .u8 (0 : Int)), (.int .u8 (0 : Int)), (.int .u8 (0 : Int)), (.int .u8 (0 : Int)), (.int .u8 (0 : Int)), (.int .u8 (0 : Int)), (.int .u8 (0 : Int)), (.int .u8 (0 : Int)), (.int .u8 (0 : Int)), (.int .u8 (0 : Int)), (.int .u8 (0 : Int)), (.int .i64 (0 : Int)), (.int .i64 (0 : Int))] : List Value) : List Value), u.oneCell' = true) ∧ ∀ h32 : Heap, h32 = setr h31 b1 0 ([(.int .u8 (0 : Int)), (.int .u8 (0 : Int)), (.int .u8 (0 : Int)), (.int .u8 (0 : Int)), (.int .u8 (0 : Int)), (.int .u8 (0 : Int)), (.int .u8 (0 : Int)), (.int .u8 (0 : Int)), (.int .u8 (0 : Int)), (.int .u8 (0 : Int)), (.int .u8 (0 : Int)), (.int .u8 (0 : Int)), (.int .i64 (0 : Int)), (.int .i64 (0 : Int))] : List Value) →
∃ cs9 : List Value, row h32 b1 0 14 = some cs9 ∧
Post (.tuple #[(.agg (cs9).toArray), (.int .i64 (102 : Int))]) h32) (
onAddr f_1 fun b8 o2 =>
∃ cs10 : List Value, row h31 b8 o2 14 = some cs10 ∧
(((cs10)).length = 14 ∧ wrs h31 b1 0 14 ∧ ∀ u ∈ ((cs10) : List Value), u.oneCell' = true) ∧ ∀ h33 : Heap, h33 = setr h31 b1 0 (cs10) →
∃ cs11 : List Value, row h33 b1 0 14 = some cs11 ∧
Post (.tuple #[(.agg (cs11).toArray), (.int .i64 (0 : Int))]) h33)))) :
    Runs Tryz.prog 65 #[(.slice b bL bC)] h0 Post :=
  runs_of (args := [(.slice b bL bC)]) (fun n => ⟨true, false⟩) (fun _ => []) (fun n => match n with | 5 => some [(5, .ptr)] | _ => none) (fun _ => []) Tryz.func65 rfl (by rw [Tryz.ntmps65]; simp) (Eq.mp (by kernel_rfl) H)

theorem vc_muezzinref1_ReadQoS (b : Option Addr) (bL bC : Nat) (h0 : Heap) (Post : Value → Heap → Prop) (H :
∀ (b1 : Nat) (h1 : Heap), b1 = h0.size → h1 = h0.push (.cells ([(.int .u8 (0 : Int)), (.int .u8 (0 : Int)), (.int .u8 (0 : Int)), (.int .u8 (0 : Int)), (.int .u8 (0 : Int)), (.int .u8 (0 : Int)), (.int .u8 (0 : Int)), (.int .u8 (0 : Int)), (.int .u8 (0 : Int)), (.int .u8 (0 : Int)), (.int .u8 (0 : Int)), (.int .u8 (0 : Int)), (.int .u8 (0 : Int)), (.int .u8 (0 : Int)), (.int .u8 (0 : Int)), (.int .u8 (0 : Int)), (.int .u8 (0 : Int)), (.int .u8 (0 : Int)), (.int .i64 (0 : Int)), (.int .i64 (0 : Int)), (.bool false), (.bool false), (.bool false), (.slice none 0 0)] : List Value).toArray 67) →
bcase (decide (((bL : Nat) : Int) < (26 : Int))) (
((([(.int .u8 (0 : Int)), (.int .u8 (0 : Int)), (.int .u8 (0 : Int)), (.int .u8 (0 : Int)), (.int .u8 (0 : Int)), (.int .u8 (0 : Int)), (.int .u8 (0 : Int)), (.int .u8 (0 : Int)), (.int .u8 (0 : Int)), (.int .u8 (0 : Int)), (.int .u8 (0 : Int)), (.int .u8 (0 : Int)), (.int .u8 (0 : Int)), (.int .u8 (0 : Int)), (.int .u8 (0 : Int)), (.int .u8 (0 : Int)), (.int .u8 (0 : Int)), (.int .u8 (0 : Int)), (.int .i64 (0 : Int)), (.int .i64 (0 : Int)), (.bool false), (.bool false), (.bool false), (.slice none 0 0)] : List Value)).length = 24 ∧ wrs h1 b1 0 24 ∧ ∀ u ∈ (([(.int .u8 (0 : Int)), (.int .u8 (0 : Int)), (.int .u8 (0 : Int)), (.int .u8 (0 : Int)), (.int .u8 (0 : Int)), (.int .u8 (0 : Int)), (.int .u8 (0 : Int)), (.int .u8 (0 : Int)), (.int .u8 (0 : Int)), (.int .u8 (0 : Int)), (.int .u8 (0 : Int)), (.int .u8 (0 : Int)), (.int .u8 (0 : Int)), (.int .u8 (0 : Int)), (.int .u8 (0 : Int)), (.int .u8 (0 : Int)), (.int .u8 (0 : Int)), (.int .u8 (0 : Int)), (.int .i64 (0 : Int)), (.int .i64 (0 : Int)), (.bool false), (.bool false), (.bool false), (.slice none 0 0)] : List Value) : List Value), u.oneCell' = true) ∧ ∀ h2 : Heap, h2 = setr h1 b1 0 ([(.int .u8 (0 : Int)), (.int .u8 (0 : Int)), (.int .u8 (0 : Int)), (.int .u8 (0 : Int)), (.int .u8 (0 : Int)), (.int .u8 (0 : Int)), (.int .u8 (0 : Int)), (.int .u8 (0 : Int)), (.int .u8 (0 : Int)), (.int .u8 (0 : Int)), (.int .u8 (0 : Int)), (.int .u8 (0 : Int)), (.int .u8 (0 : Int)), (.int .u8 (0 : Int)), (.int .u8 (0 : Int)), (.int .u8 (0 : Int)), (.int .u8 (0 : Int)), (.int .u8 (0 : Int)), (.int .i64 (0 : Int)), (.int .i64 (0 : Int)), (.bool false), (.bool false), (.bool false), (.slice none 0 0)] : List Value) →
∃ cs1 : List Value, row h2 b1 0 24 = some cs1 ∧
Post (.tuple #[(.agg (cs1).toArray), (.int .i64 (101 : Int))]) h2) (
(0 ≤ (0 : Int) ∧ (0 : Int) < ((bL : Nat) : Int)) ∧
onAddr b fun b2 o1 =>
∃ n1 : Int, cell h1 b2 o1 = some (.int .u8 n1) ∧
bcase (!decide (n1 = (136 : Int))) (
((([(.int .u8 (0 : Int)), (.int .u8 (0 : Int)), (.int .u8 (0 : Int)), (.int .u8 (0 : Int)), (.int .u8 (0 : Int)), (.int .u8 (0 : Int)), (.int .u8 (0 : Int)), (.int .u8 (0 : Int)), (.int .u8 (0 : Int)), (.int .u8 (0 : Int)), (.int .u8 (0 : Int)), (.int .u8 (0 : Int)), (.int .u8 (0 : Int)), (.int .u8 (0 : Int)), (.int .u8 (0 : Int)), (.int .u8 (0 : Int)), (.int .u8 (0 : Int)), (.int .u8 (0 : Int)), (.int .i64 (0 : Int)), (.int .i64 (0 : Int)), (.bool false), (.bool false), (.bool false), (.slice none 0 0)] : List Value)).length = 24 ∧ wrs h1 b1 0 24 ∧ ∀ u ∈ (([(.int .u8 (0 : Int)), (.int .u8 (0 : Int)), (.int .u8 (0 : Int)), (.int .u8 (0 : Int)), (.int .u8 (0 : Int)), (.int .u8 (0 : Int)), (.int .u8 (0 : Int)), (.int .u8 (0 : Int)), (.int .u8 (0 : Int)), (.int .u8 (0 : Int)), (.int .u8 (0 : Int)), (.int .u8 (0 : Int)), (.int .u8 (0 : Int)), (.int .u8 (0 : Int)), (.int .u8 (0 : Int)), (.int .u8 (0 : Int)), (.int .u8 (0 : Int)), (.int .u8 (0 : Int)), (.int .i64 (0 : Int)), (.int .i64 (0 : Int)), (.bool false), (.bool false), (.bool false), (.slice none 0 0)] : List Value) : List Value), u.oneCell' = true) ∧ ∀ h3 : Heap, h3 = setr h1 b1 0 ([(.int .u8 (0 : Int)), (.int .u8 (0 : Int)), (.int .u8 (0 : Int)), (.int .u8 (0 : Int)), (.int .u8 (0 : Int)), (.int .u8 (0 : Int)), (.int .u8 (0 : Int)), (.int .u8 (0 : Int)), (.int .u8 (0 : Int)), (.int .u8 (0 : Int)), (.int .u8 (0 : Int)), (.int .u8 (0 : Int)), (.int .u8 (0 : Int)), (.int .u8 (0 : Int)), (.int .u8 (0 : Int)), (.int .u8 (0 : Int)), (.int .u8 (0 : Int)), (.int .u8 (0 : Int)), (.int .i64 (0 : Int)), (.int .i64 (0 : Int)), (.bool false), (.bool false), (.bool false), (.slice none 0 0)] : List Value) →
∃ cs2 : List Value, row h3 b1 0 24 = some cs2 ∧
Post (.tuple #[(.agg (cs2).toArray), (.int .i64 (105 : Int))]) h3) (
∃ J1 : Option Addr → Heap → Prop, (
(0 ≤ (4 : Int) ∧ (4 : Int) ≤ ((bL : Nat) : Int)) ∧
(0 ≤ (10 : Int) ∧ (10 : Int) ≤ ((bL : Nat) : Int)) ∧
(0 ≤ (16 : Int) ∧ (16 : Int) ≤ ((bL : Nat) : Int)) ∧
(0 ≤ (22 : Int) ∧ (22 : Int) ≤ ((bL : Nat) : Int)) ∧
(0 ≤ (24 : Int) ∧ (24 : Int) < ((bL : Nat) : Int)) ∧
onAddr b fun b3 o2 =>
∃ n2 : Int, cell h1 b3 (o2 + 24) = some (.int .u8 n2) ∧
fits .i64 (bits .and .u8 n2 (15 : Int)) ∧
(0 ≤ (1 : Int) ∧ (1 : Int) < ((bL : Nat) : Int)) ∧
onAddr b fun b4 o3 =>
∃ n3 : Int, cell h1 b4 (o3 + 1) = some (.int .u8 n3) ∧
(0 ≤ (1 : Int) ∧ (1 : Int) < ((bL : Nat) : Int)) ∧
onAddr b fun b5 o4 =>
∃ n4 : Int, cell h1 b5 (o4 + 1) = some (.int .u8 n4) ∧
(0 ≤ (24 : Int) ∧ (24 : Int) < ((bL : Nat) : Int)) ∧
onAddr b fun b6 o5 =>
∃ n5 : Int, cell h1 b6 (o5 + 24) = some (.int .u8 n5) ∧
(
Runs Tryz.prog 87 #[(.slice (slcAddr b 4 bC 4) (bL - 4) (bC - 4))] h1 fun r1 h4 =>
∃ cs3 : List Value,
r1 = (.agg (cs3).toArray) ∧
cell h4 b6 (o5 + 24) = some (.int .u8 n5) ∧
cell h4 b5 (o4 + 1) = some (.int .u8 n4) ∧
cell h4 b4 (o3 + 1) = some (.int .u8 n3) ∧
cell h4 b3 (o2 + 24) = some (.int .u8 n2) ∧
(
Runs Tryz.prog 87 #[(.slice (slcAddr b 10 bC 10) (bL - 10) (bC - 10))] h4 fun r2 h5 =>
∃ cs4 : List Value,
r2 = (.agg (cs4).toArray) ∧
cell h5 b6 (o5 + 24) = some (.int .u8 n5) ∧
cell h5 b5 (o4 + 1) = some (.int .u8 n4) ∧
cell h5 b4 (o3 + 1) = some (.int .u8 n3) ∧
cell h5 b3 (o2 + 24) = some (.int .u8 n2) ∧
(
Runs Tryz.prog 87 #[(.slice (slcAddr b 16 bC 16) (bL - 16) (bC - 16))] h5 fun r3 h6 =>
∃ cs5 : List Value,
r3 = (.agg (cs5).toArray) ∧
cell h6 b6 (o5 + 24) = some (.int .u8 n5) ∧
cell h6 b5 (o4 + 1) = some (.int .u8 n4) ∧
cell h6 b4 (o3 + 1) = some (.int .u8 n3) ∧
cell h6 b3 (o2 + 24) = some (.int .u8 n2) ∧
(
Runs Tryz.prog 85 #[(.slice (slcAddr b 22 bC 22) (bL - 22) (bC - 22))] h6 fun r4 h7 =>
∃ n6 : Int,
r4 = (.int .i64 n6) ∧
cell h7 b6 (o5 + 24) = some (.int .u8 n5) ∧
cell h7 b5 (o4 + 1) = some (.int .u8 n4) ∧
cell h7 b4 (o3 + 1) = some (.int .u8 n3) ∧
cell h7 b3 (o2 + 24) = some (.int .u8 n2) ∧
(0 ≤ n6 ∧ 0 < (16 : Int) ∧ fits .i64 (n6 / (16 : Int))) ∧
(cs3).length = 6 ∧
(cs4).length = 6 ∧
(cs5).length = 6 ∧
∀ (b7 : Nat) (h8 : Heap), b7 = h7.size → h8 = h7.push (.cells ([(.int .u8 (0 : Int)), (.int .u8 (0 : Int)), (.int .u8 (0 : Int)), (.int .u8 (0 : Int)), (.int .u8 (0 : Int)), (.int .u8 (0 : Int)), (.int .u8 (0 : Int)), (.int .u8 (0 : Int)), (.int .u8 (0 : Int)), (.int .u8 (0 : Int)), (.int .u8 (0 : Int)), (.int .u8 (0 : Int)), (.int .u8 (0 : Int)), (.int .u8 (0 : Int)), (.int .u8 (0 : Int)), (.int .u8 (0 : Int)), (.int .u8 (0 : Int)), (.int .u8 (0 : Int)), (.int .i64 (0 : Int)), (.int .i64 (0 : Int)), (.bool false), (.bool false), (.bool false), (.slice none 0 0)] : List Value).toArray 67) →
(((((cs3) ++ ((cs4) ++ ((cs5) ++ ([(.int .i64 (bits .and .u8 n2 (15 : Int))), (.int .i64 (n6 / (16 : Int))), (.bool (!decide ((bits .and .u8 n3 (8 : Int)) = (0 : Int)))), (.bool (!decide ((bits .and .u8 n4 (32 : Int)) = (0 : Int)))), (.bool (!decide ((bits .and .u8 n5 (16 : Int)) = (0 : Int)))), (.slice none 0 0)] : List Value)))))).length = 24 ∧ wrs h8 b7 0 24 ∧ ∀ u ∈ ((((cs3) ++ ((cs4) ++ ((cs5) ++ ([(.int .i64 (bits .and .u8 n2 (15 : Int))), (.int .i64 (n6 / (16 : Int))), (.bool (!decide ((bits .and .u8 n3 (8 : Int)) = (0 : Int)))), (.bool (!decide ((bits .and .u8 n4 (32 : Int)) = (0 : Int)))), (.bool (!decide ((bits .and .u8 n5 (16 : Int)) = (0 : Int)))), (.slice none 0 0)] : List Value))))) : List Value), u.oneCell' = true) ∧ ∀ h9 : Heap, h9 = setr h8 b7 0 (((cs3) ++ ((cs4) ++ ((cs5) ++ ([(.int .i64 (bits .and .u8 n2 (15 : Int))), (.int .i64 (n6 / (16 : Int))), (.bool (!decide ((bits .and .u8 n3 (8 : Int)) = (0 : Int)))), (.bool (!decide ((bits .and .u8 n4 (32 : Int)) = (0 : Int)))), (.bool (!decide ((bits .and .u8 n5 (16 : Int)) = (0 : Int)))), (.slice none 0 0)] : List Value))))) →
J1 (some ⟨b7, 0, none⟩) h9) ∧
(
∀ (b8 : Nat) (h10 : Heap), b8 = h6.size → h10 = h6.push (.cells ([(.int .u8 (0 : Int)), (.int .u8 (0 : Int)), (.int .u8 (0 : Int)), (.int .u8 (0 : Int)), (.int .u8 (0 : Int)), (.int .u8 (0 : Int)), (.int .u8 (0 : Int)), (.int .u8 (0 : Int)), (.int .u8 (0 : Int)), (.int .u8 (0 : Int)), (.int .u8 (0 : Int)), (.int .u8 (0 : Int)), (.int .u8 (0 : Int)), (.int .u8 (0 : Int)), (.int .u8 (0 : Int)), (.int .u8 (0 : Int)), (.int .u8 (0 : Int)), (.int .u8 (0 : Int)), (.int .i64 (0 : Int)), (.int .i64 (0 : Int)), (.bool false), (.bool false), (.bool false), (.slice none 0 0)] : List Value).toArray 67) →
Runs Tryz.prog 85 #[(.slice (slcAddr b 22 bC 22) (bL - 22) (bC - 22))] h10 fun r5 h11 =>
∃ n7 : Int,
r5 = (.int .i64 n7) ∧
cell h11 b6 (o5 + 24) = some (.int .u8 n5) ∧
cell h11 b5 (o4 + 1) = some (.int .u8 n4) ∧
cell h11 b4 (o3 + 1) = some (.int .u8 n3) ∧
cell h11 b3 (o2 + 24) = some (.int .u8 n2) ∧
(0 ≤ n7 ∧ 0 < (16 : Int) ∧ fits .i64 (n7 / (16 : Int))) ∧
(cs3).length = 6 ∧
(cs4).length = 6 ∧
(cs5).length = 6 ∧
(((((cs3) ++ ((cs4) ++ ((cs5) ++ ([(.int .i64 (bits .and .u8 n2 (15 : Int))), (.int .i64 (n7 / (16 : Int))), (.bool (!decide ((bits .and .u8 n3 (8 : Int)) = (0 : Int)))), (.bool (!decide ((bits .and .u8 n4 (32 : Int)) = (0 : Int)))), (.bool (!decide ((bits .and .u8 n5 (16 : Int)) = (0 : Int)))), (.slice none 0 0)] : List Value)))))).length = 24 ∧ wrs h11 b8 0 24 ∧ ∀ u ∈ ((((cs3) ++ ((cs4) ++ ((cs5) ++ ([(.int .i64 (bits .and .u8 n2 (15 : Int))), (.int .i64 (n7 / (16 : Int))), (.bool (!decide ((bits .and .u8 n3 (8 : Int)) = (0 : Int)))), (.bool (!decide ((bits .and .u8 n4 (32 : Int)) = (0 : Int)))), (.bool (!decide ((bits .and .u8 n5 (16 : Int)) = (0 : Int)))), (.slice none 0 0)] : List Value))))) : List Value), u.oneCell' = true) ∧ ∀ h12 : Heap, h12 = setr h11 b8 0 (((cs3) ++ ((cs4) ++ ((cs5) ++ ([(.int .i64 (bits .and .u8 n2 (15 : Int))), (.int .i64 (n7 / (16 : Int))), (.bool (!decide ((bits .and .u8 n3 (8 : Int)) = (0 : Int)))), (.bool (!decide ((bits .and .u8 n4 (32 : Int)) = (0 : Int)))), (.bool (!decide ((bits .and .u8 n5 (16 : Int)) = (0 : Int)))), (.slice none 0 0)] : List Value))))) →
J1 (some ⟨b8, 0, none⟩) h12)) ∧
(
∀ (b9 : Nat) (h13 : Heap), b9 = h5.size → h13 = h5.push (.cells ([(.int .u8 (0 : Int)), (.int .u8 (0 : Int)), (.int .u8 (0 : Int)), (.int .u8 (0 : Int)), (.int .u8 (0 : Int)), (.int .u8 (0 : Int)), (.int .u8 (0 : Int)), (.int .u8 (0 : Int)), (.int .u8 (0 : Int)), (.int .u8 (0 : Int)), (.int .u8 (0 : Int)), (.int .u8 (0 : Int)), (.int .u8 (0 : Int)), (.int .u8 (0 : Int)), (.int .u8 (0 : Int)), (.int .u8 (0 : Int)), (.int .u8 (0 : Int)), (.int .u8 (0 : Int)), (.int .i64 (0 : Int)), (.int .i64 (0 : Int)), (.bool false), (.bool false), (.bool false), (.slice none 0 0)] : List Value).toArray 67) →
Runs Tryz.prog 87 #[(.slice (slcAddr b 16 bC 16) (bL - 16) (bC - 16))] h13 fun r6 h14 =>
∃ cs6 : List Value,
r6 = (.agg (cs6).toArray) ∧
cell h14 b6 (o5 + 24) = some (.int .u8 n5) ∧
cell h14 b5 (o4 + 1) = some (.int .u8 n4) ∧
cell h14 b4 (o3 + 1) = some (.int .u8 n3) ∧
cell h14 b3 (o2 + 24) = some (.int .u8 n2) ∧
Runs Tryz.prog 85 #[(.slice (slcAddr b 22 bC 22) (bL - 22) (bC - 22))] h14 fun r7 h15 =>
∃ n8 : Int,
r7 = (.int .i64 n8) ∧
cell h15 b6 (o5 + 24) = some (.int .u8 n5) ∧
cell h15 b5 (o4 + 1) = some (.int .u8 n4) ∧
cell h15 b4 (o3 + 1) = some (.int .u8 n3) ∧
cell h15 b3 (o2 + 24) = some (.int .u8 n2) ∧
(0 ≤ n8 ∧ 0 < (16 : Int) ∧ fits .i64 (n8 / (16 : Int))) ∧
(cs3).length = 6 ∧
(cs4).length = 6 ∧
(cs6).length = 6 ∧
(((((cs3) ++ ((cs4) ++ ((cs6) ++ ([(.int .i64 (bits .and .u8 n2 (15 : Int))), (.int .i64 (n8 / (16 : Int))), (.bool (!decide ((bits .and .u8 n3 (8 : Int)) = (0 : Int)))), (.bool (!decide ((bits .and .u8 n4 (32 : Int)) = (0 : Int)))), (.bool (!decide ((bits .and .u8 n5 (16 : Int)) = (0 : Int)))), (.slice none 0 0)] : List Value)))))).length = 24 ∧ wrs h15 b9 0 24 ∧ ∀ u ∈ ((((cs3) ++ ((cs4) ++ ((cs6) ++ ([(.int .i64 (bits .and .u8 n2 (15 : Int))), (.int .i64 (n8 / (16 : Int))), (.bool (!decide ((bits .and .u8 n3 (8 : Int)) = (0 : Int)))), (.bool (!decide ((bits .and .u8 n4 (32 : Int)) = (0 : Int)))), (.bool (!decide ((bits .and .u8 n5 (16 : Int)) = (0 : Int)))), (.slice none 0 0)] : List Value))))) : List Value), u.oneCell' = true) ∧ ∀ h16 : Heap, h16 = setr h15 b9 0 (((cs3) ++ ((cs4) ++ ((cs6) ++ ([(.int .i64 (bits .and .u8 n2 (15 : Int))), (.int .i64 (n8 / (16 : Int))), (.bool (!decide ((bits .and .u8 n3 (8 : Int)) = (0 : Int)))), (.bool (!decide ((bits .and .u8 n4 (32 : Int)) = (0 : Int)))), (.bool (!decide ((bits .and .u8 n5 (16 : Int)) = (0 : Int)))), (.slice none 0 0)] : List Value))))) →
J1 (some ⟨b9, 0, none⟩) h16)) ∧
(
∀ (b10 : Nat) (h17 : Heap), b10 = h4.size → h17 = h4.push (.cells ([(.int .u8 (0 : Int)), (.int .u8 (0 : Int)), (.int .u8 (0 : Int)), (.int .u8 (0 : Int)), (.int .u8 (0 : Int)), (.int .u8 (0 : Int)), (.int .u8 (0 : Int)), (.int .u8 (0 : Int)), (.int .u8 (0 : Int)), (.int .u8 (0 : Int)), (.int .u8 (0 : Int)), (.int .u8 (0 : Int)), (.int .u8 (0 : Int)), (.int .u8 (0 : Int)), (.int .u8 (0 : Int)), (.int .u8 (0 : Int)), (.int .u8 (0 : Int)), (.int .u8 (0 : Int)), (.int .i64 (0 : Int)), (.int .i64 (0 : Int)), (.bool false), (.bool false), (.bool false), (.slice none 0 0)] : List Value).toArray 67) →
Runs Tryz.prog 87 #[(.slice (slcAddr b 10 bC 10) (bL - 10) (bC - 10))] h17 fun r8 h18 =>
∃ cs7 : List Value,
r8 = (.agg (cs7).toArray) ∧
cell h18 b6 (o5 + 24) = some (.int .u8 n5) ∧
cell h18 b5 (o4 + 1) = some (.int .u8 n4) ∧
cell h18 b4 (o3 + 1) = some (.int .u8 n3) ∧
cell h18 b3 (o2 + 24) = some (.int .u8 n2) ∧
Runs Tryz.prog 87 #[(.slice (slcAddr b 16 bC 16) (bL - 16) (bC - 16))] h18 fun r9 h19 =>
∃ cs8 : List Value,
r9 = (.agg (cs8).toArray) ∧
cell h19 b6 (o5 + 24) = some (.int .u8 n5) ∧
cell h19 b5 (o4 + 1) = some (.int .u8 n4) ∧
cell h19 b4 (o3 + 1) = some (.int .u8 n3) ∧
cell h19 b3 (o2 + 24) = some (.int .u8 n2) ∧
Runs Tryz.prog 85 #[(.slice (slcAddr b 22 bC 22) (bL - 22) (bC - 22))] h19 fun r10 h20 =>
∃ n9 : Int,
r10 = (.int .i64 n9) ∧
cell h20 b6 (o5 + 24) = some (.int .u8 n5) ∧
cell h20 b5 (o4 + 1) = some (.int .u8 n4) ∧
cell h20 b4 (o3 + 1) = some (.int .u8 n3) ∧
cell h20 b3 (o2 + 24) = some (.int .u8 n2) ∧
(0 ≤ n9 ∧ 0 < (16 : Int) ∧ fits .i64 (n9 / (16 : Int))) ∧
(cs3).length = 6 ∧
(cs7).length = 6 ∧
(cs8).length = 6 ∧
(((((cs3) ++ ((cs7) ++ ((cs8) ++ ([(.int .i64 (bits .and .u8 n2 (15 : Int))), (.int .i64 (n9 / (16 : Int))), (.bool (!decide ((bits .and .u8 n3 (8 : Int)) = (0 : Int)))), (.bool (!decide ((bits .and .u8 n4 (32 : Int)) = (0 : Int)))), (.bool (!decide ((bits .and .u8 n5 (16 : Int)) = (0 : Int)))), (.slice none 0 0)] : List Value)))))).length = 24 ∧ wrs h20 b10 0 24 ∧ ∀ u ∈ ((((cs3) ++ ((cs7) ++ ((cs8) ++ ([(.int .i64 (bits .and .u8 n2 (15 : Int))), (.int .i64 (n9 / (16 : Int))), (.bool (!decide ((bits .and .u8 n3 (8 : Int)) = (0 : Int)))), (.bool (!decide ((bits .and .u8 n4 (32 : Int)) = (0 : Int)))), (.bool (!decide ((bits .and .u8 n5 (16 : Int)) = (0 : Int)))), (.slice none 0 0)] : List Value))))) : List Value), u.oneCell' = true) ∧ ∀ h21 : Heap, h21 = setr h20 b10 0 (((cs3) ++ ((cs7) ++ ((cs8) ++ ([(.int .i64 (bits .and .u8 n2 (15 : Int))), (.int .i64 (n9 / (16 : Int))), (.bool (!decide ((bits .and .u8 n3 (8 : Int)) = (0 : Int)))), (.bool (!decide ((bits .and .u8 n4 (32 : Int)) = (0 : Int)))), (.bool (!decide ((bits .and .u8 n5 (16 : Int)) = (0 : Int)))), (.slice none 0 0)] : List Value))))) →
J1 (some ⟨b10, 0, none⟩) h21)) ∧
(
∀ (b11 : Nat) (h22 : Heap), b11 = h1.size → h22 = h1.push (.cells ([(.int .u8 (0 : Int)), (.int .u8 (0 : Int)), (.int .u8 (0 : Int)), (.int .u8 (0 : Int)), (.int .u8 (0 : Int)), (.int .u8 (0 : Int)), (.int .u8 (0 : Int)), (.int .u8 (0 : Int)), (.int .u8 (0 : Int)), (.int .u8 (0 : Int)), (.int .u8 (0 : Int)), (.int .u8 (0 : Int)), (.int .u8 (0 : Int)), (.int .u8 (0 : Int)), (.int .u8 (0 : Int)), (.int .u8 (0 : Int)), (.int .u8 (0 : Int)), (.int .u8 (0 : Int)), (.int .i64 (0 : Int)), (.int .i64 (0 : Int)), (.bool false), (.bool false), (.bool false), (.slice none 0 0)] : List Value).toArray 67) →
Runs Tryz.prog 87 #[(.slice (slcAddr b 4 bC 4) (bL - 4) (bC - 4))] h22 fun r11 h23 =>
∃ cs9 : List Value,
r11 = (.agg (cs9).toArray) ∧
cell h23 b6 (o5 + 24) = some (.int .u8 n5) ∧
cell h23 b5 (o4 + 1) = some (.int .u8 n4) ∧
cell h23 b4 (o3 + 1) = some (.int .u8 n3) ∧
cell h23 b3 (o2 + 24) = some (.int .u8 n2) ∧
Runs Tryz.prog 87 #[(.slice (slcAddr b 10 bC 10) (bL - 10) (bC - 10))] h23 fun r12 h24 =>
∃ cs10 : List Value,
r12 = (.agg (cs10).toArray) ∧
cell h24 b6 (o5 + 24) = some (.int .u8 n5) ∧
cell h24 b5 (o4 + 1) = some (.int .u8 n4) ∧
cell h24 b4 (o3 + 1) = some (.int .u8 n3) ∧
cell h24 b3 (o2 + 24) = some (.int .u8 n2) ∧
Runs Tryz.prog 87 #[(.slice (slcAddr b 16 bC 16) (bL - 16) (bC - 16))] h24 fun r13 h25 =>
∃ cs11 : List Value,
r13 = (.agg (cs11).toArray) ∧
cell h25 b6 (o5 + 24) = some (.int .u8 n5) ∧
cell h25 b5 (o4 + 1) = some (.int .u8 n4) ∧
cell h25 b4 (o3 + 1) = some (.int .u8 n3) ∧
cell h25 b3 (o2 + 24) = some (.int .u8 n2) ∧
Runs Tryz.prog 85 #[(.slice (slcAddr b 22 bC 22) (bL - 22) (bC - 22))] h25 fun r14 h26 =>
∃ n10 : Int,
r14 = (.int .i64 n10) ∧
cell h26 b6 (o5 + 24) = some (.int .u8 n5) ∧
cell h26 b5 (o4 + 1) = some (.int .u8 n4) ∧
cell h26 b4 (o3 + 1) = some (.int .u8 n3) ∧
cell h26 b3 (o2 + 24) = some (.int .u8 n2) ∧
(0 ≤ n10 ∧ 0 < (16 : Int) ∧ fits .i64 (n10 / (16 : Int))) ∧
(cs9).length = 6 ∧
(cs10).length = 6 ∧
(cs11).length = 6 ∧
(((((cs9) ++ ((cs10) ++ ((cs11) ++ ([(.int .i64 (bits .and .u8 n2 (15 : Int))), (.int .i64 (n10 / (16 : Int))), (.bool (!decide ((bits .and .u8 n3 (8 : Int)) = (0 : Int)))), (.bool (!decide ((bits .and .u8 n4 (32 : Int)) = (0 : Int)))), (.bool (!decide ((bits .and .u8 n5 (16 : Int)) = (0 : Int)))), (.slice none 0 0)] : List Value)))))).length = 24 ∧ wrs h26 b11 0 24 ∧ ∀ u ∈ ((((cs9) ++ ((cs10) ++ ((cs11) ++ ([(.int .i64 (bits .and .u8 n2 (15 : Int))), (.int .i64 (n10 / (16 : Int))), (.bool (!decide ((bits .and .u8 n3 (8 : Int)) = (0 : Int)))), (.bool (!decide ((bits .and .u8 n4 (32 : Int)) = (0 : Int)))), (.bool (!decide ((bits .and .u8 n5 (16 : Int)) = (0 : Int)))), (.slice none 0 0)] : List Value))))) : List Value), u.oneCell' = true) ∧ ∀ h27 : Heap, h27 = setr h26 b11 0 (((cs9) ++ ((cs10) ++ ((cs11) ++ ([(.int .i64 (bits .and .u8 n2 (15 : Int))), (.int .i64 (n10 / (16 : Int))), (.bool (!decide ((bits .and .u8 n3 (8 : Int)) = (0 : Int)))), (.bool (!decide ((bits .and .u8 n4 (32 : Int)) = (0 : Int)))), (.bool (!decide ((bits .and .u8 n5 (16 : Int)) = (0 : Int)))), (.slice none 0 0)] : List Value))))) →
J1 (some ⟨b11, 0, none⟩) h27)) ∧ ∀ _ : Env,
∀ (f_1 : Option Addr) (h28 : Heap), J1 f_1 h28 →
∃ J2 : Bool → Heap → Prop, (
(0 ≤ (1 : Int) ∧ (1 : Int) < ((bL : Nat) : Int)) ∧
onAddr b fun b12 o6 =>
∃ n11 : Int, cell h28 b12 (o6 + 1) = some (.int .u8 n11) ∧
bcase (!decide ((bits .and .u8 n11 (215 : Int)) = (2 : Int))) (
J2 true h28) (
(0 ≤ (2 : Int) ∧ (2 : Int) < ((bL : Nat) : Int)) ∧
onAddr b fun b13 o7 =>
∃ n12 : Int, cell h28 b13 (o7 + 2) = some (.int .u8 n12) ∧
J2 (!decide (n12 = (0 : Int))) h28)) ∧ ∀ _ : Env,
∀ (x2 : Bool) (h29 : Heap), J2 x2 h29 →
∃ J3 : Bool → Heap → Prop, (
bcase x2 (
J3 true h29) (
(0 ≤ (3 : Int) ∧ (3 : Int) < ((bL : Nat) : Int)) ∧
onAddr b fun b14 o8 =>
∃ n13 : Int, cell h29 b14 (o8 + 3) = some (.int .u8 n13) ∧
J3 (!decide (n13 = (0 : Int))) h29)) ∧ ∀ _ : Env,
∀ (x3 : Bool) (h30 : Heap), J3 x3 h30 →
∃ J4 : Bool → Heap → Prop, (
bcase x3 (
J4 true h30) (
(0 ≤ (25 : Int) ∧ (25 : Int) < ((bL : Nat) : Int)) ∧
onAddr b fun b15 o9 =>
∃ n14 : Int, cell h30 b15 (o9 + 25) = some (.int .u8 n14) ∧
J4 (!decide (n14 = (0 : Int))) h30)) ∧ ∀ _ : Env,
∀ (x4 : Bool) (h31 : Heap), J4 x4 h31 →
∃ J5 : Bool → Heap → Prop, (
bcase x4 (
J5 true h31) (
(0 ≤ (22 : Int) ∧ (22 : Int) < ((bL : Nat) : Int)) ∧
onAddr b fun b16 o10 =>
∃ n15 : Int, cell h31 b16 (o10 + 22) = some (.int .u8 n15) ∧
J5 (!decide ((bits .and .u8 n15 (15 : Int)) = (0 : Int))) h31)) ∧ ∀ _ : Env,
∀ (x5 : Bool) (h32 : Heap), J5 x5 h32 →
∃ J6 : Bool → Heap → Prop, (
bcase x5 (
J6 true h32) (
(0 ≤ (24 : Int) ∧ (24 : Int) < ((bL : Nat) : Int)) ∧
onAddr b fun b17 o11 =>
∃ n16 : Int, cell h32 b17 (o11 + 24) = some (.int .u8 n16) ∧
J6 (decide ((23 : Int) < n16)) h32)) ∧ ∀ _ : Env,
∀ (x6 : Bool) (h33 : Heap), J6 x6 h33 →
bcase x6 (
((([(.int .u8 (0 : Int)), (.int .u8 (0 : Int)), (.int .u8 (0 : Int)), (.int .u8 (0 : Int)), (.int .u8 (0 : Int)), (.int .u8 (0 : Int)), (.int .u8 (0 : Int)), (.int .u8 (0 : Int)), (.int .u8 (0 : Int)), (.int .u8 (0 : Int)), (.int .u8 (0 : Int)), (.int .u8 (0 : Int)), (.int .u8 (0 : Int)), (.int .u8 (0 : Int)), (.int .u8 (0 : Int)), (.int .u8 (0 : Int)), (.int .u8 (0 : Int)), (.int .u8 (0 : Int)), (.int .i64 (0 : Int)), (.int .i64 (0 : Int)), (.bool false), (.bool false), (.bool false), (.slice none 0 0)] : List Value)).length = 24 ∧ wrs h33 b1 0 24 ∧ ∀ u ∈ (([(.int .u8 (0 : Int)), (.int .u8 (0 : Int)), (.int .u8 (0 : Int)), (.int .u8 (0 : Int)), (.int .u8 (0 : Int)), (.int .u8 (0 : Int)), (.int .u8 (0 : Int)), (.int .u8 (0 : Int)), (.int .u8 (0 : Int)), (.int .u8 (0 : Int)), (.int .u8 (0 : Int)), (.int .u8 (0 : Int)), (.int .u8 (0 : Int)), (.int .u8 (0 : Int)), (.int .u8 (0 : Int)), (.int .u8 (0 : Int)), (.int .u8 (0 : Int)), (.int .u8 (0 : Int)), (.int .i64 (0 : Int)), (.int .i64 (0 : Int)), (.bool false), (.bool false), (.bool false), (.slice none 0 0)] : List Value) : List Value), u.oneCell' = true) ∧ ∀ h34 : Heap, h34 = setr h33 b1 0 ([(.int .u8 (0 : Int)), (.int .u8 (0 : Int)), (.int .u8 (0 : Int)), (.int .u8 (0 : Int)), (.int .u8 (0 : Int)), (.int .u8 (0 : Int)), (.int .u8 (0 : Int)), (.int .u8 (0 : Int)), (.int .u8 (0 : Int)), (.int .u8 (0 : Int)), (.int .u8 (0 : Int)), (.int .u8 (0 : Int)), (.int .u8 (0 : Int)), (.int .u8 (0 : Int)), (.int .u8 (0 : Int)), (.int .u8 (0 : Int)), (.int .u8 (0 : Int)), (.int .u8 (0 : Int)), (.int .i64 (0 : Int)), (.int .i64 (0 : Int)), (.bool false), (.bool false), (.bool false), (.slice none 0 0)] : List Value) →
∃ cs12 : List Value, row h34 b1 0 24 = some cs12 ∧
Post (.tuple #[(.agg (cs12).toArray), (.int .i64 (102 : Int))]) h34) (
onAddr f_1 fun b18 o12 =>
∃ n17 : Int, cell h33 b18 (o12 + 18) = some (.int .i64 n17) ∧
bcase (decide ((7 : Int) < n17)) (
((([(.int .u8 (0 : Int)), (.int .u8 (0 : Int)), (.int .u8 (0 : Int)), (.int .u8 (0 : Int)), (.int .u8 (0 : Int)), (.int .u8 (0 : Int)), (.int .u8 (0 : Int)), (.int .u8 (0 : Int)), (.int .u8 (0 : Int)), (.int .u8 (0 : Int)), (.int .u8 (0 : Int)), (.int .u8 (0 : Int)), (.int .u8 (0 : Int)), (.int .u8 (0 : Int)), (.int .u8 (0 : Int)), (.int .u8 (0 : Int)), (.int .u8 (0 : Int)), (.int .u8 (0 : Int)), (.int .i64 (0 : Int)), (.int .i64 (0 : Int)), (.bool false), (.bool false), (.bool false), (.slice none 0 0)] : List Value)).length = 24 ∧ wrs h33 b1 0 24 ∧ ∀ u ∈ (([(.int .u8 (0 : Int)), (.int .u8 (0 : Int)), (.int .u8 (0 : Int)), (.int .u8 (0 : Int)), (.int .u8 (0 : Int)), (.int .u8 (0 : Int)), (.int .u8 (0 : Int)), (.int .u8 (0 : Int)), (.int .u8 (0 : Int)), (.int .u8 (0 : Int)), (.int .u8 (0 : Int)), (.int .u8 (0 : Int)), (.int .u8 (0 : Int)), (.int .u8 (0 : Int)), (.int .u8 (0 : Int)), (.int .u8 (0 : Int)), (.int .u8 (0 : Int)), (.int .u8 (0 : Int)), (.int .i64 (0 : Int)), (.int .i64 (0 : Int)), (.bool false), (.bool false), (.bool false), (.slice none 0 0)] : List Value) : List Value), u.oneCell' = true) ∧ ∀ h35 : Heap, h35 = setr h33 b1 0 ([(.int .u8 (0 : Int)), (.int .u8 (0 : Int)), (.int .u8 (0 : Int)), (.int .u8 (0 : Int)), (.int .u8 (0 : Int)), (.int .u8 (0 : Int)), (.int .u8 (0 : Int)), (.int .u8 (0 : Int)), (.int .u8 (0 : Int)), (.int .u8 (0 : Int)), (.int .u8 (0 : Int)), (.int .u8 (0 : Int)), (.int .u8 (0 : Int)), (.int .u8 (0 : Int)), (.int .u8 (0 : Int)), (.int .u8 (0 : Int)), (.int .u8 (0 : Int)), (.int .u8 (0 : Int)), (.int .i64 (0 : Int)), (.int .i64 (0 : Int)), (.bool false), (.bool false), (.bool false), (.slice none 0 0)] : List Value) →
∃ cs13 : List Value, row h35 b1 0 24 = some cs13 ∧
Post (.tuple #[(.agg (cs13).toArray), (.int .i64 (102 : Int))]) h35) (
fits .i64 (((bL : Nat) : Int) - (26 : Int)) ∧
bcase (decide ((1500 : Int) < (((bL : Nat) : Int) - (26 : Int)))) (
((([(.int .u8 (0 : Int)), (.int .u8 (0 : Int)), (.int .u8 (0 : Int)), (.int .u8 (0 : Int)), (.int .u8 (0 : Int)), (.int .u8 (0 : Int)), (.int .u8 (0 : Int)), (.int .u8 (0 : Int)), (.int .u8 (0 : Int)), (.int .u8 (0 : Int)), (.int .u8 (0 : Int)), (.int .u8 (0 : Int)), (.int .u8 (0 : Int)), (.int .u8 (0 : Int)), (.int .u8 (0 : Int)), (.int .u8 (0 : Int)), (.int .u8 (0 : Int)), (.int .u8 (0 : Int)), (.int .i64 (0 : Int)), (.int .i64 (0 : Int)), (.bool false), (.bool false), (.bool false), (.slice none 0 0)] : List Value)).length = 24 ∧ wrs h33 b1 0 24 ∧ ∀ u ∈ (([(.int .u8 (0 : Int)), (.int .u8 (0 : Int)), (.int .u8 (0 : Int)), (.int .u8 (0 : Int)), (.int .u8 (0 : Int)), (.int .u8 (0 : Int)), (.int .u8 (0 : Int)), (.int .u8 (0 : Int)), (.int .u8 (0 : Int)), (.int .u8 (0 : Int)), (.int .u8 (0 : Int)), (.int .u8 (0 : Int)), (.int .u8 (0 : Int)), (.int .u8 (0 : Int)), (.int .u8 (0 : Int)), (.int .u8 (0 : Int)), (.int .u8 (0 : Int)), (.int .u8 (0 : Int)), (.int .i64 (0 : Int)), (.int .i64 (0 : Int)), (.bool false), (.bool false), (.bool false), (.slice none 0 0)] : List Value) : List Value), u.oneCell' = true) ∧ ∀ h36 : Heap, h36 = setr h33 b1 0 ([(.int .u8 (0 : Int)), (.int .u8 (0 : Int)), (.int .u8 (0 : Int)), (.int .u8 (0 : Int)), (.int .u8 (0 : Int)), (.int .u8 (0 : Int)), (.int .u8 (0 : Int)), (.int .u8 (0 : Int)), (.int .u8 (0 : Int)), (.int .u8 (0 : Int)), (.int .u8 (0 : Int)), (.int .u8 (0 : Int)), (.int .u8 (0 : Int)), (.int .u8 (0 : Int)), (.int .u8 (0 : Int)), (.int .u8 (0 : Int)), (.int .u8 (0 : Int)), (.int .u8 (0 : Int)), (.int .i64 (0 : Int)), (.int .i64 (0 : Int)), (.bool false), (.bool false), (.bool false), (.slice none 0 0)] : List Value) →
∃ cs14 : List Value, row h36 b1 0 24 = some cs14 ∧
Post (.tuple #[(.agg (cs14).toArray), (.int .i64 (103 : Int))]) h36) (
(0 ≤ (26 : Int) ∧ (26 : Int) ≤ ((bL : Nat) : Int)) ∧
Runs Tryz.prog 86 #[(.slice (slcAddr b 26 bC 26) (bL - 26) (bC - 26))] h33 fun r15 h37 =>
∃ (s1 : Option Addr) (s1l s1c : Nat),
r15 = (.slice s1 s1l s1c) ∧
onAddr f_1 fun b19 o13 =>
wr h37 b19 (o13 + 23) ∧ ∀ h38 : Heap, h38 = setc h37 b19 (o13 + 23) (.slice s1 s1l s1c) →
onAddr f_1 fun b20 o14 =>
∃ cs15 : List Value, row h38 b20 o14 24 = some cs15 ∧
(((cs15)).length = 24 ∧ wrs h38 b1 0 24 ∧ ∀ u ∈ ((cs15) : List Value), u.oneCell' = true) ∧ ∀ h39 : Heap, h39 = setr h38 b1 0 (cs15) →
∃ cs16 : List Value, row h39 b1 0 24 = some cs16 ∧
Post (.tuple #[(.agg (cs16).toArray), (.int .i64 (0 : Int))]) h39)))))) :
    Runs Tryz.prog 56 #[(.slice b bL bC)] h0 Post :=
  runs_of (args := [(.slice b bL bC)]) (fun n => ⟨true, false⟩) (fun _ => []) (fun n => match n with | 6 => some [(4, .ptr)] | _ => none) (fun n => match n with | 6 => [(11, [(58, .bool)]), (6, [(64, .bool)]), (6, [(70, .bool)]), (7, [(77, .bool)]), (6, [(83, .bool)])] | _ => []) Tryz.func56 rfl (by rw [Tryz.ntmps56]; simp) (Eq.mp (by kernel_rfl) H)

theorem vc_muezzinref_Bytes (l : Option Addr) (lL lC : Nat) (h0 : Heap) (Post : Value → Heap → Prop) (H :
(0 ≤ (0 : Int) ∧ (0 : Int) ≤ ((lL : Nat) : Int) ∧ ((1 : Nat) : Int) * ((lL : Nat) : Int) ≤ 281474976710656 ∧ ((lL : Nat) : Int) ≤ 9223372036854775807) ∧ ∀ (b1 : Nat) (h1 : Heap), b1 = h0.size → h1 = h0.push (.cells (joinL (List.replicate (((lL : Nat) : Int)).toNat [(.int .u8 (0 : Int))])).toArray 5) →
∃ (I1 : Option Addr → Nat → Nat → Int → Heap → Prop) (m1 : Option Addr → Nat → Nat → Int → Heap → Nat), I1 (some ⟨b1, 0, none⟩) 0 (((lL : Nat) : Int)).toNat (0 : Int) h1 ∧ ∀ _ : Env,
∀ (out_1 : Option Addr) (out_1l out_1c : Nat) (i_1 : Int) (h2 : Heap), I1 out_1 out_1l out_1c i_1 h2 →
bcase (decide (i_1 < ((lL : Nat) : Int))) (
(0 ≤ i_1 ∧ i_1 < ((lL : Nat) : Int)) ∧
onAddr l fun b2 o1 =>
∃ n1 : Int, cell h2 b2 (o1 + (i_1).toNat) = some (.int .u8 n1) ∧
∀ (b3 : Nat) (h3 : Heap), b3 = h2.size → h3 = h2.push (.cells ([(.int .u8 n1)] : List Value).toArray 5) →
∃ news1 : List Value, (row h3 b3 0 1 = some news1 ∧ ∀ u ∈ news1, u.oneCell' = true) ∧
appK h3 out_1 out_1l out_1c 1 1 5 1 news1 fun (a1 : Option Addr) (cap1 : Nat) (h4 : Heap) =>
fits .i64 (i_1 + (1 : Int)) ∧
I1 a1 (out_1l + 1) cap1 (i_1 + (1 : Int)) h4 ∧ m1 a1 (out_1l + 1) cap1 (i_1 + (1 : Int)) h4 < m1 out_1 out_1l out_1c i_1 h2) (
Post (.slice out_1 out_1l out_1c) h2)) :
    Runs Tryz.prog 86 #[(.slice l lL lC)] h0 Post :=
  runs_of (args := [(.slice l lL lC)]) (fun n => ⟨true, false⟩) (fun n => match n with | 0 => [(3, .slice), (4, .int .i64)] | _ => []) (fun _ => none) (fun _ => []) Tryz.func86 rfl (by rw [Tryz.ntmps86]; simp) (Eq.mp (by kernel_rfl) H)

theorem vc_muezzinref1_ReadDel (b : Option Addr) (bL bC : Nat) (h0 : Heap) (Post : Value → Heap → Prop) (H :
∀ (b1 : Nat) (h1 : Heap), b1 = h0.size → h1 = h0.push (.cells ([(.int .u8 (0 : Int)), (.int .u8 (0 : Int)), (.int .u8 (0 : Int)), (.int .u8 (0 : Int)), (.int .u8 (0 : Int)), (.int .u8 (0 : Int)), (.int .u8 (0 : Int)), (.int .u8 (0 : Int)), (.int .u8 (0 : Int)), (.int .u8 (0 : Int)), (.int .u8 (0 : Int)), (.int .u8 (0 : Int)), (.int .u8 (0 : Int)), (.int .u8 (0 : Int)), (.int .u8 (0 : Int)), (.int .u8 (0 : Int)), (.int .u8 (0 : Int)), (.int .u8 (0 : Int)), (.bool false), (.int .i64 (0 : Int)), (.int .i64 (0 : Int))] : List Value).toArray 81) →
Runs Tryz.prog 102 #[(.slice b bL bC), (.int .u8 (2 : Int)), (.int .u8 (2 : Int)), (.int .i64 (30 : Int))] h1 fun r1 h2 =>
∃ n1 : Int,
r1 = (.int .i64 n1) ∧
bcase (!decide (n1 = (0 : Int))) (
((([(.int .u8 (0 : Int)), (.int .u8 (0 : Int)), (.int .u8 (0 : Int)), (.int .u8 (0 : Int)), (.int .u8 (0 : Int)), (.int .u8 (0 : Int)), (.int .u8 (0 : Int)), (.int .u8 (0 : Int)), (.int .u8 (0 : Int)), (.int .u8 (0 : Int)), (.int .u8 (0 : Int)), (.int .u8 (0 : Int)), (.int .u8 (0 : Int)), (.int .u8 (0 : Int)), (.int .u8 (0 : Int)), (.int .u8 (0 : Int)), (.int .u8 (0 : Int)), (.int .u8 (0 : Int)), (.bool false), (.int .i64 (0 : Int)), (.int .i64 (0 : Int))] : List Value)).length = 21 ∧ wrs h2 b1 0 21 ∧ ∀ u ∈ (([(.int .u8 (0 : Int)), (.int .u8 (0 : Int)), (.int .u8 (0 : Int)), (.int .u8 (0 : Int)), (.int .u8 (0 : Int)), (.int .u8 (0 : Int)), (.int .u8 (0 : Int)), (.int .u8 (0 : Int)), (.int .u8 (0 : Int)), (.int .u8 (0 : Int)), (.int .u8 (0 : Int)), (.int .u8 (0 : Int)), (.int .u8 (0 : Int)), (.int .u8 (0 : Int)), (.int .u8 (0 : Int)), (.int .u8 (0 : Int)), (.int .u8 (0 : Int)), (.int .u8 (0 : Int)), (.bool false), (.int .i64 (0 : Int)), (.int .i64 (0 : Int))] : List Value) : List Value), u.oneCell' = true) ∧ ∀ h3 : Heap, h3 = setr h2 b1 0 ([(.int .u8 (0 : Int)), (.int .u8 (0 : Int)), (.int .u8 (0 : Int)), (.int .u8 (0 : Int)), (.int .u8 (0 : Int)), (.int .u8 (0 : Int)), (.int .u8 (0 : Int)), (.int .u8 (0 : Int)), (.int .u8 (0 : Int)), (.int .u8 (0 : Int)), (.int .u8 (0 : Int)), (.int .u8 (0 : Int)), (.int .u8 (0 : Int)), (.int .u8 (0 : Int)), (.int .u8 (0 : Int)), (.int .u8 (0 : Int)), (.int .u8 (0 : Int)), (.int .u8 (0 : Int)), (.bool false), (.int .i64 (0 : Int)), (.int .i64 (0 : Int))] : List Value) →
∃ cs1 : List Value, row h3 b1 0 21 = some cs1 ∧
Post (.tuple #[(.agg (cs1).toArray), (.int .i64 n1)]) h3) (
(0 ≤ (26 : Int) ∧ (26 : Int) ≤ ((bL : Nat) : Int)) ∧
Runs Tryz.prog 85 #[(.slice (slcAddr b 26 bC 26) (bL - 26) (bC - 26))] h2 fun r2 h4 =>
∃ n2 : Int,
r2 = (.int .i64 n2) ∧
∃ J1 : Option Addr → Heap → Prop, (
(0 ≤ (4 : Int) ∧ (4 : Int) ≤ ((bL : Nat) : Int)) ∧
(0 ≤ (10 : Int) ∧ (10 : Int) ≤ ((bL : Nat) : Int)) ∧
(0 ≤ (16 : Int) ∧ (16 : Int) ≤ ((bL : Nat) : Int)) ∧
(0 ≤ n2 ∧ 0 < (4096 : Int) ∧ fits .i64 (n2 / (4096 : Int))) ∧
(0 ≤ (28 : Int) ∧ (28 : Int) ≤ ((bL : Nat) : Int)) ∧
(
Runs Tryz.prog 87 #[(.slice (slcAddr b 4 bC 4) (bL - 4) (bC - 4))] h4 fun r3 h5 =>
∃ cs2 : List Value,
r3 = (.agg (cs2).toArray) ∧
(
Runs Tryz.prog 87 #[(.slice (slcAddr b 10 bC 10) (bL - 10) (bC - 10))] h5 fun r4 h6 =>
∃ cs3 : List Value,
r4 = (.agg (cs3).toArray) ∧
(
Runs Tryz.prog 87 #[(.slice (slcAddr b 16 bC 16) (bL - 16) (bC - 16))] h6 fun r5 h7 =>
∃ cs4 : List Value,
r5 = (.agg (cs4).toArray) ∧
(
Runs Tryz.prog 85 #[(.slice (slcAddr b 28 bC 28) (bL - 28) (bC - 28))] h7 fun r6 h8 =>
∃ n3 : Int,
r6 = (.int .i64 n3) ∧
(cs2).length = 6 ∧
(cs3).length = 6 ∧
(cs4).length = 6 ∧
∀ (b2 : Nat) (h9 : Heap), b2 = h8.size → h9 = h8.push (.cells ([(.int .u8 (0 : Int)), (.int .u8 (0 : Int)), (.int .u8 (0 : Int)), (.int .u8 (0 : Int)), (.int .u8 (0 : Int)), (.int .u8 (0 : Int)), (.int .u8 (0 : Int)), (.int .u8 (0 : Int)), (.int .u8 (0 : Int)), (.int .u8 (0 : Int)), (.int .u8 (0 : Int)), (.int .u8 (0 : Int)), (.int .u8 (0 : Int)), (.int .u8 (0 : Int)), (.int .u8 (0 : Int)), (.int .u8 (0 : Int)), (.int .u8 (0 : Int)), (.int .u8 (0 : Int)), (.bool false), (.int .i64 (0 : Int)), (.int .i64 (0 : Int))] : List Value).toArray 81) →
(((((cs2) ++ ((cs3) ++ ((cs4) ++ ([(.bool (!decide ((bits .and .i64 n2 (2048 : Int)) = (0 : Int)))), (.int .i64 (n2 / (4096 : Int))), (.int .i64 n3)] : List Value)))))).length = 21 ∧ wrs h9 b2 0 21 ∧ ∀ u ∈ ((((cs2) ++ ((cs3) ++ ((cs4) ++ ([(.bool (!decide ((bits .and .i64 n2 (2048 : Int)) = (0 : Int)))), (.int .i64 (n2 / (4096 : Int))), (.int .i64 n3)] : List Value))))) : List Value), u.oneCell' = true) ∧ ∀ h10 : Heap, h10 = setr h9 b2 0 (((cs2) ++ ((cs3) ++ ((cs4) ++ ([(.bool (!decide ((bits .and .i64 n2 (2048 : Int)) = (0 : Int)))), (.int .i64 (n2 / (4096 : Int))), (.int .i64 n3)] : List Value))))) →
J1 (some ⟨b2, 0, none⟩) h10) ∧
(
∀ (b3 : Nat) (h11 : Heap), b3 = h7.size → h11 = h7.push (.cells ([(.int .u8 (0 : Int)), (.int .u8 (0 : Int)), (.int .u8 (0 : Int)), (.int .u8 (0 : Int)), (.int .u8 (0 : Int)), (.int .u8 (0 : Int)), (.int .u8 (0 : Int)), (.int .u8 (0 : Int)), (.int .u8 (0 : Int)), (.int .u8 (0 : Int)), (.int .u8 (0 : Int)), (.int .u8 (0 : Int)), (.int .u8 (0 : Int)), (.int .u8 (0 : Int)), (.int .u8 (0 : Int)), (.int .u8 (0 : Int)), (.int .u8 (0 : Int)), (.int .u8 (0 : Int)), (.bool false), (.int .i64 (0 : Int)), (.int .i64 (0 : Int))] : List Value).toArray 81) →
Runs Tryz.prog 85 #[(.slice (slcAddr b 28 bC 28) (bL - 28) (bC - 28))] h11 fun r7 h12 =>
∃ n4 : Int,
r7 = (.int .i64 n4) ∧
(cs2).length = 6 ∧
(cs3).length = 6 ∧
(cs4).length = 6 ∧
(((((cs2) ++ ((cs3) ++ ((cs4) ++ ([(.bool (!decide ((bits .and .i64 n2 (2048 : Int)) = (0 : Int)))), (.int .i64 (n2 / (4096 : Int))), (.int .i64 n4)] : List Value)))))).length = 21 ∧ wrs h12 b3 0 21 ∧ ∀ u ∈ ((((cs2) ++ ((cs3) ++ ((cs4) ++ ([(.bool (!decide ((bits .and .i64 n2 (2048 : Int)) = (0 : Int)))), (.int .i64 (n2 / (4096 : Int))), (.int .i64 n4)] : List Value))))) : List Value), u.oneCell' = true) ∧ ∀ h13 : Heap, h13 = setr h12 b3 0 (((cs2) ++ ((cs3) ++ ((cs4) ++ ([(.bool (!decide ((bits .and .i64 n2 (2048 : Int)) = (0 : Int)))), (.int .i64 (n2 / (4096 : Int))), (.int .i64 n4)] : List Value))))) →
J1 (some ⟨b3, 0, none⟩) h13)) ∧
(
∀ (b4 : Nat) (h14 : Heap), b4 = h6.size → h14 = h6.push (.cells ([(.int .u8 (0 : Int)), (.int .u8 (0 : Int)), (.int .u8 (0 : Int)), (.int .u8 (0 : Int)), (.int .u8 (0 : Int)), (.int .u8 (0 : Int)), (.int .u8 (0 : Int)), (.int .u8 (0 : Int)), (.int .u8 (0 : Int)), (.int .u8 (0 : Int)), (.int .u8 (0 : Int)), (.int .u8 (0 : Int)), (.int .u8 (0 : Int)), (.int .u8 (0 : Int)), (.int .u8 (0 : Int)), (.int .u8 (0 : Int)), (.int .u8 (0 : Int)), (.int .u8 (0 : Int)), (.bool false), (.int .i64 (0 : Int)), (.int .i64 (0 : Int))] : List Value).toArray 81) →
Runs Tryz.prog 87 #[(.slice (slcAddr b 16 bC 16) (bL - 16) (bC - 16))] h14 fun r8 h15 =>
∃ cs5 : List Value,
r8 = (.agg (cs5).toArray) ∧
Runs Tryz.prog 85 #[(.slice (slcAddr b 28 bC 28) (bL - 28) (bC - 28))] h15 fun r9 h16 =>
∃ n5 : Int,
r9 = (.int .i64 n5) ∧
(cs2).length = 6 ∧
(cs3).length = 6 ∧
(cs5).length = 6 ∧
(((((cs2) ++ ((cs3) ++ ((cs5) ++ ([(.bool (!decide ((bits .and .i64 n2 (2048 : Int)) = (0 : Int)))), (.int .i64 (n2 / (4096 : Int))), (.int .i64 n5)] : List Value)))))).length = 21 ∧ wrs h16 b4 0 21 ∧ ∀ u ∈ ((((cs2) ++ ((cs3) ++ ((cs5) ++ ([(.bool (!decide ((bits .and .i64 n2 (2048 : Int)) = (0 : Int)))), (.int .i64 (n2 / (4096 : Int))), (.int .i64 n5)] : List Value))))) : List Value), u.oneCell' = true) ∧ ∀ h17 : Heap, h17 = setr h16 b4 0 (((cs2) ++ ((cs3) ++ ((cs5) ++ ([(.bool (!decide ((bits .and .i64 n2 (2048 : Int)) = (0 : Int)))), (.int .i64 (n2 / (4096 : Int))), (.int .i64 n5)] : List Value))))) →
J1 (some ⟨b4, 0, none⟩) h17)) ∧
(
∀ (b5 : Nat) (h18 : Heap), b5 = h5.size → h18 = h5.push (.cells ([(.int .u8 (0 : Int)), (.int .u8 (0 : Int)), (.int .u8 (0 : Int)), (.int .u8 (0 : Int)), (.int .u8 (0 : Int)), (.int .u8 (0 : Int)), (.int .u8 (0 : Int)), (.int .u8 (0 : Int)), (.int .u8 (0 : Int)), (.int .u8 (0 : Int)), (.int .u8 (0 : Int)), (.int .u8 (0 : Int)), (.int .u8 (0 : Int)), (.int .u8 (0 : Int)), (.int .u8 (0 : Int)), (.int .u8 (0 : Int)), (.int .u8 (0 : Int)), (.int .u8 (0 : Int)), (.bool false), (.int .i64 (0 : Int)), (.int .i64 (0 : Int))] : List Value).toArray 81) →
Runs Tryz.prog 87 #[(.slice (slcAddr b 10 bC 10) (bL - 10) (bC - 10))] h18 fun r10 h19 =>
∃ cs6 : List Value,
r10 = (.agg (cs6).toArray) ∧
Runs Tryz.prog 87 #[(.slice (slcAddr b 16 bC 16) (bL - 16) (bC - 16))] h19 fun r11 h20 =>
∃ cs7 : List Value,
r11 = (.agg (cs7).toArray) ∧
Runs Tryz.prog 85 #[(.slice (slcAddr b 28 bC 28) (bL - 28) (bC - 28))] h20 fun r12 h21 =>
∃ n6 : Int,
r12 = (.int .i64 n6) ∧
(cs2).length = 6 ∧
(cs6).length = 6 ∧
(cs7).length = 6 ∧
(((((cs2) ++ ((cs6) ++ ((cs7) ++ ([(.bool (!decide ((bits .and .i64 n2 (2048 : Int)) = (0 : Int)))), (.int .i64 (n2 / (4096 : Int))), (.int .i64 n6)] : List Value)))))).length = 21 ∧ wrs h21 b5 0 21 ∧ ∀ u ∈ ((((cs2) ++ ((cs6) ++ ((cs7) ++ ([(.bool (!decide ((bits .and .i64 n2 (2048 : Int)) = (0 : Int)))), (.int .i64 (n2 / (4096 : Int))), (.int .i64 n6)] : List Value))))) : List Value), u.oneCell' = true) ∧ ∀ h22 : Heap, h22 = setr h21 b5 0 (((cs2) ++ ((cs6) ++ ((cs7) ++ ([(.bool (!decide ((bits .and .i64 n2 (2048 : Int)) = (0 : Int)))), (.int .i64 (n2 / (4096 : Int))), (.int .i64 n6)] : List Value))))) →
J1 (some ⟨b5, 0, none⟩) h22)) ∧
(
∀ (b6 : Nat) (h23 : Heap), b6 = h4.size → h23 = h4.push (.cells ([(.int .u8 (0 : Int)), (.int .u8 (0 : Int)), (.int .u8 (0 : Int)), (.int .u8 (0 : Int)), (.int .u8 (0 : Int)), (.int .u8 (0 : Int)), (.int .u8 (0 : Int)), (.int .u8 (0 : Int)), (.int .u8 (0 : Int)), (.int .u8 (0 : Int)), (.int .u8 (0 : Int)), (.int .u8 (0 : Int)), (.int .u8 (0 : Int)), (.int .u8 (0 : Int)), (.int .u8 (0 : Int)), (.int .u8 (0 : Int)), (.int .u8 (0 : Int)), (.int .u8 (0 : Int)), (.bool false), (.int .i64 (0 : Int)), (.int .i64 (0 : Int))] : List Value).toArray 81) →
Runs Tryz.prog 87 #[(.slice (slcAddr b 4 bC 4) (bL - 4) (bC - 4))] h23 fun r13 h24 =>
∃ cs8 : List Value,
r13 = (.agg (cs8).toArray) ∧
Runs Tryz.prog 87 #[(.slice (slcAddr b 10 bC 10) (bL - 10) (bC - 10))] h24 fun r14 h25 =>
∃ cs9 : List Value,
r14 = (.agg (cs9).toArray) ∧
Runs Tryz.prog 87 #[(.slice (slcAddr b 16 bC 16) (bL - 16) (bC - 16))] h25 fun r15 h26 =>
∃ cs10 : List Value,
r15 = (.agg (cs10).toArray) ∧
Runs Tryz.prog 85 #[(.slice (slcAddr b 28 bC 28) (bL - 28) (bC - 28))] h26 fun r16 h27 =>
∃ n7 : Int,
r16 = (.int .i64 n7) ∧
(cs8).length = 6 ∧
(cs9).length = 6 ∧
(cs10).length = 6 ∧
(((((cs8) ++ ((cs9) ++ ((cs10) ++ ([(.bool (!decide ((bits .and .i64 n2 (2048 : Int)) = (0 : Int)))), (.int .i64 (n2 / (4096 : Int))), (.int .i64 n7)] : List Value)))))).length = 21 ∧ wrs h27 b6 0 21 ∧ ∀ u ∈ ((((cs8) ++ ((cs9) ++ ((cs10) ++ ([(.bool (!decide ((bits .and .i64 n2 (2048 : Int)) = (0 : Int)))), (.int .i64 (n2 / (4096 : Int))), (.int .i64 n7)] : List Value))))) : List Value), u.oneCell' = true) ∧ ∀ h28 : Heap, h28 = setr h27 b6 0 (((cs8) ++ ((cs9) ++ ((cs10) ++ ([(.bool (!decide ((bits .and .i64 n2 (2048 : Int)) = (0 : Int)))), (.int .i64 (n2 / (4096 : Int))), (.int .i64 n7)] : List Value))))) →
J1 (some ⟨b6, 0, none⟩) h28)) ∧ ∀ _ : Env,
∀ (f_1 : Option Addr) (h29 : Heap), J1 f_1 h29 →
onAddr f_1 fun b7 o1 =>
∃ cs11 : List Value, row h29 b7 o1 21 = some cs11 ∧
Runs Tryz.prog 26 #[(.agg (cs11).toArray)] h29 fun r17 h30 =>
∃ (s1 : Option Addr) (s1l s1c : Nat),
∃ n8 : Int,
r17 = (.tuple #[(.slice s1 s1l s1c), (.int .i64 n8)]) ∧
bcase (!decide (n8 = (0 : Int))) (
((([(.int .u8 (0 : Int)), (.int .u8 (0 : Int)), (.int .u8 (0 : Int)), (.int .u8 (0 : Int)), (.int .u8 (0 : Int)), (.int .u8 (0 : Int)), (.int .u8 (0 : Int)), (.int .u8 (0 : Int)), (.int .u8 (0 : Int)), (.int .u8 (0 : Int)), (.int .u8 (0 : Int)), (.int .u8 (0 : Int)), (.int .u8 (0 : Int)), (.int .u8 (0 : Int)), (.int .u8 (0 : Int)), (.int .u8 (0 : Int)), (.int .u8 (0 : Int)), (.int .u8 (0 : Int)), (.bool false), (.int .i64 (0 : Int)), (.int .i64 (0 : Int))] : List Value)).length = 21 ∧ wrs h30 b1 0 21 ∧ ∀ u ∈ (([(.int .u8 (0 : Int)), (.int .u8 (0 : Int)), (.int .u8 (0 : Int)), (.int .u8 (0 : Int)), (.int .u8 (0 : Int)), (.int .u8 (0 : Int)), (.int .u8 (0 : Int)), (.int .u8 (0 : Int)), (.int .u8 (0 : Int)), (.int .u8 (0 : Int)), (.int .u8 (0 : Int)), (.int .u8 (0 : Int)), (.int .u8 (0 : Int)), (.int .u8 (0 : Int)), (.int .u8 (0 : Int)), (.int .u8 (0 : Int)), (.int .u8 (0 : Int)), (.int .u8 (0 : Int)), (.bool false), (.int .i64 (0 : Int)), (.int .i64 (0 : Int))] : List Value) : List Value), u.oneCell' = true) ∧ ∀ h31 : Heap, h31 = setr h30 b1 0 ([(.int .u8 (0 : Int)), (.int .u8 (0 : Int)), (.int .u8 (0 : Int)), (.int .u8 (0 : Int)), (.int .u8 (0 : Int)), (.int .u8 (0 : Int)), (.int .u8 (0 : Int)), (.int .u8 (0 : Int)), (.int .u8 (0 : Int)), (.int .u8 (0 : Int)), (.int .u8 (0 : Int)), (.int .u8 (0 : Int)), (.int .u8 (0 : Int)), (.int .u8 (0 : Int)), (.int .u8 (0 : Int)), (.int .u8 (0 : Int)), (.int .u8 (0 : Int)), (.int .u8 (0 : Int)), (.bool false), (.int .i64 (0 : Int)), (.int .i64 (0 : Int))] : List Value) →
∃ cs12 : List Value, row h31 b1 0 21 = some cs12 ∧
Post (.tuple #[(.agg (cs12).toArray), (.int .i64 (102 : Int))]) h31) (
Runs Tryz.prog 31 #[(.slice b bL bC), (.slice s1 s1l s1c)] h30 fun r18 h32 =>
∃ t1 : Bool,
r18 = (.bool t1) ∧
bcase (!t1) (
((([(.int .u8 (0 : Int)), (.int .u8 (0 : Int)), (.int .u8 (0 : Int)), (.int .u8 (0 : Int)), (.int .u8 (0 : Int)), (.int .u8 (0 : Int)), (.int .u8 (0 : Int)), (.int .u8 (0 : Int)), (.int .u8 (0 : Int)), (.int .u8 (0 : Int)), (.int .u8 (0 : Int)), (.int .u8 (0 : Int)), (.int .u8 (0 : Int)), (.int .u8 (0 : Int)), (.int .u8 (0 : Int)), (.int .u8 (0 : Int)), (.int .u8 (0 : Int)), (.int .u8 (0 : Int)), (.bool false), (.int .i64 (0 : Int)), (.int .i64 (0 : Int))] : List Value)).length = 21 ∧ wrs h32 b1 0 21 ∧ ∀ u ∈ (([(.int .u8 (0 : Int)), (.int .u8 (0 : Int)), (.int .u8 (0 : Int)), (.int .u8 (0 : Int)), (.int .u8 (0 : Int)), (.int .u8 (0 : Int)), (.int .u8 (0 : Int)), (.int .u8 (0 : Int)), (.int .u8 (0 : Int)), (.int .u8 (0 : Int)), (.int .u8 (0 : Int)), (.int .u8 (0 : Int)), (.int .u8 (0 : Int)), (.int .u8 (0 : Int)), (.int .u8 (0 : Int)), (.int .u8 (0 : Int)), (.int .u8 (0 : Int)), (.int .u8 (0 : Int)), (.bool false), (.int .i64 (0 : Int)), (.int .i64 (0 : Int))] : List Value) : List Value), u.oneCell' = true) ∧ ∀ h33 : Heap, h33 = setr h32 b1 0 ([(.int .u8 (0 : Int)), (.int .u8 (0 : Int)), (.int .u8 (0 : Int)), (.int .u8 (0 : Int)), (.int .u8 (0 : Int)), (.int .u8 (0 : Int)), (.int .u8 (0 : Int)), (.int .u8 (0 : Int)), (.int .u8 (0 : Int)), (.int .u8 (0 : Int)), (.int .u8 (0 : Int)), (.int .u8 (0 : Int)), (.int .u8 (0 : Int)), (.int .u8 (0 : Int)), (.int .u8 (0 : Int)), (.int .u8 (0 : Int)), (.int .u8 (0 : Int)), (.int .u8 (0 : Int)), (.bool false), (.int .i64 (0 : Int)), (.int .i64 (0 : Int))] : List Value) →
∃ cs13 : List Value, row h33 b1 0 21 = some cs13 ∧
Post (.tuple #[(.agg (cs13).toArray), (.int .i64 (102 : Int))]) h33) (
onAddr f_1 fun b8 o2 =>
∃ cs14 : List Value, row h32 b8 o2 21 = some cs14 ∧
(((cs14)).length = 21 ∧ wrs h32 b1 0 21 ∧ ∀ u ∈ ((cs14) : List Value), u.oneCell' = true) ∧ ∀ h34 : Heap, h34 = setr h32 b1 0 (cs14) →
∃ cs15 : List Value, row h34 b1 0 21 = some cs15 ∧
Post (.tuple #[(.agg (cs15).toArray), (.int .i64 (0 : Int))]) h34)))) :
    Runs Tryz.prog 70 #[(.slice b bL bC)] h0 Post :=
  runs_of (args := [(.slice b bL bC)]) (fun n => ⟨true, false⟩) (fun _ => []) (fun n => match n with | 6 => some [(6, .ptr)] | _ => none) (fun _ => []) Tryz.func70 rfl (by rw [Tryz.ntmps70]; simp) (Eq.mp (by kernel_rfl) H)

theorem vc_muezzinref1_Unpack (b : Option Addr) (bL bC : Nat) (h0 : Heap) (Post : Value → Heap → Prop) (H :
∃ (I1 : Option Addr → Nat → Nat → Int → Heap → Prop) (m1 : Option Addr → Nat → Nat → Int → Heap → Nat), I1 none 0 0 (0 : Int) h0 ∧ ∀ _ : Env,
∀ (out_1 : Option Addr) (out_1l out_1c : Nat) (at_1 : Int) (h1 : Heap), I1 out_1 out_1l out_1c at_1 h1 →
fits .i64 (((bL : Nat) : Int) - at_1) ∧
bcase (decide ((4 : Int) ≤ (((bL : Nat) : Int) - at_1))) (
fits .i64 (at_1 + (4 : Int)) ∧
(0 ≤ at_1 ∧ at_1 ≤ (at_1 + (4 : Int)) ∧ (at_1 + (4 : Int)) ≤ ((bC : Nat) : Int)) ∧
Runs Tryz.prog 85 #[(.slice (slcAddr b (at_1).toNat bC ((at_1).toNat * 1)) (((at_1 + (4 : Int))).toNat - (at_1).toNat) (bC - (at_1).toNat))] h1 fun r1 h2 =>
∃ n1 : Int,
r1 = (.int .i64 n1) ∧
(0 ≤ n1 ∧ 0 < (16 : Int) ∧ fits .i64 (n1 / (16 : Int))) ∧
(0 ≤ (0 : Int) ∧ (0 : Int) ≤ (2 : Int) ∧ (2 : Int) ≤ (((bC - (at_1).toNat) : Nat) : Int)) ∧
(0 ≤ (2 : Int) ∧ (2 : Int) < (((((at_1 + (4 : Int))).toNat - (at_1).toNat) : Nat) : Int)) ∧
onAddr (slcAddr b (at_1).toNat bC ((at_1).toNat * 1)) fun b1 o1 =>
∃ n2 : Int, cell h2 b1 (o1 + 2) = some (.int .u8 n2) ∧
Runs Tryz.prog 46 #[(.slice (slcAddr (slcAddr b (at_1).toNat bC ((at_1).toNat * 1)) 0 (bC - (at_1).toNat) 0) 2 (bC - (at_1).toNat))] h2 fun r2 h3 =>
∃ n3 : Int,
r2 = (.int .u8 n3) ∧
cell h3 b1 (o1 + 2) = some (.int .u8 n2) ∧
bcase (decide (n3 = n2)) (
(0 ≤ (3 : Int) ∧ (3 : Int) < (((((at_1 + (4 : Int))).toNat - (at_1).toNat) : Nat) : Int)) ∧
onAddr (slcAddr b (at_1).toNat bC ((at_1).toNat * 1)) fun b2 o2 =>
∃ n4 : Int, cell h3 b2 (o2 + 3) = some (.int .u8 n4) ∧
bcase (decide (n4 = (78 : Int))) (
(0 ≤ (0 : Int) ∧ (0 : Int) < (((((at_1 + (4 : Int))).toNat - (at_1).toNat) : Nat) : Int)) ∧
onAddr (slcAddr b (at_1).toNat bC ((at_1).toNat * 1)) fun b3 o3 =>
∃ n5 : Int, cell h3 b3 o3 = some (.int .u8 n5) ∧
bcase (decide ((bits .and .u8 n5 (15 : Int)) = (0 : Int))) (
bcase (decide ((0 : Int) < (n1 / (16 : Int)))) (
fits .i64 (((bL : Nat) : Int) - at_1) ∧
fits .i64 ((((bL : Nat) : Int) - at_1) - (4 : Int)) ∧
bcase (decide ((n1 / (16 : Int)) ≤ ((((bL : Nat) : Int) - at_1) - (4 : Int)))) (
fits .i64 (at_1 + (4 : Int)) ∧
fits .i64 (at_1 + (4 : Int)) ∧
fits .i64 ((at_1 + (4 : Int)) + (n1 / (16 : Int))) ∧
(0 ≤ (at_1 + (4 : Int)) ∧ (at_1 + (4 : Int)) ≤ ((at_1 + (4 : Int)) + (n1 / (16 : Int))) ∧ ((at_1 + (4 : Int)) + (n1 / (16 : Int))) ≤ ((bC : Nat) : Int)) ∧
Runs Tryz.prog 86 #[(.slice (slcAddr b ((at_1 + (4 : Int))).toNat bC (((at_1 + (4 : Int))).toNat * 1)) ((((at_1 + (4 : Int)) + (n1 / (16 : Int)))).toNat - ((at_1 + (4 : Int))).toNat) (bC - ((at_1 + (4 : Int))).toNat))] h3 fun r3 h4 =>
∃ (s1 : Option Addr) (s1l s1c : Nat),
r3 = (.slice s1 s1l s1c) ∧
∀ (b4 : Nat) (h5 : Heap), b4 = h4.size → h5 = h4.push (.cells ([(.slice s1 s1l s1c)] : List Value).toArray 36) →
∃ news1 : List Value, (row h5 b4 0 1 = some news1 ∧ ∀ u ∈ news1, u.oneCell' = true) ∧
appK h5 out_1 out_1l out_1c 1 1 36 24 news1 fun (a1 : Option Addr) (cap1 : Nat) (h6 : Heap) =>
fits .i64 (at_1 + (4 : Int)) ∧
fits .i64 ((at_1 + (4 : Int)) + (n1 / (16 : Int))) ∧
fits .i64 (((at_1 + (4 : Int)) + (n1 / (16 : Int))) + (3 : Int)) ∧
(0 ≤ (((at_1 + (4 : Int)) + (n1 / (16 : Int))) + (3 : Int)) ∧ 0 < (4 : Int) ∧ fits .i64 ((((at_1 + (4 : Int)) + (n1 / (16 : Int))) + (3 : Int)) / (4 : Int))) ∧
fits .i64 (((((at_1 + (4 : Int)) + (n1 / (16 : Int))) + (3 : Int)) / (4 : Int)) * (4 : Int)) ∧
I1 a1 (out_1l + 1) cap1 (((((at_1 + (4 : Int)) + (n1 / (16 : Int))) + (3 : Int)) / (4 : Int)) * (4 : Int)) h6 ∧ m1 a1 (out_1l + 1) cap1 (((((at_1 + (4 : Int)) + (n1 / (16 : Int))) + (3 : Int)) / (4 : Int)) * (4 : Int)) h6 < m1 out_1 out_1l out_1c at_1 h1) (
fits .i64 (at_1 + (4 : Int)) ∧
I1 out_1 out_1l out_1c (at_1 + (4 : Int)) h3 ∧ m1 out_1 out_1l out_1c (at_1 + (4 : Int)) h3 < m1 out_1 out_1l out_1c at_1 h1)) (
fits .i64 (at_1 + (4 : Int)) ∧
I1 out_1 out_1l out_1c (at_1 + (4 : Int)) h3 ∧ m1 out_1 out_1l out_1c (at_1 + (4 : Int)) h3 < m1 out_1 out_1l out_1c at_1 h1)) (
fits .i64 (at_1 + (4 : Int)) ∧
I1 out_1 out_1l out_1c (at_1 + (4 : Int)) h3 ∧ m1 out_1 out_1l out_1c (at_1 + (4 : Int)) h3 < m1 out_1 out_1l out_1c at_1 h1)) (
fits .i64 (at_1 + (4 : Int)) ∧
I1 out_1 out_1l out_1c (at_1 + (4 : Int)) h3 ∧ m1 out_1 out_1l out_1c (at_1 + (4 : Int)) h3 < m1 out_1 out_1l out_1c at_1 h1)) (
fits .i64 (at_1 + (4 : Int)) ∧
I1 out_1 out_1l out_1c (at_1 + (4 : Int)) h3 ∧ m1 out_1 out_1l out_1c (at_1 + (4 : Int)) h3 < m1 out_1 out_1l out_1c at_1 h1)) (
Post (.slice out_1 out_1l out_1c) h1)) :
    Runs Tryz.prog 55 #[(.slice b bL bC)] h0 Post :=
  runs_of (args := [(.slice b bL bC)]) (fun n => ⟨true, false⟩) (fun n => match n with | 0 => [(3, .slice), (4, .int .i64)] | _ => []) (fun _ => none) (fun _ => []) Tryz.func55 rfl (by rw [Tryz.ntmps55]; simp) (Eq.mp (by kernel_rfl) H)
end Go.Proofs.YtepodifionoigaaGreatDoor
set_option linter.unusedVariables false
set_option linter.unusedSimpArgs false
set_option maxRecDepth 100000
namespace Go.Proofs.YtepodifionoigaaGreatDoor
open Go.Vc
theorem vc_seq_Sort_1 (a : Int) (b : Int) (c0 : Option Addr) (h0 : Heap) (Post : Value → Heap → Prop) (H :
onAddr c0 fun b1 o1 =>
∃ n1 : Int, cell h0 b1 o1 = some (.int .i64 n1) ∧
onAddr c0 fun b2 o2 =>
∃ n2 : Int, cell h0 b2 o2 = some (.int .i64 n2) ∧
Runs Tryz.prog 34 #[(.int .i64 n1), (.int .i64 a)] h0 fun r1 h1 =>
∃ n3 : Int,
r1 = (.int .i64 n3) ∧
cell h1 b2 o2 = some (.int .i64 n2) ∧
Runs Tryz.prog 34 #[(.int .i64 n2), (.int .i64 b)] h1 fun r2 h2 =>
∃ n4 : Int,
r2 = (.int .i64 n4) ∧
fits .i64 (n3 - n4) ∧
Post (.int .i64 (n3 - n4)) h2) :
    Runs Tryz.prog 109 #[(.int .i64 a), (.int .i64 b), (.pointer c0)] h0 Post :=
  runs_of (args := [(.int .i64 a), (.int .i64 b), (.pointer c0)]) (fun n => ⟨true, false⟩) (fun _ => []) (fun _ => none) (fun _ => []) Tryz.func109 rfl (by rw [Tryz.ntmps109]; simp) (Eq.mp (by kernel_rfl) H)
end Go.Proofs.YtepodifionoigaaGreatDoor
set_option linter.unusedVariables false
set_option linter.unusedSimpArgs false
set_option maxRecDepth 100000
namespace Go.Proofs.YtepodifionoigaaGreatDoor
open Go.Vc
theorem vc_muezzinlaw24_heard (s : Nat) (x : Nat) (d : List Value) (h0 : Heap) (Post : Value → Heap → Prop) (H :
∀ (b1 : Nat) (h1 : Heap), b1 = h0.size → h1 = h0.push (.cells (d).toArray 38) →
∃ J1 : Bool → Option Addr → Nat → Nat → Heap → Prop, (
∃ n1 : Int, cell h1 b1 0 = some (.int .i64 n1) ∧
bcase (decide (n1 = (1 : Int))) (
∃ cs1 : List Value, row h1 b1 0 8 = some cs1 ∧
∃ n2 : Int, cell h1 b1 2 = some (.int .i64 n2) ∧
Runs Tryz.prog 19 #[(.agg (cs1).toArray), (.int .i64 n2)] h1 fun r1 h2 =>
∃ (s1 : Option Addr) (s1l s1c : Nat),
r1 = (.slice s1 s1l s1c) ∧
J1 false s1 s1l s1c h2) (
bcase (decide (n1 = (2 : Int))) (
∃ (I1 : Option Addr → Nat → Nat → Int → Heap → Prop) (m1 : Option Addr → Nat → Nat → Int → Heap → Nat), I1 none 0 0 (0 : Int) h1 ∧ ∀ _ : Env,
∀ (l_1 : Option Addr) (l_1l l_1c : Nat) (k_1 : Int) (h3 : Heap), I1 l_1 l_1l l_1c k_1 h3 →
bcase (decide (k_1 < (32 : Int))) (
∃ n3 : Int, cell h3 b1 6 = some (.int .u32 n3) ∧
(0 ≤ (IntKind.u64.wrap k_1) ∧ (IntKind.u64.wrap k_1) ≤ kbits .u32) ∧
bcase (decide ((bits .and .u32 (n3 / (pow2 (IntKind.u64.wrap k_1))) (1 : Int)) = (1 : Int))) (
∃ cs2 : List Value, row h3 b1 0 8 = some cs2 ∧
∃ n4 : Int, cell h3 b1 2 = some (.int .i64 n4) ∧
Runs Tryz.prog 19 #[(.agg (cs2).toArray), (.int .i64 (IntKind.i64.wrap (n4 + k_1)))] h3 fun r2 h4 =>
∃ (s2 : Option Addr) (s2l s2c : Nat),
r2 = (.slice s2 s2l s2c) ∧
∀ (b2 : Nat) (h5 : Heap), b2 = h4.size → h5 = h4.push (.cells ([(.slice s2 s2l s2c)] : List Value).toArray 36) →
∃ news1 : List Value, (row h5 b2 0 1 = some news1 ∧ ∀ u ∈ news1, u.oneCell' = true) ∧
appK h5 l_1 l_1l l_1c 1 1 36 24 news1 fun (a1 : Option Addr) (cap1 : Nat) (h6 : Heap) =>
I1 a1 (l_1l + 1) cap1 (IntKind.i64.wrap (k_1 + (1 : Int))) h6 ∧ m1 a1 (l_1l + 1) cap1 (IntKind.i64.wrap (k_1 + (1 : Int))) h6 < m1 l_1 l_1l l_1c k_1 h3) (
I1 l_1 l_1l l_1c (IntKind.i64.wrap (k_1 + (1 : Int))) h3 ∧ m1 l_1 l_1l l_1c (IntKind.i64.wrap (k_1 + (1 : Int))) h3 < m1 l_1 l_1l l_1c k_1 h3)) (
Runs Tryz.prog 22 #[(.slice l_1 l_1l l_1c)] h3 fun r3 h7 =>
∃ (s3 : Option Addr) (s3l s3c : Nat),
∃ n5 : Int,
r3 = (.tuple #[(.slice s3 s3l s3c), (.int .i64 n5)]) ∧
J1 true s3 s3l s3c h7)) (
bcase (decide (n1 = (3 : Int))) (
∃ n6 : Int, cell h1 b1 1 = some (.int .i64 n6) ∧
∃ n7 : Int, cell h1 b1 2 = some (.int .i64 n7) ∧
Runs Tryz.prog 6 #[] h1 fun r4 h8 =>
∃ cs3 : List Value,
r4 = (.agg (cs3).toArray) ∧
cell h8 b1 2 = some (.int .i64 n7) ∧
cell h8 b1 1 = some (.int .i64 n6) ∧
Runs Tryz.prog 7 #[] h8 fun r5 h9 =>
∃ cs4 : List Value,
r5 = (.agg (cs4).toArray) ∧
cell h9 b1 2 = some (.int .i64 n7) ∧
cell h9 b1 1 = some (.int .i64 n6) ∧
Runs Tryz.prog 24 #[(.int .i64 n7), (.int .i64 (0 : Int))] h9 fun r6 h10 =>
∃ n8 : Int,
r6 = (.int .i64 n8) ∧
cell h10 b1 1 = some (.int .i64 n6) ∧
(cs3).length = 6 ∧
(cs4).length = 6 ∧
Runs Tryz.prog 23 #[(.agg (((cs3) ++ ((cs4) ++ ([(.int .i64 (bits .and .i64 n6 (7 : Int))), (.int .i64 n8)] : List Value)))).toArray)] h10 fun r7 h11 =>
∃ (s4 : Option Addr) (s4l s4c : Nat),
∃ n9 : Int,
r7 = (.tuple #[(.slice s4 s4l s4c), (.int .i64 n9)]) ∧
J1 false s4 s4l s4c h11) (
bcase (decide (n1 = (4 : Int))) (
∃ n10 : Int, cell h1 b1 3 = some (.int .i64 n10) ∧
∃ n11 : Int, cell h1 b1 1 = some (.int .i64 n11) ∧
∃ n12 : Int, cell h1 b1 3 = some (.int .i64 n12) ∧
∃ n13 : Int, cell h1 b1 2 = some (.int .i64 n13) ∧
Runs Tryz.prog 6 #[] h1 fun r8 h12 =>
∃ cs5 : List Value,
r8 = (.agg (cs5).toArray) ∧
cell h12 b1 2 = some (.int .i64 n13) ∧
cell h12 b1 3 = some (.int .i64 n12) ∧
cell h12 b1 1 = some (.int .i64 n11) ∧
cell h12 b1 3 = some (.int .i64 n10) ∧
Runs Tryz.prog 7 #[] h12 fun r9 h13 =>
∃ cs6 : List Value,
r9 = (.agg (cs6).toArray) ∧
cell h13 b1 2 = some (.int .i64 n13) ∧
cell h13 b1 3 = some (.int .i64 n12) ∧
cell h13 b1 1 = some (.int .i64 n11) ∧
cell h13 b1 3 = some (.int .i64 n10) ∧
Runs Tryz.prog 7 #[] h13 fun r10 h14 =>
∃ cs7 : List Value,
r10 = (.agg (cs7).toArray) ∧
cell h14 b1 2 = some (.int .i64 n13) ∧
cell h14 b1 3 = some (.int .i64 n12) ∧
cell h14 b1 1 = some (.int .i64 n11) ∧
cell h14 b1 3 = some (.int .i64 n10) ∧
Runs Tryz.prog 24 #[(.int .i64 n13), (.int .i64 (0 : Int))] h14 fun r11 h15 =>
∃ n14 : Int,
r11 = (.int .i64 n14) ∧
cell h15 b1 3 = some (.int .i64 n12) ∧
cell h15 b1 1 = some (.int .i64 n11) ∧
cell h15 b1 3 = some (.int .i64 n10) ∧
(cs5).length = 6 ∧
(cs6).length = 6 ∧
(cs7).length = 6 ∧
Runs Tryz.prog 25 #[(.agg (((cs5) ++ ((cs6) ++ ((cs7) ++ ([(.bool false), (.int .i64 (bits .and .i64 n10 (255 : Int))), (.int .i64 (bits .and .i64 n11 (7 : Int))), (.int .i64 (bits .and .i64 n12 (63 : Int))), (.int .i64 (0 : Int)), (.int .i64 n14), (.int .i64 (0 : Int))] : List Value))))).toArray)] h15 fun r12 h16 =>
∃ (s5 : Option Addr) (s5l s5c : Nat),
∃ n15 : Int,
r12 = (.tuple #[(.slice s5 s5l s5c), (.int .i64 n15)]) ∧
J1 false s5 s5l s5c h16) (
bcase (decide (n1 = (5 : Int))) (
∃ t1 : Bool, cell h1 b1 4 = some (.bool t1) ∧
∃ n16 : Int, cell h1 b1 1 = some (.int .i64 n16) ∧
Runs Tryz.prog 6 #[] h1 fun r13 h17 =>
∃ cs8 : List Value,
r13 = (.agg (cs8).toArray) ∧
cell h17 b1 1 = some (.int .i64 n16) ∧
cell h17 b1 4 = some (.bool t1) ∧
Runs Tryz.prog 7 #[] h17 fun r14 h18 =>
∃ cs9 : List Value,
r14 = (.agg (cs9).toArray) ∧
cell h18 b1 1 = some (.int .i64 n16) ∧
cell h18 b1 4 = some (.bool t1) ∧
Runs Tryz.prog 7 #[] h18 fun r15 h19 =>
∃ cs10 : List Value,
r15 = (.agg (cs10).toArray) ∧
cell h19 b1 1 = some (.int .i64 n16) ∧
cell h19 b1 4 = some (.bool t1) ∧
(cs8).length = 6 ∧
(cs9).length = 6 ∧
(cs10).length = 6 ∧
Runs Tryz.prog 26 #[(.agg (((cs8) ++ ((cs9) ++ ((cs10) ++ ([(.bool t1), (.int .i64 (bits .and .i64 n16 (7 : Int))), (.int .i64 (0 : Int))] : List Value))))).toArray)] h19 fun r16 h20 =>
∃ (s6 : Option Addr) (s6l s6c : Nat),
∃ n17 : Int,
r16 = (.tuple #[(.slice s6 s6l s6c), (.int .i64 n17)]) ∧
J1 false s6 s6l s6c h20) (
bcase (decide (n1 = (6 : Int))) (
∃ (s7 : Option Addr) (s7l s7c : Nat), cell h1 b1 7 = some (.slice s7 s7l s7c) ∧
∃ t2 : Bool, cell h1 b1 5 = some (.bool t2) ∧
J1 t2 s7 s7l s7c h1) (
Runs Tryz.prog 28 #[(.pointer (some ⟨s, 0, none⟩))] h1 fun r17 h21 =>
∃ (s8 : Option Addr) (s8l s8c : Nat),
r17 = (.slice s8 s8l s8c) ∧
Runs Tryz.prog 29 #[(.pointer (some ⟨x, 0, none⟩))] h21 fun r18 h22 =>
∃ (s9 : Option Addr) (s9l s9c : Nat),
r18 = (.slice s9 s9l s9c) ∧
Runs Tryz.prog 27 #[(.slice s8 s8l s8c), (.slice s9 s9l s9c)] h22 fun r19 h23 =>
∃ t3 : Bool,
r19 = (.bool t3) ∧
Post (.bool t3) h23))))))) ∧ ∀ _ : Env,
∀ (agg_1 : Bool) (b_1 : Option Addr) (b_1l b_1c : Nat) (h24 : Heap), J1 agg_1 b_1 b_1l b_1c h24 →
∃ J2 : Heap → Prop, (
∃ J3 : Bool → Heap → Prop, (
∃ n18 : Int, cell h24 b1 0 = some (.int .i64 n18) ∧
bcase (decide (n18 = (1 : Int))) (
J3 true h24) (
∃ n19 : Int, cell h24 b1 0 = some (.int .i64 n19) ∧
bcase (decide (n19 = (2 : Int))) (
J3 true h24) (
∃ n20 : Int, cell h24 b1 0 = some (.int .i64 n20) ∧
bcase (decide (n20 = (6 : Int))) (
∃ t4 : Bool, cell h24 b1 5 = some (.bool t4) ∧
J3 t4 h24) (
J3 false h24)))) ∧ ∀ _ : Env,
∀ (x5 : Bool) (h25 : Heap), J3 x5 h25 →
bcase x5 (
Runs Tryz.prog 18 #[(.pointer (some ⟨s, 0, none⟩)), (.bool agg_1), (.slice b_1 b_1l b_1c)] h25 fun r20 h26 =>
∃ (s10 : Option Addr) (s10l s10c : Nat),
∃ (s11 : Option Addr) (s11l s11c : Nat),
r20 = (.tuple #[(.slice s10 s10l s10c), (.slice s11 s11l s11c)]) ∧
Runs Tryz.prog 30 #[(.pointer (some ⟨x, 0, none⟩)), (.bool agg_1), (.slice b_1 b_1l b_1c)] h26 fun r21 h27 =>
∃ (s12 : Option Addr) (s12l s12c : Nat),
∃ (s13 : Option Addr) (s13l s13c : Nat),
r21 = (.tuple #[(.slice s12 s12l s12c), (.slice s13 s13l s13c)]) ∧
Runs Tryz.prog 27 #[(.slice s10 s10l s10c), (.slice s12 s12l s12c)] h27 fun r22 h28 =>
∃ t5 : Bool,
r22 = (.bool t5) ∧
bcase t5 (
Runs Tryz.prog 31 #[(.slice s11 s11l s11c), (.slice s13 s13l s13c)] h28 fun r23 h29 =>
∃ t6 : Bool,
r23 = (.bool t6) ∧
Post (.bool t6) h29) (
Post (.bool false) h28)) (
J2 h25)) ∧ ∀ _ : Env,
∀ (h30 : Heap), J2 h30 →
Runs Tryz.prog 32 #[(.pointer (some ⟨s, 0, none⟩)), (.slice b_1 b_1l b_1c)] h30 fun r24 h31 =>
∃ (s14 : Option Addr) (s14l s14c : Nat),
∃ (s15 : Option Addr) (s15l s15c : Nat),
r24 = (.tuple #[(.slice s14 s14l s14c), (.slice s15 s15l s15c)]) ∧
Runs Tryz.prog 33 #[(.pointer (some ⟨x, 0, none⟩)), (.slice b_1 b_1l b_1c)] h31 fun r25 h32 =>
∃ (s16 : Option Addr) (s16l s16c : Nat),
∃ (s17 : Option Addr) (s17l s17c : Nat),
r25 = (.tuple #[(.slice s16 s16l s16c), (.slice s17 s17l s17c)]) ∧
Runs Tryz.prog 27 #[(.slice s14 s14l s14c), (.slice s16 s16l s16c)] h32 fun r26 h33 =>
∃ t7 : Bool,
r26 = (.bool t7) ∧
bcase t7 (
Runs Tryz.prog 31 #[(.slice s15 s15l s15c), (.slice s17 s17l s17c)] h33 fun r27 h34 =>
∃ t8 : Bool,
r27 = (.bool t8) ∧
Post (.bool t8) h34) (
Post (.bool false) h33)) :
    Runs Tryz.prog 12 #[(.pointer (some ⟨s, 0, none⟩)), (.pointer (some ⟨x, 0, none⟩)), (.agg (d).toArray)] h0 Post :=
  runs_of (args := [(.pointer (some ⟨s, 0, none⟩)), (.pointer (some ⟨x, 0, none⟩)), (.agg (d).toArray)]) (fun n => ⟨false, false⟩) (fun n => match n with | 1 => [(9, .slice), (10, .int .i64)] | _ => []) (fun n => match n with | 25 => some [(7, .bool), (8, .slice)] | 26 => some [(133, .bool)] | 29 => some [] | _ => none) (fun _ => []) Tryz.func12 rfl (by rw [Tryz.ntmps12]; simp) (Eq.mp (by kernel_rfl) H)

theorem vc_muezzinlaw24_RecvPlays (size : Int) (l : Option Addr) (lL lC : Nat) (seq : Int) (h0 : Heap) (Post : Value → Heap → Prop) (H :
Runs Tryz.prog 4 #[] h0 fun r1 h1 =>
∃ t1 : Bool,
r1 = (.bool t1) ∧
bcase (!t1) (
Post (.bool false) h1) (
Runs Tryz.prog 6 #[] h1 fun r2 h2 =>
∃ cs1 : List Value,
r2 = (.agg (cs1).toArray) ∧
Runs Tryz.prog 7 #[] h2 fun r3 h3 =>
∃ cs2 : List Value,
r3 = (.agg (cs2).toArray) ∧
Runs Tryz.prog 5 #[(.agg (cs1).toArray), (.agg (cs2).toArray), (.int .i64 size)] h3 fun r4 h4 =>
∃ p1 : Option Addr,
∃ v1 : Value,
r4 = (.tuple #[(.pointer p1), v1]) ∧
bcase (decide (size < (1 : Int))) (
bcase t1 (
bcase (isNilAddr p1) (
Runs Tryz.prog 8 #[v1, (.int .i64 (103 : Int))] h4 fun r5 h5 =>
∃ t2 : Bool,
r5 = (.bool t2) ∧
Post (.bool t2) h5) (
Post (.bool false) h4)) (
Post (.bool false) h4)) (
bcase (decide ((64 : Int) < size)) (
bcase t1 (
bcase (isNilAddr p1) (
Runs Tryz.prog 8 #[v1, (.int .i64 (103 : Int))] h4 fun r6 h6 =>
∃ t3 : Bool,
r6 = (.bool t3) ∧
Post (.bool t3) h6) (
Post (.bool false) h4)) (
Post (.bool false) h4)) (
bcase (isNilAddr p1) (
bcase t1 (
bcase (!(isNilAddr p1)) (
∃ t4 : Bool, ifeqH Tryz.prog h4 true (v1) (.nilIface) = some t4 ∧
Post (.bool t4) h4) (
Post (.bool false) h4)) (
Post (.bool false) h4)) (
∃ t5 : Bool, ifeqH Tryz.prog h4 true (v1) (.nilIface) = some t5 ∧
bcase (!t5) (
bcase t1 (
bcase (!(isNilAddr p1)) (
∃ t6 : Bool, ifeqH Tryz.prog h4 true (v1) (.nilIface) = some t6 ∧
Post (.bool t6) h4) (
Post (.bool false) h4)) (
Post (.bool false) h4)) (
bcase (decide ((80 : Int) < ((lL : Nat) : Int))) (
bcase t1 (
bcase (!(isNilAddr p1)) (
∃ t7 : Bool, ifeqH Tryz.prog h4 true (v1) (.nilIface) = some t7 ∧
Post (.bool t7) h4) (
Post (.bool false) h4)) (
Post (.bool false) h4)) (
Runs Tryz.prog 6 #[] h4 fun r7 h7 =>
∃ cs3 : List Value,
r7 = (.agg (cs3).toArray) ∧
Runs Tryz.prog 7 #[] h7 fun r8 h8 =>
∃ cs4 : List Value,
r8 = (.agg (cs4).toArray) ∧
Runs Tryz.prog 9 #[(.agg (cs3).toArray), (.agg (cs4).toArray), (.int .i64 size)] h8 fun r9 h9 =>
∃ p2 : Option Addr,
r9 = (.pointer p2) ∧
∃ (I1 : Int → Heap → Prop) (m1 : Int → Heap → Nat), I1 (0 : Int) h9 ∧ ∀ _ : Env,
∀ (i_1 : Int) (h10 : Heap), I1 i_1 h10 →
bcase (decide (i_1 < ((lL : Nat) : Int))) (
(0 ≤ i_1 ∧ i_1 < ((lL : Nat) : Int)) ∧
onAddr l fun b1 o1 =>
∃ (s1 : Option Addr) (s1l s1c : Nat), cell h10 b1 ((o1 + ((i_1).toNat * 8)) + 7) = some (.slice s1 s1l s1c) ∧
bcase (decide ((200 : Int) < ((s1l : Nat) : Int))) (
Post (.bool t1) h10) (
Runs Tryz.prog 10 #[(.pointer p1)] h10 fun r10 h11 =>
∃ p3 : Option Addr,
r10 = (.pointer p3) ∧
(0 ≤ i_1 ∧ i_1 < ((lL : Nat) : Int)) ∧
onAddr l fun b2 o2 =>
∃ n1 : Int, cell h11 b2 ((o2 + ((i_1).toNat * 8)) + 1) = some (.int .i64 n1) ∧
Runs Tryz.prog 11 #[(.pointer p3), (.int .i64 n1)] h11 fun r11 h12 =>
∃ n2 : Int,
r11 = (.int .i64 n2) ∧
(0 ≤ i_1 ∧ i_1 < ((lL : Nat) : Int)) ∧
onAddr l fun b3 o3 =>
∃ cs5 : List Value, row h12 b3 (o3 + ((i_1).toNat * 8)) 8 = some cs5 ∧
Runs Tryz.prog 12 #[(.pointer p1), (.pointer p2), (.agg (cs5).toArray)] h12 fun r12 h13 =>
∃ t8 : Bool,
r12 = (.bool t8) ∧
bcase (!t8) (
Post (.bool false) h13) (
(0 ≤ i_1 ∧ i_1 < ((lL : Nat) : Int)) ∧
onAddr l fun b4 o4 =>
∃ n3 : Int, cell h13 b4 ((o4 + ((i_1).toNat * 8)) + 1) = some (.int .i64 n3) ∧
Runs Tryz.prog 11 #[(.pointer p3), (.int .i64 n3)] h13 fun r13 h14 =>
∃ n4 : Int,
r13 = (.int .i64 n4) ∧
bcase (!decide (n4 = n2)) (
Post (.bool false) h14) (
∃ (I2 : Int → Heap → Prop) (m2 : Int → Heap → Nat), I2 (-1 : Int) h14 ∧ ∀ _ : Env,
∀ (t_1 : Int) (h15 : Heap), I2 t_1 h15 →
bcase (decide (t_1 ≤ (8 : Int))) (
Runs Tryz.prog 13 #[(.pointer p1), (.int .i64 t_1)] h15 fun r14 h16 =>
∃ n5 : Int,
∃ n6 : Int,
∃ t9 : Bool,
r14 = (.tuple #[(.int .i64 n5), (.int .i64 n6), (.bool t9)]) ∧
Runs Tryz.prog 14 #[(.pointer p2), (.int .i64 t_1)] h16 fun r15 h17 =>
∃ n7 : Int,
∃ n8 : Int,
∃ t10 : Bool,
r15 = (.tuple #[(.int .i64 n7), (.int .i64 n8), (.bool t10)]) ∧
bcase (!decide (n5 = n7)) (
Post (.bool false) h17) (
bcase (!decide (n6 = n8)) (
Post (.bool false) h17) (
bcase (!(t9 == t10)) (
Post (.bool false) h17) (
Runs Tryz.prog 11 #[(.pointer p1), (.int .i64 t_1)] h17 fun r16 h18 =>
∃ n9 : Int,
r16 = (.int .i64 n9) ∧
Runs Tryz.prog 15 #[(.pointer p2), (.int .i64 t_1)] h18 fun r17 h19 =>
∃ n10 : Int,
r17 = (.int .i64 n10) ∧
bcase (!decide (n9 = n10)) (
Post (.bool false) h19) (
Runs Tryz.prog 16 #[(.pointer p1), (.int .i64 t_1), (.int .i64 seq)] h19 fun r18 h20 =>
∃ t11 : Bool,
r18 = (.bool t11) ∧
Runs Tryz.prog 17 #[(.pointer p2), (.int .i64 t_1), (.int .i64 seq)] h20 fun r19 h21 =>
∃ t12 : Bool,
r19 = (.bool t12) ∧
bcase (!(t11 == t12)) (
Post (.bool false) h21) (
fits .i64 (t_1 + (1 : Int)) ∧
I2 (t_1 + (1 : Int)) h21 ∧ m2 (t_1 + (1 : Int)) h21 < m2 t_1 h15)))))) (
fits .i64 (i_1 + (1 : Int)) ∧
I1 (i_1 + (1 : Int)) h15 ∧ m1 (i_1 + (1 : Int)) h15 < m1 i_1 h10))))) (
Post (.bool t1) h10)))))))) :
    Runs Tryz.prog 3 #[(.int .i64 size), (.slice l lL lC), (.int .i64 seq)] h0 Post :=
  runs_of (args := [(.int .i64 size), (.slice l lL lC), (.int .i64 seq)]) (fun n => ⟨true, false⟩) (fun n => match n with | 0 => [(11, .int .i64)] | 2 => [(14, .int .i64)] | _ => []) (fun _ => none) (fun _ => []) Tryz.func3 rfl (by rw [Tryz.ntmps3]; simp) (Eq.mp (by kernel_rfl) H)

theorem vc_recv_Station_Clone (s : Nat) (h0 : Heap) (Post : Value → Heap → Prop) (H :
∃ cs1 : List Value, row h0 s 0 77 = some cs1 ∧
∀ (b1 : Nat) (h1 : Heap), b1 = h0.size → h1 = h0.push (.cells ([(.int .u8 (0 : Int)), (.int .u8 (0 : Int)), (.int .u8 (0 : Int)), (.int .u8 (0 : Int)), (.int .u8 (0 : Int)), (.int .u8 (0 : Int)), (.int .u8 (0 : Int)), (.int .u8 (0 : Int)), (.int .u8 (0 : Int)), (.int .u8 (0 : Int)), (.int .u8 (0 : Int)), (.int .u8 (0 : Int)), (.int .i64 (0 : Int)), (.bool false), (.int .i64 (0 : Int)), (.int .i64 (0 : Int)), (.int .i64 (0 : Int)), (.int .u64 (0 : Int)), (.map none), (.bool false), (.int .i64 (0 : Int)), (.bool false), (.int .i64 (0 : Int)), (.int .i64 (0 : Int)), (.int .i64 (0 : Int)), (.int .u64 (0 : Int)), (.map none), (.bool false), (.int .i64 (0 : Int)), (.bool false), (.int .i64 (0 : Int)), (.int .i64 (0 : Int)), (.int .i64 (0 : Int)), (.int .u64 (0 : Int)), (.map none), (.bool false), (.int .i64 (0 : Int)), (.bool false), (.int .i64 (0 : Int)), (.int .i64 (0 : Int)), (.int .i64 (0 : Int)), (.int .u64 (0 : Int)), (.map none), (.bool false), (.int .i64 (0 : Int)), (.bool false), (.int .i64 (0 : Int)), (.int .i64 (0 : Int)), (.int .i64 (0 : Int)), (.int .u64 (0 : Int)), (.map none), (.bool false), (.int .i64 (0 : Int)), (.bool false), (.int .i64 (0 : Int)), (.int .i64 (0 : Int)), (.int .i64 (0 : Int)), (.int .u64 (0 : Int)), (.map none), (.bool false), (.int .i64 (0 : Int)), (.bool false), (.int .i64 (0 : Int)), (.int .i64 (0 : Int)), (.int .i64 (0 : Int)), (.int .u64 (0 : Int)), (.map none), (.bool false), (.int .i64 (0 : Int)), (.bool false), (.int .i64 (0 : Int)), (.int .i64 (0 : Int)), (.int .i64 (0 : Int)), (.int .u64 (0 : Int)), (.map none), (.bool false), (.int .i64 (0 : Int))] : List Value).toArray 56) →
(((cs1)).length = 77 ∧ wrs h1 b1 0 77 ∧ ∀ u ∈ ((cs1) : List Value), u.oneCell' = true) ∧ ∀ h2 : Heap, h2 = setr h1 b1 0 (cs1) →
∃ (I1 : Int → Heap → Prop) (m1 : Int → Heap → Nat), I1 (0 : Int) h2 ∧ ∀ _ : Env,
∀ (x1 : Int) (h3 : Heap), I1 x1 h3 →
bcase (decide (x1 < (8 : Int))) (
(0 ≤ x1 ∧ x1 < ((8 : Nat) : Int)) ∧
∃ v1 : Value, cell h3 s ((13 + ((x1).toNat * 8)) + 5) = some v1 ∧
∃ t1 : Bool, meq (v1) ((.map none)) = some t1 ∧
bcase t1 (
fits .i64 (x1 + (1 : Int)) ∧
I1 (x1 + (1 : Int)) h3 ∧ m1 (x1 + (1 : Int)) h3 < m1 x1 h3) (
∀ (b2 : Nat) (h4 : Heap), b2 = h3.size → h4 = h3.push (.map #[] 0) →
(0 ≤ x1 ∧ x1 < ((8 : Nat) : Int)) ∧
wr h4 b1 ((13 + ((x1).toNat * 8)) + 5) ∧ ∀ h5 : Heap, h5 = setc h4 b1 ((13 + ((x1).toNat * 8)) + 5) (.map (some b2)) →
rngv Tryz.prog 51 (v1) h5 fun b3 h6 =>
∃ (I2 : Heap → Prop) (m2 : Heap → Nat), I2 h6 ∧ ∀ _ : Env,
∀ (h7 : Heap), I2 h7 →
0 = 0 ∧ nxv b3 h7 (
fits .i64 (x1 + (1 : Int)) ∧
I1 (x1 + (1 : Int)) h7 ∧ m1 (x1 + (1 : Int)) h7 < m1 x1 h3) fun (e1 : MapEntry) (h8 : Heap) =>
0 = 0 ∧ entv b3 h8 fun v2 v3 =>
∀ (b4 : Nat) (h9 : Heap), b4 = h8.size → h9 = h8.push (.cells ([(.int .u8 (0 : Int)), (.int .u8 (0 : Int)), (.int .u8 (0 : Int)), (.int .u8 (0 : Int)), (.int .u8 (0 : Int)), (.int .u8 (0 : Int)), (.int .u8 (0 : Int)), (.int .u8 (0 : Int)), (.int .u8 (0 : Int)), (.int .u8 (0 : Int)), (.int .u8 (0 : Int)), (.int .u8 (0 : Int)), (.int .u8 (0 : Int)), (.int .u8 (0 : Int)), (.int .u8 (0 : Int)), (.int .u8 (0 : Int)), (.int .u8 (0 : Int)), (.int .u8 (0 : Int)), (.int .i64 (0 : Int)), (.int .i64 (0 : Int)), (.bool false), (.bool false), (.bool false), (.slice none 0 0)] : List Value).toArray 67) →
stv Tryz.prog 67 h9 b4 0 (v3) fun h10 =>
∃ (s1 : Option Addr) (s1l s1c : Nat), cell h10 b4 23 = some (.slice s1 s1l s1c) ∧
∃ news1 : List Value, (src h10 s1 (s1l * 1) news1 ∧ ∀ u ∈ news1, u.oneCell' = true) ∧
appK h10 none 0 0 s1l 1 5 1 news1 fun (a1 : Option Addr) (cap1 : Nat) (h11 : Heap) =>
wr h11 b4 23 ∧ ∀ h12 : Heap, h12 = setc h11 b4 23 (.slice a1 (0 + s1l) cap1) →
(0 ≤ x1 ∧ x1 < ((8 : Nat) : Int)) ∧
∃ v4 : Value, cell h12 b1 ((13 + ((x1).toNat * 8)) + 5) = some v4 ∧
∃ cs2 : List Value, row h12 b4 0 24 = some cs2 ∧
mupv Tryz.prog 51 (v4) (v2) ((.agg (cs2).toArray)) h12 fun h13 =>
I2 h13 ∧ m2 h13 < m2 h7)) (
Post (.pointer (some ⟨b1, 0, none⟩)) h3)) :
    Runs Tryz.prog 10 #[(.pointer (some ⟨s, 0, none⟩))] h0 Post :=
  runs_of (args := [(.pointer (some ⟨s, 0, none⟩))]) (fun n => ⟨true, false⟩) (fun n => match n with | 0 => [(11, .int .i64)] | 2 => [] | _ => []) (fun _ => none) (fun _ => []) Tryz.func10 rfl (by rw [Tryz.ntmps10]; simp) (Eq.mp (by kernel_rfl) H)

theorem vc_muezzinref_SameFrames (a : Option Addr) (aL aC : Nat) (b : Option Addr) (bL bC : Nat) (h0 : Heap) (Post : Value → Heap → Prop) (H :
bcase (!decide (((aL : Nat) : Int) = ((bL : Nat) : Int))) (
Post (.bool false) h0) (
∃ (I1 : Int → Heap → Prop) (m1 : Int → Heap → Nat), I1 (0 : Int) h0 ∧ ∀ _ : Env,
∀ (i_1 : Int) (h1 : Heap), I1 i_1 h1 →
bcase (decide (i_1 < ((aL : Nat) : Int))) (
(0 ≤ i_1 ∧ i_1 < ((aL : Nat) : Int)) ∧
onAddr a fun b1 o1 =>
∃ cs1 : List Value, row h1 b1 (o1 + ((i_1).toNat * 24)) 24 = some cs1 ∧
(0 ≤ i_1 ∧ i_1 < ((bL : Nat) : Int)) ∧
onAddr b fun b2 o2 =>
∃ cs2 : List Value, row h1 b2 (o2 + ((i_1).toNat * 24)) 24 = some cs2 ∧
Runs Tryz.prog 52 #[(.agg (cs1).toArray), (.agg (cs2).toArray)] h1 fun r1 h2 =>
∃ t1 : Bool,
r1 = (.bool t1) ∧
bcase (!t1) (
Post (.bool false) h2) (
fits .i64 (i_1 + (1 : Int)) ∧
I1 (i_1 + (1 : Int)) h2 ∧ m1 (i_1 + (1 : Int)) h2 < m1 i_1 h1)) (
Post (.bool true) h1))) :
    Runs Tryz.prog 27 #[(.slice a aL aC), (.slice b bL bC)] h0 Post :=
  runs_of (args := [(.slice a aL aC), (.slice b bL bC)]) (fun n => ⟨true, false⟩) (fun n => match n with | 0 => [(5, .int .i64)] | _ => []) (fun _ => none) (fun _ => []) Tryz.func27 rfl (by rw [Tryz.ntmps27]; simp) (Eq.mp (by kernel_rfl) H)

theorem vc_muezzinref_SameQoS1 (a : List Value) (b : List Value) (h0 : Heap) (Post : Value → Heap → Prop) (H :
∀ (b1 : Nat) (h1 : Heap), b1 = h0.size → h1 = h0.push (.cells (a).toArray 67) →
∀ (b2 : Nat) (h2 : Heap), b2 = h1.size → h2 = h1.push (.cells (b).toArray 67) →
∃ cs1 : List Value, row h2 b1 0 6 = some cs1 ∧
∃ cs2 : List Value, row h2 b2 0 6 = some cs2 ∧
Runs Tryz.prog 57 #[(.agg (cs1).toArray), (.agg (cs2).toArray)] h2 fun r1 h3 =>
∃ t1 : Bool,
r1 = (.bool t1) ∧
bcase t1 (
∃ cs3 : List Value, row h3 b1 6 6 = some cs3 ∧
∃ cs4 : List Value, row h3 b2 6 6 = some cs4 ∧
Runs Tryz.prog 57 #[(.agg (cs3).toArray), (.agg (cs4).toArray)] h3 fun r2 h4 =>
∃ t2 : Bool,
r2 = (.bool t2) ∧
bcase t2 (
∃ cs5 : List Value, row h4 b1 12 6 = some cs5 ∧
∃ cs6 : List Value, row h4 b2 12 6 = some cs6 ∧
Runs Tryz.prog 57 #[(.agg (cs5).toArray), (.agg (cs6).toArray)] h4 fun r3 h5 =>
∃ t3 : Bool,
r3 = (.bool t3) ∧
bcase t3 (
∃ n1 : Int, cell h5 b1 18 = some (.int .i64 n1) ∧
∃ n2 : Int, cell h5 b2 18 = some (.int .i64 n2) ∧
bcase (decide (n1 = n2)) (
∃ n3 : Int, cell h5 b1 19 = some (.int .i64 n3) ∧
∃ n4 : Int, cell h5 b2 19 = some (.int .i64 n4) ∧
bcase (decide (n3 = n4)) (
∃ t4 : Bool, cell h5 b1 20 = some (.bool t4) ∧
∃ t5 : Bool, cell h5 b2 20 = some (.bool t5) ∧
bcase (t4 == t5) (
∃ t6 : Bool, cell h5 b1 21 = some (.bool t6) ∧
∃ t7 : Bool, cell h5 b2 21 = some (.bool t7) ∧
bcase (t6 == t7) (
∃ t8 : Bool, cell h5 b1 22 = some (.bool t8) ∧
∃ t9 : Bool, cell h5 b2 22 = some (.bool t9) ∧
bcase (t8 == t9) (
∃ (s1 : Option Addr) (s1l s1c : Nat), cell h5 b1 23 = some (.slice s1 s1l s1c) ∧
∃ (s2 : Option Addr) (s2l s2c : Nat), cell h5 b2 23 = some (.slice s2 s2l s2c) ∧
Runs Tryz.prog 31 #[(.slice s1 s1l s1c), (.slice s2 s2l s2c)] h5 fun r4 h6 =>
∃ t10 : Bool,
r4 = (.bool t10) ∧
Post (.bool t10) h6) (
Post (.bool false) h5)) (
Post (.bool false) h5)) (
Post (.bool false) h5)) (
Post (.bool false) h5)) (
Post (.bool false) h5)) (
Post (.bool false) h5)) (
Post (.bool false) h4)) (
Post (.bool false) h3)) :
    Runs Tryz.prog 52 #[(.agg (a).toArray), (.agg (b).toArray)] h0 Post :=
  runs_of (args := [(.agg (a).toArray), (.agg (b).toArray)]) (fun n => ⟨true, false⟩) (fun _ => []) (fun _ => none) (fun _ => []) Tryz.func52 rfl (by rw [Tryz.ntmps52]; simp) (Eq.mp (by kernel_rfl) H)
end Go.Proofs.YtepodifionoigaaGreatDoor
set_option linter.unusedVariables false
set_option linter.unusedSimpArgs false
set_option maxRecDepth 100000
namespace Go.Proofs.YtepodifionoigaaGreatDoor
open Go.Vc
theorem vc_muezzinsee_Is (e : Value) (code : Int) (h0 : Heap) (Post : Value → Heap → Prop) (H :
Runs Tryz.prog 21 #[(.int .i64 code)] h0 fun r1 h1 =>
∃ cs1 : List Value,
r1 = (.agg (cs1).toArray) ∧
Runs Tryz.prog 20 #[e, (.agg (cs1).toArray)] h1 fun r2 h2 =>
∃ t1 : Bool,
r2 = (.bool t1) ∧
Post (.bool t1) h2) :
    Runs Tryz.prog 8 #[e, (.int .i64 code)] h0 Post :=
  runs_of (args := [e, (.int .i64 code)]) (fun n => ⟨true, false⟩) (fun _ => []) (fun _ => none) (fun _ => []) Tryz.func8 rfl (by rw [Tryz.ntmps8]; simp) (Eq.mp (by kernel_rfl) H)

theorem vc_muezzinsee_Same (e : Value) (f : List Value) (h0 : Heap) (Post : Value → Heap → Prop) (H :
∀ (b1 : Nat) (h1 : Heap), b1 = h0.size → h1 = h0.push (.cells (f).toArray 59) →
∃ cs1 : List Value, row h1 b1 0 3 = some cs1 ∧
Runs Tryz.prog 42 #[e] h1 fun r1 h2 =>
∃ cs2 : List Value,
r1 = (.agg (cs2).toArray) ∧
row h2 b1 0 3 = some (cs1) ∧
Runs Tryz.prog 41 #[(.agg (cs2).toArray), (.agg (cs1).toArray)] h2 fun r2 h3 =>
∃ t1 : Bool,
r2 = (.bool t1) ∧
Post (.bool t1) h3) :
    Runs Tryz.prog 20 #[e, (.agg (f).toArray)] h0 Post :=
  runs_of (args := [e, (.agg (f).toArray)]) (fun n => ⟨true, false⟩) (fun _ => []) (fun _ => none) (fun _ => []) Tryz.func20 rfl (by rw [Tryz.ntmps20]; simp) (Eq.mp (by kernel_rfl) H)

theorem vc_muezzinref_Bare (code : Int) (h0 : Heap) (Post : Value → Heap → Prop) (H :
∀ (b1 : Nat) (h1 : Heap), b1 = h0.size → h1 = h0.push (.cells ([(.int .i64 (0 : Int)), (.bool false), (.int .i64 (0 : Int))] : List Value).toArray 59) →
((([(.int .i64 code), (.bool false), (.int .i64 (0 : Int))] : List Value)).length = 3 ∧ wrs h1 b1 0 3 ∧ ∀ u ∈ (([(.int .i64 code), (.bool false), (.int .i64 (0 : Int))] : List Value) : List Value), u.oneCell' = true) ∧ ∀ h2 : Heap, h2 = setr h1 b1 0 ([(.int .i64 code), (.bool false), (.int .i64 (0 : Int))] : List Value) →
∃ cs1 : List Value, row h2 b1 0 3 = some cs1 ∧
Post (.agg (cs1).toArray) h2) :
    Runs Tryz.prog 21 #[(.int .i64 code)] h0 Post :=
  runs_of (args := [(.int .i64 code)]) (fun n => ⟨true, false⟩) (fun _ => []) (fun _ => none) (fun _ => []) Tryz.func21 rfl (by rw [Tryz.ntmps21]; simp) (Eq.mp (by kernel_rfl) H)

theorem vc_muezzinref_None  (h0 : Heap) (Post : Value → Heap → Prop) (H :
∀ (b1 : Nat) (h1 : Heap), b1 = h0.size → h1 = h0.push (.cells ([(.int .i64 (0 : Int)), (.bool false), (.int .i64 (0 : Int))] : List Value).toArray 59) →
((([(.int .i64 (0 : Int)), (.bool false), (.int .i64 (0 : Int))] : List Value)).length = 3 ∧ wrs h1 b1 0 3 ∧ ∀ u ∈ (([(.int .i64 (0 : Int)), (.bool false), (.int .i64 (0 : Int))] : List Value) : List Value), u.oneCell' = true) ∧ ∀ h2 : Heap, h2 = setr h1 b1 0 ([(.int .i64 (0 : Int)), (.bool false), (.int .i64 (0 : Int))] : List Value) →
∃ cs1 : List Value, row h2 b1 0 3 = some cs1 ∧
Post (.agg (cs1).toArray) h2) :
    Runs Tryz.prog 80 #[] h0 Post :=
  runs_of (args := []) (fun n => ⟨true, false⟩) (fun _ => []) (fun _ => none) (fun _ => []) Tryz.func80 rfl (by rw [Tryz.ntmps80]; simp) (Eq.mp (by kernel_rfl) H)


theorem vc_muezzinref_SameFault (a : List Value) (b : List Value) (h0 : Heap) (Post : Value → Heap → Prop) (H :
∀ (b1 : Nat) (h1 : Heap), b1 = h0.size → h1 = h0.push (.cells (a).toArray 59) →
∀ (b2 : Nat) (h2 : Heap), b2 = h1.size → h2 = h1.push (.cells (b).toArray 59) →
∃ n1 : Int, cell h2 b1 0 = some (.int .i64 n1) ∧
∃ n2 : Int, cell h2 b2 0 = some (.int .i64 n2) ∧
bcase (decide (n1 = n2)) (
∃ t1 : Bool, cell h2 b1 1 = some (.bool t1) ∧
∃ t2 : Bool, cell h2 b2 1 = some (.bool t2) ∧
bcase (t1 == t2) (
∃ n3 : Int, cell h2 b1 2 = some (.int .i64 n3) ∧
∃ n4 : Int, cell h2 b2 2 = some (.int .i64 n4) ∧
Post (.bool (decide (n3 = n4))) h2) (
Post (.bool false) h2)) (
Post (.bool false) h2)) :
    Runs Tryz.prog 41 #[(.agg (a).toArray), (.agg (b).toArray)] h0 Post :=
  runs_of (args := [(.agg (a).toArray), (.agg (b).toArray)]) (fun n => ⟨true, false⟩) (fun _ => []) (fun _ => none) (fun _ => []) Tryz.func41 rfl (by rw [Tryz.ntmps41]; simp) (Eq.mp (by kernel_rfl) H)

theorem vc_muezzinsee_Fault (e : Value) (h0 : Heap) (Post : Value → Heap → Prop) (H :
∀ (b1 : Nat) (h1 : Heap), b1 = h0.size → h1 = h0.push (.cells ([(.int .i64 (0 : Int)), (.bool false), (.int .i64 (0 : Int))] : List Value).toArray 59) →
∃ t1 : Bool, ifeqH Tryz.prog h1 true (e) (.nilIface) = some t1 ∧
bcase t1 (
Runs Tryz.prog 80 #[] h1 fun r1 h2 =>
∃ cs1 : List Value,
r1 = (.agg (cs1).toArray) ∧
(((cs1)).length = 3 ∧ wrs h2 b1 0 3 ∧ ∀ u ∈ ((cs1) : List Value), u.oneCell' = true) ∧ ∀ h3 : Heap, h3 = setr h2 b1 0 (cs1) →
∃ cs2 : List Value, row h3 b1 0 3 = some cs2 ∧
Post (.agg (cs2).toArray) h3) (
∃ p1 : Option Addr,
∃ t2 : Bool, asr Tryz.prog 138 (e) = some ((.pointer p1), t2) ∧
bcase (!t2) (
Runs Tryz.prog 81 #[e] h1 fun r2 h4 =>
∃ n1 : Int,
r2 = (.int .i64 n1) ∧
Runs Tryz.prog 21 #[(.int .i64 n1)] h4 fun r3 h5 =>
∃ cs3 : List Value,
r3 = (.agg (cs3).toArray) ∧
(((cs3)).length = 3 ∧ wrs h5 b1 0 3 ∧ ∀ u ∈ ((cs3) : List Value), u.oneCell' = true) ∧ ∀ h6 : Heap, h6 = setr h5 b1 0 (cs3) →
∃ cs4 : List Value, row h6 b1 0 3 = some cs4 ∧
Post (.agg (cs4).toArray) h6) (
bcase (isNilAddr p1) (
Runs Tryz.prog 21 #[(.int .i64 (-1 : Int))] h1 fun r4 h7 =>
∃ cs5 : List Value,
r4 = (.agg (cs5).toArray) ∧
(((cs5)).length = 3 ∧ wrs h7 b1 0 3 ∧ ∀ u ∈ ((cs5) : List Value), u.oneCell' = true) ∧ ∀ h8 : Heap, h8 = setr h7 b1 0 (cs5) →
∃ cs6 : List Value, row h8 b1 0 3 = some cs6 ∧
Post (.agg (cs6).toArray) h8) (
onAddr p1 fun b2 o1 =>
∃ v1 : Value, cell h1 b2 (o1 + 1) = some v1 ∧
∃ t3 : Bool, ifeqH Tryz.prog h1 true (v1) (.nilIface) = some t3 ∧
bcase t3 (
Runs Tryz.prog 21 #[(.int .i64 (-1 : Int))] h1 fun r5 h9 =>
∃ cs7 : List Value,
r5 = (.agg (cs7).toArray) ∧
(((cs7)).length = 3 ∧ wrs h9 b1 0 3 ∧ ∀ u ∈ ((cs7) : List Value), u.oneCell' = true) ∧ ∀ h10 : Heap, h10 = setr h9 b1 0 (cs7) →
∃ cs8 : List Value, row h10 b1 0 3 = some cs8 ∧
Post (.agg (cs8).toArray) h10) (
onAddr p1 fun b3 o2 =>
∃ v2 : Value, cell h1 b3 (o2 + 1) = some v2 ∧
onAddr p1 fun b4 o3 =>
∃ n2 : Int, cell h1 b4 o3 = some (.int .i64 n2) ∧
Runs Tryz.prog 81 #[v2] h1 fun r6 h11 =>
∃ n3 : Int,
r6 = (.int .i64 n3) ∧
cell h11 b4 o3 = some (.int .i64 n2) ∧
Runs Tryz.prog 82 #[(.int .i64 n3), (.int .i64 n2)] h11 fun r7 h12 =>
∃ cs9 : List Value,
r7 = (.agg (cs9).toArray) ∧
(((cs9)).length = 3 ∧ wrs h12 b1 0 3 ∧ ∀ u ∈ ((cs9) : List Value), u.oneCell' = true) ∧ ∀ h13 : Heap, h13 = setr h12 b1 0 (cs9) →
∃ cs10 : List Value, row h13 b1 0 3 = some cs10 ∧
Post (.agg (cs10).toArray) h13))))) :
    Runs Tryz.prog 42 #[e] h0 Post :=
  runs_of (args := [e]) (fun n => ⟨true, false⟩) (fun _ => []) (fun _ => none) (fun _ => []) Tryz.func42 rfl (by rw [Tryz.ntmps42]; simp) (Eq.mp (by kernel_rfl) H)

theorem vc_muezzinsee_sentinel (e : Value) (h0 : Heap) (Post : Value → Heap → Prop) (H :
Runs Tryz.prog 106 #[] h0 fun r1 h1 =>
∃ (s1 : Option Addr) (s1l s1c : Nat),
r1 = (.slice s1 s1l s1c) ∧
∃ (I1 : Int → Heap → Prop) (m1 : Int → Heap → Nat), I1 (0 : Int) h1 ∧ ∀ _ : Env,
∀ (i_1 : Int) (h2 : Heap), I1 i_1 h2 →
bcase (decide (i_1 < ((s1l : Nat) : Int))) (
(0 ≤ i_1 ∧ i_1 < ((s1l : Nat) : Int)) ∧
onAddr s1 fun b1 o1 =>
∃ v1 : Value, cell h2 b1 (o1 + (i_1).toNat) = some v1 ∧
Runs Tryz.prog 107 #[e, v1] h2 fun r2 h3 =>
∃ t1 : Bool,
r2 = (.bool t1) ∧
bcase t1 (
fits .i64 ((101 : Int) + i_1) ∧
Post (.int .i64 ((101 : Int) + i_1)) h3) (
fits .i64 (i_1 + (1 : Int)) ∧
I1 (i_1 + (1 : Int)) h3 ∧ m1 (i_1 + (1 : Int)) h3 < m1 i_1 h2)) (
Post (.int .i64 (-1 : Int)) h2)) :
    Runs Tryz.prog 81 #[e] h0 Post :=
  runs_of (args := [e]) (fun n => ⟨true, false⟩) (fun n => match n with | 0 => [(4, .int .i64)] | _ => []) (fun _ => none) (fun _ => []) Tryz.func81 rfl (by rw [Tryz.ntmps81]; simp) (Eq.mp (by kernel_rfl) H)

theorem vc_muezzinsee_sentinels  (h0 : Heap) (Post : Value → Heap → Prop) (H :
∃ v1 : Value, cell h0 1 0 = some v1 ∧
∃ v2 : Value, cell h0 3 0 = some v2 ∧
∃ v3 : Value, cell h0 0 0 = some v3 ∧
∃ v4 : Value, cell h0 5 0 = some v4 ∧
∃ v5 : Value, cell h0 2 0 = some v5 ∧
∃ v6 : Value, cell h0 4 0 = some v6 ∧
∃ v7 : Value, cell h0 6 0 = some v7 ∧
∃ v8 : Value, cell h0 7 0 = some v8 ∧
∃ v9 : Value, cell h0 8 0 = some v9 ∧
∃ v10 : Value, cell h0 9 0 = some v10 ∧
∃ v11 : Value, cell h0 10 0 = some v11 ∧
∃ v12 : Value, cell h0 11 0 = some v12 ∧
∃ v13 : Value, cell h0 12 0 = some v13 ∧
∃ v14 : Value, cell h0 13 0 = some v14 ∧
partv 1 v1 fun cs1 =>
partv 1 v2 fun cs2 =>
partv 1 v3 fun cs3 =>
partv 1 v4 fun cs4 =>
partv 1 v5 fun cs5 =>
partv 1 v6 fun cs6 =>
partv 1 v7 fun cs7 =>
partv 1 v8 fun cs8 =>
partv 1 v9 fun cs9 =>
partv 1 v10 fun cs10 =>
partv 1 v11 fun cs11 =>
partv 1 v12 fun cs12 =>
partv 1 v13 fun cs13 =>
partv 1 v14 fun cs14 =>
∀ (b1 : Nat) (h1 : Heap), b1 = h0.size → h1 = h0.push (.cells ((cs1 ++ (cs2 ++ (cs3 ++ (cs4 ++ (cs5 ++ (cs6 ++ (cs7 ++ (cs8 ++ (cs9 ++ (cs10 ++ (cs11 ++ (cs12 ++ (cs13 ++ (cs14 ++ []))))))))))))))).toArray 26) →
Post (.slice (some ⟨b1, 0, none⟩) 14 14) h1) :
    Runs Tryz.prog 106 #[] h0 Post :=
  runs_of (args := []) (fun n => ⟨true, false⟩) (fun _ => []) (fun _ => none) (fun _ => []) Tryz.func106 rfl (by rw [Tryz.ntmps106]; simp) (Eq.mp (by kernel_rfl) H)

theorem vc_muezzinsee_Alike (a : Value) (b : Value) (h0 : Heap) (Post : Value → Heap → Prop) (H :
∃ t1 : Bool, ifeqH Tryz.prog h0 true (a) (.nilIface) = some t1 ∧
bcase t1 (
∃ t2 : Bool, ifeqH Tryz.prog h0 true (a) (.nilIface) = some t2 ∧
bcase t2 (
∃ t3 : Bool, ifeqH Tryz.prog h0 true (b) (.nilIface) = some t3 ∧
Post (.bool t3) h0) (
Post (.bool false) h0)) (
∃ t4 : Bool, ifeqH Tryz.prog h0 true (b) (.nilIface) = some t4 ∧
bcase t4 (
∃ t5 : Bool, ifeqH Tryz.prog h0 true (a) (.nilIface) = some t5 ∧
bcase t5 (
∃ t6 : Bool, ifeqH Tryz.prog h0 true (b) (.nilIface) = some t6 ∧
Post (.bool t6) h0) (
Post (.bool false) h0)) (
∃ t7 : Bool, ifeqH Tryz.prog h0 false (a) (b) = some t7 ∧
Post (.bool t7) h0))) :
    Runs Tryz.prog 107 #[a, b] h0 Post :=
  runs_of (args := [a, b]) (fun n => ⟨true, false⟩) (fun _ => []) (fun _ => none) (fun _ => []) Tryz.func107 rfl (by rw [Tryz.ntmps107]; simp) (Eq.mp (by kernel_rfl) H)
end Go.Proofs.YtepodifionoigaaGreatDoor
