/- The conditions for calls of functions of the program, in plain form: written by a program (vcgen) off the elaborated code; each is the reckoner's own, by the kernel. -/
import Derived.Test.YthlacliefgliiaaDoorRows
import Derived.Test.YthlacliefgliiaaDoorVc
set_option linter.unusedVariables false
set_option maxRecDepth 100000
namespace Go.Proofs.YthlacliefgliiaaDoor
open Go.Vc
theorem vc_ampdu_Unpack (b : Option Addr) (bL bC : Nat) (h0 : Heap) (Post : Value → Heap → Prop) (H :
∃ (I1 : Option Addr → Nat → Nat → Option Addr → Nat → Nat → Heap → Prop) (m1 : Option Addr → Nat → Nat → Option Addr → Nat → Nat → Heap → Nat), I1 b bL bC none 0 0 h0 ∧ ∀ _ : Env,
∀ (b_1 : Option Addr) (b_1l b_1c : Nat) (out_1 : Option Addr) (out_1l out_1c : Nat) (h1 : Heap), I1 b_1 b_1l b_1c out_1 out_1l out_1c h1 →
bcase (decide ((4 : Int) ≤ ((b_1l : Nat) : Int))) (
Runs Tryd.prog 58 #[(.slice b_1 b_1l b_1c)] h1 fun r1 h2 =>
∃ (s1 : Option Addr) (s1l s1c : Nat),
∃ v1 : Value,
r1 = (.tuple #[(.slice s1 s1l s1c), v1]) ∧
∃ t1 : Bool, ifeqH Tryd.prog h2 true (v1) (.nilIface) = some t1 ∧
bcase (!t1) (
(0 ≤ (4 : Int) ∧ (4 : Int) ≤ ((b_1l : Nat) : Int)) ∧
I1 (slcAddr b_1 4 b_1c 4) (b_1l - 4) (b_1c - 4) out_1 out_1l out_1c h2 ∧ m1 (slcAddr b_1 4 b_1c 4) (b_1l - 4) (b_1c - 4) out_1 out_1l out_1c h2 < m1 b_1 b_1l b_1c out_1 out_1l out_1c h1) (
∀ (b1 : Nat) (h3 : Heap), b1 = h2.size → h3 = h2.push (.cells ([(.slice s1 s1l s1c)] : List Value).toArray 35) →
∃ news1 : List Value, (row h3 b1 0 1 = some news1 ∧ ∀ u ∈ news1, u.oneCell' = true) ∧
appK h3 out_1 out_1l out_1c 1 1 35 24 news1 fun (a1 : Option Addr) (cap1 : Nat) (h4 : Heap) =>
Runs Tryd.prog 59 #[(.int .i64 ((s1l : Nat) : Int))] h4 fun r2 h5 =>
∃ n1 : Int,
r2 = (.int .i64 n1) ∧
fits .i64 ((4 : Int) + n1) ∧
(0 ≤ (min ((b_1l : Nat) : Int) ((4 : Int) + n1)) ∧ (min ((b_1l : Nat) : Int) ((4 : Int) + n1)) ≤ ((b_1l : Nat) : Int)) ∧
I1 (slcAddr b_1 ((min ((b_1l : Nat) : Int) ((4 : Int) + n1))).toNat b_1c (((min ((b_1l : Nat) : Int) ((4 : Int) + n1))).toNat * 1)) (b_1l - ((min ((b_1l : Nat) : Int) ((4 : Int) + n1))).toNat) (b_1c - ((min ((b_1l : Nat) : Int) ((4 : Int) + n1))).toNat) a1 (out_1l + 1) cap1 h5 ∧ m1 (slcAddr b_1 ((min ((b_1l : Nat) : Int) ((4 : Int) + n1))).toNat b_1c (((min ((b_1l : Nat) : Int) ((4 : Int) + n1))).toNat * 1)) (b_1l - ((min ((b_1l : Nat) : Int) ((4 : Int) + n1))).toNat) (b_1c - ((min ((b_1l : Nat) : Int) ((4 : Int) + n1))).toNat) a1 (out_1l + 1) cap1 h5 < m1 b_1 b_1l b_1c out_1 out_1l out_1c h1)) (
Post (.slice out_1 out_1l out_1c) h1)) :
    Runs Tryd.prog 32 #[(.slice b bL bC)] h0 Post :=
  runs_of (args := [(.slice b bL bC)]) (fun n => ⟨true, false⟩) (fun n => match n with | 0 => [(0, .slice), (3, .slice)] | _ => []) (fun _ => none) (fun _ => []) Tryd.func32 rfl (by rw [Tryd.ntmps32]; simp) (Eq.mp (by kernel_rfl) H)

theorem vc_ampdu_part (b : Option Addr) (bL bC : Nat) (h0 : Heap) (Post : Value → Heap → Prop) (H :
bcase (decide (((bL : Nat) : Int) < (4 : Int))) (
∃ v1 : Value, cell h0 1 0 = some v1 ∧
Post (.tuple #[(.slice none 0 0), v1]) h0) (
Runs Tryd.prog 78 #[(.slice b bL bC)] h0 fun r1 h1 =>
∃ n1 : Int,
∃ n2 : Int,
r1 = (.tuple #[(.int .i64 n1), (.int .i64 n2)]) ∧
(0 ≤ (0 : Int) ∧ (0 : Int) ≤ (3 : Int) ∧ (3 : Int) ≤ ((bC : Nat) : Int)) ∧
Runs Tryd.prog 79 #[(.slice (slcAddr b 0 bC 0) 3 bC)] h1 fun r2 h2 =>
∃ t1 : Bool,
r2 = (.bool t1) ∧
bcase (!t1) (
∃ v2 : Value, cell h2 4 0 = some v2 ∧
Post (.tuple #[(.slice none 0 0), v2]) h2) (
(0 ≤ (3 : Int) ∧ (3 : Int) < ((bL : Nat) : Int)) ∧
onAddr b fun b1 o1 =>
∃ n3 : Int, cell h2 b1 (o1 + 3) = some (.int .u8 n3) ∧
bcase (!decide (n3 = (78 : Int))) (
∃ v3 : Value, cell h2 3 0 = some v3 ∧
Post (.tuple #[(.slice none 0 0), v3]) h2) (
bcase (!decide (n2 = (0 : Int))) (
∃ v4 : Value, cell h2 3 0 = some v4 ∧
Post (.tuple #[(.slice none 0 0), v4]) h2) (
bcase (decide (n1 = (0 : Int))) (
∃ v5 : Value, cell h2 3 0 = some v5 ∧
Post (.tuple #[(.slice none 0 0), v5]) h2) (
fits .i64 (((bL : Nat) : Int) - (4 : Int)) ∧
bcase (decide ((((bL : Nat) : Int) - (4 : Int)) < n1)) (
∃ v6 : Value, cell h2 1 0 = some v6 ∧
Post (.tuple #[(.slice none 0 0), v6]) h2) (
fits .i64 ((4 : Int) + n1) ∧
(0 ≤ (4 : Int) ∧ (4 : Int) ≤ ((4 : Int) + n1) ∧ ((4 : Int) + n1) ≤ ((bC : Nat) : Int)) ∧
Runs Tryd.prog 60 #[(.slice (slcAddr b 4 bC 4) ((((4 : Int) + n1)).toNat - 4) (bC - 4))] h2 fun r3 h3 =>
∃ (s1 : Option Addr) (s1l s1c : Nat),
r3 = (.slice s1 s1l s1c) ∧
Post (.tuple #[(.slice s1 s1l s1c), .nilIface]) h3))))))) :
    Runs Tryd.prog 58 #[(.slice b bL bC)] h0 Post :=
  runs_of (args := [(.slice b bL bC)]) (fun n => ⟨true, false⟩) (fun _ => []) (fun _ => none) (fun _ => []) Tryd.func58 rfl (by rw [Tryd.ntmps58]; simp) (Eq.mp (by kernel_rfl) H)

theorem vc_ampdu_up (n : Int) (h0 : Heap) (Post : Value → Heap → Prop) (H :
fits .i64 (n + (4 : Int)) ∧
fits .i64 ((n + (4 : Int)) - (1 : Int)) ∧
(0 ≤ ((n + (4 : Int)) - (1 : Int)) ∧ 0 < (4 : Int) ∧ fits .i64 (((n + (4 : Int)) - (1 : Int)) / (4 : Int))) ∧
fits .i64 ((((n + (4 : Int)) - (1 : Int)) / (4 : Int)) * (4 : Int)) ∧
Post (.int .i64 ((((n + (4 : Int)) - (1 : Int)) / (4 : Int)) * (4 : Int))) h0) :
    Runs Tryd.prog 59 #[(.int .i64 n)] h0 Post :=
  runs_of (args := [(.int .i64 n)]) (fun n => ⟨true, false⟩) (fun _ => []) (fun _ => none) (fun _ => []) Tryd.func59 rfl (by rw [Tryd.ntmps59]; simp) (Eq.mp (by kernel_rfl) H)

theorem vc_ampdu_long (b : Option Addr) (bL bC : Nat) (h0 : Heap) (Post : Value → Heap → Prop) (H :
(0 ≤ (0 : Int) ∧ (0 : Int) < ((bL : Nat) : Int)) ∧
onAddr b fun b1 o1 =>
∃ n1 : Int, cell h0 b1 o1 = some (.int .u8 n1) ∧
fits .i64 n1 ∧
(0 ≤ (1 : Int) ∧ (1 : Int) < ((bL : Nat) : Int)) ∧
onAddr b fun b2 o2 =>
∃ n2 : Int, cell h0 b2 (o2 + 1) = some (.int .u8 n2) ∧
fits .i64 n2 ∧
(0 ≤ (8 : Int) ∧ (8 : Int) ≤ kbits .i64) ∧
fits .i64 (n2 * (256 : Int)) ∧
(0 ≤ (bits .or .i64 n1 (n2 * (256 : Int))) ∧ 0 < (16 : Int) ∧ fits .i64 ((bits .or .i64 n1 (n2 * (256 : Int))) / (16 : Int))) ∧
(0 ≤ (bits .or .i64 n1 (n2 * (256 : Int))) ∧ 0 < (16 : Int)) ∧
Post (.tuple #[(.int .i64 ((bits .or .i64 n1 (n2 * (256 : Int))) / (16 : Int))), (.int .i64 ((bits .or .i64 n1 (n2 * (256 : Int))) % (16 : Int)))]) h0) :
    Runs Tryd.prog 78 #[(.slice b bL bC)] h0 Post :=
  runs_of (args := [(.slice b bL bC)]) (fun n => ⟨true, false⟩) (fun _ => []) (fun _ => none) (fun _ => []) Tryd.func78 rfl (by rw [Tryd.ntmps78]; simp) (Eq.mp (by kernel_rfl) H)

theorem vc_crc_Fits (b : Option Addr) (bL bC : Nat) (h0 : Heap) (Post : Value → Heap → Prop) (H :
bcase (decide ((0 : Int) < ((bL : Nat) : Int))) (
fits .i64 (((bL : Nat) : Int) - (1 : Int)) ∧
(0 ≤ (((bL : Nat) : Int) - (1 : Int)) ∧ (((bL : Nat) : Int) - (1 : Int)) < ((bL : Nat) : Int)) ∧
onAddr b fun b1 o1 =>
∃ n1 : Int, cell h0 b1 (o1 + ((((bL : Nat) : Int) - (1 : Int))).toNat) = some (.int .u8 n1) ∧
fits .i64 (((bL : Nat) : Int) - (1 : Int)) ∧
(0 ≤ (0 : Int) ∧ (0 : Int) ≤ (((bL : Nat) : Int) - (1 : Int)) ∧ (((bL : Nat) : Int) - (1 : Int)) ≤ ((bC : Nat) : Int)) ∧
Runs Tryd.prog 88 #[(.slice (slcAddr b 0 bC 0) ((((bL : Nat) : Int) - (1 : Int))).toNat bC)] h0 fun r1 h1 =>
∃ n2 : Int,
r1 = (.int .u8 n2) ∧
cell h1 b1 (o1 + ((((bL : Nat) : Int) - (1 : Int))).toNat) = some (.int .u8 n1) ∧
Post (.bool (decide (n1 = n2))) h1) (
Post (.bool false) h0)) :
    Runs Tryd.prog 79 #[(.slice b bL bC)] h0 Post :=
  runs_of (args := [(.slice b bL bC)]) (fun n => ⟨true, false⟩) (fun _ => []) (fun _ => none) (fun _ => []) Tryd.func79 rfl (by rw [Tryd.ntmps79]; simp) (Eq.mp (by kernel_rfl) H)

theorem vc_crc_Sum (b : Option Addr) (bL bC : Nat) (h0 : Heap) (Post : Value → Heap → Prop) (H :
∃ (I1 : Int → Int → Heap → Prop) (m1 : Int → Int → Heap → Nat), I1 (255 : Int) (0 : Int) h0 ∧ ∀ _ : Env,
∀ (r_1 : Int) (x2 : Int) (h1 : Heap), I1 r_1 x2 h1 →
bcase (decide (x2 < ((bL : Nat) : Int))) (
(0 ≤ x2 ∧ x2 < ((bL : Nat) : Int)) ∧
onAddr b fun b1 o1 =>
∃ n1 : Int, cell h1 b1 (o1 + (x2).toNat) = some (.int .u8 n1) ∧
∃ (I2 : Int → Int → Int → Heap → Prop) (m2 : Int → Int → Int → Heap → Nat), I2 r_1 n1 (0 : Int) h1 ∧ ∀ _ : Env,
∀ (r_2 : Int) (x_1 : Int) (x5 : Int) (h2 : Heap), I2 r_2 x_1 x5 h2 →
bcase (decide (x5 < (8 : Int))) (
(0 ≤ (7 : Int) ∧ (7 : Int) ≤ kbits .u8) ∧
(0 ≤ (1 : Int) ∧ (1 : Int) ≤ kbits .u8) ∧
bcase (decide ((bits .xor .u8 (r_2 / (128 : Int)) (bits .and .u8 x_1 (1 : Int))) = (1 : Int))) (
(0 ≤ (1 : Int) ∧ (1 : Int) ≤ kbits .u8) ∧
I2 (bits .xor .u8 (IntKind.u8.wrap (r_2 * (2 : Int))) (7 : Int)) (x_1 / (2 : Int)) (IntKind.i64.wrap (x5 + (1 : Int))) h2 ∧ m2 (bits .xor .u8 (IntKind.u8.wrap (r_2 * (2 : Int))) (7 : Int)) (x_1 / (2 : Int)) (IntKind.i64.wrap (x5 + (1 : Int))) h2 < m2 r_2 x_1 x5 h2) (
(0 ≤ (1 : Int) ∧ (1 : Int) ≤ kbits .u8) ∧
I2 (IntKind.u8.wrap (r_2 * (2 : Int))) (x_1 / (2 : Int)) (IntKind.i64.wrap (x5 + (1 : Int))) h2 ∧ m2 (IntKind.u8.wrap (r_2 * (2 : Int))) (x_1 / (2 : Int)) (IntKind.i64.wrap (x5 + (1 : Int))) h2 < m2 r_2 x_1 x5 h2)) (
I1 r_2 (IntKind.i64.wrap (x2 + (1 : Int))) h2 ∧ m1 r_2 (IntKind.i64.wrap (x2 + (1 : Int))) h2 < m1 r_1 x2 h1)) (
Runs Tryd.prog 93 #[(.int .u8 (bits .xor .u8 (255 : Int) r_1))] h1 fun r1 h3 =>
∃ n2 : Int,
r1 = (.int .u8 n2) ∧
Post (.int .u8 n2) h3)) :
    Runs Tryd.prog 88 #[(.slice b bL bC)] h0 Post :=
  runs_of (args := [(.slice b bL bC)]) (fun n => ⟨false, false⟩) (fun n => match n with | 0 => [(3, .int .u8), (9, .int .i64)] | 2 => [(3, .int .u8), (5, .int .u8), (13, .int .i64)] | _ => []) (fun _ => none) (fun _ => []) Tryd.func88 rfl (by rw [Tryd.ntmps88]; simp) (Eq.mp (by kernel_rfl) H)

theorem vc_math_bits_Reverse8 (x : Int) (h0 : Heap) (Post : Value → Heap → Prop) (H :
(0 ≤ x ∧ x < (((⟨#[0, 128, 64, 192, 32, 160, 96, 224, 16, 144, 80, 208, 48, 176, 112, 240, 8, 136, 72, 200, 40, 168, 104, 232, 24, 152, 88, 216, 56, 184, 120, 248, 4, 132, 68, 196, 36, 164, 100, 228, 20, 148, 84, 212, 52, 180, 116, 244, 12, 140, 76, 204, 44, 172, 108, 236, 28, 156, 92, 220, 60, 188, 124, 252, 2, 130, 66, 194, 34, 162, 98, 226, 18, 146, 82, 210, 50, 178, 114, 242, 10, 138, 74, 202, 42, 170, 106, 234, 26, 154, 90, 218, 58, 186, 122, 250, 6, 134, 70, 198, 38, 166, 102, 230, 22, 150, 86, 214, 54, 182, 118, 246, 14, 142, 78, 206, 46, 174, 110, 238, 30, 158, 94, 222, 62, 190, 126, 254, 1, 129, 65, 193, 33, 161, 97, 225, 17, 145, 81, 209, 49, 177, 113, 241, 9, 137, 73, 201, 41, 169, 105, 233, 25, 153, 89, 217, 57, 185, 121, 249, 5, 133, 69, 197, 37, 165, 101, 229, 21, 149, 85, 213, 53, 181, 117, 245, 13, 141, 77, 205, 45, 173, 109, 237, 29, 157, 93, 221, 61, 189, 125, 253, 3, 131, 67, 195, 35, 163, 99, 227, 19, 147, 83, 211, 51, 179, 115, 243, 11, 139, 75, 203, 43, 171, 107, 235, 27, 155, 91, 219, 59, 187, 123, 251, 7, 135, 71, 199, 39, 167, 103, 231, 23, 151, 87, 215, 55, 183, 119, 247, 15, 143, 79, 207, 47, 175, 111, 239, 31, 159, 95, 223, 63, 191, 127, 255]⟩ : ByteArray).size : Nat) : Int)) ∧
Post (.int .u8 (strAt ⟨#[0, 128, 64, 192, 32, 160, 96, 224, 16, 144, 80, 208, 48, 176, 112, 240, 8, 136, 72, 200, 40, 168, 104, 232, 24, 152, 88, 216, 56, 184, 120, 248, 4, 132, 68, 196, 36, 164, 100, 228, 20, 148, 84, 212, 52, 180, 116, 244, 12, 140, 76, 204, 44, 172, 108, 236, 28, 156, 92, 220, 60, 188, 124, 252, 2, 130, 66, 194, 34, 162, 98, 226, 18, 146, 82, 210, 50, 178, 114, 242, 10, 138, 74, 202, 42, 170, 106, 234, 26, 154, 90, 218, 58, 186, 122, 250, 6, 134, 70, 198, 38, 166, 102, 230, 22, 150, 86, 214, 54, 182, 118, 246, 14, 142, 78, 206, 46, 174, 110, 238, 30, 158, 94, 222, 62, 190, 126, 254, 1, 129, 65, 193, 33, 161, 97, 225, 17, 145, 81, 209, 49, 177, 113, 241, 9, 137, 73, 201, 41, 169, 105, 233, 25, 153, 89, 217, 57, 185, 121, 249, 5, 133, 69, 197, 37, 165, 101, 229, 21, 149, 85, 213, 53, 181, 117, 245, 13, 141, 77, 205, 45, 173, 109, 237, 29, 157, 93, 221, 61, 189, 125, 253, 3, 131, 67, 195, 35, 163, 99, 227, 19, 147, 83, 211, 51, 179, 115, 243, 11, 139, 75, 203, 43, 171, 107, 235, 27, 155, 91, 219, 59, 187, 123, 251, 7, 135, 71, 199, 39, 167, 103, 231, 23, 151, 87, 215, 55, 183, 119, 247, 15, 143, 79, 207, 47, 175, 111, 239, 31, 159, 95, 223, 63, 191, 127, 255]⟩ (x).toNat)) h0) :
    Runs Tryd.prog 93 #[(.int .u8 x)] h0 Post :=
  runs_of (args := [(.int .u8 x)]) (fun n => ⟨true, false⟩) (fun _ => []) (fun _ => none) (fun _ => []) Tryd.func93 rfl (by rw [Tryd.ntmps93]; simp) (Eq.mp (by kernel_rfl) H)

theorem vc_muezzinref1_Pack (l : Option Addr) (lL lC : Nat) (h0 : Heap) (Post : Value → Heap → Prop) (H :
bcase (decide (((lL : Nat) : Int) = (0 : Int))) (
Post (.tuple #[(.slice none 0 0), (.int .i64 (103 : Int))]) h0) (
∃ (I1 : Int → Heap → Prop) (m1 : Int → Heap → Nat), I1 (0 : Int) h0 ∧ ∀ _ : Env,
∀ (i_1 : Int) (h1 : Heap), I1 i_1 h1 →
bcase (decide (i_1 < ((lL : Nat) : Int))) (
(0 ≤ i_1 ∧ i_1 < ((lL : Nat) : Int)) ∧
onAddr l fun b1 o1 =>
∃ (s1 : Option Addr) (s1l s1c : Nat), cell h1 b1 (o1 + (i_1).toNat) = some (.slice s1 s1l s1c) ∧
bcase (decide (((s1l : Nat) : Int) < (1 : Int))) (
Post (.tuple #[(.slice none 0 0), (.int .i64 (103 : Int))]) h1) (
(0 ≤ i_1 ∧ i_1 < ((lL : Nat) : Int)) ∧
onAddr l fun b2 o2 =>
∃ (s2 : Option Addr) (s2l s2c : Nat), cell h1 b2 (o2 + (i_1).toNat) = some (.slice s2 s2l s2c) ∧
bcase (decide ((4095 : Int) < ((s2l : Nat) : Int))) (
Post (.tuple #[(.slice none 0 0), (.int .i64 (103 : Int))]) h1) (
fits .i64 (i_1 + (1 : Int)) ∧
I1 (i_1 + (1 : Int)) h1 ∧ m1 (i_1 + (1 : Int)) h1 < m1 i_1 h1))) (
bcase (decide ((64 : Int) < ((lL : Nat) : Int))) (
Post (.tuple #[(.slice none 0 0), (.int .i64 (104 : Int))]) h1) (
Runs Tryd.prog 48 #[(.slice l lL lC)] h1 fun r1 h2 =>
∃ (s3 : Option Addr) (s3l s3c : Nat),
r1 = (.slice s3 s3l s3c) ∧
Runs Tryd.prog 47 #[(.slice s3 s3l s3c)] h2 fun r2 h3 =>
∃ n1 : Int,
r2 = (.int .i64 n1) ∧
bcase (decide ((65535 : Int) < n1)) (
Post (.tuple #[(.slice none 0 0), (.int .i64 (104 : Int))]) h3) (
∃ (I2 : Option Addr → Nat → Nat → Int → Heap → Prop) (m2 : Option Addr → Nat → Nat → Int → Heap → Nat), I2 none 0 0 (0 : Int) h3 ∧ ∀ _ : Env,
∀ (b_1 : Option Addr) (b_1l b_1c : Nat) (i_2 : Int) (h4 : Heap), I2 b_1 b_1l b_1c i_2 h4 →
bcase (decide (i_2 < ((lL : Nat) : Int))) (
∃ (I3 : Option Addr → Nat → Nat → Heap → Prop) (m3 : Option Addr → Nat → Nat → Heap → Nat), I3 b_1 b_1l b_1c h4 ∧ ∀ _ : Env,
∀ (b_2 : Option Addr) (b_2l b_2c : Nat) (h5 : Heap), I3 b_2 b_2l b_2c h5 →
(0 ≤ ((b_2l : Nat) : Int) ∧ 0 < (4 : Int)) ∧
bcase (!decide ((((b_2l : Nat) : Int) % (4 : Int)) = (0 : Int))) (
∀ (b3 : Nat) (h6 : Heap), b3 = h5.size → h6 = h5.push (.cells ([(.int .u8 (0 : Int))] : List Value).toArray 5) →
∃ news1 : List Value, (row h6 b3 0 1 = some news1 ∧ ∀ u ∈ news1, u.oneCell' = true) ∧
appK h6 b_2 b_2l b_2c 1 1 5 1 news1 fun (a1 : Option Addr) (cap1 : Nat) (h7 : Heap) =>
I3 a1 (b_2l + 1) cap1 h7 ∧ m3 a1 (b_2l + 1) cap1 h7 < m3 b_2 b_2l b_2c h5) (
(0 ≤ i_2 ∧ i_2 < ((lL : Nat) : Int)) ∧
onAddr l fun b4 o3 =>
∃ (s4 : Option Addr) (s4l s4c : Nat), cell h5 b4 (o3 + (i_2).toNat) = some (.slice s4 s4l s4c) ∧
fits .i64 (((s4l : Nat) : Int) * (16 : Int)) ∧
Runs Tryd.prog 46 #[(.slice none 0 0), (.int .i64 (((s4l : Nat) : Int) * (16 : Int)))] h5 fun r3 h8 =>
∃ (s5 : Option Addr) (s5l s5c : Nat),
r3 = (.slice s5 s5l s5c) ∧
(0 ≤ (0 : Int) ∧ (0 : Int) < ((s5l : Nat) : Int)) ∧
onAddr s5 fun b5 o4 =>
∃ n2 : Int, cell h8 b5 o4 = some (.int .u8 n2) ∧
(0 ≤ (1 : Int) ∧ (1 : Int) < ((s5l : Nat) : Int)) ∧
onAddr s5 fun b6 o5 =>
∃ n3 : Int, cell h8 b6 (o5 + 1) = some (.int .u8 n3) ∧
Runs Tryd.prog 49 #[(.slice s5 s5l s5c)] h8 fun r4 h9 =>
∃ n4 : Int,
r4 = (.int .u8 n4) ∧
cell h9 b6 (o5 + 1) = some (.int .u8 n3) ∧
cell h9 b5 o4 = some (.int .u8 n2) ∧
∀ (b7 : Nat) (h10 : Heap), b7 = h9.size → h10 = h9.push (.cells ([(.int .u8 n2), (.int .u8 n3), (.int .u8 n4), (.int .u8 (78 : Int))] : List Value).toArray 5) →
∃ news2 : List Value, (row h10 b7 0 4 = some news2 ∧ ∀ u ∈ news2, u.oneCell' = true) ∧
appK h10 b_2 b_2l b_2c 4 1 5 1 news2 fun (a2 : Option Addr) (cap2 : Nat) (h11 : Heap) =>
(0 ≤ i_2 ∧ i_2 < ((lL : Nat) : Int)) ∧
onAddr l fun b8 o6 =>
∃ (s6 : Option Addr) (s6l s6c : Nat), cell h11 b8 (o6 + (i_2).toNat) = some (.slice s6 s6l s6c) ∧
∃ news3 : List Value, (src h11 s6 (s6l * 1) news3 ∧ ∀ u ∈ news3, u.oneCell' = true) ∧
appK h11 a2 (b_2l + 4) cap2 s6l 1 5 1 news3 fun (a3 : Option Addr) (cap3 : Nat) (h12 : Heap) =>
fits .i64 (i_2 + (1 : Int)) ∧
I2 a3 ((b_2l + 4) + s6l) cap3 (i_2 + (1 : Int)) h12 ∧ m2 a3 ((b_2l + 4) + s6l) cap3 (i_2 + (1 : Int)) h12 < m2 b_1 b_1l b_1c i_2 h4)) (
Post (.tuple #[(.slice b_1 b_1l b_1c), (.int .i64 (0 : Int))]) h4)))))) :
    Runs Tryd.prog 23 #[(.slice l lL lC)] h0 Post :=
  runs_of (args := [(.slice l lL lC)]) (fun n => ⟨true, false⟩) (fun n => match n with | 0 => [(4, .int .i64)] | 2 => [(5, .slice), (6, .int .i64)] | 4 => [(5, .slice)] | _ => []) (fun _ => none) (fun _ => []) Tryd.func23 rfl (by rw [Tryd.ntmps23]; simp) (Eq.mp (by kernel_rfl) H)

theorem vc_muezzinref1_AggLen (lens : Option Addr) (lensL lensC : Nat) (h0 : Heap) (Post : Value → Heap → Prop) (H :
∃ (I1 : Int → Int → Heap → Prop) (m1 : Int → Int → Heap → Nat), I1 (0 : Int) (0 : Int) h0 ∧ ∀ _ : Env,
∀ (n_1 : Int) (i_1 : Int) (h1 : Heap), I1 n_1 i_1 h1 →
bcase (decide (i_1 < ((lensL : Nat) : Int))) (
fits .i64 (n_1 + (3 : Int)) ∧
(0 ≤ (n_1 + (3 : Int)) ∧ 0 < (4 : Int) ∧ fits .i64 ((n_1 + (3 : Int)) / (4 : Int))) ∧
fits .i64 (((n_1 + (3 : Int)) / (4 : Int)) * (4 : Int)) ∧
fits .i64 ((((n_1 + (3 : Int)) / (4 : Int)) * (4 : Int)) + (4 : Int)) ∧
(0 ≤ i_1 ∧ i_1 < ((lensL : Nat) : Int)) ∧
onAddr lens fun b1 o1 =>
∃ n1 : Int, cell h1 b1 (o1 + (i_1).toNat) = some (.int .i64 n1) ∧
fits .i64 (((((n_1 + (3 : Int)) / (4 : Int)) * (4 : Int)) + (4 : Int)) + (max n1 (0 : Int))) ∧
fits .i64 (i_1 + (1 : Int)) ∧
I1 (((((n_1 + (3 : Int)) / (4 : Int)) * (4 : Int)) + (4 : Int)) + (max n1 (0 : Int))) (i_1 + (1 : Int)) h1 ∧ m1 (((((n_1 + (3 : Int)) / (4 : Int)) * (4 : Int)) + (4 : Int)) + (max n1 (0 : Int))) (i_1 + (1 : Int)) h1 < m1 n_1 i_1 h1) (
Post (.int .i64 n_1) h1)) :
    Runs Tryd.prog 47 #[(.slice lens lensL lensC)] h0 Post :=
  runs_of (args := [(.slice lens lensL lensC)]) (fun n => ⟨true, false⟩) (fun n => match n with | 0 => [(3, .int .i64), (4, .int .i64)] | _ => []) (fun _ => none) (fun _ => []) Tryd.func47 rfl (by rw [Tryd.ntmps47]; simp) (Eq.mp (by kernel_rfl) H)

theorem vc_muezzinref1_lens (l : Option Addr) (lL lC : Nat) (h0 : Heap) (Post : Value → Heap → Prop) (H :
∃ (I1 : Option Addr → Nat → Nat → Int → Heap → Prop) (m1 : Option Addr → Nat → Nat → Int → Heap → Nat), I1 none 0 0 (0 : Int) h0 ∧ ∀ _ : Env,
∀ (out_1 : Option Addr) (out_1l out_1c : Nat) (i_1 : Int) (h1 : Heap), I1 out_1 out_1l out_1c i_1 h1 →
bcase (decide (i_1 < ((lL : Nat) : Int))) (
(0 ≤ i_1 ∧ i_1 < ((lL : Nat) : Int)) ∧
onAddr l fun b1 o1 =>
∃ (s1 : Option Addr) (s1l s1c : Nat), cell h1 b1 (o1 + (i_1).toNat) = some (.slice s1 s1l s1c) ∧
∀ (b2 : Nat) (h2 : Heap), b2 = h1.size → h2 = h1.push (.cells ([(.int .i64 ((s1l : Nat) : Int))] : List Value).toArray 3) →
∃ news1 : List Value, (row h2 b2 0 1 = some news1 ∧ ∀ u ∈ news1, u.oneCell' = true) ∧
appK h2 out_1 out_1l out_1c 1 1 3 8 news1 fun (a1 : Option Addr) (cap1 : Nat) (h3 : Heap) =>
fits .i64 (i_1 + (1 : Int)) ∧
I1 a1 (out_1l + 1) cap1 (i_1 + (1 : Int)) h3 ∧ m1 a1 (out_1l + 1) cap1 (i_1 + (1 : Int)) h3 < m1 out_1 out_1l out_1c i_1 h1) (
Post (.slice out_1 out_1l out_1c) h1)) :
    Runs Tryd.prog 48 #[(.slice l lL lC)] h0 Post :=
  runs_of (args := [(.slice l lL lC)]) (fun n => ⟨true, false⟩) (fun n => match n with | 0 => [(3, .slice), (4, .int .i64)] | _ => []) (fun _ => none) (fun _ => []) Tryd.func48 rfl (by rw [Tryd.ntmps48]; simp) (Eq.mp (by kernel_rfl) H)

theorem vc_muezzinref1_Sum (b : Option Addr) (bL bC : Nat) (h0 : Heap) (Post : Value → Heap → Prop) (H :
∃ (I1 : Int → Int → Heap → Prop) (m1 : Int → Int → Heap → Nat), I1 (255 : Int) (0 : Int) h0 ∧ ∀ _ : Env,
∀ (r_1 : Int) (i_1 : Int) (h1 : Heap), I1 r_1 i_1 h1 →
bcase (decide (i_1 < ((bL : Nat) : Int))) (
∃ (I2 : Int → Int → Heap → Prop) (m2 : Int → Int → Heap → Nat), I2 r_1 (0 : Int) h1 ∧ ∀ _ : Env,
∀ (r_2 : Int) (k_1 : Int) (h2 : Heap), I2 r_2 k_1 h2 →
bcase (decide (k_1 < (8 : Int))) (
(0 ≤ (7 : Int) ∧ (7 : Int) ≤ kbits .i64) ∧
(0 ≤ i_1 ∧ i_1 < ((bL : Nat) : Int)) ∧
onAddr b fun b1 o1 =>
∃ n1 : Int, cell h2 b1 (o1 + (i_1).toNat) = some (.int .u8 n1) ∧
(0 ≤ (IntKind.u64.wrap k_1) ∧ (IntKind.u64.wrap k_1) ≤ kbits .i64) ∧
(0 ≤ (1 : Int) ∧ (1 : Int) ≤ kbits .i64) ∧
bcase (decide ((bits .xor .i64 (bits .and .i64 (r_2 / (128 : Int)) (1 : Int)) (bits .and .i64 ((IntKind.i64.wrap n1) / (pow2 (IntKind.u64.wrap k_1))) (1 : Int))) = (1 : Int))) (
I2 (bits .xor .i64 (bits .and .i64 (IntKind.i64.wrap (r_2 * (2 : Int))) (255 : Int)) (7 : Int)) (IntKind.i64.wrap (k_1 + (1 : Int))) h2 ∧ m2 (bits .xor .i64 (bits .and .i64 (IntKind.i64.wrap (r_2 * (2 : Int))) (255 : Int)) (7 : Int)) (IntKind.i64.wrap (k_1 + (1 : Int))) h2 < m2 r_2 k_1 h2) (
I2 (bits .and .i64 (IntKind.i64.wrap (r_2 * (2 : Int))) (255 : Int)) (IntKind.i64.wrap (k_1 + (1 : Int))) h2 ∧ m2 (bits .and .i64 (IntKind.i64.wrap (r_2 * (2 : Int))) (255 : Int)) (IntKind.i64.wrap (k_1 + (1 : Int))) h2 < m2 r_2 k_1 h2)) (
I1 r_2 (IntKind.i64.wrap (i_1 + (1 : Int))) h2 ∧ m1 r_2 (IntKind.i64.wrap (i_1 + (1 : Int))) h2 < m1 r_1 i_1 h1)) (
∃ (I3 : Int → Int → Heap → Prop) (m3 : Int → Int → Heap → Nat), I3 (0 : Int) (0 : Int) h1 ∧ ∀ _ : Env,
∀ (out_1 : Int) (k_2 : Int) (h3 : Heap), I3 out_1 k_2 h3 →
bcase (decide (k_2 < (8 : Int))) (
(0 ≤ (IntKind.u64.wrap k_2) ∧ (IntKind.u64.wrap k_2) ≤ kbits .i64) ∧
bcase (decide ((bits .and .i64 (r_1 / (pow2 (IntKind.u64.wrap k_2))) (1 : Int)) = (0 : Int))) (
(0 ≤ (IntKind.u64.wrap k_2) ∧ (IntKind.u64.wrap k_2) ≤ kbits .i64) ∧
I3 (bits .or .i64 out_1 ((128 : Int) / (pow2 (IntKind.u64.wrap k_2)))) (IntKind.i64.wrap (k_2 + (1 : Int))) h3 ∧ m3 (bits .or .i64 out_1 ((128 : Int) / (pow2 (IntKind.u64.wrap k_2)))) (IntKind.i64.wrap (k_2 + (1 : Int))) h3 < m3 out_1 k_2 h3) (
I3 out_1 (IntKind.i64.wrap (k_2 + (1 : Int))) h3 ∧ m3 out_1 (IntKind.i64.wrap (k_2 + (1 : Int))) h3 < m3 out_1 k_2 h3)) (
Post (.int .u8 (IntKind.u8.wrap out_1)) h3))) :
    Runs Tryd.prog 49 #[(.slice b bL bC)] h0 Post :=
  runs_of (args := [(.slice b bL bC)]) (fun n => ⟨false, false⟩) (fun n => match n with | 0 => [(3, .int .i64), (4, .int .i64)] | 2 => [(3, .int .i64), (5, .int .i64)] | 4 => [(7, .int .i64), (8, .int .i64)] | _ => []) (fun _ => none) (fun _ => []) Tryd.func49 rfl (by rw [Tryd.ntmps49]; simp) (Eq.mp (by kernel_rfl) H)
end Go.Proofs.YthlacliefgliiaaDoor
