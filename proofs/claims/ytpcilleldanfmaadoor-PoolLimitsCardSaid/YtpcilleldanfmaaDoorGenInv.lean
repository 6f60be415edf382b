/- The conditions for calls of functions of the program, in plain form: written by a program (vcgen) off the elaborated code; each is the reckoner's own, by the kernel. -/
import Derived.Test.YtpcilleldanfmaaDoorRows
import Derived.Test.YtpcilleldanfmaaDoorVc
set_option linter.unusedVariables false
set_option maxRecDepth 100000
namespace Go.Proofs.YtpcilleldanfmaaDoor
open Go.Vc
theorem vc_inv_Root (n : Int) (h0 : Heap) (Post : Value → Heap → Prop) (H :
∃ (I1 : Int → Int → Heap → Prop) (m1 : Int → Int → Heap → Nat), I1 (0 : Int) (2147483648 : Int) h0 ∧ ∀ _ : Env,
∀ (out_1 : Int) (bit_1 : Int) (h1 : Heap), I1 out_1 bit_1 h1 →
bcase (decide ((0 : Int) < bit_1)) (
fits .u64 (out_1 + bit_1) ∧
fits .u64 ((out_1 + bit_1) * (out_1 + bit_1)) ∧
bcase (decide (((out_1 + bit_1) * (out_1 + bit_1)) ≤ n)) (
(0 ≤ bit_1 ∧ 0 < (2 : Int) ∧ fits .u64 (bit_1 / (2 : Int))) ∧
I1 (out_1 + bit_1) (bit_1 / (2 : Int)) h1 ∧ m1 (out_1 + bit_1) (bit_1 / (2 : Int)) h1 < m1 out_1 bit_1 h1) (
(0 ≤ bit_1 ∧ 0 < (2 : Int) ∧ fits .u64 (bit_1 / (2 : Int))) ∧
I1 out_1 (bit_1 / (2 : Int)) h1 ∧ m1 out_1 (bit_1 / (2 : Int)) h1 < m1 out_1 bit_1 h1)) (
Post (.int .u64 out_1) h1)) :
    Runs Tryd.prog 98 #[(.int .u64 n)] h0 Post :=
  runs_of (args := [(.int .u64 n)]) (fun n => ⟨true, false⟩) (fun n => match n with | 0 => [(3, .int .u64), (4, .int .u64)] | _ => []) (fun _ => none) (fun _ => []) Tryd.func98 rfl (by rw [Tryd.ntmps98]; simp) (Eq.mp (by kernel_rfl) H)

theorem vc_inv_Inv (count : Int) (h0 : Heap) (Post : Value → Heap → Prop) (H :
bcase (decide (count ≤ (1 : Int))) (
Post (.int .u64 (4294967296 : Int)) h0) (
fits .u64 count ∧
Runs Tryd.prog 97 #[(.int .u64 (1 : Int)), (.int .u64 (0 : Int)), (.int .u64 count)] h0 fun r1 h1 =>
∃ n1 : Int,
∃ n2 : Int,
r1 = (.tuple #[(.int .u64 n1), (.int .u64 n2)]) ∧
Runs Tryd.prog 98 #[(.int .u64 n1)] h1 fun r2 h2 =>
∃ n3 : Int,
r2 = (.int .u64 n3) ∧
Post (.int .u64 n3) h2)) :
    Runs Tryd.prog 96 #[(.int .u32 count)] h0 Post :=
  runs_of (args := [(.int .u32 count)]) (fun n => ⟨true, false⟩) (fun _ => []) (fun _ => none) (fun _ => []) Tryd.func96 rfl (by rw [Tryd.ntmps96]; simp) (Eq.mp (by kernel_rfl) H)

theorem vc_inv_Next (at_ : Int) (interval : Int) (count : Int) (h0 : Heap) (Post : Value → Heap → Prop) (H :
fits .u64 (min (max interval (0 : Int)) (1073741824 : Int)) ∧
Runs Tryd.prog 96 #[(.int .u32 count)] h0 fun r1 h1 =>
∃ n1 : Int,
r1 = (.int .u64 n1) ∧
fits .u64 ((min (max interval (0 : Int)) (1073741824 : Int)) * n1) ∧
(0 ≤ (32 : Int) ∧ (32 : Int) ≤ kbits .u64) ∧
fits .i64 (((min (max interval (0 : Int)) (1073741824 : Int)) * n1) / (4294967296 : Int)) ∧
fits .i64 ((min (max at_ (0 : Int)) (1125899906842624 : Int)) + (((min (max interval (0 : Int)) (1073741824 : Int)) * n1) / (4294967296 : Int))) ∧
Post (.int .i64 ((min (max at_ (0 : Int)) (1125899906842624 : Int)) + (((min (max interval (0 : Int)) (1073741824 : Int)) * n1) / (4294967296 : Int)))) h1) :
    Runs Tryd.prog 95 #[(.int .i64 at_), (.int .i64 interval), (.int .u32 count)] h0 Post :=
  runs_of (args := [(.int .i64 at_), (.int .i64 interval), (.int .u32 count)]) (fun n => ⟨true, false⟩) (fun _ => []) (fun _ => none) (fun _ => []) Tryd.func95 rfl (by rw [Tryd.ntmps95]; simp) (Eq.mp (by kernel_rfl) H)

theorem vc_muezzinref8_Root (n : Int) (h0 : Heap) (Post : Value → Heap → Prop) (H :
∃ (I1 : Int → Int → Heap → Prop) (m1 : Int → Int → Heap → Nat), I1 (0 : Int) (31 : Int) h0 ∧ ∀ _ : Env,
∀ (x_1 : Int) (k_1 : Int) (h1 : Heap), I1 x_1 k_1 h1 →
bcase (decide ((0 : Int) ≤ k_1)) (
fits .u64 k_1 ∧
(0 ≤ k_1 ∧ k_1 ≤ kbits .u64) ∧
fits .u64 ((1 : Int) * (pow2 k_1)) ∧
fits .u64 (x_1 + ((1 : Int) * (pow2 k_1))) ∧
fits .u64 ((x_1 + ((1 : Int) * (pow2 k_1))) * (x_1 + ((1 : Int) * (pow2 k_1)))) ∧
bcase (decide (((x_1 + ((1 : Int) * (pow2 k_1))) * (x_1 + ((1 : Int) * (pow2 k_1)))) ≤ n)) (
fits .i64 (k_1 - (1 : Int)) ∧
I1 (x_1 + ((1 : Int) * (pow2 k_1))) (k_1 - (1 : Int)) h1 ∧ m1 (x_1 + ((1 : Int) * (pow2 k_1))) (k_1 - (1 : Int)) h1 < m1 x_1 k_1 h1) (
fits .i64 (k_1 - (1 : Int)) ∧
I1 x_1 (k_1 - (1 : Int)) h1 ∧ m1 x_1 (k_1 - (1 : Int)) h1 < m1 x_1 k_1 h1)) (
Post (.int .u64 x_1) h1)) :
    Runs Tryd.prog 94 #[(.int .u64 n)] h0 Post :=
  runs_of (args := [(.int .u64 n)]) (fun n => ⟨true, false⟩) (fun n => match n with | 0 => [(3, .int .u64), (4, .int .i64)] | _ => []) (fun _ => none) (fun _ => []) Tryd.func94 rfl (by rw [Tryd.ntmps94]; simp) (Eq.mp (by kernel_rfl) H)

theorem vc_muezzinref8_Inv (count : Int) (h0 : Heap) (Post : Value → Heap → Prop) (H :
bcase (decide (count ≤ (1 : Int))) (
Post (.int .u64 (4294967296 : Int)) h0) (
fits .u64 count ∧
(0 ≤ (18446744073709551615 : Int) ∧ 0 < count ∧ fits .u64 ((18446744073709551615 : Int) / count)) ∧
(0 ≤ (18446744073709551615 : Int) ∧ 0 < count) ∧
fits .u64 (count - (1 : Int)) ∧
bcase (decide (((18446744073709551615 : Int) % count) = (count - (1 : Int)))) (
fits .u64 (((18446744073709551615 : Int) / count) + (1 : Int)) ∧
Runs Tryd.prog 94 #[(.int .u64 (((18446744073709551615 : Int) / count) + (1 : Int)))] h0 fun r1 h1 =>
∃ n1 : Int,
r1 = (.int .u64 n1) ∧
Post (.int .u64 n1) h1) (
Runs Tryd.prog 94 #[(.int .u64 ((18446744073709551615 : Int) / count))] h0 fun r2 h2 =>
∃ n2 : Int,
r2 = (.int .u64 n2) ∧
Post (.int .u64 n2) h2))) :
    Runs Tryd.prog 90 #[(.int .u32 count)] h0 Post :=
  runs_of (args := [(.int .u32 count)]) (fun n => ⟨true, false⟩) (fun _ => []) (fun _ => none) (fun _ => []) Tryd.func90 rfl (by rw [Tryd.ntmps90]; simp) (Eq.mp (by kernel_rfl) H)

theorem vc_muezzinref8_Next (at_ : Int) (interval : Int) (count : Int) (h0 : Heap) (Post : Value → Heap → Prop) (H :
Runs Tryd.prog 83 #[(.int .i64 interval), (.int .i64 (0 : Int)), (.int .i64 (1073741824 : Int))] h0 fun r1 h1 =>
∃ n1 : Int,
r1 = (.int .i64 n1) ∧
fits .u64 n1 ∧
Runs Tryd.prog 90 #[(.int .u32 count)] h1 fun r2 h2 =>
∃ n2 : Int,
r2 = (.int .u64 n2) ∧
Runs Tryd.prog 89 #[(.int .u64 n1), (.int .u64 n2)] h2 fun r3 h3 =>
∃ n3 : Int,
∃ n4 : Int,
r3 = (.tuple #[(.int .u64 n3), (.int .u64 n4)]) ∧
Runs Tryd.prog 83 #[(.int .i64 at_), (.int .i64 (0 : Int)), (.int .i64 (1125899906842624 : Int))] h3 fun r4 h4 =>
∃ n5 : Int,
r4 = (.int .i64 n5) ∧
(0 ≤ (32 : Int) ∧ (32 : Int) ≤ kbits .u64) ∧
fits .u64 (n3 * (4294967296 : Int)) ∧
(0 ≤ (32 : Int) ∧ (32 : Int) ≤ kbits .u64) ∧
fits .i64 (bits .or .u64 (n3 * (4294967296 : Int)) (n4 / (4294967296 : Int))) ∧
fits .i64 (n5 + (bits .or .u64 (n3 * (4294967296 : Int)) (n4 / (4294967296 : Int)))) ∧
Post (.int .i64 (n5 + (bits .or .u64 (n3 * (4294967296 : Int)) (n4 / (4294967296 : Int))))) h4) :
    Runs Tryd.prog 85 #[(.int .i64 at_), (.int .i64 interval), (.int .u32 count)] h0 Post :=
  runs_of (args := [(.int .i64 at_), (.int .i64 interval), (.int .u32 count)]) (fun n => ⟨true, false⟩) (fun _ => []) (fun _ => none) (fun _ => []) Tryd.func85 rfl (by rw [Tryd.ntmps85]; simp) (Eq.mp (by kernel_rfl) H)

theorem vc_muezzinref8_clamp (n : Int) (low : Int) (high : Int) (h0 : Heap) (Post : Value → Heap → Prop) (H :
Post (.int .i64 (min (max n low) high)) h0) :
    Runs Tryd.prog 83 #[(.int .i64 n), (.int .i64 low), (.int .i64 high)] h0 Post :=
  runs_of (args := [(.int .i64 n), (.int .i64 low), (.int .i64 high)]) (fun n => ⟨true, false⟩) (fun _ => []) (fun _ => none) (fun _ => []) Tryd.func83 rfl (by rw [Tryd.ntmps83]; simp) (Eq.mp (by kernel_rfl) H)

theorem vc_math_bits_Div64 (hi : Int) (lo : Int) (y : Int) (h0 : Heap) (Post : Value → Heap → Prop) (H :
∀ quo_1 : Int, quo_1 = (0 : Int) →
∀ rem_1 : Int, rem_1 = (0 : Int) →
bcase (decide (y = (0 : Int))) (
∃ v1 : Value, cell h0 14 0 = some v1 ∧
False) (
bcase (decide (y ≤ hi)) (
∃ v2 : Value, cell h0 15 0 = some v2 ∧
False) (
bcase (decide (hi = (0 : Int))) (
(0 ≤ lo ∧ 0 < y ∧ fits .u64 (lo / y)) ∧
(0 ≤ lo ∧ 0 < y) ∧
∀ quo_2 : Int, quo_2 = (lo / y) →
∀ rem_2 : Int, rem_2 = (lo % y) →
Post (.tuple #[(.int .u64 quo_2), (.int .u64 rem_2)]) h0) (
Runs Tryd.prog 99 #[(.int .u64 y)] h0 fun r1 h1 =>
∃ n1 : Int,
r1 = (.int .i64 n1) ∧
fits .u64 n1 ∧
∀ s_1 : Int, s_1 = n1 →
(0 ≤ s_1 ∧ s_1 ≤ kbits .u64) ∧
fits .u64 (y * (pow2 s_1)) ∧
∀ y_1 : Int, y_1 = (y * (pow2 s_1)) →
(0 ≤ (32 : Int) ∧ (32 : Int) ≤ kbits .u64) ∧
∀ y1 : Int, y1 = (y_1 / (4294967296 : Int)) →
∀ y2 : Int, y2 = (bits .and .u64 y_1 (4294967295 : Int)) →
(0 ≤ s_1 ∧ s_1 ≤ kbits .u64) ∧
fits .u64 (hi * (pow2 s_1)) ∧
fits .u64 ((64 : Int) - s_1) ∧
(0 ≤ ((64 : Int) - s_1) ∧ ((64 : Int) - s_1) ≤ kbits .u64) ∧
∀ y3 : Int, y3 = (bits .or .u64 (hi * (pow2 s_1)) (lo / (pow2 ((64 : Int) - s_1)))) →
(0 ≤ s_1 ∧ s_1 ≤ kbits .u64) ∧
fits .u64 (lo * (pow2 s_1)) ∧
∀ y4 : Int, y4 = (lo * (pow2 s_1)) →
(0 ≤ (32 : Int) ∧ (32 : Int) ≤ kbits .u64) ∧
∀ y5 : Int, y5 = (y4 / (4294967296 : Int)) →
∀ y6 : Int, y6 = (bits .and .u64 y4 (4294967295 : Int)) →
(0 ≤ y3 ∧ 0 < y1 ∧ fits .u64 (y3 / y1)) ∧
∀ y7 : Int, y7 = (y3 / y1) →
fits .u64 (y7 * y1) ∧
fits .u64 (y3 - (y7 * y1)) ∧
∀ rhat_1 : Int, rhat_1 = (y3 - (y7 * y1)) →
∃ J1 : Int → Heap → Prop, (
∃ (I1 : Int → Int → Heap → Prop) (m1 : Int → Int → Heap → Nat), I1 y7 rhat_1 h1 ∧ ∀ _ : Env,
∀ (x1 : Int) (rhat_2 : Int) (h2 : Heap), I1 x1 rhat_2 h2 →
bcase (decide ((4294967296 : Int) ≤ x1)) (
fits .u64 (x1 - (1 : Int)) ∧
∀ y8 : Int, y8 = (x1 - (1 : Int)) →
fits .u64 (rhat_2 + y1) ∧
∀ rhat_3 : Int, rhat_3 = (rhat_2 + y1) →
bcase (decide ((4294967296 : Int) ≤ rhat_3)) (
J1 y8 h2) (
I1 y8 rhat_3 h2 ∧ m1 y8 rhat_3 h2 < m1 x1 rhat_2 h2)) (
fits .u64 (x1 * y2) ∧
fits .u64 ((4294967296 : Int) * rhat_2) ∧
fits .u64 (((4294967296 : Int) * rhat_2) + y5) ∧
bcase (decide ((((4294967296 : Int) * rhat_2) + y5) < (x1 * y2))) (
fits .u64 (x1 - (1 : Int)) ∧
∀ y9 : Int, y9 = (x1 - (1 : Int)) →
fits .u64 (rhat_2 + y1) ∧
∀ rhat_4 : Int, rhat_4 = (rhat_2 + y1) →
bcase (decide ((4294967296 : Int) ≤ rhat_4)) (
J1 y9 h2) (
I1 y9 rhat_4 h2 ∧ m1 y9 rhat_4 h2 < m1 x1 rhat_2 h2)) (
J1 x1 h2))) ∧ ∀ _ : Env,
∀ (x3 : Int) (h3 : Heap), J1 x3 h3 →
∀ y10 : Int, y10 = (IntKind.u64.wrap ((IntKind.u64.wrap ((IntKind.u64.wrap (y3 * (4294967296 : Int))) + y5)) - (IntKind.u64.wrap (x3 * y_1)))) →
(0 ≤ y10 ∧ 0 < y1 ∧ fits .u64 (y10 / y1)) ∧
∀ y11 : Int, y11 = (y10 / y1) →
fits .u64 (y11 * y1) ∧
fits .u64 (y10 - (y11 * y1)) ∧
∀ rhat_5 : Int, rhat_5 = (y10 - (y11 * y1)) →
∃ J2 : Int → Heap → Prop, (
∃ (I2 : Int → Int → Heap → Prop) (m2 : Int → Int → Heap → Nat), I2 rhat_5 y11 h3 ∧ ∀ _ : Env,
∀ (rhat_6 : Int) (x5 : Int) (h4 : Heap), I2 rhat_6 x5 h4 →
bcase (decide ((4294967296 : Int) ≤ x5)) (
fits .u64 (x5 - (1 : Int)) ∧
∀ y12 : Int, y12 = (x5 - (1 : Int)) →
fits .u64 (rhat_6 + y1) ∧
∀ rhat_7 : Int, rhat_7 = (rhat_6 + y1) →
bcase (decide ((4294967296 : Int) ≤ rhat_7)) (
J2 y12 h4) (
I2 rhat_7 y12 h4 ∧ m2 rhat_7 y12 h4 < m2 rhat_6 x5 h4)) (
fits .u64 (x5 * y2) ∧
fits .u64 ((4294967296 : Int) * rhat_6) ∧
fits .u64 (((4294967296 : Int) * rhat_6) + y6) ∧
bcase (decide ((((4294967296 : Int) * rhat_6) + y6) < (x5 * y2))) (
fits .u64 (x5 - (1 : Int)) ∧
∀ y13 : Int, y13 = (x5 - (1 : Int)) →
fits .u64 (rhat_6 + y1) ∧
∀ rhat_8 : Int, rhat_8 = (rhat_6 + y1) →
bcase (decide ((4294967296 : Int) ≤ rhat_8)) (
J2 y13 h4) (
I2 rhat_8 y13 h4 ∧ m2 rhat_8 y13 h4 < m2 rhat_6 x5 h4)) (
J2 x5 h4))) ∧ ∀ _ : Env,
∀ (x6 : Int) (h5 : Heap), J2 x6 h5 →
(0 ≤ s_1 ∧ s_1 ≤ kbits .u64) ∧
∀ quo_3 : Int, quo_3 = (IntKind.u64.wrap ((IntKind.u64.wrap (x3 * (4294967296 : Int))) + x6)) →
∀ rem_3 : Int, rem_3 = ((IntKind.u64.wrap ((IntKind.u64.wrap ((IntKind.u64.wrap (y10 * (4294967296 : Int))) + y6)) - (IntKind.u64.wrap (x6 * y_1)))) / (pow2 s_1)) →
Post (.tuple #[(.int .u64 quo_3), (.int .u64 rem_3)]) h5)))) :
    Runs Tryd.prog 97 #[(.int .u64 hi), (.int .u64 lo), (.int .u64 y)] h0 Post :=
  runs_of (args := [(.int .u64 hi), (.int .u64 lo), (.int .u64 y)]) (fun n => ⟨!memB n [21, 28], true⟩) (fun n => match n with | 0 => [(15, .int .u64), (16, .int .u64)] | 2 => [(16, .int .u64), (18, .int .u64)] | _ => []) (fun n => match n with | 21 => some [(15, .int .u64)] | 28 => some [(18, .int .u64)] | _ => none) (fun _ => []) Tryd.func97 rfl (by rw [Tryd.ntmps97]; simp) (Eq.mp (by kernel_rfl) H)
end Go.Proofs.YtpcilleldanfmaaDoor
