/- The contracts of the package inv, of the reference's copy, and of what they call of math/bits. -/
import Derived.Test.YtpcilleldanfmaaDoorGenAll1
import Derived.Test.YtpcilleldanfmaaDoorInvPlain
import Derived.Test.YtpcilleldanfmaaDoorShelf
import Derived.Lib.ItoaNum
set_option linter.unusedVariables false
set_option linter.unusedSimpArgs false
namespace Go.Proofs.YtpcilleldanfmaaDoor
open Go.Vc Go.RowKit

theorem runs_of_calls {P : Program} {f : FuncId} {args : Array Value} {h : Heap} {v : Value} (hc : ∀ w : World, Calls P f args w fun e w' => e = .returned v ∧ w' = w) :
    Runs P f args h fun u h' => u = v ∧ h' = h :=
  fun w hw => (hc w).mono fun e w' ⟨he, hw'⟩ => ⟨v, he, ⟨rfl, by rw [hw', hw]⟩, by rw [hw']; exact Same.refl w⟩

theorem pow_cast (k : Nat) : ((2 ^ k : Nat) : Int) = (2 : Int) ^ k := by simp
theorem isq_int {n out : Int} (hn : 0 ≤ n) (ho : 0 ≤ out) (h1 : out * out ≤ n) (h2 : n < (out + 1) * (out + 1)) : out = (isq n.toNat : Int) := by
  obtain ⟨o, rfl⟩ := Int.eq_ofNat_of_zero_le ho
  obtain ⟨m, rfl⟩ := Int.eq_ofNat_of_zero_le hn
  have : o = isq m := isq_unique (by rw [← Int.natCast_mul] at h1; omega) (by
    have e : ((o : Int) + 1) * ((o : Int) + 1) = (((o + 1) * (o + 1) : Nat) : Int) := by rw [Int.natCast_mul]; rfl
    rw [e] at h2; omega)
  simp [← this]
/-- The loop's word: between out and out + p lies the root; p is a power of two. -/
def Rt (n out p : Int) : Prop := 0 ≤ out ∧ 0 < p ∧ out + p ≤ 4294967296 ∧ out * out ≤ n ∧ n < (out + p) * (out + p)
theorem Rt.bd {n out p : Int} (h : Rt n out (2 * p)) (hp : 0 < p) : 0 ≤ out + p ∧ out + p ≤ 4294967295 ∧ 0 ≤ (out + p) * (out + p) ∧ (out + p) * (out + p) ≤ 18446744065119617025 := by
  obtain ⟨h1, h2, h3, h4, h5⟩ := h
  refine ⟨by omega, by omega, Int.mul_nonneg (by omega) (by omega), ?_⟩
  have : (out + p) * (out + p) ≤ 4294967295 * 4294967295 := Int.mul_le_mul (by omega) (by omega) (by omega) (by omega)
  omega
theorem Rt.up {n out p : Int} (h : Rt n out (2 * p)) (hp : 0 < p) (hx : (out + p) * (out + p) ≤ n) : Rt n (out + p) p := by
  obtain ⟨h1, h2, h3, h4, h5⟩ := h
  exact ⟨by omega, hp, by omega, hx, by rw [show out + p + p = out + 2 * p by omega]; exact h5⟩
theorem Rt.down {n out p : Int} (h : Rt n out (2 * p)) (hp : 0 < p) (hx : ¬ (out + p) * (out + p) ≤ n) : Rt n out p := by
  obtain ⟨h1, h2, h3, h4, h5⟩ := h
  exact ⟨h1, hp, by omega, h4, by omega⟩
theorem Rt.start {n : Int} (h0 : 0 ≤ n) (h1 : n < 18446744073709551616) : Rt n 0 (2 ^ 32) := by
  rw [show (2 : Int) ^ 32 = 4294967296 by decide]
  exact ⟨by decide, by decide, by decide, by omega, by omega⟩
theorem root_c (n : Int) (h : Heap) (h0 : 0 ≤ n) (h1 : n < 18446744073709551616) : Runs Tryd.prog 98 #[.int .u64 n] h fun v h' => v = .int .u64 (isq n.toNat) ∧ h' = h := by
  refine vc_inv_Root _ _ _ ⟨fun out bit h' => h' = h ∧ ∃ k : Nat, k ≤ 32 ∧ bit = 2 ^ k / 2 ∧ Rt n out (2 ^ k), fun _ bit _ => bit.toNat, ⟨rfl, 32, by decide, by decide, Rt.start h0 h1⟩, fun _ => ?_⟩
  rintro out bit _ ⟨rfl, k, hk, rfl, hr⟩
  cases k with
  | zero =>
    refine dcase_neg (by decide) ⟨?_, rfl⟩
    obtain ⟨r1, r2, r3, r4, r5⟩ := hr
    congr 1
    exact isq_int h0 r1 r4 r5
  | succ k =>
    have e : (2 : Int) ^ (k + 1) = 2 * 2 ^ k := by rw [Int.pow_succ]; omega
    have hp : (0 : Int) < 2 ^ k := Int.pow_pos (by decide)
    rw [e] at hr
    have e2 : (2 : Int) ^ (k + 1) / 2 = 2 ^ k := by rw [e]; omega
    rw [e2]
    obtain ⟨b1, b2, b3, b4⟩ := hr.bd hp
    obtain ⟨c1, c2, c3, c4, c5⟩ := id hr
    refine dcase_pos hp ⟨by simp only [fits]; omega, by simp only [fits]; omega, dcase_intro (fun c => ?_) (fun c => ?_)⟩
    · exact ⟨⟨by omega, by decide, by simp only [fits]; omega⟩, ⟨rfl, k, by omega, rfl, hr.up hp c⟩, by dsimp only; omega⟩
    · exact ⟨⟨by omega, by decide, by simp only [fits]; omega⟩, ⟨rfl, k, by omega, rfl, hr.down hp c⟩, by dsimp only; omega⟩
theorem refroot_c (n : Int) (h : Heap) (h0 : 0 ≤ n) (h1 : n < 18446744073709551616) : Runs Tryd.prog 94 #[.int .u64 n] h fun v h' => v = .int .u64 (isq n.toNat) ∧ h' = h := by
  refine vc_muezzinref8_Root _ _ _ ⟨fun out j h' => h' = h ∧ ∃ k : Nat, k ≤ 32 ∧ j + 1 = k ∧ Rt n out (2 ^ k), fun _ j _ => (j + 1).toNat, ⟨rfl, 32, by decide, by decide, Rt.start h0 h1⟩, fun _ => ?_⟩
  rintro out j _ ⟨rfl, k, hk, hj, hr⟩
  cases k with
  | zero =>
    refine dcase_neg (by omega) ⟨?_, rfl⟩
    obtain ⟨r1, r2, r3, r4, r5⟩ := hr
    congr 1
    exact isq_int h0 r1 r4 r5
  | succ k =>
    obtain rfl : j = k := by omega
    have e : (2 : Int) ^ (k + 1) = 2 * 2 ^ k := by rw [Int.pow_succ]; omega
    have hp : (0 : Int) < 2 ^ k := Int.pow_pos (by decide)
    rw [e] at hr
    have e2 : (1 : Int) * pow2 (k : Int) = 2 ^ k := by unfold pow2; rw [Int.toNat_natCast]; omega
    rw [e2]
    obtain ⟨b1, b2, b3, b4⟩ := hr.bd hp
    obtain ⟨c1, c2, c3, c4, c5⟩ := id hr
    refine dcase_pos (by omega) ⟨by simp only [fits]; omega, ⟨by omega, by simp only [kbits]; omega⟩, by simp only [fits]; omega, by simp only [fits]; omega, by simp only [fits]; omega, dcase_intro (fun c => ?_) (fun c => ?_)⟩
    · exact ⟨by simp only [fits]; omega, ⟨rfl, k, by omega, by omega, hr.up hp c⟩, by dsimp only; omega⟩
    · exact ⟨by simp only [fits]; omega, ⟨rfl, k, by omega, by omega, hr.down hp c⟩, by dsimp only; omega⟩

theorem and_mask {a : Int} (h0 : 0 ≤ a) (h1 : a < 18446744073709551616) : bits .and .u64 a 4294967295 = a % 4294967296 := by
  obtain ⟨m, rfl⟩ := Int.eq_ofNat_of_zero_le h0
  have e : bits .and .u64 (m : Int) 4294967295 = IntKind.u64.wrap ((BitVec.ofInt 64 (m : Int) &&& BitVec.ofInt 64 4294967295).toNat : Int) := rfl
  have e2 : (BitVec.ofInt 64 (m : Int) &&& BitVec.ofInt 64 4294967295).toNat = m % 4294967296 := by
    rw [BitVec.toNat_and, BitVec.toNat_ofInt, BitVec.toNat_ofInt]
    have : ((m : Int) % (2 ^ 64 : Nat)).toNat = m := by omega
    rw [this]
    exact Nat.and_two_pow_sub_one_eq_mod m 32
  rw [e, e2, wrap_fits (show fits .u64 _ by simp only [fits]; omega)]
  omega
theorem or_zero {a : Int} (h0 : 0 ≤ a) (h1 : a < 18446744073709551616) : bits .or .u64 a 0 = a := by
  obtain ⟨m, rfl⟩ := Int.eq_ofNat_of_zero_le h0
  have e : bits .or .u64 (m : Int) 0 = IntKind.u64.wrap ((BitVec.ofInt 64 (m : Int) ||| BitVec.ofInt 64 0).toNat : Int) := rfl
  have e2 : (BitVec.ofInt 64 (m : Int) ||| BitVec.ofInt 64 0).toNat = m := by
    rw [show BitVec.ofInt 64 0 = 0#64 from rfl, BitVec.or_zero, BitVec.toNat_ofInt]
    omega
  rw [e, e2, wrap_fits (show fits .u64 _ by simp only [fits]; omega)]
theorem zero_or {a : Int} (h0 : 0 ≤ a) (h1 : a < 18446744073709551616) : bits .or .u64 0 a = a := by
  obtain ⟨m, rfl⟩ := Int.eq_ofNat_of_zero_le h0
  have e : bits .or .u64 0 (m : Int) = IntKind.u64.wrap ((BitVec.ofInt 64 0 ||| BitVec.ofInt 64 (m : Int)).toNat : Int) := rfl
  have e2 : (BitVec.ofInt 64 0 ||| BitVec.ofInt 64 (m : Int)).toNat = m := by
    rw [show BitVec.ofInt 64 0 = 0#64 from rfl, BitVec.zero_or, BitVec.toNat_ofInt]
    omega
  rw [e, e2, wrap_fits (show fits .u64 _ by simp only [fits]; omega)]

theorem lz_c (y : Int) (h : Heap) (h0 : 0 ≤ y) (h1 : y ≤ 18446744073709551615) : Runs Tryd.prog 99 #[.int .u64 y] h fun v h' => v = .int .i64 (64 - (Lib.bitLen y.toNat : Int)) ∧ h' = h :=
  runs_of_calls fun w => Tryd.bits_LeadingZeros64 y w h0 h1
theorem mul64_c (x y : Nat) (h : Heap) (hx : x < 18446744073709551616) (hy : y < 18446744073709551616) : Runs Tryd.prog 89 #[.int .u64 x, .int .u64 y] h
    fun v h' => v = .tuple #[.int .u64 ((x * y / 18446744073709551616 : Nat) : Int), .int .u64 ((x * y % 18446744073709551616 : Nat) : Int)] ∧ h' = h :=
  runs_of_calls fun w => Tryd.bits_Mul64 x y hx hy w
/-- The shift that brings y's first one to the front. -/
theorem shift_spec {y : Int} (h0 : 2 ≤ y) (h1 : y < 4294967296) : ∃ s : Nat, 64 - (Lib.bitLen y.toNat : Int) = s ∧ 32 ≤ s ∧ s ≤ 63 ∧ y * (4294967296 * 2 ^ (s - 32)) < 18446744073709551616 := by
  have b1 := Lib.bitLenAux_bounds 64 y.toNat (by omega) (by omega)
  have b2 := Lib.bitLen_le y.toNat 32 (by omega) (by omega)
  change 1 ≤ Lib.bitLen y.toNat ∧ _ ∧ y.toNat < 2 ^ Lib.bitLen y.toNat at b1
  obtain ⟨c1, c2, c3⟩ := b1
  generalize Lib.bitLen y.toNat = L at *
  refine ⟨64 - L, by omega, by omega, by omega, ?_⟩
  have e1 : y.toNat * (4294967296 * 2 ^ (64 - L - 32)) < 2 ^ L * (4294967296 * 2 ^ (64 - L - 32)) := Nat.mul_lt_mul_of_pos_right c3 (Nat.mul_pos (by decide) (Nat.pow_pos (by decide)))
  have e2 : 2 ^ L * (4294967296 * 2 ^ (64 - L - 32)) = 18446744073709551616 := by
    rw [show (4294967296 : Nat) = 2 ^ 32 by decide, ← Nat.pow_add, ← Nat.pow_add, show L + (32 + (64 - L - 32)) = 64 by omega]
  rw [e2] at e1
  have e3 : y = (y.toNat : Int) := by omega
  rw [e3, show (4294967296 : Int) * 2 ^ (64 - L - 32) = ((4294967296 * 2 ^ (64 - L - 32) : Nat) : Int) by simp, ← Int.natCast_mul]
  omega
/-- The quotient of 2^64, by long division with a shifted divisor. -/
theorem div_plain {y M : Int} (h0 : 2 ≤ y) (h1 : y < 4294967296) (hM : 0 < M) (hb : y * (4294967296 * M) < 18446744073709551616) :
    y * (4294967296 * M) / 4294967296 = y * M ∧ y * (4294967296 * M) % 4294967296 = 0 ∧ 4294967296 * M / (y * M) = 4294967296 / y ∧
    4294967296 * M - 4294967296 / y * (y * M) = 4294967296 % y * M ∧
    4294967296 % y * (4294967296 * M) / (y * M) = 4294967296 % y * 4294967296 / y ∧
    4294967296 / y * 4294967296 + 4294967296 % y * 4294967296 / y = 18446744073709551616 / y := by
  have hy : 0 < y := by omega
  have e1 : y * (4294967296 * M) = (y * M) * 4294967296 := by rw [Int.mul_left_comm, Int.mul_comm]
  refine ⟨by rw [e1]; exact Int.mul_ediv_cancel _ (by decide), by rw [e1]; exact Int.mul_emod_left _ _, ?_, ?_, ?_, ?_⟩
  · exact Int.mul_ediv_mul_of_pos_left _ _ hM
  · have := Int.mul_ediv_add_emod 4294967296 y
    have e : 4294967296 * M = (y * (4294967296 / y) + 4294967296 % y) * M := by rw [this]
    rw [Int.add_mul] at e
    have e3 : y * (4294967296 / y) * M = 4294967296 / y * (y * M) := by rw [Int.mul_comm y (4294967296 / y), Int.mul_assoc]
    omega
  · rw [← Int.mul_assoc]; exact Int.mul_ediv_mul_of_pos_left _ _ hM
  · have := Int.mul_ediv_add_emod 4294967296 y
    have e : (18446744073709551616 : Int) = 4294967296 % y * 4294967296 + y * (4294967296 / y * 4294967296) := by
      rw [← Int.mul_assoc, ← Int.add_mul]
      omega
    rw [e, Int.add_mul_ediv_left _ _ (by omega)]
    omega

theorem wrap_u64 (n : Int) : IntKind.u64.wrap n = n % 18446744073709551616 := by
  unfold IntKind.wrap; simp [IntKind.bits, IntKind.signed]
theorem pow2_split {s : Nat} (h : 32 ≤ s) : pow2 (s : Int) = 4294967296 * 2 ^ (s - 32) := by
  unfold pow2
  rw [Int.toNat_natCast, show (4294967296 : Int) = 2 ^ 32 by decide, ← Int.pow_add, show 32 + (s - 32) = s by omega]
/-- bits.Div64(1, 0, y) yields 2^64 / y (and some rest), for y from 2 to below 2^32. -/
theorem div64_c (y : Int) (h : Heap) (h0 : 2 ≤ y) (h1 : y < 4294967296) : Runs Tryd.prog 97 #[.int .u64 1, .int .u64 0, .int .u64 y] h
    fun v h' => (∃ r : Int, v = .tuple #[.int .u64 (18446744073709551616 / y), .int .u64 r]) ∧ h' = h := by
  obtain ⟨s, hs, s1, s2, hb⟩ := shift_spec h0 h1
  obtain ⟨M, hM⟩ : ∃ M : Int, M = 2 ^ (s - 32) := ⟨_, rfl⟩
  have hM0 : 0 < M := by rw [hM]; exact Int.pow_pos (by decide)
  rw [← hM] at hb
  have hp : pow2 (s : Int) = 4294967296 * M := by rw [pow2_split s1, hM]
  obtain ⟨d1, d2, d3, d4, d5, d6⟩ := div_plain h0 h1 hM0 hb
  have hq0 : 0 ≤ 4294967296 / y := Int.ediv_nonneg (by decide) (by omega)
  have hq1 : 4294967296 / y ≤ 2147483648 := Int.ediv_le_of_le_mul (by omega) (by omega)
  have hr0 : 0 ≤ 4294967296 % y := Int.emod_nonneg _ (by omega)
  have hr1 : 4294967296 % y < y := Int.emod_lt_of_pos _ (by omega)
  have hyM : 0 < y * M := Int.mul_pos (by omega) hM0
  have hyM1 : y * M < 4294967296 := by
    have : y * (4294967296 * M) = 4294967296 * (y * M) := by rw [Int.mul_left_comm]
    omega
  have hSM : M ≤ y * M := by
    have : 1 * M ≤ y * M := Int.mul_le_mul_of_nonneg_right (by omega) (by omega)
    omega
  have hrM : 4294967296 % y * M < y * M := Int.mul_lt_mul_of_pos_right hr1 hM0
  have hrM0 : 0 ≤ 4294967296 % y * M := Int.mul_nonneg hr0 (by omega)
  have hrS : 4294967296 % y * (4294967296 * M) = 4294967296 * (4294967296 % y * M) := by rw [Int.mul_left_comm]
  have hq2 : 4294967296 % y * 4294967296 / y < 4294967296 := by
    apply Int.ediv_lt_of_lt_mul (by omega)
    omega
  have hq3 : 0 ≤ 4294967296 % y * 4294967296 / y := Int.ediv_nonneg (by omega) (by omega)
  have hm1 : 0 ≤ 4294967296 / y * (y * M) := Int.mul_nonneg hq0 (by omega)
  refine vc_math_bits_Div64 _ _ _ _ _ ?_
  rintro _ rfl _ rfl
  refine dcase_neg (by omega) (dcase_neg (by omega) (dcase_neg (by decide) ((lz_c _ _ (by omega) (by omega)).ret ⟨_, rfl, ?_⟩)))
  rw [hs]
  refine ⟨by simp only [fits]; omega, ?_⟩
  rintro _ rfl
  rw [hp]
  refine ⟨⟨by omega, by simp only [kbits]; omega⟩, by simp only [fits]; omega, ?_⟩
  rintro _ rfl
  refine ⟨by decide, ?_⟩
  rintro _ rfl _ rfl
  rw [d1, and_mask (by omega) hb, d2]
  refine ⟨⟨by omega, by simp only [kbits]; omega⟩, by simp only [fits]; omega, by simp only [fits]; omega, ⟨by omega, by simp only [kbits]; omega⟩, ?_⟩
  rw [show (0 : Int) / pow2 (64 - (s : Int)) = 0 from Int.zero_ediv _, show (1 : Int) * (4294967296 * M) = 4294967296 * M by omega, or_zero (by omega) (by omega)]
  rintro _ rfl
  refine ⟨⟨by omega, by simp only [kbits]; omega⟩, by simp only [fits]; omega, ?_⟩
  rintro _ rfl
  refine ⟨by decide, ?_⟩
  rintro _ rfl _ rfl
  rw [show (0 : Int) * (4294967296 * M) = 0 by omega, show (0 : Int) / 4294967296 = 0 by decide, show bits .and .u64 0 4294967295 = 0 by decide]
  refine ⟨⟨by omega, by omega, by rw [d3]; simp only [fits]; omega⟩, ?_⟩
  rintro _ rfl
  rw [d3]
  refine ⟨by simp only [fits]; omega, by simp only [fits]; omega, ?_⟩
  rintro _ rfl
  rw [d4]
  refine ⟨fun q h' => q = 4294967296 / y ∧ h' = h, ⟨fun q r h' => q = 4294967296 / y ∧ r = 4294967296 % y * M ∧ h' = h, fun _ _ _ => 0, ⟨rfl, rfl, rfl⟩, fun _ => ?_⟩, fun _ => ?_⟩
  · rintro _ _ _ ⟨rfl, rfl, rfl⟩
    exact dcase_neg (by omega) ⟨by simp only [fits]; omega, by simp only [fits]; omega, by simp only [fits]; omega, dcase_neg (by omega) ⟨rfl, rfl⟩⟩
  · rintro _ h2 ⟨rfl, rfl⟩ _ rfl
    have e : IntKind.u64.wrap (IntKind.u64.wrap (IntKind.u64.wrap (4294967296 * M * 4294967296) + 0) - IntKind.u64.wrap (4294967296 / y * (y * (4294967296 * M)))) = 4294967296 % y * (4294967296 * M) := by
      simp only [wrap_u64]
      have k1 : 4294967296 / y * (y * (4294967296 * M)) = 4294967296 * (4294967296 / y * (y * M)) := by rw [Int.mul_left_comm y, Int.mul_left_comm]
      omega
    rw [e]
    refine ⟨⟨by omega, by omega, by rw [d5]; simp only [fits]; omega⟩, ?_⟩
    rintro _ rfl
    rw [d5]
    have hm : 4294967296 % y * 4294967296 / y * (y * M) ≤ 4294967296 % y * (4294967296 * M) := by
      rw [← d5]; exact Int.ediv_mul_le _ (by omega)
    have hm0 : 0 ≤ 4294967296 % y * 4294967296 / y * (y * M) := Int.mul_nonneg hq3 (by omega)
    have hlt : 4294967296 % y * (4294967296 * M) < 4294967296 % y * 4294967296 / y * (y * M) + y * M := by
      rw [← d5]
      have := Int.lt_ediv_add_one_mul_self (4294967296 % y * (4294967296 * M)) hyM
      rw [Int.add_mul] at this; omega
    refine ⟨by simp only [fits]; omega, by simp only [fits]; omega, ?_⟩
    rintro _ rfl
    refine ⟨fun q h' => q = 4294967296 % y * 4294967296 / y ∧ h' = h2, ⟨fun r q h' => q = 4294967296 % y * 4294967296 / y ∧ 0 ≤ r ∧ r < y * M ∧ h' = h2, fun _ _ _ => 0, ⟨rfl, by omega, by omega, rfl⟩, fun _ => ?_⟩, fun _ => ?_⟩
    · rintro _ _ _ ⟨rfl, k1, k2, rfl⟩
      exact dcase_neg (by omega) ⟨by simp only [fits]; omega, by simp only [fits]; omega, by simp only [fits]; omega, dcase_neg (by omega) ⟨rfl, rfl⟩⟩
    · rintro _ _ ⟨rfl, rfl⟩
      refine ⟨⟨by omega, by simp only [kbits]; omega⟩, ?_⟩
      rintro _ rfl _ rfl
      have k2 : IntKind.u64.wrap (IntKind.u64.wrap (4294967296 / y * 4294967296) + 4294967296 % y * 4294967296 / y) = 18446744073709551616 / y := by
        simp only [wrap_u64]; omega
      rw [k2]
      exact ⟨⟨_, rfl⟩, rfl⟩

theorem invN_int {c : Int} (h0 : 2 ≤ c) (h1 : c < 4294967296) : (isq (18446744073709551616 / c).toNat : Int) = (invN c.toNat : Int) := by
  obtain ⟨n, rfl⟩ := Int.eq_ofNat_of_zero_le (show 0 ≤ c by omega)
  rw [invN_pos (by simp; omega)]
  have : (18446744073709551616 / (n : Int)).toNat = 18446744073709551616 / n := by
    rw [show (18446744073709551616 : Int) = ((18446744073709551616 : Nat) : Int) by rfl, ← Int.natCast_ediv, Int.toNat_natCast]
  rw [this]; simp
theorem inv_c (c : Int) (h : Heap) (h0 : 0 ≤ c) (h1 : c < 4294967296) : Runs Tryd.prog 96 #[.int .u32 c] h fun v h' => v = .int .u64 (invN c.toNat) ∧ h' = h := by
  refine vc_inv_Inv _ _ _ (dcase_intro (fun k => ⟨by rw [invN_small (by omega)]; rfl, rfl⟩) fun k => ⟨by simp only [fits]; omega, (div64_c _ _ (by omega) h1).mono ?_⟩)
  rintro _ _ ⟨⟨r, rfl⟩, rfl⟩
  have q0 : 0 ≤ 18446744073709551616 / c := Int.ediv_nonneg (by decide) (by omega)
  have q1 : 18446744073709551616 / c ≤ 9223372036854775808 := Int.ediv_le_of_le_mul (by omega) (by omega)
  refine ⟨_, _, rfl, (root_c _ _ q0 (by omega)).ret ⟨_, rfl, ?_, rfl⟩⟩
  rw [invN_int (by omega) h1]
theorem refinv_c (c : Int) (h : Heap) (h0 : 0 ≤ c) (h1 : c < 4294967296) : Runs Tryd.prog 90 #[.int .u32 c] h fun v h' => v = .int .u64 (invN c.toNat) ∧ h' = h := by
  refine vc_muezzinref8_Inv _ _ _ (dcase_intro (fun k => ⟨by rw [invN_small (by omega)]; rfl, rfl⟩) fun k => ?_)
  have hc : 0 < c := by omega
  have q0 : 0 ≤ 18446744073709551615 / c := Int.ediv_nonneg (by decide) (by omega)
  have q1 : 18446744073709551615 / c ≤ 9223372036854775808 := Int.ediv_le_of_le_mul (by omega) (by omega)
  have q2 : 0 ≤ 18446744073709551616 / c := Int.ediv_nonneg (by decide) (by omega)
  have q3 : 18446744073709551616 / c ≤ 9223372036854775808 := Int.ediv_le_of_le_mul (by omega) (by omega)
  have r0 := Int.emod_nonneg 18446744073709551615 (show c ≠ 0 by omega)
  have r1 := Int.emod_lt_of_pos 18446744073709551615 hc
  have e := Int.mul_ediv_add_emod 18446744073709551615 c
  refine ⟨by simp only [fits]; omega, ⟨by decide, hc, by simp only [fits]; omega⟩, ⟨by decide, hc⟩, by simp only [fits]; omega, dcase_intro (fun k2 => ?_) (fun k2 => ?_)⟩
  · have e2 : 18446744073709551615 / c + 1 = 18446744073709551616 / c := by
      have : (18446744073709551616 : Int) = 0 + c * (18446744073709551615 / c + 1) := by rw [Int.mul_add]; omega
      rw [this, Int.add_mul_ediv_left _ _ (by omega), Int.zero_ediv]; omega
    rw [e2]
    refine ⟨by simp only [fits]; omega, (refroot_c _ _ q2 (by omega)).ret ⟨_, rfl, ?_, rfl⟩⟩
    rw [invN_int (by omega) h1]
  · have e2 : 18446744073709551615 / c = 18446744073709551616 / c := by
      have : (18446744073709551616 : Int) = (18446744073709551615 % c + 1) + c * (18446744073709551615 / c) := by omega
      rw [this, Int.add_mul_ediv_left _ _ (by omega), Int.ediv_eq_zero_of_lt (a := 18446744073709551615 % c + 1) (b := c) (show 0 ≤ 18446744073709551615 % c + 1 by omega) (show 18446744073709551615 % c + 1 < c by omega)]; omega
    rw [e2]
    refine (refroot_c _ _ q2 (by omega)).ret ⟨_, rfl, ?_, rfl⟩
    rw [invN_int (by omega) h1]
theorem next_c (a i c : Int) (h : Heap) (h0 : 0 ≤ c) (h1 : c < 4294967296) : Runs Tryd.prog 95 #[.int .i64 a, .int .i64 i, .int .u32 c] h fun v h' => v = .int .i64 (nextZ a i c.toNat) ∧ h' = h := by
  obtain ⟨p1, p2⟩ := prod_bd i c.toNat
  obtain ⟨c1, c2⟩ := clampZ_bd i (show (0 : Int) ≤ 1073741824 by decide)
  obtain ⟨c3, c4⟩ := clampZ_bd a (show (0 : Int) ≤ 1125899906842624 by decide)
  refine vc_inv_Next _ _ _ _ _ ?_
  rw [show min (max i 0) 1073741824 = clampZ i 1073741824 from rfl, show min (max a 0) 1125899906842624 = clampZ a 1125899906842624 from rfl]
  exact ⟨by simp only [fits]; omega, (inv_c _ _ h0 h1).ret ⟨_, rfl, by simp only [fits]; omega, ⟨by decide, by decide⟩, by simp only [fits]; omega, by simp only [fits]; omega, rfl, rfl⟩⟩
theorem refnext_c (a i c : Int) (h : Heap) (h0 : 0 ≤ c) (h1 : c < 4294967296) : Runs Tryd.prog 85 #[.int .i64 a, .int .i64 i, .int .u32 c] h fun v h' => v = .int .i64 (nextZ a i c.toNat) ∧ h' = h := by
  obtain ⟨p1, p2⟩ := prod_bd i c.toNat
  obtain ⟨c1, c2⟩ := clampZ_bd i (show (0 : Int) ≤ 1073741824 by decide)
  obtain ⟨c3, c4⟩ := clampZ_bd a (show (0 : Int) ≤ 1125899906842624 by decide)
  have cl : ∀ (n hi : Int) (h : Heap), Runs Tryd.prog 83 #[.int .i64 n, .int .i64 0, .int .i64 hi] h fun v h' => v = .int .i64 (clampZ n hi) ∧ h' = h := fun n hi h => vc_muezzinref8_clamp _ _ _ _ _ ⟨rfl, rfl⟩
  have hm : ∀ h, Runs Tryd.prog 89 #[.int .u64 (clampZ i 1073741824), .int .u64 (invN c.toNat)] h fun v h' => v = .tuple #[.int .u64 0, .int .u64 (clampZ i 1073741824 * (invN c.toNat : Int))] ∧ h' = h := by
    intro h
    obtain ⟨x, hx⟩ := Int.eq_ofNat_of_zero_le c1
    have hle := invN_le c.toNat
    have := mul64_c x (invN c.toNat) h (by omega) (by omega)
    rw [hx] at p1 p2 ⊢
    rw [← Int.natCast_mul] at p1 p2 ⊢
    have e1 : x * invN c.toNat / 18446744073709551616 = 0 := Nat.div_eq_of_lt (by omega)
    have e2 : x * invN c.toNat % 18446744073709551616 = x * invN c.toNat := Nat.mod_eq_of_lt (by omega)
    rw [e1, e2] at this
    exact this
  refine vc_muezzinref8_Next _ _ _ _ _ ((cl _ _ _).ret ⟨_, rfl, by simp only [fits]; omega, (refinv_c _ _ h0 h1).ret ⟨_, rfl, (hm _).ret ⟨_, _, rfl, (cl _ _ _).ret ⟨_, rfl, ⟨by decide, by decide⟩, by simp only [fits]; omega, ⟨by decide, by decide⟩, ?_⟩⟩⟩⟩)
  rw [show (0 : Int) * 4294967296 = 0 by decide, zero_or (by omega) (by omega)]
  exact ⟨by simp only [fits]; omega, by simp only [fits]; omega, rfl, rfl⟩
/-- A piece whose test is known. -/
theorem segT {Q : Bool → Heap → Prop} {h : Heap} {C : (Bool → Heap → Prop) → Prop} (hc : C fun x h' => x = true ∧ h' = h) (hr : Q true h) :
    ∃ J : Bool → Heap → Prop, C J ∧ ∀ _ : Env, ∀ (x : Bool) (h' : Heap), J x h' → Q x h' :=
  ⟨_, hc, fun _ => by rintro _ _ ⟨rfl, rfl⟩; exact hr⟩
end Go.Proofs.YtpcilleldanfmaaDoor
