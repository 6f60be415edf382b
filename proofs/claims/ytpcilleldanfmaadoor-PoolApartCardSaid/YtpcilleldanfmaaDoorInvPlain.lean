/- Roots of whole numbers, and one over a root of 32 bits, as plain mathematics. -/
namespace Go.Proofs.YtpcilleldanfmaaDoor
/-- The greatest number whose square is not above n. -/
def isq : Nat → Nat
  | 0 => 0
  | n + 1 => if (isq n + 1) * (isq n + 1) ≤ n + 1 then isq n + 1 else isq n
theorem sq_lt {a b : Nat} (h : a * a < b * b) : a < b := by
  rcases Nat.lt_or_ge a b with h' | h'
  · exact h'
  · exact absurd (Nat.mul_le_mul h' h') (by omega)
theorem isq_spec : ∀ n, isq n * isq n ≤ n ∧ n < (isq n + 1) * (isq n + 1)
  | 0 => by decide
  | n + 1 => by
    obtain ⟨h1, h2⟩ := isq_spec n
    unfold isq
    split
    · rename_i h
      refine ⟨h, ?_⟩
      have e : (isq n + 1 + 1) * (isq n + 1 + 1) = (isq n + 1) * (isq n + 1) + 2 * (isq n + 1) + 1 := by
        rw [Nat.mul_add, Nat.add_mul]; omega
      omega
    · rename_i h
      exact ⟨by omega, by omega⟩
theorem isq_unique {n r : Nat} (h1 : r * r ≤ n) (h2 : n < (r + 1) * (r + 1)) : r = isq n := by
  obtain ⟨h3, h4⟩ := isq_spec n
  have a := sq_lt (show r * r < (isq n + 1) * (isq n + 1) by omega)
  have b := sq_lt (show isq n * isq n < (r + 1) * (r + 1) by omega)
  omega
theorem isq_mono {m n : Nat} (h : m ≤ n) : isq m ≤ isq n := by
  obtain ⟨h1, h2⟩ := isq_spec m
  obtain ⟨h3, h4⟩ := isq_spec n
  have := sq_lt (show isq m * isq m < (isq n + 1) * (isq n + 1) by omega)
  omega
theorem isq_sq (s : Nat) : isq (s * s) = s := by
  refine (isq_unique (Nat.le_refl _) ?_).symm
  have e : (s + 1) * (s + 1) = s * s + 2 * s + 1 := by rw [Nat.mul_add, Nat.add_mul]; omega
  omega
theorem isq_quarter (n : Nat) : isq (n / 4) = isq n / 2 := by
  obtain ⟨h1, h2⟩ := isq_spec n
  refine (isq_unique ?_ ?_).symm
  · have e1 : 4 * (isq n / 2 * (isq n / 2)) = (2 * (isq n / 2)) * (2 * (isq n / 2)) := by
      rw [Nat.mul_mul_mul_comm]
    have e2 : (2 * (isq n / 2)) * (2 * (isq n / 2)) ≤ isq n * isq n := Nat.mul_le_mul (by omega) (by omega)
    omega
  · have e1 : 4 * ((isq n / 2 + 1) * (isq n / 2 + 1)) = (2 * (isq n / 2 + 1)) * (2 * (isq n / 2 + 1)) := by
      rw [Nat.mul_mul_mul_comm]
    have e2 : (isq n + 1) * (isq n + 1) ≤ (2 * (isq n / 2 + 1)) * (2 * (isq n / 2 + 1)) := Nat.mul_le_mul (by omega) (by omega)
    omega
theorem isq_lt {n b : Nat} (h : n < b * b) : isq n < b := by
  obtain ⟨h1, _⟩ := isq_spec n
  exact sq_lt (by omega)
theorem isq_ge {n b : Nat} (h : b * b ≤ n) : b ≤ isq n := by
  obtain ⟨_, h2⟩ := isq_spec n
  have := sq_lt (show b * b < (isq n + 1) * (isq n + 1) by omega)
  omega

/-- One over the root of a count, of 32 bits. -/
def invN (c : Nat) : Nat := if c ≤ 1 then 4294967296 else isq (18446744073709551616 / c)
theorem invN_small {c : Nat} (h : c ≤ 1) : invN c = 4294967296 := by unfold invN; rw [if_pos h]
theorem invN_one : invN 1 = isq (18446744073709551616 / 1) := by
  have h1 : isq (4294967296 * 4294967296) = 4294967296 := isq_sq _
  have h2 : (18446744073709551616 : Nat) / 1 = 4294967296 * 4294967296 := by omega
  rw [invN_small (Nat.le_refl 1), h2, h1]
theorem invN_pos {c : Nat} (h : 1 ≤ c) : invN c = isq (18446744073709551616 / c) := by
  by_cases e : c = 1
  · subst e; exact invN_one
  · unfold invN; rw [if_neg (by omega)]
theorem invN_anti {a b : Nat} (h : a ≤ b) : invN b ≤ invN a := by
  by_cases ha : a = 0
  · subst ha
    by_cases hb : b ≤ 1
    · rw [invN_small hb, invN_small (Nat.zero_le 1)]; exact Nat.le_refl _
    · rw [show invN 0 = invN 1 by rw [invN_small (Nat.zero_le 1), invN_small (Nat.le_refl 1)], invN_pos (by omega), invN_pos (by omega)]
      exact isq_mono (Nat.div_le_div_left (by omega) (by omega))
  · rw [invN_pos (by omega), invN_pos (by omega)]
    exact isq_mono (Nat.div_le_div_left h (by omega))
theorem invN_le (c : Nat) : invN c ≤ 4294967296 := invN_anti (Nat.zero_le c)
theorem invN_ge {c : Nat} (h : c ≤ 4294967296) : 65536 ≤ invN c := by
  have : invN 4294967296 = 65536 := by
    have := isq_sq 65536
    rw [invN_pos (by omega), show (18446744073709551616 : Nat) / 4294967296 = 65536 * 65536 by omega, this]
  have := invN_anti h
  omega
theorem invN_four {c : Nat} (h : 1 ≤ c) : invN (c * 4) = invN c / 2 := by
  rw [invN_pos (by omega), invN_pos h, ← isq_quarter, Nat.div_div_eq_div_mul]
theorem invN_pow (k : Nat) (hk : k ≤ 16) : invN (2 ^ (2 * k)) = 2 ^ (32 - k) := by
  have h1 : 1 ≤ 2 ^ (2 * k) := Nat.one_le_two_pow
  rw [invN_pos h1]
  have e : (18446744073709551616 : Nat) = 2 ^ (64 - 2 * k) * 2 ^ (2 * k) := by rw [← Nat.pow_add, show 64 - 2 * k + 2 * k = 64 by omega]
  rw [e, Nat.mul_div_cancel _ (by omega), show 64 - 2 * k = (32 - k) + (32 - k) by omega, Nat.pow_add, isq_sq]
/-- When it is time again. -/
def clampZ (n hi : Int) : Int := min (max n 0) hi
def nextZ (a i : Int) (c : Nat) : Int := clampZ a 1125899906842624 + clampZ i 1073741824 * (invN c : Int) / 4294967296
theorem clampZ_bd (n : Int) {hi : Int} (h : 0 ≤ hi) : 0 ≤ clampZ n hi ∧ clampZ n hi ≤ hi := by unfold clampZ; omega
theorem prod_bd (i : Int) (c : Nat) : 0 ≤ clampZ i 1073741824 * (invN c : Int) ∧ clampZ i 1073741824 * (invN c : Int) ≤ 4611686018427387904 := by
  obtain ⟨h1, h2⟩ := clampZ_bd i (show (0 : Int) ≤ 1073741824 by decide)
  have h3 := invN_le c
  have h4 : clampZ i 1073741824 * (invN c : Int) ≤ 1073741824 * 4294967296 := Int.mul_le_mul h2 (by omega) (by omega) (by omega)
  exact ⟨Int.mul_nonneg h1 (by omega), by omega⟩
end Go.Proofs.YtpcilleldanfmaaDoor
