/- Bits of small numbers; numbers that go round; wrapping into a byte. -/
import Derived.Test.YthlacliefgliiaaDoorSl
import Derived.Test.YthlacliefgliiaaDoorNum
import Derived.Test.YthlacliefgliiaaDoorGenFrm
set_option linter.unusedVariables false
set_option linter.unusedSimpArgs false
set_option maxRecDepth 8000
namespace Go.Proofs.YthlacliefgliiaaDoor
open Go.Vc
theorem wrap8 (n : Int) : IntKind.u8.wrap n = n % 256 := by
  unfold IntKind.wrap
  simp [IntKind.bits, IntKind.signed]
theorem bor_i64 {m n : Nat} (hm : m < 9223372036854775808) (hn : n < 9223372036854775808) : bits .or .i64 (m : Int) (n : Int) = ((m ||| n : Nat) : Int) := by
  have e : bits .or .i64 (m : Int) (n : Int) = IntKind.i64.wrap ((BitVec.ofInt 64 (m : Int) ||| BitVec.ofInt 64 (n : Int)).toNat : Int) := rfl
  have e2 : (BitVec.ofInt 64 (m : Int) ||| BitVec.ofInt 64 (n : Int)).toNat = m ||| n := by
    rw [BitVec.toNat_or, BitVec.toNat_ofInt, BitVec.toNat_ofInt]
    rw [show ((m : Int) % (2 ^ 64 : Nat)).toNat = m by omega, show ((n : Int) % (2 ^ 64 : Nat)).toNat = n by omega]
  have h3 : m ||| n < 2 ^ 63 := Nat.or_lt_two_pow (by omega) (by omega)
  rw [e, e2, wrap_fits (show fits .i64 _ by simp only [fits]; omega)]
theorem bor_u64 {m n : Nat} (hm : m < 18446744073709551616) (hn : n < 18446744073709551616) : bits .or .u64 (m : Int) (n : Int) = ((m ||| n : Nat) : Int) := by
  have e : bits .or .u64 (m : Int) (n : Int) = IntKind.u64.wrap ((BitVec.ofInt 64 (m : Int) ||| BitVec.ofInt 64 (n : Int)).toNat : Int) := rfl
  have e2 : (BitVec.ofInt 64 (m : Int) ||| BitVec.ofInt 64 (n : Int)).toNat = m ||| n := by
    rw [BitVec.toNat_or, BitVec.toNat_ofInt, BitVec.toNat_ofInt]
    rw [show ((m : Int) % (2 ^ 64 : Nat)).toNat = m by omega, show ((n : Int) % (2 ^ 64 : Nat)).toNat = n by omega]
  have h3 : m ||| n < 2 ^ 64 := Nat.or_lt_two_pow (by omega) (by omega)
  rw [e, e2, wrap_fits (show fits .u64 _ by simp only [fits]; omega)]
theorem band_u64 {m n : Nat} (hm : m < 18446744073709551616) (hn : n < 18446744073709551616) : bits .and .u64 (m : Int) (n : Int) = ((m &&& n : Nat) : Int) := by
  have e : bits .and .u64 (m : Int) (n : Int) = IntKind.u64.wrap ((BitVec.ofInt 64 (m : Int) &&& BitVec.ofInt 64 (n : Int)).toNat : Int) := rfl
  have e2 : (BitVec.ofInt 64 (m : Int) &&& BitVec.ofInt 64 (n : Int)).toNat = m &&& n := by
    rw [BitVec.toNat_and, BitVec.toNat_ofInt, BitVec.toNat_ofInt]
    rw [show ((m : Int) % (2 ^ 64 : Nat)).toNat = m by omega, show ((n : Int) % (2 ^ 64 : Nat)).toNat = n by omega]
  have h3 : m &&& n ≤ m := Nat.and_le_left
  rw [e, e2, wrap_fits (show fits .u64 _ by simp only [fits]; omega)]
theorem or_add {a b i : Nat} (hb : b < 2 ^ i) : b ||| a * 2 ^ i = b + a * 2 ^ i := by
  have h := Nat.two_pow_add_eq_or_of_lt hb a
  rw [Nat.or_comm, Nat.mul_comm, ← h]; omega
theorem or_lo {x y : Int} (hx : 0 ≤ x ∧ x < 256) (hy : 0 ≤ y ∧ y < 256) : bits .or .i64 x (y * 256) = x + y * 256 := by
  obtain ⟨m, rfl⟩ := Int.eq_ofNat_of_zero_le hx.1
  obtain ⟨n, rfl⟩ := Int.eq_ofNat_of_zero_le hy.1
  have e : ((n : Int) * 256) = ((n * 256 : Nat) : Int) := by omega
  rw [e, bor_i64 (by omega) (by omega), show (256 : Nat) = 2 ^ 8 from rfl, or_add (by omega)]
  omega
/-- Bits of a byte that is small. -/
theorem flags_and (r m : Bool) : bits .andNot .u8 (2 + (if r then 8 else 0) + (if m then 32 else 0)) 40 = 2 ∧ decide ((0 : Int) < bits .and .u8 (2 + (if r then 8 else 0) + (if m then 32 else 0)) 8) = r ∧ decide ((0 : Int) < bits .and .u8 (2 + (if r then 8 else 0) + (if m then 32 else 0)) 32) = m := by
  cases r <;> cases m <;> decide
theorem tid_and (t : Int) (e : Bool) (h0 : 0 ≤ t) (h7 : t ≤ 7) : bits .andNot .u8 (t + (if e then 16 else 0)) 16 = t ∧ decide ((0 : Int) < bits .and .u8 (t + (if e then 16 else 0)) 16) = e := by
  have : t = 0 ∨ t = 1 ∨ t = 2 ∨ t = 3 ∨ t = 4 ∨ t = 5 ∨ t = 6 ∨ t = 7 := by omega
  rcases this with rfl | rfl | rfl | rfl | rfl | rfl | rfl | rfl <;> cases e <;> decide
theorem and7 (t : Int) (h0 : 0 ≤ t) (h7 : t ≤ 7) : bits .and .i64 t 7 = t := by
  have : t = 0 ∨ t = 1 ∨ t = 2 ∨ t = 3 ∨ t = 4 ∨ t = 5 ∨ t = 6 ∨ t = 7 := by omega
  rcases this with rfl | rfl | rfl | rfl | rfl | rfl | rfl | rfl <;> decide
/- Numbers that go round. -/
def addZ (a n : Int) : Int := (a + n) % 4096
def distZ (a b : Int) : Int := (b - a) % 4096
theorem addZ_bd (a n : Int) : 0 ≤ addZ a n ∧ addZ a n < 4096 := by unfold addZ; omega
theorem distZ_bd (a n : Int) : 0 ≤ distZ a n ∧ distZ a n < 4096 := by unfold distZ; omega
theorem mod_c (n : Int) (h : Heap) : Runs Tryd.prog 67 #[.int .i64 n] h fun v h' => v = .int .i64 (n % 4096) ∧ h' = h := by
  refine vc_seq_mod _ _ _ ⟨by decide, by decide, ?_, rfl⟩
  rw [wrap_fits (show fits .i64 _ by simp only [fits]; rcases tmod_cases n 4096 (by omega) with h | h <;> omega)]
  rw [Int.tmod_eq_emod_of_nonneg (by rcases tmod_cases n 4096 (by omega) with h | h <;> omega)]
  rcases tmod_cases n 4096 (by omega) with h | h
  · rw [h.2]; congr 1; omega
  · rw [h.2]; congr 1; omega
theorem add_c (a n : Int) (h : Heap) : Runs Tryd.prog 63 #[.int .i64 a, .int .i64 n] h fun v h' => v = .int .i64 (addZ a n) ∧ h' = h := by
  refine vc_seq_Add _ _ _ _ ((mod_c _ _).ret ⟨_, rfl, (mod_c _ _).ret ⟨_, rfl, by simp only [fits]; omega, (mod_c _ _).ret ⟨_, rfl, ?_, rfl⟩⟩⟩)
  unfold addZ; congr 1; omega
theorem dist_c (a b : Int) (h : Heap) : Runs Tryd.prog 42 #[.int .i64 a, .int .i64 b] h fun v h' => v = .int .i64 (distZ a b) ∧ h' = h := by
  refine vc_seq_Dist _ _ _ _ ((mod_c _ _).ret ⟨_, rfl, (mod_c _ _).ret ⟨_, rfl, by simp only [fits]; omega, (mod_c _ _).ret ⟨_, rfl, ?_, rfl⟩⟩⟩)
  unfold distZ; congr 1; omega
theorem round_c (n : Int) (h : Heap) : Runs Tryd.prog 56 #[.int .i64 n] h fun v h' => v = .int .i64 (n % 4096) ∧ h' = h := by
  refine vc_muezzinref1_round _ _ _ ⟨by decide, ?_⟩
  rcases tmod_cases n 4096 (by decide) with ⟨h1, h2⟩ | ⟨h1, h2⟩
  · exact dcase_pos h1 ⟨by rw [wrap_fits (show fits .i64 _ by simp only [fits]; omega), h2], rfl⟩
  · exact dcase_neg (by omega) ⟨by rw [h2], rfl⟩
theorem radd_c (a n : Int) (h : Heap) : Runs Tryd.prog 27 #[.int .i64 a, .int .i64 n] h fun v h' => v = .int .i64 (addZ a n) ∧ h' = h := by
  refine vc_muezzinref1_Add _ _ _ _ ((round_c _ _).ret ⟨_, rfl, (round_c _ _).ret ⟨_, rfl, (round_c _ _).ret ⟨_, rfl, ?_, rfl⟩⟩⟩)
  rw [wrap_fits (show fits .i64 _ by simp only [fits]; omega)]
  unfold addZ; congr 1; omega
theorem rdist_c (a b : Int) (h : Heap) : Runs Tryd.prog 26 #[.int .i64 a, .int .i64 b] h fun v h' => v = .int .i64 (distZ a b) ∧ h' = h := by
  refine vc_muezzinref1_Dist _ _ _ _ ((round_c _ _).ret ⟨_, rfl, (round_c _ _).ret ⟨_, rfl, (round_c _ _).ret ⟨_, rfl, ?_, rfl⟩⟩⟩)
  rw [wrap_fits (show fits .i64 _ by simp only [fits]; omega)]
  unfold distZ; congr 1; omega
end Go.Proofs.YthlacliefgliiaaDoor
