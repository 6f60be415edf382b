/- The contract of muezzinworld.Number; what a literal of a kind may be. -/
import Derived.Test.YtgkpnfnkaplebaaGreatDoorGenNum
set_option linter.unusedVariables false
namespace Go.Proofs.YtgkpnfnkaplebaaGreatDoor
open Go.Vc

theorem tmod_cases (n m : Int) (hm : 0 < m) : (n.tmod m < 0 ∧ n.tmod m + m = n % m) ∨ (0 ≤ n.tmod m ∧ n.tmod m = n % m) := by
  have h1 := Int.emod_lt_of_pos n hm
  have h2 := Int.emod_nonneg n (show m ≠ 0 by omega)
  by_cases hn : 0 ≤ n
  · rw [Int.tmod_eq_emod_of_nonneg hn]; omega
  · have := Int.tmod_eq_emod (a := n) (b := m)
    split at this <;> omega
theorem number_c (n m : Int) (h : Heap) (hm : 0 < m) (hm2 : m ≤ 4611686018427387904) :
    Runs Tryz.prog 5 #[.int .i64 n, .int .i64 m] h fun v h' => v = .int .i64 (n % m) ∧ h' = h := by
  have h1 := Int.emod_lt_of_pos n hm
  refine vc_muezzinworld_Number _ _ _ _ ⟨by omega, ?_⟩
  have h0 := Int.emod_nonneg n (show m ≠ 0 by omega)
  rcases tmod_cases n m hm with ⟨h2, h3⟩ | ⟨h2, h3⟩
  · refine dcase_pos h2 ⟨by simp only [fits]; omega, by rw [h3], rfl⟩
  · refine dcase_neg (by omega) ⟨by rw [h3], rfl⟩
theorem wf_u32 {a : Int} (h : (Lit.int .u32 a).wf = true) : 0 ≤ a ∧ a < 4294967296 := by
  simp only [Lit.wf, Bool.and_eq_true, decide_eq_true_eq] at h
  exact ⟨h.1, Int.lt_of_le_of_lt h.2 (by decide)⟩
theorem wf_u64 {a : Int} (h : (Lit.int .u64 a).wf = true) : 0 ≤ a ∧ a < 18446744073709551616 := by
  simp only [Lit.wf, Bool.and_eq_true, decide_eq_true_eq] at h
  exact ⟨h.1, Int.lt_of_le_of_lt h.2 (by decide)⟩
theorem wf_i64 {a : Int} (h : (Lit.int .i64 a).wf = true) : -9223372036854775808 ≤ a ∧ a ≤ 9223372036854775807 := by
  simp only [Lit.wf, Bool.and_eq_true, decide_eq_true_eq] at h
  exact ⟨h.1, h.2⟩
end Go.Proofs.YtgkpnfnkaplebaaGreatDoor
