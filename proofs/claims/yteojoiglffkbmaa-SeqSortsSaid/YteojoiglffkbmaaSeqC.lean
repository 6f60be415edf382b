/- The contracts of the package seq (mod, Add, Dist) and of Sort's closure. -/
import Derived.Test.YteojoiglffkbmaaGenSeqSort
import Derived.Test.YteojoiglffkbmaaSl
set_option linter.unusedVariables false
set_option linter.unusedSimpArgs false
namespace Go.Proofs.Yteojoiglffkbmaa
open Go.Vc Go.RowKit
def addZ (a n : Int) : Int := (a + n) % 4096
def distZ (a b : Int) : Int := (b - a) % 4096
theorem tmod_cases' (n m : Int) (hm : 0 < m) : (n.tmod m < 0 ∧ n.tmod m + m = n % m) ∨ (0 ≤ n.tmod m ∧ n.tmod m = n % m) := by
  have h1 := Int.emod_lt_of_pos n hm
  have h2 := Int.emod_nonneg n (show m ≠ 0 by omega)
  by_cases hn : 0 ≤ n
  · rw [Int.tmod_eq_emod_of_nonneg hn]; omega
  · have := Int.tmod_eq_emod (a := n) (b := m)
    split at this <;> omega
theorem mod_c (n : Int) (h : Heap) : Runs Try.prog 57 #[.int .i64 n] h fun v h' => v = .int .i64 (n % 4096) ∧ h' = h := by
  refine vc_seq_mod _ _ _ ⟨by decide, by decide, ?_, rfl⟩
  rw [wrap_fits (show fits .i64 _ by simp only [fits]; rcases tmod_cases' n 4096 (by omega) with h | h <;> omega)]
  rw [Int.tmod_eq_emod_of_nonneg (by rcases tmod_cases' n 4096 (by omega) with h | h <;> omega)]
  rcases tmod_cases' n 4096 (by omega) with h | h
  · rw [h.2]; congr 1; omega
  · rw [h.2]; congr 1; omega
theorem add_c (a n : Int) (h : Heap) : Runs Try.prog 42 #[.int .i64 a, .int .i64 n] h fun v h' => v = .int .i64 (addZ a n) ∧ h' = h := by
  refine vc_seq_Add _ _ _ _ ((mod_c _ _).ret ⟨_, rfl, (mod_c _ _).ret ⟨_, rfl, by simp only [fits]; omega, (mod_c _ _).ret ⟨_, rfl, ?_, rfl⟩⟩⟩)
  unfold addZ; congr 1; omega
theorem dist_c (a b : Int) (h : Heap) : Runs Try.prog 41 #[.int .i64 a, .int .i64 b] h fun v h' => v = .int .i64 (distZ a b) ∧ h' = h := by
  refine vc_seq_Dist _ _ _ _ ((mod_c _ _).ret ⟨_, rfl, (mod_c _ _).ret ⟨_, rfl, by simp only [fits]; omega, (mod_c _ _).ret ⟨_, rfl, ?_, rfl⟩⟩⟩)
  unfold distZ; congr 1; omega
theorem first1_c (h : Heap) : Runs Try.prog 39 #[] h fun v h' => v = .bool true ∧ h' = h :=
  vc_muezzinlaw1_first _ _ ((add_c _ _ _).ret ⟨_, rfl, dcase_pos (by decide) ((add_c _ _ _).ret ⟨_, rfl, rfl, rfl⟩)⟩)
theorem cmp_c {b : Nat} {s : Int} (x y : Int) (h : Heap) (hc : cell h b 0 = some (.int .i64 s)) : Runs Try.prog 59 #[.int .i64 x, .int .i64 y, .pointer (some ⟨b, 0, none⟩)] h fun v h' => v = .int .i64 (distZ s x - distZ s y) ∧ h' = h := by
  refine vc_seq_Sort_1 _ _ _ _ _ ⟨s, hc, s, hc, (dist_c _ _ _).ret ⟨_, rfl, hc, (dist_c _ _ _).ret ⟨_, rfl, ?_, rfl, rfl⟩⟩⟩
  unfold distZ
  simp only [fits]
  omega
end Go.Proofs.Yteojoiglffkbmaa
