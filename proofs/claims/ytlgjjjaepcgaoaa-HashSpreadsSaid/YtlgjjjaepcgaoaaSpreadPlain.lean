/- A histogram of 16 places: how one count more turns it. -/
import Derived.RowKit3
set_option linter.unusedSimpArgs false
set_option linter.unusedVariables false
namespace Go.Proofs.Ytlgjjjaepcgaoaa
def Hist (l : List Int) (k : Nat) : Prop := l.length = 16 ∧ (∀ j, 0 ≤ l.getD j 0 ∧ l.getD j 0 ≤ k) ∧ l.sum = k
theorem sum_set (l : List Int) : ∀ (j : Nat), j < l.length → (l.set j (l.getD j 0 + 1)).sum = l.sum + 1 := by
  induction l with
  | nil => intro j h; simp at h
  | cons a l ih =>
    intro j h
    cases j with
    | zero => simp; omega
    | succ j => simp at h; have := ih j (by omega); simp at this ⊢; omega
theorem zero_getD (n j : Nat) : (List.replicate n (0 : Int)).getD j 0 = 0 := by
  rw [List.getD_eq_getElem?_getD, List.getElem?_replicate]; split <;> rfl
theorem Hist.zero : Hist (List.replicate 16 0) 0 := by
  refine ⟨by simp, fun j => ?_, by decide⟩
  rw [zero_getD]; omega
theorem Hist.inc {l : List Int} {k j : Nat} (h : Hist l k) (hj : j < 16) : Hist (l.set j (l.getD j 0 + 1)) (k + 1) := by
  obtain ⟨h1, h2, h3⟩ := h
  refine ⟨by simp [h1], fun i => ?_, by rw [sum_set l j (by omega), h3]; simp⟩
  by_cases e : i = j
  · subst e
    have : (l.set i (l.getD i 0 + 1)).getD i 0 = l.getD i 0 + 1 := by simp [List.getD, h1, hj]
    have := h2 i
    omega
  · have : (l.set j (l.getD j 0 + 1)).getD i 0 = l.getD i 0 := by simp [List.getD, List.getElem?_set, Ne.symm e]
    have := h2 i
    omega
theorem take_sum (l : List Int) (k : Nat) (h : k < l.length) : (l.take (k + 1)).sum = (l.take k).sum + l.getD k 0 := by
  rw [List.take_succ_eq_append_getElem h, List.sum_append]
  simp [List.getD, List.getElem?_eq_getElem h]
theorem Hist.part {l : List Int} {k : Nat} (h : Hist l k) : ∀ j : Nat, 0 ≤ (l.take j).sum ∧ (l.take j).sum ≤ k * j := by
  obtain ⟨h1, h2, h3⟩ := h
  intro j
  induction j with
  | zero => simp
  | succ j ih =>
    by_cases hj : j < l.length
    · rw [take_sum l j hj]; have := h2 j
      have e : (k : Int) * ((j + 1 : Nat) : Int) = k * j + k := by rw [Int.natCast_add, Int.mul_add]; simp
      omega
    · rw [List.take_of_length_le (by omega)]; rw [List.take_of_length_le (by omega)] at ih
      have e : (k : Int) * ((j + 1 : Nat) : Int) = k * j + k := by rw [Int.natCast_add, Int.mul_add]; simp
      omega
end Go.Proofs.Ytlgjjjaepcgaoaa
