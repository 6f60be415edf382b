/- Numbers that come in. -/
import Derived.Test.YthlacliefgliiaaDoorOpn
set_option linter.unusedVariables false
set_option linter.unusedSimpArgs false
namespace Go.Proofs.YthlacliefgliiaaDoor
open Go.Vc
theorem choose_l {X : Type} {R : Nat → X → Prop} (n : Nat) (h : ∀ i, i < n → ∃ x, R i x) : ∃ l : List X, l.length = n ∧ ∀ i x, l[i]? = some x → R i x := choose_list n h
theorem sq_of {α : Type} {R : α → List Value → Prop} {n : Nat} : ∀ {l : List α} {vs : List Value}, vs.length = l.length * n → (∀ i x, l[i]? = some x → R x ((vs.drop (i * n)).take n)) → Sq R l vs
  | [], vs, hl, _ => List.eq_nil_of_length_eq_zero (by simpa using hl)
  | x :: l, vs, hl, h => by
    refine ⟨vs.take n, vs.drop n, (List.take_append_drop n vs).symm, by simpa using h 0 x rfl, sq_of (n := n) (by rw [List.length_drop, hl, List.length_cons, Nat.add_mul]; omega) fun i y hi => ?_⟩
    have := h (i + 1) y (by simpa using hi)
    rw [show (i + 1) * n = n + i * n by rw [Nat.add_mul]; omega, ← List.drop_drop] at this
    exact this
theorem opn_ints {k : IntKind} {W : Wd} {v : Value} (o : Opn (.slc (.int k)) W [v]) : ∃ (a : Option Addr) (cap : Nat) (l : List Int), v = .slice a l.length cap ∧ l.length ≤ cap ∧ cap ≤ maxLen ∧ wsrc W a l.length (ints k l) ∧ ∀ x ∈ l, (Lit.int k x).wf = true := by
  obtain ⟨a, len, cap, vs, e, h1, h2, h3, h4, h5⟩ := o
  simp only [Sh1.size, Nat.mul_one] at h3 h4 h5
  obtain ⟨l, hl, hx⟩ := choose_l len fun i hi => h5 i hi
  have hv : vs = ints k l := by
    apply List.ext_getElem?
    intro i
    by_cases hi : i < len
    · obtain ⟨x, hx1⟩ : ∃ x, l[i]? = some x := ⟨_, List.getElem?_eq_getElem (by omega)⟩
      have h6 := (hx i x hx1).1
      have h7 : ((vs.drop i).take 1)[0]? = vs[i]? := by rw [List.getElem?_take_of_lt (by decide), List.getElem?_drop]; rfl
      rw [← h7, h6, ints_get hx1]; rfl
    · rw [List.getElem?_eq_none (by omega), List.getElem?_eq_none (by rw [ints_len]; omega)]
  have e1 : v = .slice a len cap := by simpa using e
  subst hl
  exact ⟨a, cap, l, e1, h1, h2, hv ▸ h4, fun x hm => by
    obtain ⟨i, hi⟩ := List.mem_iff_getElem?.1 hm
    exact (hx i x hi).2⟩
theorem opn_bools {W : Wd} {v : Value} (o : Opn (.slc .bool) W [v]) : ∃ (a : Option Addr) (cap : Nat) (l : List Bool), v = .slice a l.length cap ∧ wsrc W a l.length (l.map Value.bool) := by
  obtain ⟨a, len, cap, vs, e, h1, h2, h3, h4, h5⟩ := o
  simp only [Sh1.size, Nat.mul_one] at h3 h4 h5
  obtain ⟨l, hl, hx⟩ := choose_l len fun i hi => h5 i hi
  have hv : vs = l.map Value.bool := by
    apply List.ext_getElem?
    intro i
    by_cases hi : i < len
    · obtain ⟨x, hx1⟩ : ∃ x, l[i]? = some x := ⟨_, List.getElem?_eq_getElem (by omega)⟩
      have h6 := hx i x hx1
      have h7 : ((vs.drop i).take 1)[0]? = vs[i]? := by rw [List.getElem?_take_of_lt (by decide), List.getElem?_drop]; rfl
      rw [← h7, h6, List.getElem?_map, hx1]; rfl
    · rw [List.getElem?_eq_none (by omega), List.getElem?_eq_none (by rw [List.length_map]; omega)]
  have e1 : v = .slice a len cap := by simpa using e
  subst hl
  exact ⟨a, cap, l, e1, hv ▸ h4⟩
end Go.Proofs.YthlacliefgliiaaDoor
