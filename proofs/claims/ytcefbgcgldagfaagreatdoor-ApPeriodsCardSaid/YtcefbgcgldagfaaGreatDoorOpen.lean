/- What a walk is told of arguments that are structs of fields of one cell, and slices of such. -/
import Derived.Test.YtcefbgcgldagfaaGreatDoorMem
import Derived.ProofKit
import Derived.OpenShut
import Derived.Deep.Slices
import Derived.Deep.Fields
import Derived.ChangeSame
set_option linter.unusedVariables false
namespace Go.Vc
open Go.ChangeShapes Go.WideShapes Go.Deep
section
variable {H : Type} {enc : TypeId × Value → H} {P : Program} {w : World} {base : Nat} {spare : Nat → Bool} {held : Bool}
/-- A struct's cells, one by one. -/
theorem fields_of {t : TypeId} {fs : Array Field} {fuel : Nat} {cs : List Value} {x : DataW H × List MemPlace} (hs : P.underlying t = some (.struct fs)) (hone : oneCellFields P fs = true) (hC : P.cellsOf t = fs.size)
    (h : DataW.trod enc P w base spare held fuel t cs = some x) :
    cs.length = fs.size ∧ ∀ (j : Nat) (f : Field), fs[j]? = some f → ∃ (v : Value) (n : Nat) (y : DataW H × List MemPlace), cs[j]? = some v ∧ DataW.trod enc P w base spare held n f.type [v] = some y := by
  obtain ⟨xs, n, _, _, hl, hxs, hf⟩ := DataW.trod_struct hs h
  refine ⟨hl.trans hC, fun j f hj => ?_⟩
  obtain ⟨ho, hk⟩ := hone_of hone j f hj
  have hjl : j < fs.size := (Array.getElem?_eq_some_iff.1 hj).1
  have h1 := hf j f hj
  rw [ho, hk] at h1
  have hjc : j < cs.length := by omega
  have e : (cs.drop j).take 1 = [cs[j]] := by rw [List.drop_eq_getElem_cons hjc]; rfl
  rw [e] at h1
  exact ⟨cs[j], n, _, List.getElem?_eq_getElem hjc, h1.trans (List.getElem?_eq_getElem (by omega))⟩
/-- A struct that comes by value: its cells. -/
theorem struct_of {r : Reach} {b0 : Nat} {t : TypeId} {fs : Array Field} {v : Value} {d : DataW H} {p : List MemPlace} (hs : P.underlying t = some (.struct fs)) (hone : oneCellFields P fs = true) (hC : P.cellsOf t = fs.size)
    (hv : Value.okWide P w r b0 t v) (h : DataW.Trod enc P w base spare held t v d p) :
    ∃ l : List Value, v = .agg l.toArray ∧ l.length = fs.size ∧ ∀ (j : Nat) (f : Field), fs[j]? = some f → ∃ (u : Value) (n : Nat) (y : DataW H × List MemPlace), l[j]? = some u ∧ DataW.trod enc P w base spare held n f.type [u] = some y := by
  obtain ⟨cs, rfl, hsz⟩ := okWide_struct hs hv
  obtain ⟨fuel, hf⟩ := h
  obtain ⟨h1, h2⟩ := fields_of hs hone hC hf
  refine ⟨cs.toList, by simp, by simpa [Value.cells] using h1, fun j f hj => ?_⟩
  obtain ⟨u, n, y, k1, k2⟩ := h2 j f hj
  exact ⟨u, n, y, by simpa [Value.cells] using k1, k2⟩
/-- A slice of structs: each one's cells, where they lie. -/
theorem slice_of {t e : TypeId} {fs : Array Field} {fuel : Nat} {a : Option Addr} {len cap : Nat} {x : DataW H × List MemPlace} (ht : P.underlying t = some (.slice e)) (hs : P.underlying e = some (.struct fs)) (hone : oneCellFields P fs = true)
    (hC : P.cellsOf e = fs.size) (h0 : 0 < fs.size) (h : DataW.trod enc P w base spare held fuel t [.slice a len cap] = some x) :
    len ≤ cap ∧ ∀ i, i < len → ∃ (b o : Nat) (l : List Value), a = some ⟨b, o, none⟩ ∧ row w.heap b (o + i * fs.size) fs.size = some l ∧
      ∀ (j : Nat) (f : Field), fs[j]? = some f → ∃ (u : Value) (n : Nat) (y : DataW H × List MemPlace), l[j]? = some u ∧ DataW.trod enc P w base spare held n f.type [u] = some y := by
  rcases open_slice ht h with ⟨hcs, _⟩ | ⟨a', len', cap', m, n, D, Pl, hcs, hb, hl, hm, hmm, hx, hi⟩
  · simp at hcs
    obtain ⟨rfl, rfl, rfl⟩ := hcs
    exact ⟨Nat.le_refl _, fun i hi => by omega⟩
  · simp at hcs
    obtain ⟨rfl, rfl, rfl⟩ := hcs
    refine ⟨hl, fun i hilt => ?_⟩
    have him : i < m := by rw [hmm]; split <;> omega
    obtain ⟨l, hc, hl'⟩ := hi i him
    obtain ⟨_, k1, k2⟩ := World.cells?_some hc
    obtain ⟨h1, h2⟩ := fields_of hs hone hC hl'
    obtain ⟨b, o, s⟩ := a'
    have hsn : s = none := by
      cases s with
      | none => rfl
      | some s =>
        exfalso
        obtain ⟨l0, hc0, _⟩ := hi 0 (by rw [hmm]; split <;> omega)
        obtain ⟨_, q1, q2⟩ := World.cells?_some hc0
        have hz := q2 0 (by omega)
        have : l0[0]? = some l0[0] := List.getElem?_eq_getElem (by omega)
        rw [this] at hz
        unfold World.cell? at hz
        simp only [Nat.zero_mul, Addr.add, if_true, Option.isSome_some] at hz
        split at hz <;> cases hz
    subst hsn
    refine ⟨b, o, l, rfl, row_of_cells (by omega) fun j v hj => ?_, h2⟩
    have hjl := (List.getElem?_eq_some_iff.1 hj).1
    have := k2 j (by omega)
    rw [hj] at this
    rw [← cell?_eq]
    rw [add_eq, add_eq, hC] at this
    exact this
/-- A slice of elements of one cell: each one's cell. -/
theorem slice_one_of {t e : TypeId} {fuel : Nat} {a : Option Addr} {len cap : Nat} {x : DataW H × List MemPlace} (ht : P.underlying t = some (.slice e)) (hC : P.cellsOf e = 1)
    (h : DataW.trod enc P w base spare held fuel t [.slice a len cap] = some x) :
    len ≤ cap ∧ ∀ i, i < len → ∃ (b o : Nat) (u : Value) (n : Nat) (y : DataW H × List MemPlace), a = some ⟨b, o, none⟩ ∧ cell w.heap b (o + i) = some u ∧ DataW.trod enc P w base spare held n e [u] = some y := by
  rcases open_slice ht h with ⟨hcs, _⟩ | ⟨a', len', cap', m, n, D, Pl, hcs, hb, hl, hm, hmm, hx, hi⟩
  · simp at hcs
    obtain ⟨rfl, rfl, rfl⟩ := hcs
    exact ⟨Nat.le_refl _, fun i hi => by omega⟩
  · simp at hcs
    obtain ⟨rfl, rfl, rfl⟩ := hcs
    refine ⟨hl, fun i hilt => ?_⟩
    have him : i < m := by rw [hmm]; split <;> omega
    obtain ⟨l, hc, hl'⟩ := hi i him
    obtain ⟨_, k1, k2⟩ := World.cells?_some hc
    rw [hC] at k1 k2
    obtain ⟨b, o, s⟩ := a'
    have hsn : s = none := by
      cases s with
      | none => rfl
      | some s =>
        exfalso
        obtain ⟨l0, hc0, _⟩ := hi 0 (by rw [hmm]; split <;> omega)
        obtain ⟨_, q1, q2⟩ := World.cells?_some hc0
        rw [hC] at q1 q2
        have hz := q2 0 (by omega)
        have : l0[0]? = some l0[0] := List.getElem?_eq_getElem (by omega)
        rw [this] at hz
        unfold World.cell? at hz
        simp only [Nat.zero_mul, Addr.add, if_true, Option.isSome_some] at hz
        split at hz <;> cases hz
    subst hsn
    match l, k1 with
    | [u], _ =>
      have := k2 0 (by omega)
      rw [add_eq, add_eq, Nat.mul_one, Nat.add_zero] at this
      exact ⟨b, o, u, n, _, rfl, by rw [← cell?_eq]; exact this, hl'⟩
end
theorem choose_list {X : Type} {R : Nat → X → Prop} : ∀ (n : Nat), (∀ i, i < n → ∃ x, R i x) → ∃ l : List X, l.length = n ∧ ∀ i x, l[i]? = some x → R i x
  | 0, _ => ⟨[], rfl, fun i x h => by simp at h⟩
  | n + 1, h => by
    obtain ⟨l, h1, h2⟩ := choose_list n fun i hi => h i (by omega)
    obtain ⟨x, hx⟩ := h n (by omega)
    refine ⟨l ++ [x], by simp [h1], fun i y hi => ?_⟩
    rcases Nat.lt_or_ge i n with hlt | hge
    · rw [List.getElem?_append_left (by omega)] at hi; exact h2 i y hi
    · have : i = n := by
        have := (List.getElem?_eq_some_iff.1 hi).1; simp at this; omega
      subst this
      rw [List.getElem?_append_right (by omega)] at hi
      simp [h1] at hi
      subst hi; exact hx
end Go.Vc
