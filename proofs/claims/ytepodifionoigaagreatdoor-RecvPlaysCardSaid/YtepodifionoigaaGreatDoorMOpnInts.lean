import Derived.Test.YtepodifionoigaaGreatDoorMNum
import Derived.ProofKit
import Derived.OpenShut
import Derived.Deep.Slices
import Derived.Deep.Fields
import Derived.ChangeSame
set_option linter.unusedVariables false
set_option linter.unusedSimpArgs false
namespace Go.Vc
open Go.ChangeShapes Go.WideShapes Go.Deep
section
variable {H : Type} {enc : TypeId × Value → H} {P : Program} {w : World} {base : Nat} {spare : Nat → Bool} {held : Bool}
end
theorem choose_list {X : Type} {R : Nat → X → Prop} : ∀ (n : Nat), (∀ i, i < n → ∃ x, R i x) → ∃ l : List X, l.length = n ∧ ∀ i x, l[i]? = some x → R i x
  | 0, _ => ⟨[], rfl, fun i x h => by simp at h⟩
  | n + 1, h => by
    obtain ⟨l, h1, h2⟩ := choose_list n fun i hi => h i (by omega)
    obtain ⟨x, hx⟩ := h n (by omega)
    refine ⟨l ++ [x], by simp [h1], fun i y hi => ?_⟩
    rcases Nat.lt_or_ge i n with hlt | hge
    · rw [List.getElem?_append_left (by omega)] at hi; exact h2 i y hi
    · have : i = n := by
        have := (List.getElem?_eq_some_iff.1 hi).1; simp at this; omega
      subst this
      rw [List.getElem?_append_right (by omega)] at hi
      simp [h1] at hi
      subst hi; exact hx
end Go.Vc
set_option linter.unusedVariables false
set_option linter.unusedSimpArgs false
namespace Go.Vc
open Go.ChangeShapes Go.WideShapes Go.Deep
inductive Sh1 where
  | int (k : IntKind)
  | bool
  | str
  | slc (e : Sh1)
  | nil
  | con (a b : Sh1)
  | arr (n : Nat) (e : Sh1)
def Sh1.size : Sh1 → Nat
  | .int _ => 1
  | .bool => 1
  | .str => 1
  | .slc _ => 1
  | .nil => 0
  | .con a b => a.size + b.size
  | .arr n e => n * e.size
def Opn : Sh1 → Wd → List Value → Prop
  | .int k, _, cs => ∃ n, cs = [.int k n] ∧ (Lit.int k n).wf = true
  | .bool, _, cs => ∃ b, cs = [.bool b]
  | .str, _, cs => ∃ s : ByteArray, cs = [.string s] ∧ s.size ≤ maxLen
  | .slc e, W, cs => ∃ (a : Option Addr) (len cap : Nat) (vs : List Value), cs = [.slice a len cap] ∧ len ≤ cap ∧ cap ≤ maxLen ∧ vs.length = len * e.size ∧ wsrc W a (len * e.size) vs ∧ ∀ i, i < len → Opn e W ((vs.drop (i * e.size)).take e.size)
  | .nil, _, cs => cs = []
  | .con a b, W, cs => cs.length = a.size + b.size ∧ Opn a W (cs.take a.size) ∧ Opn b W (cs.drop a.size)
  | .arr n e, W, cs => cs.length = n * e.size ∧ ∀ i, i < n → Opn e W ((cs.drop (i * e.size)).take e.size)
def shpF (f : TypeId → Option Sh1) : List Field → Nat → Option Sh1
  | [], _ => some .nil
  | x :: r, o => match f x.type, shpF f r (o + (match f x.type with | some s => s.size | none => 0)) with
    | some s, some t => match Nat.beq x.offset o with | true => some (.con s t) | false => none
    | _, _ => none
def shp (P : Program) : Nat → TypeId → Option Sh1
  | 0, _ => none
  | n + 1, t =>
    let s : Option Sh1 := match P.underlying t with
      | some (.int k) => some (.int k)
      | some .bool => some .bool
      | some .string => some .str
      | some (.slice e) => (shp P n e).map .slc
      | some (.struct fs) => shpF (shp P n) fs.toList 0
      | some (.array m e) => (shp P n e).map (.arr m)
      | _ => none
    match s with
    | some s => match Nat.beq (P.cellsOf t) s.size with | true => some s | false => none
    | none => none
section
variable {H : Type} {enc : TypeId × Value → H} {P : Program} {w : World} {base : Nat} {spare : Nat → Bool} {held : Bool}
theorem maxLen_pos : 0 ≤ maxLen := Nat.zero_le _
theorem trod_opn : ∀ (n : Nat) {t : TypeId} {s : Sh1} {fuel : Nat} {cs : List Value} {x : DataW H × List MemPlace}, shp P n t = some s → DataW.trod enc P w base spare held fuel t cs = some x → P.cellsOf t = s.size ∧ Opn s (Wd.of w.heap) cs
  | 0, _, _, _, _, _, hs, _ => by cases hs
  | n + 1, t, s, fuel, cs, x, hs, h => by
    simp only [shp] at hs
    split at hs
    · rename_i s' hs'
      split at hs
      · rename_i hc
        cases hs
        have hsz : P.cellsOf t = s.size := Nat.eq_of_beq_eq_true hc
        refine ⟨hsz, ?_⟩
        split at hs'
        · rename_i k hu; cases hs'
          obtain ⟨m, e, _, hw⟩ := DataW.trod_int hu h
          exact ⟨m, e, hw⟩
        · rename_i hu; cases hs'
          obtain ⟨b, e, _⟩ := DataW.trod_bool hu h
          exact ⟨b, e⟩
        · rename_i hu; cases hs'
          obtain ⟨b, e, _, hw⟩ := DataW.trod_string hu h
          exact ⟨b, e, hw⟩
        · rename_i e hu
          cases he : shp P n e with
          | none => rw [he] at hs'; cases hs'
          | some es =>
            rw [he] at hs'; cases hs'
            rcases open_slice hu h with ⟨hcs, _⟩ | ⟨a, len, cap, m, n2, D, Pl, hcs, hb, hl, hm, hmm, hx, hi⟩
            · subst hcs
              exact ⟨none, 0, 0, [], rfl, Nat.le_refl _, maxLen_pos, by simp, rfl, fun i hi => absurd hi (by omega)⟩
            · subst hcs
              have hel : ∀ i, i < len → ∃ l : List Value, l.length = es.size ∧ P.cellsOf e = es.size ∧ Opn es (Wd.of w.heap) l ∧ ∀ j, j < l.length → w.cell? ((a.add (i * es.size)).add j) = l[j]? := fun i hilt => by
                have him : i < m := by rw [hmm]; split <;> omega
                obtain ⟨l, hc, hl'⟩ := hi i him
                obtain ⟨h1, h2⟩ := trod_opn n he hl'
                obtain ⟨_, k1, k2⟩ := World.cells?_some hc
                rw [h1] at k1 k2
                exact ⟨l, k1, h1, h2, fun j hj => k2 j (by omega)⟩
              have hsp : 0 < len → 0 < es.size → a.spot = none := fun h0 h1 => by
                obtain ⟨b, o, s⟩ := a
                cases s with
                | none => rfl
                | some s =>
                  exfalso
                  obtain ⟨l0, k1, _, _, k2⟩ := hel 0 h0
                  have hz := k2 0 (by omega)
                  have : l0[0]? = some (l0[0]'(by omega)) := List.getElem?_eq_getElem (by omega)
                  rw [this] at hz
                  unfold World.cell? at hz
                  simp only [Nat.zero_mul, Addr.add, if_true, Option.isSome_some] at hz
                  split at hz <;> cases hz
              obtain ⟨ls, hll, hls⟩ := choose_list len hel
              have h8 : ∀ c ∈ ls, c.length = es.size := fun c hc => by
                obtain ⟨i, hi⟩ := List.mem_iff_getElem?.1 hc
                exact (hls i c hi).1
              have hfl : ls.flatten.length = len * es.size := by
                rw [← hll]
                clear hls hll hel
                induction ls with
                | nil => simp
                | cons c r ih => simp [h8 c (by simp), ih fun x hx => h8 x (by simp [hx]), Nat.add_mul, Nat.add_comm]
              have hat : ∀ i l, ls[i]? = some l → (ls.flatten.drop (i * es.size)).take es.size = l := by
                intro i l hil
                have : ∀ (ls : List (List Value)) (i : Nat), (∀ c ∈ ls, c.length = es.size) → ls[i]? = some l → (ls.flatten.drop (i * es.size)).take es.size = l := by
                  intro ls
                  induction ls with
                  | nil => intro i _ h; simp at h
                  | cons c r ih =>
                    intro i h8 h
                    cases i with
                    | zero =>
                      simp at h; subst h
                      rw [Nat.zero_mul, List.drop_zero, List.flatten_cons, ← h8 c (by simp), List.take_left]
                    | succ i =>
                      have e1 : (i + 1) * es.size = c.length + i * es.size := by rw [h8 c (by simp), Nat.add_mul]; omega
                      rw [e1, List.flatten_cons, ← List.drop_drop, List.drop_left]
                      exact ih i (fun x hx => h8 x (by simp [hx])) (by simpa using h)
                exact this ls i h8 hil
              refine ⟨some a, len, cap, ls.flatten, rfl, hl, hm, hfl, ?_, fun i hilt => ?_⟩
              · by_cases h0 : len = 0 ∨ es.size = 0
                · have hz : len * es.size = 0 := by rcases h0 with h | h <;> rw [h] <;> simp
                  have hnil : ls.flatten = [] := List.eq_nil_of_length_eq_zero (by omega)
                  rw [hz, hnil]
                  obtain ⟨b, o, s⟩ := a
                  cases s with
                  | none => rfl
                  | some s => exact ⟨rfl, rfl⟩
                · obtain ⟨b, o, s⟩ := a
                  have := hsp (by omega) (by omega)
                  dsimp only at this
                  subst this
                  show wrow _ b o _ = some _
                  rw [of_row]
                  refine row_of_cells hfl fun j v hj => ?_
                  have hjl := (List.getElem?_eq_some_iff.1 hj).1
                  have hz0 : 0 < es.size := by omega
                  have hdiv : j / es.size < len := (Nat.div_lt_iff_lt_mul hz0).2 (by omega)
                  obtain ⟨l, hl⟩ : ∃ l, ls[j / es.size]? = some l := ⟨_, List.getElem?_eq_getElem (by omega)⟩
                  obtain ⟨k1, _, _, k2⟩ := hls _ l hl
                  have hmod : j % es.size < es.size := Nat.mod_lt _ hz0
                  have hk := k2 (j % es.size) (by omega)
                  have hj2 : l[j % es.size]? = some v := by
                    rw [← hat _ l hl, List.getElem?_take_of_lt hmod, List.getElem?_drop, Nat.mul_comm, Nat.div_add_mod]
                    exact hj
                  rw [hj2, add_eq, add_eq] at hk
                  rw [← cell?_eq]
                  rw [show o + j = o + j / es.size * es.size + j % es.size by rw [Nat.mul_comm, Nat.add_assoc, Nat.div_add_mod]]
                  exact hk
              · obtain ⟨l, hl⟩ : ∃ l, ls[i]? = some l := ⟨_, List.getElem?_eq_getElem (by omega)⟩
                rw [hat i l hl]
                exact (hls i l hl).2.2.1
        · rename_i fs hu
          obtain ⟨xs, m, _, _, hlen, hxs, hf⟩ := DataW.trod_struct hu h
          have key : ∀ (l : List Field) (o : Nat) (s : Sh1), shpF (shp P n) l o = some s → (∀ f ∈ l, ∃ y, DataW.trod enc P w base spare held m f.type ((cs.drop f.offset).take (P.cellsOf f.type)) = some y) → cs.length = o + s.size → Opn s (Wd.of w.heap) (cs.drop o) := by
            intro l
            induction l with
            | nil => intro o s hs _ hl; cases hs; exact List.drop_of_length_le (by simp [Sh1.size] at hl; omega)
            | cons f r ih =>
              intro o s hs hall hl
              simp only [shpF] at hs
              cases hft : shp P n f.type with
              | none => rw [hft] at hs; cases hs
              | some s1 =>
                rw [hft] at hs
                cases hr : shpF (shp P n) r (o + s1.size) with
                | none => simp only [hr] at hs; cases hs
                | some s2 =>
                  simp only [hr] at hs
                  split at hs
                  · rename_i ho
                    cases hs
                    have ho : f.offset = o := Nat.eq_of_beq_eq_true ho
                    obtain ⟨y, hy⟩ := hall f (by simp)
                    obtain ⟨g1, g2⟩ := trod_opn n hft hy
                    rw [g1, ho] at g2
                    simp only [Sh1.size] at hl
                    refine ⟨by simp; omega, g2, ?_⟩
                    rw [List.drop_drop]
                    exact ih (o + s1.size) s2 hr (fun f hf => hall f (by simp [hf])) (by omega)
                  · cases hs
          have := key fs.toList 0 s hs' (fun f hf' => by
            obtain ⟨i, hi⟩ := List.mem_iff_getElem?.1 hf'
            have hi2 : fs[i]? = some f := by simpa using hi
            have hil := (Array.getElem?_eq_some_iff.1 hi2).1
            exact ⟨_, (hf i f hi2).trans (List.getElem?_eq_getElem (by omega))⟩) (by rw [hlen, hsz]; omega)
          simpa using this
        · rename_i m e hu
          cases he : shp P n e with
          | none => rw [he] at hs'; cases hs'
          | some es =>
            rw [he] at hs'; cases hs'
            obtain ⟨xs, m2, _, _, hlen, hxs, hf⟩ := DataW.trod_array hu h
            refine ⟨by rw [hlen, hsz]; rfl, fun i hi => ?_⟩
            have h1 := hf i hi
            have h2 : xs[i]? = some (xs[i]'(by omega)) := List.getElem?_eq_getElem (by omega)
            rw [h2] at h1
            obtain ⟨g1, g2⟩ := trod_opn n he h1
            rw [g1] at g2; exact g2
        · cases hs'
      · cases hs
    · cases hs
end
end Go.Vc
set_option linter.unusedVariables false
set_option linter.unusedSimpArgs false
namespace Go.Proofs.YtepodifionoigaaGreatDoor
open Go.Vc
theorem choose_l {X : Type} {R : Nat → X → Prop} (n : Nat) (h : ∀ i, i < n → ∃ x, R i x) : ∃ l : List X, l.length = n ∧ ∀ i x, l[i]? = some x → R i x := choose_list n h
theorem sq_of {α : Type} {R : α → List Value → Prop} {n : Nat} : ∀ {l : List α} {vs : List Value}, vs.length = l.length * n → (∀ i x, l[i]? = some x → R x ((vs.drop (i * n)).take n)) → Sq R l vs
  | [], vs, hl, _ => List.eq_nil_of_length_eq_zero (by simpa using hl)
  | x :: l, vs, hl, h => by
    refine ⟨vs.take n, vs.drop n, (List.take_append_drop n vs).symm, by simpa using h 0 x rfl, sq_of (n := n) (by rw [List.length_drop, hl, List.length_cons, Nat.add_mul]; omega) fun i y hi => ?_⟩
    have := h (i + 1) y (by simpa using hi)
    rw [show (i + 1) * n = n + i * n by rw [Nat.add_mul]; omega, ← List.drop_drop] at this
    exact this
theorem opn_ints {k : IntKind} {W : Wd} {v : Value} (o : Opn (.slc (.int k)) W [v]) : ∃ (a : Option Addr) (cap : Nat) (l : List Int), v = .slice a l.length cap ∧ l.length ≤ cap ∧ cap ≤ maxLen ∧ wsrc W a l.length (ints k l) ∧ ∀ x ∈ l, (Lit.int k x).wf = true := by
  obtain ⟨a, len, cap, vs, e, h1, h2, h3, h4, h5⟩ := o
  simp only [Sh1.size, Nat.mul_one] at h3 h4 h5
  obtain ⟨l, hl, hx⟩ := choose_l len fun i hi => h5 i hi
  have hv : vs = ints k l := by
    apply List.ext_getElem?
    intro i
    by_cases hi : i < len
    · obtain ⟨x, hx1⟩ : ∃ x, l[i]? = some x := ⟨_, List.getElem?_eq_getElem (by omega)⟩
      have h6 := (hx i x hx1).1
      have h7 : ((vs.drop i).take 1)[0]? = vs[i]? := by rw [List.getElem?_take_of_lt (by decide), List.getElem?_drop]; rfl
      rw [← h7, h6, ints_get hx1]; rfl
    · rw [List.getElem?_eq_none (by omega), List.getElem?_eq_none (by rw [ints_len]; omega)]
  have e1 : v = .slice a len cap := by simpa using e
  subst hl
  exact ⟨a, cap, l, e1, h1, h2, hv ▸ h4, fun x hm => by
    obtain ⟨i, hi⟩ := List.mem_iff_getElem?.1 hm
    exact (hx i x hi).2⟩
end Go.Proofs.YtepodifionoigaaGreatDoor
