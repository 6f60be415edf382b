/- A heap of stations by time, then number: what swaps, up and down do. No program here. -/
import Derived.Test.YthnmgpmgfhilhaaDoorVc
set_option linter.unusedVariables false
set_option linter.unusedSimpArgs false
namespace Go.Vc
/-- A station's entry: its block, number, weight, time, whether it is active; the block's type. -/
structure En where
  b : Nat
  aid : Int
  w : Int
  t : Int
  on : Bool
  T : TypeId
def en0 : En := ⟨0, 0, 0, 0, false, 0⟩
def En.lt (x y : En) : Prop := x.t < y.t ∨ (x.t = y.t ∧ x.aid < y.aid)
instance (x y : En) : Decidable (x.lt y) := by unfold En.lt; infer_instance
def gt (l : List En) (k : Nat) : En := (l[k]?).getD en0
def swp (l : List En) (i k : Nat) : List En := (l.set i (gt l k)).set k (gt l i)
def par (k : Nat) : Nat := (k - 1) / 2
/-- The first n are a heap. -/
def HOk (n : Nat) (l : List En) : Prop := ∀ k, 0 < k → k < n → ¬ (gt l k).lt (gt l (par k))
/-- A heap but for what is at j, which may go up. -/
structure PU (n : Nat) (l : List En) (j : Nat) : Prop where
  e : ∀ k, 0 < k → k < n → k ≠ j → ¬ (gt l k).lt (gt l (par k))
  g : 0 < j → ∀ k, 0 < k → k < n → par k = j → ¬ (gt l k).lt (gt l (par j))
/-- A heap but for what began at i0 and is at i, which may go down. -/
structure PD (n : Nat) (l : List En) (i0 i : Nat) : Prop where
  e : ∀ k, 0 < k → k < n → par k ≠ i → (k ≠ i0 ∨ i0 < i) → ¬ (gt l k).lt (gt l (par k))
  g : 0 < i → ∀ k, 0 < k → k < n → par k = i → ¬ (gt l k).lt (gt l (par i))
section
variable {l l' : List En} {n i j k : Nat} {x y : En}
theorem gt_of (h : l[k]? = some x) : gt l k = x := by unfold gt; rw [h]; rfl
theorem get_gt (h : k < l.length) : l[k]? = some (gt l k) := by unfold gt; rw [List.getElem?_eq_getElem h]; rfl
theorem swp_len : (swp l i k).length = l.length := by simp [swp]
theorem swp_get (hi : i < l.length) (hk : k < l.length) (j : Nat) : gt (swp l i k) j = if j = k then gt l i else if j = i then gt l k else gt l j := by
  unfold swp
  by_cases h1 : j = k
  · subst h1
    rw [if_pos rfl]
    exact gt_of (List.getElem?_set_self (by simpa using hk))
  · rw [if_neg h1]
    by_cases h2 : j = i
    · subst h2
      rw [if_pos rfl]
      exact gt_of (by rw [List.getElem?_set_ne (Ne.symm h1), List.getElem?_set_self hi])
    · rw [if_neg h2]
      show ((((l.set i (gt l k)).set k (gt l i))[j]?).getD en0) = _
      rw [List.getElem?_set_ne (Ne.symm h1), List.getElem?_set_ne (Ne.symm h2)]
      rfl
theorem swp_at (hi : i < l.length) (hk : k < l.length) (h1 : j ≠ i) (h2 : j ≠ k) : gt (swp l i k) j = gt l j := by rw [swp_get hi hk, if_neg h2, if_neg h1]
theorem swp_l (hi : i < l.length) (hk : k < l.length) : gt (swp l i k) i = gt l k := by
  rw [swp_get hi hk]; split
  · rename_i h; subst h; rfl
  · rw [if_pos rfl]
theorem swp_r (hi : i < l.length) (hk : k < l.length) : gt (swp l i k) k = gt l i := by rw [swp_get hi hk, if_pos rfl]
theorem set_perm {α : Type} {l : List α} {k : Nat} {x y : α} (h : l[k]? = some x) : (x :: l.set k y).Perm (y :: l) := by
  obtain ⟨hk, e⟩ := List.getElem?_eq_some_iff.1 h
  subst e
  induction l generalizing k with
  | nil => simp at hk
  | cons a r ih =>
    cases k with
    | zero => simpa using List.Perm.swap _ _ _
    | succ k =>
      simp only [List.set_cons_succ, List.getElem_cons_succ]
      have hk' : k < r.length := by simpa using hk
      have := ih (k := k) hk' (List.getElem?_eq_getElem hk')
      exact (List.Perm.swap _ _ _).trans ((this.cons a).trans (List.Perm.swap _ _ _))
theorem swp_perm (hi : i < l.length) (hk : k < l.length) : (swp l i k).Perm l := by
  have h1 := set_perm (y := gt l k) (get_gt hi)
  by_cases e : i = k
  · subst e
    unfold swp
    have h2 : (l.set i (gt l i)).set i (gt l i) = l := by
      rw [List.set_set]
      exact List.ext_getElem? fun j => by
        by_cases h : i = j
        · subst h; rw [List.getElem?_set_self hi, get_gt hi]
        · rw [List.getElem?_set_ne h]
    rw [h2]
  · have h2 : (l.set i (gt l k))[k]? = some (gt l k) := by rw [List.getElem?_set_ne e, get_gt hk]
    have h3 := set_perm (y := gt l i) h2
    have h4 : (gt l k :: swp l i k).Perm (gt l k :: l) := h3.trans h1
    exact h4.cons_inv
theorem En.irr {x y : En} (h : x.lt y) : ¬ y.lt x := by simp only [En.lt] at *; omega
theorem HOk.pu (h : HOk n l) (j : Nat) : PU n l j := ⟨fun k a b _ => h k a b, fun hj k a b e => by
  have h1 := h k a b
  rw [e] at h1
  by_cases hn : j < n
  · have h2 := h j hj hn
    simp only [En.lt] at *; omega
  · unfold par at e; omega⟩
theorem PU.done (h : PU n l j) (hj : 0 < j → ¬ (gt l j).lt (gt l (par j))) : HOk n l := fun k a b => by
  by_cases e : k = j
  · subst e; exact hj a
  · exact h.e k a b e
theorem PU.swap (h : PU n l j) (hj : 0 < j) (hjn : j < l.length) (hlt : (gt l j).lt (gt l (par j))) (hn : j < n) : PU n (swp l (par j) j) (par j) := by
  have hp : par j < j := by unfold par; omega
  have hpl : par j < l.length := by omega
  have sl := swp_l hpl hjn
  have sr := swp_r hpl hjn
  refine ⟨fun k a b hk => ?_, fun h0 k a b e => ?_⟩
  · by_cases e1 : k = j
    · subst e1
      rw [sl, sr]
      exact En.irr hlt
    · rw [swp_at hpl hjn hk e1]
      by_cases e2 : par k = j
      · rw [e2, sr]; exact h.g hj k a b e2
      · by_cases e3 : par k = par j
        · rw [e3, sl]
          have := h.e k a b e1
          rw [e3] at this
          simp only [En.lt] at *; omega
        · rw [swp_at hpl hjn e3 e2]; exact h.e k a b e1
  · have hq : par (par j) < par j := by unfold par at *; omega
    rw [swp_at hpl hjn (j := par (par j)) (by omega) (by omega)]
    have hpe := h.e (par j) h0 (by omega) (by omega)
    by_cases e1 : k = j
    · subst e1; rw [sr]; exact hpe
    · have hkp : par k < k := by unfold par; omega
      rw [swp_at hpl hjn (j := k) (by omega) e1]
      have := h.e k a b e1
      rw [e] at this
      simp only [En.lt] at *; omega
theorem HOk.pd (h : HOk n l) (i : Nat) : PD n l i i := ⟨fun k a b _ _ => h k a b, fun h0 k a b e => (h.pu i).g h0 k a b e⟩
/-- The least child. -/
structure Kid (n : Nat) (l : List En) (i j : Nat) : Prop where
  p : par j = i
  z : i < j
  lt : j < n
  m : ∀ k, 0 < k → k < n → par k = i → ¬ (gt l k).lt (gt l j)
theorem kid1 (h1 : 2 * i + 1 < n) (h : ¬ (2 * i + 2 < n ∧ (gt l (2 * i + 2)).lt (gt l (2 * i + 1)))) : Kid n l i (2 * i + 1) :=
  ⟨by unfold par; omega, by omega, h1, fun k a b e => by
    have : k = 2 * i + 1 ∨ k = 2 * i + 2 := by unfold par at e; omega
    rcases this with rfl | rfl
    · simp only [En.lt]; omega
    · exact fun q => h ⟨b, q⟩⟩
theorem kid2 (h1 : 2 * i + 2 < n) (h : (gt l (2 * i + 2)).lt (gt l (2 * i + 1))) : Kid n l i (2 * i + 2) :=
  ⟨by unfold par; omega, by omega, h1, fun k a b e => by
    have : k = 2 * i + 1 ∨ k = 2 * i + 2 := by unfold par at e; omega
    rcases this with rfl | rfl
    · exact En.irr h
    · simp only [En.lt]; omega⟩
theorem PD.leaf {i0 : Nat} (h : PD n l i0 i) (h1 : n ≤ 2 * i + 1) : ∀ k, 0 < k → k < n → par k = i → ¬ (gt l k).lt (gt l i) := fun k a b e => by unfold par at e; omega
theorem PD.rest {i0 : Nat} (h : PD n l i0 i) (c : Kid n l i j) (hl : ¬ (gt l j).lt (gt l i)) : ∀ k, 0 < k → k < n → par k = i → ¬ (gt l k).lt (gt l i) := fun k a b e => by
  have := c.m k a b e
  simp only [En.lt] at *; omega
theorem PD.done {i0 : Nat} (h : PD n l i0 i) (hi : i0 < i) (hr : ∀ k, 0 < k → k < n → par k = i → ¬ (gt l k).lt (gt l i)) : HOk n l := fun k a b => by
  by_cases e : par k = i
  · rw [e]; exact hr k a b e
  · exact h.e k a b e (.inr hi)
theorem PD.stay (h : PD n l i i) (hr : ∀ k, 0 < k → k < n → par k = i → ¬ (gt l k).lt (gt l i)) : PU n l i :=
  ⟨fun k a b hk => by
    by_cases e : par k = i
    · rw [e]; exact hr k a b e
    · exact h.e k a b e (.inl hk), fun h0 k a b e => h.g h0 k a b e⟩
theorem PD.swap {i0 : Nat} (h : PD n l i0 i) (hi : i0 ≤ i) (c : Kid n l i j) (hjn : j < l.length) (hlt : (gt l j).lt (gt l i)) : PD n (swp l i j) i0 j := by
  obtain ⟨cp, cz, cn, cm⟩ := c
  have hil : i < l.length := by omega
  have sl := swp_l hil hjn
  have sr := swp_r hil hjn
  refine ⟨fun k a b hk hk0 => ?_, fun h0 k a b e => ?_⟩
  · by_cases e1 : k = j
    · subst e1
      rw [cp, sl, sr]
      exact En.irr hlt
    · by_cases e2 : k = i
      · subst e2
        have hq : par k < k := by unfold par; omega
        rw [sl, swp_at hil hjn (by omega) (by omega)]
        exact h.g a j (by omega) cn cp
      · rw [swp_at hil hjn e2 e1]
        by_cases e3 : par k = i
        · rw [e3, sl]; exact cm k a b e3
        · rw [swp_at hil hjn e3 hk]
          exact h.e k a b e3 (by omega)
  · have hkj : par k < k := by unfold par; omega
    rw [cp, sl, swp_at hil hjn (j := k) (by omega) (by omega)]
    have := h.e k a b (by omega) (.inl (by omega))
    rw [e] at this
    exact this
theorem HOk.head (h : HOk n l) : ∀ k, k < n → ¬ (gt l k).lt (gt l 0) := by
  intro k
  induction k using Nat.strongRecOn with
  | _ k ih =>
    intro hk
    by_cases h0 : k = 0
    · subst h0; simp only [En.lt]; omega
    · have hp : par k < k := by unfold par; omega
      have h1 := ih (par k) hp (by omega)
      have h2 := h k (by omega) hk
      simp only [En.lt] at *; omega
/-- Time and number stay: a heap stays one. -/
theorem HOk.same {e' : En} (h : HOk n l) (hj : j < l.length) (ht : e'.t = (gt l j).t) (ha : e'.aid = (gt l j).aid) : HOk n (l.set j e') := fun k a b => by
  have e1 : ∀ k, (gt (l.set j e') k).t = (gt l k).t ∧ (gt (l.set j e') k).aid = (gt l k).aid := fun k => by
    by_cases q : k = j
    · subst q; rw [gt_of (List.getElem?_set_self hj)]; exact ⟨ht, ha⟩
    · unfold gt; rw [List.getElem?_set_ne (Ne.symm q)]; exact ⟨rfl, rfl⟩
  have h1 := e1 k
  have h2 := e1 (par k)
  have h3 := h k a b
  simp only [En.lt] at h3 ⊢
  rw [h1.1, h1.2, h2.1, h2.2]; exact h3
/-- A heap, its last one put in the place of another one. -/
theorem HOk.cut (h : HOk (n + 1) l) (hi : i < n) (hn : n < l.length) : PD n (swp l i n) i i := by
  have hil : i < l.length := by omega
  refine ⟨fun k a b e1 e2 => ?_, fun h0 k a b e => ?_⟩
  · have hp : par k < k := by unfold par; omega
    rw [swp_at hil hn (j := k) (by omega) (by omega), swp_at hil hn (j := par k) e1 (by omega)]
    exact h k a (by omega)
  · have hp : par k < k := by unfold par; omega
    have hq : par i < i := by unfold par; omega
    rw [swp_at hil hn (j := k) (by omega) (by omega), swp_at hil hn (j := par i) (by omega) (by omega)]
    exact (h.pu i).g h0 k a (by omega) e
end
end Go.Vc
