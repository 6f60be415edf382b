/- The model of the turns (chapter 20): stations with weight, time, whether active. No program here. -/
import Derived.Test.YthnmgpmgfhilhaaDoorTurnPlain
set_option linter.unusedVariables false
set_option linter.unusedSimpArgs false
namespace Go.Vc
structure St where
  w : Int
  t : Int
  on : Bool
abbrev Sts := List (Option St)
def sts0 : Sts := List.replicate 16 none
def thereA (a : Int) : Bool := decide (1 ≤ a ∧ a ≤ 16)
def fairW (w : Int) : Bool := decide (1 ≤ w ∧ w ≤ 100)
def kA (a : Int) : Nat := (a - 1).toNat
def getS (S : Sts) (a : Int) : Option St := if thereA a = true then (S[kA a]?).getD none else none
/-- The least time of those that are active. -/
def leastL : Sts → Option Int
  | [] => none
  | none :: r => leastL r
  | some s :: r => if s.on = true then (match leastL r with | none => some s.t | some m => some (min s.t m)) else leastL r
def addS (S : Sts) (a w : Int) : Sts × Option Nat :=
  if thereA a = true ∧ fairW w = true then (match getS S a with | none => (S.set (kA a) (some ⟨w, 0, false⟩), none) | some _ => (S, some 7)) else (S, some 2)
def delS (S : Sts) (a : Int) : Sts × Option Nat := match getS S a with | none => (S, some 6) | some _ => (S.set (kA a) none, none)
def weighS (S : Sts) (a w : Int) : Sts × Option Nat := match getS S a with
  | none => (S, some 6)
  | some s => if fairW w = true then (S.set (kA a) (some ⟨w, s.t, s.on⟩), none) else (S, some 2)
def comesT (S : Sts) (t : Int) : Int := match leastL S with | none => t | some m => max t m
def activeS (S : Sts) (a : Int) (on : Bool) : Sts × Option Nat := match getS S a with
  | none => (S, some 6)
  | some s => (if on = true ∧ s.on = false then S.set (kA a) (some ⟨s.w, comesT S s.t, true⟩) else if on = false ∧ s.on = true then S.set (kA a) (some ⟨s.w, s.t, false⟩) else S, none)
def chargeT (s : St) (air : Int) : Int := min (s.t + 10000 * air / s.w) 1152921504606846976
def chargeS (S : Sts) (a air : Int) : Sts × Option Nat := match getS S a with
  | none => (S, some 6)
  | some s => if 0 ≤ air ∧ air ≤ 1099511627776 then (S.set (kA a) (some ⟨s.w, chargeT s air, s.on⟩), none) else (S, some 2)
structure SOk (S : Sts) : Prop where
  n : S.length = 16
  s : ∀ (k : Nat) (s : St), S[k]? = some (some s) → 1 ≤ s.w ∧ s.w ≤ 100 ∧ 0 ≤ s.t ∧ s.t ≤ 1152921504606846976
/-- Is (time, number) of one ahead of another's? -/
def ltS (S : Sts) (a b : Int) : Prop := ∃ x y, getS S a = some x ∧ getS S b = some y ∧ (x.t < y.t ∨ x.t = y.t ∧ a < b)
def isOn : Option St → Bool
  | some s => s.on
  | none => false
def onCnt (S : Sts) : Nat := (S.filter isOn).length
/-- The order: all that are active, by their times. -/
structure IsOrd (S : Sts) (o : List Int) : Prop where
  n : o.length = onCnt S
  m : ∀ a, a ∈ o ↔ ∃ s, getS S a = some s ∧ s.on = true
  p : o.Pairwise (ltS S)
def strip (o : Option En) : Option St := o.map fun e => ⟨e.w, e.t, e.on⟩
def ofE : Option En → List En
  | some e => if e.on = true then [e] else []
  | none => []
def acts (st : List (Option En)) : List En := (st.map ofE).flatten
section
variable {S : Sts} {a b w k i j : Int} {n : Nat} {s x y : St} {st : List (Option En)} {e e' : En} {o o' : Option En}
theorem there_iff : thereA a = true ↔ 1 ≤ a ∧ a ≤ 16 := by simp [thereA]
theorem fair_iff : fairW w = true ↔ 1 ≤ w ∧ w ≤ 100 := by simp [fairW]
theorem getS_some : getS S a = some s ↔ (1 ≤ a ∧ a ≤ 16) ∧ S[kA a]? = some (some s) := by
  unfold getS
  by_cases h : thereA a = true
  · rw [if_pos h]
    have := there_iff.1 h
    constructor
    · intro q
      refine ⟨this, ?_⟩
      cases hx : S[kA a]? with
      | none => rw [hx] at q; cases q
      | some y => rw [hx] at q; simp at q; rw [q]
    · intro q; rw [q.2]; rfl
  · rw [if_neg h]
    have : ¬ (1 ≤ a ∧ a ≤ 16) := fun q => h (there_iff.2 q)
    simp [this]
theorem getS_at (h : S[n]? = some (some s)) (hn : S.length = 16) : getS S ((n : Int) + 1) = some s := by
  have := (List.getElem?_eq_some_iff.1 h).1
  refine getS_some.2 ⟨by omega, ?_⟩
  rw [show kA ((n : Int) + 1) = n by unfold kA; omega]; exact h
theorem SOk.get (h : SOk S) (hg : getS S a = some s) : 1 ≤ s.w ∧ s.w ≤ 100 ∧ 0 ≤ s.t ∧ s.t ≤ 1152921504606846976 := h.s _ _ (getS_some.1 hg).2
theorem getS_there (hg : getS S a = some s) : 1 ≤ a ∧ a ≤ 16 := (getS_some.1 hg).1
theorem getS_set (hn : S.length = 16) (a0 : 1 ≤ a) (a1 : a ≤ 16) (q : Option St) : getS (S.set (kA a) q) b = if b = a then q else getS S b := by
  by_cases h : b = a
  · subst h
    rw [if_pos rfl]
    unfold getS
    rw [if_pos (there_iff.2 ⟨a0, a1⟩), List.getElem?_set_self (by unfold kA; omega)]
    rfl
  · rw [if_neg h]
    unfold getS
    by_cases hb : thereA b = true
    · have := there_iff.1 hb
      rw [if_pos hb, if_pos hb, List.getElem?_set_ne (by unfold kA; omega)]
    · rw [if_neg hb, if_neg hb]
theorem SOk.set (h : SOk S) (q : 1 ≤ s.w ∧ s.w ≤ 100 ∧ 0 ≤ s.t ∧ s.t ≤ 1152921504606846976) (n : Nat) : SOk (S.set n (some s)) :=
  ⟨by rw [List.length_set]; exact h.n, fun k x hx => by
    by_cases e : n = k
    · subst e
      have hl := (List.getElem?_eq_some_iff.1 hx).1
      rw [List.getElem?_set_self (by simpa using hl)] at hx
      cases hx; exact q
    · rw [List.getElem?_set_ne e] at hx; exact h.s k x hx⟩
theorem SOk.clear (h : SOk S) (n : Nat) : SOk (S.set n none) :=
  ⟨by rw [List.length_set]; exact h.n, fun k x hx => by
    by_cases e : n = k
    · subst e
      have hl := (List.getElem?_eq_some_iff.1 hx).1
      rw [List.getElem?_set_self (by simpa using hl)] at hx
      cases hx
    · rw [List.getElem?_set_ne e] at hx; exact h.s k x hx⟩
theorem sok0 : SOk sts0 := ⟨rfl, fun k x hx => by unfold sts0 at hx; rw [List.getElem?_replicate] at hx; split at hx <;> cases hx⟩
theorem least_spec : ∀ {S : Sts}, (leastL S = none ∧ ∀ (k : Nat) (s : St), S[k]? = some (some s) → s.on = false) ∨ ∃ m, leastL S = some m ∧ (∃ (k : Nat) (s : St), S[k]? = some (some s) ∧ s.on = true ∧ s.t = m) ∧ ∀ (k : Nat) (s : St), S[k]? = some (some s) → s.on = true → m ≤ s.t
  | [] => .inl ⟨rfl, fun k s h => by simp at h⟩
  | none :: r => by
    rcases least_spec (S := r) with ⟨h1, h2⟩ | ⟨m, h1, ⟨k, s, h2, h3, h4⟩, h5⟩
    · refine .inl ⟨h1, fun k s h => ?_⟩
      cases k with
      | zero => simp at h
      | succ k => exact h2 k s (by simpa using h)
    · refine .inr ⟨m, h1, ⟨k + 1, s, by simpa using h2, h3, h4⟩, fun k s h => ?_⟩
      cases k with
      | zero => simp at h
      | succ k => exact h5 k s (by simpa using h)
  | some x :: r => by
    by_cases hx : x.on = true
    · rcases least_spec (S := r) with ⟨h1, h2⟩ | ⟨m, h1, ⟨k, s, h2, h3, h4⟩, h5⟩
      · refine .inr ⟨x.t, by simp only [leastL]; rw [if_pos hx, h1], ⟨0, x, rfl, hx, rfl⟩, fun k s h ho => ?_⟩
        cases k with
        | zero => simp at h; subst h; exact Int.le_refl _
        | succ k => have := h2 k s (by simpa using h); rw [this] at ho; cases ho
      · refine .inr ⟨min x.t m, by simp only [leastL]; rw [if_pos hx, h1], ?_, fun k s h ho => ?_⟩
        · by_cases hm : x.t ≤ m
          · exact ⟨0, x, rfl, hx, by omega⟩
          · exact ⟨k + 1, s, by simpa using h2, h3, by omega⟩
        · cases k with
          | zero => simp at h; subst h; omega
          | succ k => have := h5 k s (by simpa using h) ho; omega
    · rcases least_spec (S := r) with ⟨h1, h2⟩ | ⟨m, h1, ⟨k, s, h2, h3, h4⟩, h5⟩
      · refine .inl ⟨by simp only [leastL]; rw [if_neg hx, h1], fun k s h => ?_⟩
        cases k with
        | zero => simp at h; subst h; simpa using hx
        | succ k => exact h2 k s (by simpa using h)
      · refine .inr ⟨m, by simp only [leastL]; rw [if_neg hx, h1], ⟨k + 1, s, by simpa using h2, h3, h4⟩, fun k s h ho => ?_⟩
        cases k with
        | zero => simp at h; subst h; exact absurd ho hx
        | succ k => exact h5 k s (by simpa using h) ho
theorem flat_rep {α : Type} : ∀ {Es : List (List α)} {i : Nat} {A C : List α}, Es[i]? = some C → ((Es.set i A).flatten ++ C).Perm (Es.flatten ++ A)
  | [], i, A, C, h => by simp at h
  | x :: r, 0, A, C, h => by
    simp only [List.getElem?_cons_zero, Option.some.injEq] at h
    subst h
    simp only [List.set_cons_zero, List.flatten_cons]
    refine (List.perm_append_comm).trans ?_
    rw [List.append_assoc]
    exact (List.perm_append_comm (l₁ := A)).append_left x
  | x :: r, i + 1, A, C, h => by
    simp only [List.set_cons_succ, List.flatten_cons, List.append_assoc]
    exact (flat_rep (by simpa using h)).append_left x
theorem acts_set (h : st[n]? = some o) : (acts (st.set n o') ++ ofE o).Perm (acts st ++ ofE o') := by
  unfold acts
  rw [List.map_set]
  exact flat_rep (by simp [h])
theorem acts_mem : e ∈ acts st ↔ ∃ n : Nat, st[n]? = some (some e) ∧ e.on = true := by
  unfold acts
  rw [List.mem_flatten]
  constructor
  · rintro ⟨l, hl, he⟩
    obtain ⟨o, ho, rfl⟩ := List.mem_map.1 hl
    obtain ⟨n, hn⟩ := List.getElem?_of_mem ho
    cases o with
    | none => cases he
    | some x =>
      unfold ofE at he
      dsimp only at he
      split at he
      · rename_i q
        rw [List.mem_singleton] at he
        subst he; exact ⟨n, hn, q⟩
      · cases he
  · rintro ⟨n, hn, ho⟩
    exact ⟨_, List.mem_map.2 ⟨_, List.mem_of_getElem? hn, rfl⟩, by unfold ofE; dsimp only; rw [if_pos ho]; simp⟩
theorem acts_len : ∀ {st : List (Option En)}, (acts st).length = onCnt (st.map strip)
  | [] => rfl
  | o :: r => by
    have ih := acts_len (st := r)
    have e1 : acts (o :: r) = ofE o ++ acts r := rfl
    rw [e1, List.length_append, ih]
    unfold onCnt
    cases o with
    | none => simp [ofE, strip, isOn]
    | some e =>
      unfold ofE
      dsimp only
      by_cases h : e.on = true
      · rw [if_pos h]; simp [strip, isOn, h, List.filter_cons]; omega
      · rw [if_neg h]; simp [strip, isOn, h, List.filter_cons]
theorem onCnt_set : ∀ {S : Sts} {k : Nat} {o o' : Option St}, S[k]? = some o → onCnt (S.set k o') + (isOn o).toNat = onCnt S + (isOn o').toNat
  | [], k, o, o', h => by simp at h
  | x :: r, 0, o, o', h => by
    simp at h; subst h
    unfold onCnt
    simp only [List.set_cons_zero, List.filter_cons]
    cases isOn x <;> cases isOn o' <;> simp
  | x :: r, k + 1, o, o', h => by
    have := onCnt_set (S := r) (k := k) (o := o) (o' := o') (by simpa using h)
    unfold onCnt at *
    simp only [List.set_cons_succ, List.filter_cons]
    split <;> (try simp only [List.length_cons]) <;> omega
theorem strip_get (h : (st.map strip)[n]? = some (some s)) : ∃ e, st[n]? = some (some e) ∧ s = ⟨e.w, e.t, e.on⟩ := by
  rw [List.getElem?_map] at h
  cases hx : st[n]? with
  | none => rw [hx] at h; cases h
  | some o =>
    rw [hx] at h
    cases o with
    | none => cases h
    | some e => simp [strip] at h; exact ⟨e, rfl, h.symm⟩
theorem strip_of (h : st[n]? = some (some e)) : (st.map strip)[n]? = some (some ⟨e.w, e.t, e.on⟩) := by rw [List.getElem?_map, h]; rfl
theorem IsOrd.nodup {o : List Int} (h : IsOrd S o) : o.Nodup := h.p.imp fun ⟨x, y, h1, h2, h3⟩ e => by
  subst e; rw [h1] at h2; cases h2; omega
theorem IsOrd.head {o : List Int} (h : IsOrd S (a :: o)) : ∃ x, getS S a = some x ∧ x.on = true ∧ ∀ b y, getS S b = some y → y.on = true → x.t < y.t ∨ x.t = y.t ∧ a ≤ b := by
  obtain ⟨x, h1, h2⟩ := (h.m a).1 (by simp)
  refine ⟨x, h1, h2, fun b y h3 h4 => ?_⟩
  have hb := (h.m b).2 ⟨y, h3, h4⟩
  rcases List.mem_cons.1 hb with rfl | hb
  · rw [h1] at h3; cases h3; omega
  · obtain ⟨x', y', h5, h6, h7⟩ := (List.pairwise_cons.1 h.p).1 b hb
    rw [h1] at h5; cases h5
    rw [h3] at h6; cases h6
    omega
theorem IsOrd.uniq : ∀ {o o2 : List Int} {S : Sts}, o.Pairwise (ltS S) → o2.Pairwise (ltS S) → (∀ a, a ∈ o ↔ a ∈ o2) → o = o2
  | [], o2, S, _, _, h => by
    cases o2 with
    | nil => rfl
    | cons b r => exact absurd ((h b).2 (by simp)) (by simp)
  | a :: r, o2, S, h1, h2, h => by
    cases o2 with
    | nil => exact absurd ((h a).1 (by simp)) (by simp)
    | cons b r2 =>
      have irr : ∀ {x y : Int}, ltS S x y → ltS S y x → False := fun ⟨x, y, p1, p2, p3⟩ ⟨z, w, q1, q2, q3⟩ => by
        rw [p1] at q2; cases q2; rw [p2] at q1; cases q1; omega
      have self : ∀ {x : Int}, ¬ ltS S x x := fun h => irr h h
      have e : a = b := by
        rcases List.mem_cons.1 ((h a).1 (by simp)) with e | ha
        · exact e
        · rcases List.mem_cons.1 ((h b).2 (by simp)) with e | hb
          · exact e.symm
          · exact (irr ((List.pairwise_cons.1 h1).1 b hb) ((List.pairwise_cons.1 h2).1 a ha)).elim
      subst e
      congr 1
      refine IsOrd.uniq (List.pairwise_cons.1 h1).2 (List.pairwise_cons.1 h2).2 fun x => ⟨fun hx => ?_, fun hx => ?_⟩
      · rcases List.mem_cons.1 ((h x).1 (List.mem_cons_of_mem _ hx)) with rfl | q
        · exact (self ((List.pairwise_cons.1 h1).1 x hx)).elim
        · exact q
      · rcases List.mem_cons.1 ((h x).2 (List.mem_cons_of_mem _ hx)) with rfl | q
        · exact (self ((List.pairwise_cons.1 h2).1 x hx)).elim
        · exact q
end
end Go.Vc
