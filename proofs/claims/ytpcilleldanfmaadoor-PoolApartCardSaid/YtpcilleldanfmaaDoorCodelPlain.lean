/- A queue that is looked at (chapter 11), as plain mathematics: both the program's and the document's pull go this way. -/
import Derived.Test.YtpcilleldanfmaaDoorInvPlain
set_option linter.unusedVariables false
namespace Go.Proofs.YtpcilleldanfmaaDoor
structure CSt where
  first : Int
  drop : Int
  count : Int
  last : Int
  dropping : Bool
  bytes : Int
  pos : Nat
deriving DecidableEq
/-- The next one is looked at: the state, whether there is one, whether it is late. -/
def lookZ (now tg iv : Int) (l : List (Int × Int)) (s : CSt) : CSt × Bool × Bool :=
  match l[s.pos]? with
  | none => ({ s with first := 0 }, false, false)
  | some x =>
    if now - x.1 < tg ∨ s.bytes - max x.2 0 ≤ 1514 then ({ s with bytes := s.bytes - max x.2 0, first := 0 }, true, false)
    else if s.first = 0 then ({ s with bytes := s.bytes - max x.2 0, first := now + iv }, true, false)
    else ({ s with bytes := s.bytes - max x.2 0 }, true, decide (s.first ≤ now))
def upC (c : Int) : Int := if c < 4294967295 then c + 1 else c
def moreZ (now tg iv : Int) (l : List (Int × Int)) : Nat → CSt → Bool → CSt × Bool
  | 0, s, is => (s, is)
  | n + 1, s, is =>
    if s.drop ≤ now ∧ s.dropping = true then
      match lookZ now tg iv l { s with pos := s.pos + 1, count := upC s.count } with
      | (t, is, late) =>
        if is = true ∧ late = true then moreZ now tg iv l n { t with drop := nextZ t.drop iv t.count.toNat } is
        else moreZ now tg iv l n { t with dropping := false } is
    else (s, is)
def wrap32 (n : Int) : Int := n % 4294967296
def deltaZ (now iv : Int) (s : CSt) : Int := if 1 < wrap32 (s.count - s.last) ∧ now - s.drop < 16 * iv then wrap32 (s.count - s.last) else 1
def beginsZ (now tg iv : Int) (l : List (Int × Int)) (s : CSt) : CSt × Bool :=
  match lookZ now tg iv l { s with pos := s.pos + 1 } with
  | (t, is, _) => ({ t with dropping := true, count := deltaZ now iv t, last := deltaZ now iv t, drop := nextZ now iv (deltaZ now iv t).toNat }, is)
def runZ (now tg iv : Int) (l : List (Int × Int)) (s : CSt) : CSt × Bool :=
  match lookZ now tg iv l s with
  | (t, is, late) =>
    if is = false then ({ t with dropping := false }, false)
    else if t.dropping = true then
      if late = false then ({ t with dropping := false }, true) else moreZ now tg iv l (l.length + 1) t true
    else if late = true then beginsZ now tg iv l t else (t, true)

/-- What a state may be, behind a look. -/
structure COk (l : List (Int × Int)) (s : CSt) : Prop where
  f0 : 0 ≤ s.first
  f1 : s.first ≤ 2251799813685248
  d0 : 0 ≤ s.drop
  d1 : s.drop ≤ 2251799813685248
  c0 : 0 ≤ s.count
  c1 : s.count < 4294967296
  l0 : 0 ≤ s.last
  l1 : s.last < 4294967296
  b0 : -(1048576 * ((s.pos : Int) + 1)) ≤ s.bytes
  b1 : s.bytes ≤ 1152921504606846976
  p : s.pos ≤ l.length
/-- What the times and the items may be. -/
structure CEn (now tg iv : Int) (l : List (Int × Int)) : Prop where
  n0 : 0 ≤ now
  n1 : now ≤ 1126999418470400
  t0 : 0 ≤ tg
  t1 : tg ≤ 1073741824
  i0 : 0 ≤ iv
  i1 : iv ≤ 1073741824
  len : l.length ≤ 1073741824
  a : ∀ x ∈ l, 0 ≤ x.1 ∧ x.1 ≤ 1126999418470400 ∧ x.2 ≤ 1048576
theorem nextZ_ok (a i : Int) (c : Nat) : 0 ≤ nextZ a i c ∧ nextZ a i c ≤ 2251799813685248 := by
  obtain ⟨h1, h2⟩ := prod_bd i c
  obtain ⟨h3, h4⟩ := clampZ_bd a (show (0 : Int) ≤ 1125899906842624 by decide)
  unfold nextZ
  exact ⟨by omega, by omega⟩
theorem upC_ok {c : Int} (h0 : 0 ≤ c) (h1 : c < 4294967296) : 0 ≤ upC c ∧ upC c < 4294967296 := by unfold upC; split <;> omega
/-- A look keeps all but the first time and the bytes. -/
theorem lookZ_same (now tg iv : Int) (l : List (Int × Int)) (s : CSt) : (lookZ now tg iv l s).1.drop = s.drop ∧ (lookZ now tg iv l s).1.count = s.count ∧ (lookZ now tg iv l s).1.last = s.last ∧
    (lookZ now tg iv l s).1.dropping = s.dropping ∧ (lookZ now tg iv l s).1.pos = s.pos := by
  unfold lookZ
  split
  · simp
  · split
    · simp
    · split <;> simp
theorem lookZ_is (now tg iv : Int) (l : List (Int × Int)) (s : CSt) : (lookZ now tg iv l s).2.1 = decide (s.pos < l.length) := by
  unfold lookZ
  split
  · rename_i h; have := List.getElem?_eq_none_iff.1 h; simp; omega
  · rename_i h; have := (List.getElem?_eq_some_iff.1 h).1; split
    · simp [this]
    · split <;> simp [this]
theorem lookZ_late (now tg iv : Int) (l : List (Int × Int)) (s : CSt) (h : (lookZ now tg iv l s).2.2 = true) : (lookZ now tg iv l s).2.1 = true := by
  rw [lookZ_is]
  unfold lookZ at h
  split at h
  · cases h
  · rename_i hx; simp [(List.getElem?_eq_some_iff.1 hx).1]
theorem lookZ_first {now tg iv : Int} {l : List (Int × Int)} {s : CSt} (hE : CEn now tg iv l) (h0 : 0 ≤ s.first) (h1 : s.first ≤ 2251799813685248) :
    0 ≤ (lookZ now tg iv l s).1.first ∧ (lookZ now tg iv l s).1.first ≤ 2251799813685248 := by
  obtain ⟨n0, n1, t0, t1, i0, i1, len, a⟩ := hE
  unfold lookZ
  split
  · simp
  · split
    · simp
    · split
      · exact ⟨by simp; omega, by simp; omega⟩
      · exact ⟨h0, h1⟩
theorem lookZ_bytes {now tg iv : Int} {l : List (Int × Int)} {s : CSt} (hE : CEn now tg iv l) : s.bytes - 1048576 ≤ (lookZ now tg iv l s).1.bytes ∧ (lookZ now tg iv l s).1.bytes ≤ s.bytes := by
  obtain ⟨n0, n1, t0, t1, i0, i1, len, a⟩ := hE
  unfold lookZ
  split
  · simp; omega
  · rename_i x hx
    have := a x (List.mem_of_getElem? hx)
    split
    · simp; omega
    · split
      · simp; omega
      · simp; omega
end Go.Proofs.YtpcilleldanfmaaDoor
namespace Go.Proofs.YtpcilleldanfmaaDoor
theorem moreZ_facts {now tg iv : Int} {l : List (Int × Int)} : ∀ (n : Nat) (s : CSt) (is : Bool), is = decide (s.pos < l.length) → (s.dropping = true → s.pos < l.length) → s.pos ≤ l.length →
    (moreZ now tg iv l n s is).2 = decide ((moreZ now tg iv l n s is).1.pos < l.length) ∧ s.pos ≤ (moreZ now tg iv l n s is).1.pos ∧ (moreZ now tg iv l n s is).1.pos ≤ l.length
  | 0, s, is, h1, h2, h3 => ⟨h1, Nat.le_refl _, h3⟩
  | n + 1, s, is, h1, h2, h3 => by
    simp only [moreZ]
    by_cases hc : s.drop ≤ now ∧ s.dropping = true
    · rw [if_pos hc]
      have hlt := h2 hc.2
      obtain ⟨e1, e2, e3, e4, e5⟩ := lookZ_same now tg iv l { s with pos := s.pos + 1, count := upC s.count }
      have his := lookZ_is now tg iv l { s with pos := s.pos + 1, count := upC s.count }
      generalize lookZ now tg iv l { s with pos := s.pos + 1, count := upC s.count } = r at *
      obtain ⟨t, i2, l2⟩ := r
      dsimp only at *
      by_cases hb : i2 = true ∧ l2 = true
      · rw [if_pos hb]
        have := moreZ_facts (now := now) (tg := tg) (iv := iv) (l := l) n { t with drop := nextZ t.drop iv t.count.toNat } i2 (by rw [his]; simp [e5]) (fun _ => by rw [hb.1] at his; simp at his ⊢; omega) (by simp; omega)
        exact ⟨this.1, by have := this.2.1; simp at this; omega, this.2.2⟩
      · rw [if_neg hb]
        have := moreZ_facts (now := now) (tg := tg) (iv := iv) (l := l) n { t with dropping := false } i2 (by rw [his]; simp [e5]) (fun h => by cases h) (by simp; omega)
        exact ⟨this.1, by have := this.2.1; simp at this; omega, this.2.2⟩
    · rw [if_neg hc]
      exact ⟨h1, Nat.le_refl _, h3⟩
theorem runZ_facts {now tg iv : Int} {l : List (Int × Int)} {s : CSt} {R : CSt × Bool} (hR : runZ now tg iv l s = R) (hp : s.pos = 0) :
    R.2 = decide (R.1.pos < l.length) ∧ R.1.pos ≤ l.length ∧ (R.2 = true ∨ R.1.dropping = false ∨ 0 < R.1.pos) := by
  unfold runZ at hR
  obtain ⟨e1, e2, e3, e4, e5⟩ := lookZ_same now tg iv l s
  have his := lookZ_is now tg iv l s
  generalize lookZ now tg iv l s = r at *
  obtain ⟨t, i2, l2⟩ := r
  dsimp only at *
  by_cases h1 : i2 = false
  · rw [if_pos h1] at hR
    subst hR
    rw [h1] at his
    simp at his
    exact ⟨by simp; omega, by simp; omega, by simp⟩
  · rw [if_neg h1] at hR
    have h1 : i2 = true := by simpa using h1
    rw [h1] at his
    simp at his
    by_cases h2 : t.dropping = true
    · rw [if_pos h2] at hR
      by_cases h3 : l2 = false
      · rw [if_pos h3] at hR; subst hR; exact ⟨by simp; omega, by simp; omega, by simp⟩
      · rw [if_neg h3] at hR
        obtain ⟨k1, k2, k3⟩ := moreZ_facts (now := now) (tg := tg) (iv := iv) (l := l) (l.length + 1) t true (by simp; omega) (fun _ => by omega) (by omega)
        rw [hR] at k1 k2 k3
        refine ⟨k1, k3, ?_⟩
        cases hm : R.2 with
        | true => exact .inl rfl
        | false => rw [hm] at k1; simp at k1; exact .inr (.inr (by omega))
    · rw [if_neg h2] at hR
      by_cases h3 : l2 = true
      · rw [if_pos h3] at hR
        unfold beginsZ at hR
        obtain ⟨e1, e2, e3, e4, e6⟩ := lookZ_same now tg iv l { t with pos := t.pos + 1 }
        have his2 := lookZ_is now tg iv l { t with pos := t.pos + 1 }
        generalize lookZ now tg iv l { t with pos := t.pos + 1 } = r at *
        obtain ⟨u, i3, l3⟩ := r
        dsimp only at *
        subst hR
        exact ⟨by simp [his2, e6], by simp; omega, .inr (.inr (by simp; omega))⟩
      · rw [if_neg h3] at hR; subst hR; exact ⟨by simp; omega, by simp; omega, by simp⟩
end Go.Proofs.YtpcilleldanfmaaDoor
