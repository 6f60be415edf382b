/- What is kept of a queue stays within bounds; lists of items as cells. -/
import Derived.Test.YtpcilleldanfmaaDoorCodel
import Derived.Test.YtpcilleldanfmaaDoorOwn
set_option linter.unusedVariables false
set_option linter.unusedSimpArgs false
namespace Go.Proofs.YtpcilleldanfmaaDoor
open Go.Vc

theorem flatI_append (a b : List (Int × Int)) : flatI (a ++ b) = flatI a ++ flatI b := by
  induction a with
  | nil => rfl
  | cons x a ih => simp only [List.cons_append, flatI, ih]
theorem flatI_drop : ∀ (l : List (Int × Int)) (i : Nat), (flatI l).drop (i * 2) = flatI (l.drop i)
  | l, 0 => by simp
  | [], i + 1 => by simp [flatI]
  | x :: r, i + 1 => by
    rw [show (i + 1) * 2 = i * 2 + 2 by omega]
    simp only [flatI, List.drop_succ_cons]
    exact flatI_drop r i
/-- A packet that does not wait too long, or of a short queue. -/
def calm (short : Bool) (t : Int) (x : Int × Int) : Prop := (short = true ∧ x = (0, 30)) ∨ (short = false ∧ x.1 = t ∧ 0 ≤ x.2 ∧ x.2 < 3000)
/-- The bounds of what is kept of a queue. -/
structure CBd (s : CSt) : Prop where
  f0 : 0 ≤ s.first
  f1 : s.first ≤ 2251799813685248
  d0 : 0 ≤ s.drop
  d1 : s.drop ≤ 2251799813685248
  c0 : 0 ≤ s.count
  c1 : s.count < 4294967296
  l0 : 0 ≤ s.last
  l1 : s.last < 4294967296
theorem COk.bd {l : List (Int × Int)} {s : CSt} (h : COk l s) : CBd s := ⟨h.f0, h.f1, h.d0, h.d1, h.c0, h.c1, h.l0, h.l1⟩
theorem more_stop {now tg iv : Int} {l : List (Int × Int)} {n : Nat} {s : CSt} {is : Bool} (h : ¬ (s.drop ≤ now ∧ s.dropping = true)) : moreZ now tg iv l n s is = (s, is) := by
  cases n with
  | zero => rfl
  | succ n => show (if _ then _ else _) = _; rw [if_neg h]
theorem more_step {now tg iv : Int} {l : List (Int × Int)} {n : Nat} {s t : CSt} {is i2 l2 : Bool} (h : s.drop ≤ now ∧ s.dropping = true) (e : lookZ now tg iv l { s with pos := s.pos + 1, count := upC s.count } = (t, i2, l2)) :
    moreZ now tg iv l (n + 1) s is = if i2 = true ∧ l2 = true then moreZ now tg iv l n { t with drop := nextZ t.drop iv t.count.toNat } i2 else moreZ now tg iv l n { t with dropping := false } i2 := by
  show (if _ then _ else _) = _
  rw [if_pos h, e]
theorem moreZ_bd {now tg iv : Int} {l : List (Int × Int)} (hE : CEn now tg iv l) : ∀ (n : Nat) (s : CSt) (is : Bool), COk l s → (s.dropping = true → s.pos < l.length) → CBd (moreZ now tg iv l n s is).1
  | 0, s, is, h1, h2 => h1.bd
  | n + 1, s, is, h1, h2 => by
    by_cases hc : s.drop ≤ now ∧ s.dropping = true
    · have hlt := h2 hc.2
      have hk2 := h1.look hE (by omega)
      obtain ⟨e1, e2, e3, e4, e5⟩ := lookZ_same now tg iv l { s with pos := s.pos + 1, count := upC s.count }
      have his := lookZ_is now tg iv l { s with pos := s.pos + 1, count := upC s.count }
      generalize hr : lookZ now tg iv l { s with pos := s.pos + 1, count := upC s.count } = r at *
      obtain ⟨t, i2, l2⟩ := r
      dsimp only at *
      rw [more_step hc hr]
      by_cases hb : i2 = true ∧ l2 = true
      · rw [if_pos hb]
        obtain ⟨z0, z1⟩ := nextZ_ok t.drop iv t.count.toNat
        exact moreZ_bd hE n _ _ ⟨hk2.f0, hk2.f1, z0, z1, hk2.c0, hk2.c1, hk2.l0, hk2.l1, hk2.b0, hk2.b1, hk2.p⟩ (fun _ => by rw [hb.1] at his; simp at his ⊢; omega)
      · rw [if_neg hb]
        exact moreZ_bd hE n _ _ ⟨hk2.f0, hk2.f1, hk2.d0, hk2.d1, hk2.c0, hk2.c1, hk2.l0, hk2.l1, hk2.b0, hk2.b1, hk2.p⟩ (fun h => by cases h)
    · rw [more_stop hc]; exact h1.bd
theorem runZ_bd {now tg iv : Int} {l : List (Int × Int)} {s : CSt} (hE : CEn now tg iv l) (hk : CIn s) : CBd (runZ now tg iv l s).1 := by
  have hk2 := hk.ok hE
  unfold runZ
  obtain ⟨e1, e2, e3, e4, e5⟩ := lookZ_same now tg iv l s
  have his := lookZ_is now tg iv l s
  have hp := hk.p
  generalize lookZ now tg iv l s = r at *
  obtain ⟨t, i2, l2⟩ := r
  dsimp only at *
  by_cases h1 : i2 = false
  · rw [if_pos h1]; exact ⟨hk2.f0, hk2.f1, hk2.d0, hk2.d1, hk2.c0, hk2.c1, hk2.l0, hk2.l1⟩
  · rw [if_neg h1]
    have h1 : i2 = true := by simpa using h1
    rw [h1] at his
    simp at his
    by_cases h2 : t.dropping = true
    · rw [if_pos h2]
      by_cases h3 : l2 = false
      · rw [if_pos h3]; exact ⟨hk2.f0, hk2.f1, hk2.d0, hk2.d1, hk2.c0, hk2.c1, hk2.l0, hk2.l1⟩
      · rw [if_neg h3]; exact moreZ_bd hE _ _ _ hk2 (fun _ => by omega)
    · rw [if_neg h2]
      by_cases h3 : l2 = true
      · rw [if_pos h3]
        unfold beginsZ
        obtain ⟨g1, g2, g3, g4, g5⟩ := lookZ_same now tg iv l { t with pos := t.pos + 1 }
        obtain ⟨f0, f1⟩ := lookZ_first (s := { t with pos := t.pos + 1 }) hE hk2.f0 hk2.f1
        generalize lookZ now tg iv l { t with pos := t.pos + 1 } = r at *
        obtain ⟨u, i3, l3⟩ := r
        dsimp only at *
        obtain ⟨z0, z1⟩ := deltaZ_ok now iv u
        obtain ⟨y0, y1⟩ := nextZ_ok now iv (deltaZ now iv u).toNat
        exact ⟨f0, f1, y0, y1, z0, z1, z0, z1⟩
      · rw [if_neg h3]; exact hk2.bd

theorem itm_of {h : Heap} {a : Option Addr} {N : Nat} {its : List (Int × Int)} (hs : src h a N (flatI its)) : Itm h a its := by
  intro j x hx
  have hj := (List.getElem?_eq_some_iff.1 hx).1
  obtain ⟨b, o, rfl, hr⟩ := src_part (k := j * 2) (n := 2) hs (by rw [flatI_len]; omega) (by decide) rfl
  refine ⟨b, o, rfl, ?_⟩
  rw [hr, flatI_drop, List.drop_eq_getElem_cons hj, (List.getElem?_eq_some_iff.1 hx).2]
  rfl
theorem flatI_one (l : List (Int × Int)) : ∀ u ∈ flatI l, u.oneCell' = true := by
  induction l with
  | nil => simp [flatI]
  | cons x r ih => intro u hu; simp only [flatI, List.mem_cons] at hu; rcases hu with rfl | rfl | hu <;> first | rfl | exact ih u hu
end Go.Proofs.YtpcilleldanfmaaDoor
