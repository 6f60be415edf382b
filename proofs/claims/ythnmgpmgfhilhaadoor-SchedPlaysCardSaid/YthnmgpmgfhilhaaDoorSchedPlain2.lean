/- The model of the turns: each answer by cases; what stays. No program here. -/
import Derived.Test.YthnmgpmgfhilhaaDoorSchedPlain
set_option linter.unusedVariables false
set_option linter.unusedSimpArgs false
namespace Go.Vc
def updI (f : Int → Int) (a x : Int) : Int → Int := fun b => if b = a then x else f b
theorem updI_at (f : Int → Int) (a x : Int) : updI f a x a = x := if_pos rfl
theorem updI_ne {f : Int → Int} {a x b : Int} (h : b ≠ a) : updI f a x b = f b := if_neg h
theorem cnt_add {S : Sts} {a : Int} {o o' : Option St} (hn : S.length = 16) (a0 : 1 ≤ a) (a1 : a ≤ 16) (hg : getS S a = o) : onCnt (S.set (kA a) o') + (isOn o).toNat = onCnt S + (isOn o').toNat := by
  have hl : kA a < S.length := by unfold kA; omega
  have e : S[kA a]? = some o := by
    unfold getS at hg
    rw [if_pos (there_iff.2 ⟨a0, a1⟩), List.getElem?_eq_getElem hl] at hg
    rw [List.getElem?_eq_getElem hl]
    simpa using hg
  exact onCnt_set e
section
variable {S : Sts} {a b w k i j air m : Int} {n : Nat} {s x y : St} {on : Bool}
theorem addS_eq (h : getS S a = none) (a0 : 1 ≤ a) (a1 : a ≤ 16) (w0 : 1 ≤ w) (w1 : w ≤ 100) : addS S a w = (S.set (kA a) (some ⟨w, 0, false⟩), none) := by
  unfold addS; rw [if_pos ⟨there_iff.2 ⟨a0, a1⟩, fair_iff.2 ⟨w0, w1⟩⟩, h]
theorem activeS_on (h : getS S a = some s) (ho : s.on = false) : activeS S a true = (S.set (kA a) (some ⟨s.w, comesT S s.t, true⟩), none) := by
  unfold activeS; rw [h]; dsimp only; rw [if_pos ⟨rfl, ho⟩]
theorem activeS_same (h : getS S a = some s) (ho : s.on = on) : activeS S a on = (S, none) := by
  unfold activeS; rw [h]; dsimp only
  rw [if_neg (by rw [ho]; cases on <;> simp), if_neg (by rw [ho]; cases on <;> simp)]
theorem chargeS_eq (h : getS S a = some s) (h0 : 0 ≤ air) (h1 : air ≤ 1099511627776) : chargeS S a air = (S.set (kA a) (some ⟨s.w, chargeT s air, s.on⟩), none) := by
  unfold chargeS; rw [h]; dsimp only; rw [if_pos ⟨h0, h1⟩]
theorem weighS_eq (h : getS S a = some s) (w0 : 1 ≤ w) (w1 : w ≤ 100) : weighS S a w = (S.set (kA a) (some ⟨w, s.t, s.on⟩), none) := by
  unfold weighS; rw [h]; dsimp only; rw [if_pos (fair_iff.2 ⟨w0, w1⟩)]
theorem delS_eq (h : getS S a = some s) : delS S a = (S.set (kA a) none, none) := by unfold delS; rw [h]
theorem least_of (hn : S.length = 16) (h : ∃ a s, getS S a = some s ∧ s.on = true ∧ s.t = m) (h2 : ∀ a s, getS S a = some s → s.on = true → m ≤ s.t) : leastL S = some m := by
  obtain ⟨a, s, h3, h4, rfl⟩ := h
  rcases least_spec (S := S) with ⟨q1, q2⟩ | ⟨m, q1, ⟨k, x, q3, q4, rfl⟩, q5⟩
  · have := q2 _ _ (getS_some.1 h3).2
    rw [this] at h4; cases h4
  · rw [q1]
    have := q5 _ _ (getS_some.1 h3).2 h4
    have := h2 _ _ (getS_at q3 hn) q4
    congr 1; omega
theorem least_none (hn : S.length = 16) (h : ∀ a s, getS S a = some s → s.on = false) : leastL S = none := by
  rcases least_spec (S := S) with ⟨q1, q2⟩ | ⟨m, q1, ⟨k, x, q3, q4, rfl⟩, q5⟩
  · exact q1
  · have := h _ _ (getS_at q3 hn)
    rw [this] at q4; cases q4
theorem comes0 (hn : S.length = 16) (h : ∀ a s, getS S a = some s → s.on = true → s.t = 0) : comesT S 0 = 0 := by
  unfold comesT
  rcases least_spec (S := S) with ⟨q1, q2⟩ | ⟨m, q1, ⟨k, x, q3, q4, rfl⟩, q5⟩
  · rw [q1]
  · rw [q1]
    have := h _ _ (getS_at q3 hn) q4
    dsimp only; omega
theorem SOk.comes (ok : SOk S) (h0 : 0 ≤ i) (h1 : i ≤ 1152921504606846976) : 0 ≤ comesT S i ∧ comesT S i ≤ 1152921504606846976 := by
  unfold comesT
  rcases least_spec (S := S) with ⟨q1, q2⟩ | ⟨m, q1, ⟨k, x, q3, q4, rfl⟩, q5⟩
  · rw [q1]; exact ⟨h0, h1⟩
  · rw [q1]
    have := ok.s _ _ q3
    dsimp only; omega
theorem SOk.charged (hw : 1 ≤ s.w) (h0 : 0 ≤ s.t) (ha : 0 ≤ air) : 0 ≤ chargeT s air ∧ chargeT s air ≤ 1152921504606846976 := by
  unfold chargeT
  have := Int.ediv_nonneg (a := 10000 * air) (b := s.w) (by omega) (by omega)
  omega
theorem SOk.add (ok : SOk S) : SOk (addS S a w).1 := by
  unfold addS
  split
  · rename_i h
    have := fair_iff.1 h.2
    split
    · exact ok.set (s := ⟨w, 0, false⟩) ⟨this.1, this.2, Int.le_refl _, show (0 : Int) ≤ 1152921504606846976 by decide⟩ _
    · exact ok
  · exact ok
theorem SOk.weigh (ok : SOk S) : SOk (weighS S a w).1 := by
  unfold weighS
  split
  · exact ok
  · rename_i s hs
    split
    · rename_i h
      have h1 := fair_iff.1 h
      have h2 := ok.get hs
      exact ok.set (s := ⟨w, s.t, s.on⟩) ⟨h1.1, h1.2, h2.2.2.1, h2.2.2.2⟩ _
    · exact ok
theorem SOk.del (ok : SOk S) : SOk (delS S a).1 := by
  unfold delS
  split
  · exact ok
  · exact ok.clear _
theorem SOk.active (ok : SOk S) : SOk (activeS S a on).1 := by
  unfold activeS
  split
  · exact ok
  · rename_i s hs
    have h := ok.get hs
    have hc := ok.comes h.2.2.1 h.2.2.2
    dsimp only
    split
    · exact ok.set (s := ⟨s.w, comesT S s.t, true⟩) ⟨h.1, h.2.1, hc.1, hc.2⟩ _
    · split
      · exact ok.set (s := ⟨s.w, s.t, false⟩) h _
      · exact ok
theorem SOk.charge (ok : SOk S) : SOk (chargeS S a air).1 := by
  unfold chargeS
  split
  · exact ok
  · rename_i s hs
    split
    · rename_i q
      have h := ok.get hs
      have hc := SOk.charged (s := s) (air := air) h.1 h.2.2.1 q.1
      exact ok.set (s := ⟨s.w, chargeT s air, s.on⟩) ⟨h.1, h.2.1, hc.1, hc.2⟩ _
    · exact ok
end
end Go.Vc
