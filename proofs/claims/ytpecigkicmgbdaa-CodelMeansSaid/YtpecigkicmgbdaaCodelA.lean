/- The contracts of what the statements of chapter 11 call beside the pulls. -/
import Derived.Test.YtpecigkicmgbdaaGenCodelLaws
import Derived.Test.YtpecigkicmgbdaaCodel
import Derived.Test.YtpecigkicmgbdaaNum
set_option linter.unusedVariables false
set_option linter.unusedSimpArgs false
namespace Go.Proofs.Ytpecigkicmgbdaa
open Go.Vc


def sameZ (c x : CSt) : Bool := decide (c.first = x.first ∧ c.drop = x.drop ∧ c.count = x.count ∧ c.last = x.last ∧ c.dropping = x.dropping)
theorem sameZ_refl (c : CSt) : sameZ c c = true := by simp [sameZ]
theorem same_c (c x : CSt) (h : Heap) : Runs Try.prog 13 #[.agg (cV c).toArray, .agg (cV x).toArray] h fun v h' =>
    v = .bool (sameZ c x) ∧ Kept h h' := by
  refine vc_muezzinlaw11_same _ _ _ _ ?_
  intro b1 h1 e1 e2 b2 h2 e3 e4
  have m := ((Mem.start h).push e2 e1).push e4 e3
  unfold cV at m
  have hk := m.kept
  refine ⟨_, Mem.cell m 1 rfl rfl, ?_⟩
  refine ⟨_, Mem.cell m 0 rfl rfl, ?_⟩
  refine dcase_intro (fun q1 => ?_) fun q1 => ⟨by simp [sameZ, q1], hk⟩
  refine ⟨_, Mem.cell m 1 rfl rfl, ?_⟩
  refine ⟨_, Mem.cell m 0 rfl rfl, ?_⟩
  refine dcase_intro (fun q2 => ?_) fun q2 => ⟨by simp [sameZ, q2], hk⟩
  refine ⟨_, Mem.cell m 1 rfl rfl, ?_⟩
  refine ⟨_, Mem.cell m 0 rfl rfl, ?_⟩
  refine dcase_intro (fun q3 => ?_) fun q3 => ⟨by simp [sameZ, q3], hk⟩
  refine ⟨_, Mem.cell m 1 rfl rfl, ?_⟩
  refine ⟨_, Mem.cell m 0 rfl rfl, ?_⟩
  refine dcase_intro (fun q4 => ?_) fun q4 => ⟨by simp [sameZ, q4], hk⟩
  refine ⟨_, Mem.cell m 1 rfl rfl, ?_⟩
  refine ⟨_, Mem.cell m 0 rfl rfl, ?_⟩
  refine ⟨?_, hk⟩
  simp [sameZ, q1, q2, q3, q4, BEq.beq]
theorem other_c (c : CSt) (h : Heap) : Runs Try.prog 14 #[.agg (cV c).toArray] h fun v h' => v = .agg (cV c).toArray ∧ Kept h h' := by
  refine vc_muezzinlaw11_other _ _ _ ?_
  intro b1 h1 e1 e2 b2 h2 e3 e4
  have m := ((Mem.start h).push e2 e1).push e4 e3
  unfold cV at m
  refine ⟨_, Mem.cell m 1 rfl rfl, ?_⟩
  refine ⟨_, Mem.cell m 1 rfl rfl, ?_⟩
  refine ⟨_, Mem.cell m 1 rfl rfl, ?_⟩
  refine ⟨_, Mem.cell m 1 rfl rfl, ?_⟩
  refine ⟨_, Mem.cell m 1 rfl rfl, ?_⟩
  refine ⟨⟨rfl, (m.blk 0 rfl).wrs (Nat.le_of_ble_eq_true rfl), by simp [Value.oneCell']⟩, ?_⟩
  intro h5 e7
  replace m := m.setr 0 rfl e7
  simp only [List.set_cons_zero, List.set_cons_succ, setL] at m
  exact ⟨_, (m.blk 0 rfl).row_eq rfl (Nat.le_of_ble_eq_true rfl), rfl, m.kept⟩
/-- The times are ones that may be. -/
structure Right (c : CSt) (now : Int) (l : List (Int × Int)) : Prop where
  n0 : 0 ≤ now
  n1 : now ≤ 1125899906842624
  f0 : 0 ≤ c.first
  f1 : c.first ≤ 1125899906842624
  d0 : 0 ≤ c.drop
  d1 : c.drop ≤ 1125899906842624
  len : l.length ≤ 40
  a : ∀ x ∈ l, 0 ≤ x.1 ∧ x.1 ≤ now ∧ x.2 ≤ 1048576
theorem right_c (c : CSt) (now : Int) (a : Option Addr) (cap : Nat) (l : List (Int × Int)) (h : Heap) (hs : Itm h a l) : Runs Try.prog 12 #[.agg (cV c).toArray, .int .i64 now, .slice a l.length cap] h fun v h' =>
    ∃ r : Bool, v = .bool r ∧ Kept h h' ∧ (r = true → Right c now l) := by
  refine vc_muezzinlaw11_right _ _ _ _ _ _ _ ?_
  intro b1 h1 e1 e2
  have m := (Mem.start h).push e2 e1
  unfold cV at m
  have hk := m.kept
  have no : ∃ r : Bool, Value.bool false = .bool r ∧ Kept h h1 ∧ (r = true → Right c now l) := ⟨false, rfl, hk, fun h => by cases h⟩
  refine dcase_intro (fun _ => no) fun q1 => dcase_intro (fun _ => no) fun q2 => ?_
  refine ⟨_, Mem.cell m 0 rfl rfl, ?_⟩
  refine dcase_intro (fun _ => no) fun q3 => ?_
  refine ⟨_, Mem.cell m 0 rfl rfl, ?_⟩
  refine dcase_intro (fun _ => no) fun q4 => ?_
  refine ⟨_, Mem.cell m 0 rfl rfl, ?_⟩
  refine dcase_intro (fun _ => no) fun q5 => ?_
  refine ⟨_, Mem.cell m 0 rfl rfl, ?_⟩
  refine dcase_intro (fun _ => no) fun q6 => dcase_intro (fun _ => no) fun q7 => ?_
  refine ⟨fun i h2 => (∃ L, Mem h h2 [] L) ∧ 0 ≤ i ∧ i ≤ l.length ∧ ∀ (j : Nat) (x : Int × Int), (j : Int) < i → l[j]? = some x → 0 ≤ x.1 ∧ x.1 ≤ now ∧ x.2 ≤ 1048576,
    fun i _ => ((l.length : Int) - i).toNat, ⟨⟨_, m⟩, by omega, by omega, fun j x hj => by omega⟩, fun _ => ?_⟩
  clear no hk m
  rintro i h2 ⟨⟨L, m⟩, i0, i1, hi⟩
  have no : ∃ r : Bool, Value.bool false = .bool r ∧ Kept h h2 ∧ (r = true → Right c now l) := ⟨false, rfl, m.kept, fun h => by cases h⟩
  refine dcase_intro (fun q => ?_) fun q => ?_
  · obtain ⟨k, rfl⟩ := Int.eq_ofNat_of_zero_le i0
    have hkl : k < l.length := by omega
    obtain ⟨x, hx⟩ : ∃ x, l[k]? = some x := ⟨_, List.getElem?_eq_getElem hkl⟩
    obtain ⟨b, o, rfl, hrow⟩ := hs.mem m (by simp) k x hx
    have hc0 := (row_iff.1 hrow).2 0 _ rfl
    have hc1 := (row_iff.1 hrow).2 1 _ rfl
    simp only [Nat.add_zero] at hc0
    refine ⟨⟨by omega, by omega⟩, ?_⟩
    simp only [onAddr, Int.toNat_natCast]
    refine ⟨_, hc0, dcase_intro (fun _ => no) fun r1 => ⟨⟨by omega, by omega⟩, _, hc0, dcase_intro (fun _ => no) fun r2 => ⟨⟨by omega, by omega⟩, _, hc1, dcase_intro (fun _ => no) fun r3 => ⟨by simp only [fits]; omega, ⟨⟨_, m⟩, by omega, by omega, ?_⟩, by omega⟩⟩⟩⟩
    intro j y hj hy
    by_cases hjk : j = k
    · subst hjk; rw [hx] at hy; cases hy; exact ⟨by omega, by omega, by omega⟩
    · exact hi j y (by omega) hy
  · refine ⟨true, rfl, m.kept, fun _ => ⟨by omega, by omega, by omega, by omega, by omega, by omega, by omega, fun x hx => ?_⟩⟩
    obtain ⟨j, hj⟩ := List.mem_iff_getElem?.1 hx
    have := (List.getElem?_eq_some_iff.1 hj).1
    exact hi j x (by omega) hj
theorem Itm.nil (h : Heap) (a : Option Addr) : Itm h a [] := fun i x hx => by simp at hx
theorem Itm.blk {h : Heap} {b : Nat} {l : List (Int × Int)} {T : TypeId} (hb : Blk h b (flatI l) T) : Itm h (some ⟨b, 0, none⟩) l :=
  Itm.of_src fun l' e => by
    subst e
    show row h b 0 _ = _
    rw [hb.row (by rw [flatI_len]; omega), List.drop_zero, ← flatI_len, List.take_length]
theorem first11_c (h : Heap) : Runs Try.prog 9 #[] h fun v h' => v = .bool true ∧ Kept h h' := by
  refine vc_muezzinlaw11_first _ _ ?_
  intro b1 h1 e1 e2
  have m := (Mem.start h).push e2 e1
  refine ⟨_, (m.blk 0 rfl).row_eq rfl (Nat.le_of_ble_eq_true rfl), ?_⟩
  have r1 : runZ 0 5 100 [] ⟨0, 0, 0, 0, false, 0, 0⟩ = (⟨0, 0, 0, 0, false, 0, 0⟩, false) := by rfl
  have r2 : runZ 9 5 100 [(0, 100)] ⟨0, 0, 0, 0, false, 5000, 0⟩ = (⟨109, 0, 0, 0, false, 4900, 0⟩, true) := by rfl
  have p1 := pull_c (now := 0) (target := 5) (interval := 100) (bytes := 0) (a := none) (cap := 0) (l := []) (c := ⟨0, 0, 0, 0, false, 0, 0⟩) (h := h1)
    ⟨by decide, by decide, by decide, by decide, by decide, by decide, by decide, by simp⟩ (Itm.nil _ _) ⟨by decide, by decide, by decide, by decide, by decide, by decide, by decide, by decide, by decide, by decide, rfl⟩
  rw [show clampZ 5 1073741824 = 5 by decide, show clampZ 100 1073741824 = 100 by decide] at p1
  dsimp only at p1
  rw [r1] at p1
  refine p1.mono ?_
  rintro _ h2 ⟨rfl, k⟩
  replace m := m.call0 (Mem.ofKept k)
  refine ⟨_, _, _, rfl, ?_⟩
  (intro bv hv ev1 ev2; replace m := m.push ev2 ev1; clear ev1 ev2; refine ⟨⟨rfl, (m.blk 0 rfl).wrs (Nat.le_of_ble_eq_true rfl), by simp [cV, Value.oneCell']⟩, ?_⟩; intro hv ev3; replace m := m.setr 0 rfl ev3; clear ev3; simp only [List.set_cons_zero, List.set_cons_succ, setL, cV, List.drop_zero, List.take_succ_cons, List.take_zero] at m)
  refine ⟨_, (m.blk 1 rfl).row_eq rfl (Nat.le_of_ble_eq_true rfl), ?_⟩
  refine ⟨rfl, ?_⟩
  intro b3 h5 e5 e6
  replace m := m.push e6 e5
  have p2 := pull_c (now := 9) (target := 5) (interval := 100) (bytes := 5000) (a := some ⟨b3, 0, none⟩) (cap := 1) (l := [(0, 100)]) (c := ⟨0, 0, 0, 0, false, 0, 0⟩) (h := h5)
    ⟨by decide, by decide, by decide, by decide, by decide, by decide, by decide, by simp⟩ (Itm.blk (l := [(0, 100)]) (m.blk 0 rfl)) ⟨by decide, by decide, by decide, by decide, by decide, by decide, by decide, by decide, by decide, by decide, rfl⟩
  rw [show clampZ 5 1073741824 = 5 by decide, show clampZ 100 1073741824 = 100 by decide] at p2
  dsimp only at p2
  rw [r2] at p2
  refine p2.mono ?_
  rintro _ h6 ⟨rfl, k⟩
  replace m := m.call0 (Mem.ofKept k)
  refine ⟨_, _, _, rfl, ?_⟩
  (intro bv hv ev1 ev2; replace m := m.push ev2 ev1; clear ev1 ev2; refine ⟨⟨rfl, (m.blk 0 rfl).wrs (Nat.le_of_ble_eq_true rfl), by simp [cV, Value.oneCell']⟩, ?_⟩; intro hv ev3; replace m := m.setr 0 rfl ev3; clear ev3; simp only [List.set_cons_zero, List.set_cons_succ, setL, cV, List.drop_zero, List.take_succ_cons, List.take_zero] at m)
  refine dcase_pos rfl (bcase_true rfl (dcase_pos rfl (bcase_true rfl ?_)))
  refine ⟨_, Mem.cell m 0 rfl rfl, ?_⟩
  exact ⟨rfl, m.kept⟩
end Go.Proofs.Ytpecigkicmgbdaa
