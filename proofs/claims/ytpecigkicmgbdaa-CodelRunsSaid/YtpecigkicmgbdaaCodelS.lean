/- The walk of CodelStands. -/
import Derived.Test.YtpecigkicmgbdaaCodelM
set_option linter.unusedVariables false
set_option linter.unusedSimpArgs false
namespace Go.Proofs.Ytpecigkicmgbdaa
open Go.Vc

theorem segF {h : Heap} {A : (Bool → Heap → Prop) → Prop} {B : Bool → Heap → Prop} (ha : A fun x h' => x = false ∧ h' = h) (hb : B false h) :
    ∃ J : Bool → Heap → Prop, A J ∧ ∀ _ : Env, ∀ (x : Bool) (h' : Heap), J x h' → B x h' :=
  ⟨_, ha, fun _ => by rintro _ _ ⟨rfl, rfl⟩; exact hb⟩
def L6 (sz : Int) : List (Int × Int) := [(0, sz), (0, sz), (0, sz), (0, sz), (0, sz), (0, sz)]
theorem invN_two : invN 2 = 3037000499 := by
  rw [invN_pos (by decide)]
  exact (isq_unique (by decide) (by decide)).symm
theorem look6 {now iv sz : Int} {s : CSt} (hs0 : 1000 ≤ sz) (hs1 : sz ≤ 1399) (hn : 10 ≤ now) (hb : 3000 ≤ s.bytes - sz) (hp : s.pos < 6) :
    lookZ now 10 iv (L6 sz) s = if s.first = 0 then ({ s with bytes := s.bytes - sz, first := now + iv }, true, false) else ({ s with bytes := s.bytes - sz }, true, decide (s.first ≤ now)) := by
  have hx : (L6 sz)[s.pos]? = some (0, sz) := by
    unfold L6
    match hq : s.pos, hp with
    | 0, _ => rfl
    | 1, _ => rfl
    | 2, _ => rfl
    | 3, _ => rfl
    | 4, _ => rfl
    | 5, _ => rfl
  unfold lookZ
  rw [hx]
  dsimp only
  rw [show max sz 0 = sz by omega, if_neg (by omega)]
theorem st1 {iv sz : Int} (hs0 : 1000 ≤ sz) (hs1 : sz ≤ 1399) (hi0 : 100 ≤ iv) (hi1 : iv ≤ 1099) :
    runZ 1000 10 iv (L6 sz) ⟨0, 0, 0, 0, false, 100 * sz, 0⟩ = (⟨1000 + iv, 0, 0, 0, false, 100 * sz - sz, 0⟩, true) := by
  unfold runZ
  rw [look6 hs0 hs1 (by omega) (by dsimp only; omega) (by dsimp only; omega)]
  simp
theorem st2 {iv sz : Int} (hs0 : 1000 ≤ sz) (hs1 : sz ≤ 1399) (hi0 : 100 ≤ iv) (hi1 : iv ≤ 1099) :
    runZ (1000 + iv - 1) 10 iv (L6 sz) ⟨1000 + iv, 0, 0, 0, false, 100 * sz, 0⟩ = (⟨1000 + iv, 0, 0, 0, false, 100 * sz - sz, 0⟩, true) := by
  unfold runZ
  rw [look6 hs0 hs1 (by omega) (by dsimp only; omega) (by dsimp only; omega), if_neg (by dsimp only; omega)]
  simp [show ¬ 1000 + iv ≤ 1000 + iv - 1 by omega]
theorem nextZ_one (a i : Int) (ha0 : 0 ≤ a) (ha1 : a ≤ 1125899906842624) (hi0 : 0 ≤ i) (hi1 : i ≤ 1073741824) : nextZ a i 1 = a + i := by
  unfold nextZ
  rw [show clampZ a 1125899906842624 = a by unfold clampZ; omega, show clampZ i 1073741824 = i by unfold clampZ; omega, invN_small (Nat.le_refl 1)]
  omega
theorem st3 {iv sz : Int} (hs0 : 1000 ≤ sz) (hs1 : sz ≤ 1399) (hi0 : 100 ≤ iv) (hi1 : iv ≤ 1099) :
    runZ (1000 + iv) 10 iv (L6 sz) ⟨1000 + iv, 0, 0, 0, false, 100 * sz, 0⟩ = (⟨1000 + iv, 1000 + 2 * iv, 1, 1, true, 100 * sz - sz - sz, 1⟩, true) := by
  unfold runZ
  rw [look6 hs0 hs1 (by omega) (by dsimp only; omega) (by dsimp only; omega), if_neg (by dsimp only; omega)]
  simp only [Int.le_refl, decide_true]
  rw [if_neg (by simp), if_neg (by simp), if_pos trivial]
  unfold beginsZ
  rw [look6 hs0 hs1 (by omega) (by dsimp only; omega) (by dsimp only; omega), if_neg (by dsimp only; omega)]
  have hd : deltaZ (1000 + iv) iv ⟨1000 + iv, 0, 0, 0, false, 100 * sz - sz - sz, 0 + 1⟩ = 1 := by
    unfold deltaZ wrap32; rw [if_neg (by dsimp only; omega)]
  dsimp only
  rw [hd, show (1 : Int).toNat = 1 from rfl, nextZ_one _ _ (by omega) (by omega) (by omega) (by omega)]
  rw [show 1000 + iv + iv = 1000 + 2 * iv by omega]
theorem more_stop {now tg iv : Int} {l : List (Int × Int)} {n : Nat} {s : CSt} {is : Bool} (h : ¬ (s.drop ≤ now ∧ s.dropping = true)) : moreZ now tg iv l n s is = (s, is) := by
  cases n with
  | zero => rfl
  | succ n => show (if _ then _ else _) = _; rw [if_neg h]
theorem more_step {now tg iv : Int} {l : List (Int × Int)} {n : Nat} {s t : CSt} {is i2 l2 : Bool} (h : s.drop ≤ now ∧ s.dropping = true) (e : lookZ now tg iv l { s with pos := s.pos + 1, count := upC s.count } = (t, i2, l2)) :
    moreZ now tg iv l (n + 1) s is = if i2 = true ∧ l2 = true then moreZ now tg iv l n { t with drop := nextZ t.drop iv t.count.toNat } i2 else moreZ now tg iv l n { t with dropping := false } i2 := by
  show (if _ then _ else _) = _
  rw [if_pos h, e]
theorem st4 {iv sz : Int} (hs0 : 1000 ≤ sz) (hs1 : sz ≤ 1399) (hi0 : 100 ≤ iv) (hi1 : iv ≤ 1099) :
    runZ (1000 + 2 * iv - 1) 10 iv (L6 sz) ⟨1000 + iv, 1000 + 2 * iv, 1, 1, true, 100 * sz, 0⟩ = (⟨1000 + iv, 1000 + 2 * iv, 1, 1, true, 100 * sz - sz, 0⟩, true) := by
  unfold runZ
  rw [look6 hs0 hs1 (by omega) (by dsimp only; omega) (by dsimp only; omega), if_neg (by dsimp only; omega)]
  simp only [show 1000 + iv ≤ 1000 + 2 * iv - 1 by omega, decide_true]
  rw [if_neg (by simp), if_pos trivial, if_neg (by simp)]
  rw [more_stop (by dsimp only; omega)]
theorem st5 {iv sz : Int} (hs0 : 1000 ≤ sz) (hs1 : sz ≤ 1399) (hi0 : 100 ≤ iv) (hi1 : iv ≤ 1099) : ∃ D B : Int,
    runZ (1000 + 2 * iv) 10 iv (L6 sz) ⟨1000 + iv, 1000 + 2 * iv, 1, 1, true, 100 * sz, 0⟩ = (⟨1000 + iv, D, 2, 1, true, B, 1⟩, true) ∧ 1000 + 2 * iv < D ∧ D < 1000 + 3 * iv := by
  refine ⟨nextZ (1000 + 2 * iv) iv 2, 100 * sz - sz - sz, ?_, ?_⟩
  · unfold runZ
    rw [look6 hs0 hs1 (by omega) (by dsimp only; omega) (by dsimp only; omega), if_neg (by dsimp only; omega)]
    simp only [show 1000 + iv ≤ 1000 + 2 * iv by omega, decide_true]
    rw [if_neg (by simp), if_pos trivial, if_neg (by simp)]
    have e : lookZ (1000 + 2 * iv) 10 iv (L6 sz) ⟨1000 + iv, 1000 + 2 * iv, upC 1, 1, true, 100 * sz - sz, 0 + 1⟩ = (⟨1000 + iv, 1000 + 2 * iv, 2, 1, true, 100 * sz - sz - sz, 1⟩, true, true) := by
      rw [look6 hs0 hs1 (by omega) (by dsimp only; omega) (by dsimp only; omega), if_neg (by dsimp only; omega)]
      simp [show 1000 + iv ≤ 1000 + 2 * iv by omega, upC]
    rw [more_step (by simp) e, if_pos (by simp)]
    have hD : 1000 + 2 * iv < nextZ (1000 + 2 * iv) iv 2 := by
      unfold nextZ
      rw [show clampZ (1000 + 2 * iv) 1125899906842624 = 1000 + 2 * iv by unfold clampZ; omega, show clampZ iv 1073741824 = iv by unfold clampZ; omega, invN_two]
      omega
    rw [more_stop (by dsimp only; rw [show (2 : Int).toNat = 2 from rfl]; omega)]
    rfl
  · unfold nextZ
    rw [show clampZ (1000 + 2 * iv) 1125899906842624 = 1000 + 2 * iv by unfold clampZ; omega, show clampZ iv 1073741824 = iv by unfold clampZ; omega, invN_two]
    omega
theorem st6 {iv sz D B n : Int} (hs0 : 1000 ≤ sz) : runZ n 10 iv [(n, sz), (n, sz)] ⟨1000 + iv, D, 2, 1, true, B, 0⟩ = (⟨0, D, 2, 1, false, B - sz, 0⟩, true) := by
  have e : lookZ n 10 iv [(n, sz), (n, sz)] ⟨1000 + iv, D, 2, 1, true, B, 0⟩ = (⟨0, D, 2, 1, true, B - sz, 0⟩, true, false) := by
    unfold lookZ
    simp only [List.getElem?_cons_zero]
    rw [if_pos (by omega), show max sz 0 = sz by omega]
  unfold runZ
  rw [e]
  simp
theorem itm6 {h : Heap} {b : Nat} {T : TypeId} {sz : Int} (hb : Blk h b (flatI (L6 sz)) T) : Itm h (some ⟨b, 0, none⟩) (L6 sz) := Itm.blk hb
theorem en6 {now iv sz : Int} (h0 : 0 ≤ now) (h1 : now ≤ 10000) (hi0 : 100 ≤ iv) (hi1 : iv ≤ 1099) (hs1 : sz ≤ 1399) : CEn now (clampZ 10 1073741824) (clampZ iv 1073741824) (L6 sz) := by
  refine ⟨h0, by omega, by decide, by decide, by unfold clampZ; omega, by unfold clampZ; omega, by show 6 ≤ _; decide, fun x hx => ?_⟩
  simp only [L6, List.mem_cons, List.not_mem_nil, or_false, or_self] at hx
  subst hx
  exact ⟨by dsimp only; omega, by dsimp only; omega, by dsimp only; omega⟩
theorem pull6 {now iv sz : Int} {c : CSt} {h : Heap} {b : Nat} {R : CSt × Bool} (h0 : 0 ≤ now) (h1 : now ≤ 10000) (hi0 : 100 ≤ iv) (hi1 : iv ≤ 1099) (hs0 : 1000 ≤ sz) (hs1 : sz ≤ 1399) (hs : Itm h (some ⟨b, 0, none⟩) (L6 sz))
    (f0 : 0 ≤ c.first) (f1 : c.first ≤ 10000) (d0 : 0 ≤ c.drop) (d1 : c.drop ≤ 10000) (c0 : 0 ≤ c.count) (c1 : c.count ≤ 10) (l0 : 0 ≤ c.last) (l1 : c.last ≤ 10)
    (hR : runZ now 10 iv (L6 sz) { c with bytes := 100 * sz, pos := 0 } = R) :
    Runs Try.prog 11 #[.agg (cV c).toArray, .int .i64 now, .int .i64 10, .int .i64 iv, .int .i64 (100 * sz), .slice (some ⟨b, 0, none⟩) 6 6] h fun v h' => v = outV R.1 R.1.pos R.2 ∧ Kept h h' := by
  have := pull_c (now := now) (target := 10) (interval := iv) (bytes := 100 * sz) (a := some ⟨b, 0, none⟩) (cap := 6) (l := L6 sz) (c := c) (h := h) (en6 h0 h1 hi0 hi1 hs1) hs
    ⟨f0, by dsimp only; omega, d0, by dsimp only; omega, c0, by dsimp only; omega, l0, by dsimp only; omega, by dsimp only; omega, by dsimp only; omega, rfl⟩
  rw [show clampZ 10 1073741824 = 10 by decide, show clampZ iv 1073741824 = iv by unfold clampZ; omega, hR] at this
  exact this
theorem codelStands_r (interval size : Int) (h : Heap) : Runs Try.prog 4 #[.int .i64 interval, .int .i64 size] h fun v h' => v = .bool true ∧ Kept h h' := by
  refine vc_muezzinlaw11_CodelStands _ _ _ _ ((first11_c _).mono ?_)
  rintro _ h1 ⟨rfl, k⟩
  have m := Mem.ofKept k
  refine ⟨_, rfl, bcase_false rfl ((number_c _ _ _ (by decide) (by decide)).ret ⟨_, rfl, by simp only [fits]; omega, (number_c _ _ _ (by decide) (by decide)).ret ⟨_, rfl, by simp only [fits]; omega, ?_⟩⟩)⟩
  have v0 : 100 ≤ interval % 1000 + 100 ∧ interval % 1000 + 100 ≤ 1099 := by omega
  have w0 : 1000 ≤ size % 400 + 1000 ∧ size % 400 + 1000 ≤ 1399 := by omega
  generalize interval % 1000 + 100 = iv at *
  generalize size % 400 + 1000 = sz at *
  obtain ⟨i0, i1⟩ := v0
  obtain ⟨s0, s1⟩ := w0
  (intro bv hv ev1 ev2; replace m := m.push ev2 ev1; clear ev1 ev2; refine ⟨⟨rfl, (m.blk 0 rfl).wrs (Nat.le_of_ble_eq_true rfl), by simp [cV, Value.oneCell']⟩, ?_⟩; intro hv ev3; replace m := m.setr 0 rfl ev3; clear ev3; simp only [List.set_cons_zero, List.set_cons_succ, setL, cV, List.drop_zero, List.take_succ_cons, List.take_zero] at m)
  refine ⟨_, (m.blk 0 rfl).row_eq rfl (Nat.le_of_ble_eq_true rfl), ?_⟩
  refine ⟨_, (m.blk 0 rfl).row_eq rfl (Nat.le_of_ble_eq_true rfl), ?_⟩
  refine ⟨_, (m.blk 0 rfl).row_eq rfl (Nat.le_of_ble_eq_true rfl), ?_⟩
  refine ⟨_, (m.blk 0 rfl).row_eq rfl (Nat.le_of_ble_eq_true rfl), ?_⟩
  refine ⟨_, (m.blk 0 rfl).row_eq rfl (Nat.le_of_ble_eq_true rfl), ?_⟩
  refine ⟨_, (m.blk 0 rfl).row_eq rfl (Nat.le_of_ble_eq_true rfl), ?_⟩
  refine ⟨rfl, rfl, rfl, rfl, rfl, rfl, ?_⟩
  intro b3 h8 e1 e2
  replace m := m.push e2 e1
  clear e1 e2
  refine ⟨by simp only [fits]; omega, ?_⟩
  intro b4 h9 e1 e2
  replace m := m.push e2 e1
  clear e1 e2
  refine ⟨_, (m.blk 0 rfl).row_eq rfl (Nat.le_of_ble_eq_true rfl), ?_⟩
  have F : ∀ x : Int, 0 ≤ x → x ≤ 100000 → fits .i64 x := fun x h0 h1 => by simp only [fits]; omega
  refine (pull6 (c := ⟨0, 0, 0, 0, false, 0, 0⟩) (by decide) (by decide) i0 i1 s0 s1 (itm6 (m.blk 1 rfl)) (by decide) (by decide) (by decide) (by decide) (by decide) (by decide) (by decide) (by decide) (st1 s0 s1 i0 i1)).mono ?_
  (rintro _ hv ⟨rfl, k⟩; replace m := m.call0 (Mem.ofKept k); clear k; refine ⟨_, _, _, rfl, ?_⟩; (intro bv hv ev1 ev2; replace m := m.push ev2 ev1; clear ev1 ev2; refine ⟨⟨rfl, (m.blk 0 rfl).wrs (Nat.le_of_ble_eq_true rfl), by simp [cV, Value.oneCell']⟩, ?_⟩; intro hv ev3; replace m := m.setr 0 rfl ev3; clear ev3; simp only [List.set_cons_zero, List.set_cons_succ, setL, cV, List.drop_zero, List.take_succ_cons, List.take_zero] at m))
  refine ⟨_, (m.blk 0 rfl).row_eq rfl (Nat.le_of_ble_eq_true rfl), ?_⟩
  refine ⟨F _ (by omega) (by omega), F _ (by omega) (by omega), ?_⟩
  refine (pull6 (c := ⟨1000 + iv, 0, 0, 0, false, 0, 0⟩) (by omega) (by omega) i0 i1 s0 s1 (itm6 (m.blk 2 rfl)) (by dsimp only; omega) (by dsimp only; omega) (by dsimp only; omega) (by dsimp only; omega) (by dsimp only; omega) (by dsimp only; omega) (by dsimp only; omega) (by dsimp only; omega) (st2 s0 s1 i0 i1)).mono ?_
  (rintro _ hv ⟨rfl, k⟩; replace m := m.call0 (Mem.ofKept k); clear k; refine ⟨_, _, _, rfl, ?_⟩; (intro bv hv ev1 ev2; replace m := m.push ev2 ev1; clear ev1 ev2; refine ⟨⟨rfl, (m.blk 0 rfl).wrs (Nat.le_of_ble_eq_true rfl), by simp [cV, Value.oneCell']⟩, ?_⟩; intro hv ev3; replace m := m.setr 0 rfl ev3; clear ev3; simp only [List.set_cons_zero, List.set_cons_succ, setL, cV, List.drop_zero, List.take_succ_cons, List.take_zero] at m))
  refine ⟨_, (m.blk 0 rfl).row_eq rfl (Nat.le_of_ble_eq_true rfl), ?_⟩
  refine ⟨F _ (by omega) (by omega), ?_⟩
  refine (pull6 (c := ⟨1000 + iv, 0, 0, 0, false, 0, 0⟩) (by omega) (by omega) i0 i1 s0 s1 (itm6 (m.blk 3 rfl)) (by dsimp only; omega) (by dsimp only; omega) (by dsimp only; omega) (by dsimp only; omega) (by dsimp only; omega) (by dsimp only; omega) (by dsimp only; omega) (by dsimp only; omega) (st3 s0 s1 i0 i1)).mono ?_
  (rintro _ hv ⟨rfl, k⟩; replace m := m.call0 (Mem.ofKept k); clear k; refine ⟨_, _, _, rfl, ?_⟩; (intro bv hv ev1 ev2; replace m := m.push ev2 ev1; clear ev1 ev2; refine ⟨⟨rfl, (m.blk 0 rfl).wrs (Nat.le_of_ble_eq_true rfl), by simp [cV, Value.oneCell']⟩, ?_⟩; intro hv ev3; replace m := m.setr 0 rfl ev3; clear ev3; simp only [List.set_cons_zero, List.set_cons_succ, setL, cV, List.drop_zero, List.take_succ_cons, List.take_zero] at m))
  refine ⟨_, (m.blk 0 rfl).row_eq rfl (Nat.le_of_ble_eq_true rfl), ?_⟩
  refine ⟨F _ (by omega) (by omega), F _ (by omega) (by omega), F _ (by omega) (by omega), ?_⟩
  refine (pull6 (c := ⟨1000 + iv, 1000 + 2 * iv, 1, 1, true, 0, 0⟩) (by omega) (by omega) i0 i1 s0 s1 (itm6 (m.blk 4 rfl)) (by dsimp only; omega) (by dsimp only; omega) (by dsimp only; omega) (by dsimp only; omega) (by dsimp only; omega) (by dsimp only; omega) (by dsimp only; omega) (by dsimp only; omega) (st4 s0 s1 i0 i1)).mono ?_
  (rintro _ hv ⟨rfl, k⟩; replace m := m.call0 (Mem.ofKept k); clear k; refine ⟨_, _, _, rfl, ?_⟩; (intro bv hv ev1 ev2; replace m := m.push ev2 ev1; clear ev1 ev2; refine ⟨⟨rfl, (m.blk 0 rfl).wrs (Nat.le_of_ble_eq_true rfl), by simp [cV, Value.oneCell']⟩, ?_⟩; intro hv ev3; replace m := m.setr 0 rfl ev3; clear ev3; simp only [List.set_cons_zero, List.set_cons_succ, setL, cV, List.drop_zero, List.take_succ_cons, List.take_zero] at m))
  refine ⟨_, (m.blk 0 rfl).row_eq rfl (Nat.le_of_ble_eq_true rfl), ?_⟩
  refine ⟨F _ (by omega) (by omega), F _ (by omega) (by omega), ?_⟩
  obtain ⟨D, B, r5, d0, d1⟩ := st5 s0 s1 i0 i1
  refine (pull6 (c := ⟨1000 + iv, 1000 + 2 * iv, 1, 1, true, 0, 0⟩) (by omega) (by omega) i0 i1 s0 s1 (itm6 (m.blk 5 rfl)) (by dsimp only; omega) (by dsimp only; omega) (by dsimp only; omega) (by dsimp only; omega) (by dsimp only; omega) (by dsimp only; omega) (by dsimp only; omega) (by dsimp only; omega) r5).mono ?_
  (rintro _ hv ⟨rfl, k⟩; replace m := m.call0 (Mem.ofKept k); clear k; refine ⟨_, _, _, rfl, ?_⟩; (intro bv hv ev1 ev2; replace m := m.push ev2 ev1; clear ev1 ev2; refine ⟨⟨rfl, (m.blk 0 rfl).wrs (Nat.le_of_ble_eq_true rfl), by simp [cV, Value.oneCell']⟩, ?_⟩; intro hv ev3; replace m := m.setr 0 rfl ev3; clear ev3; simp only [List.set_cons_zero, List.set_cons_succ, setL, cV, List.drop_zero, List.take_succ_cons, List.take_zero] at m))
  refine ⟨F _ (by omega) (by omega), F _ (by omega) (by omega), ?_⟩
  (intro bv hv ev1 ev2; replace m := m.push ev2 ev1; clear ev1 ev2; refine ⟨⟨rfl, (m.blk 0 rfl).wrs (Nat.le_of_ble_eq_true rfl), by simp [cV, Value.oneCell']⟩, ?_⟩; intro hv ev3; replace m := m.setr 0 rfl ev3; clear ev3; simp only [List.set_cons_zero, List.set_cons_succ, setL, cV, List.drop_zero, List.take_succ_cons, List.take_zero] at m)
  refine ⟨_, (m.blk 1 rfl).row_eq rfl (Nat.le_of_ble_eq_true rfl), ?_⟩
  refine ⟨F _ (by omega) (by omega), F _ (by omega) (by omega), ?_⟩
  refine ⟨_, (m.blk 0 rfl).row_eq rfl (Nat.le_of_ble_eq_true rfl), ?_⟩
  refine ⟨_, (m.blk 0 rfl).row_eq rfl (Nat.le_of_ble_eq_true rfl), ?_⟩
  refine ⟨rfl, rfl, ?_⟩
  intro b10 h25 e1 e2
  replace m := m.push e2 e1
  clear e1 e2
  have p := pull_c (now := 1000 + 2 * iv) (target := 10) (interval := iv) (bytes := 100 * sz) (a := some ⟨b10, 0, none⟩) (cap := 2) (l := [(1000 + 2 * iv, sz), (1000 + 2 * iv, sz)]) (c := ⟨1000 + iv, D, 2, 1, true, 0, 0⟩) (h := h25)
    ⟨by omega, by omega, by decide, by decide, by unfold clampZ; omega, by unfold clampZ; omega, by show 2 ≤ _; decide, by simp; omega⟩ (Itm.blk (l := [(1000 + 2 * iv, sz), (1000 + 2 * iv, sz)]) (m.blk 0 rfl)) (by constructor <;> first | rfl | (dsimp only; omega))
  rw [show clampZ 10 1073741824 = 10 by decide, show clampZ iv 1073741824 = iv by unfold clampZ; omega] at p
  dsimp only at p
  rw [st6 s0] at p
  refine p.mono ?_
  (rintro _ hv ⟨rfl, k⟩; replace m := m.call0 (Mem.ofKept k); clear k; refine ⟨_, _, _, rfl, ?_⟩; (intro bv hv ev1 ev2; replace m := m.push ev2 ev1; clear ev1 ev2; refine ⟨⟨rfl, (m.blk 0 rfl).wrs (Nat.le_of_ble_eq_true rfl), by simp [cV, Value.oneCell']⟩, ?_⟩; intro hv ev3; replace m := m.setr 0 rfl ev3; clear ev3; simp only [List.set_cons_zero, List.set_cons_succ, setL, cV, List.drop_zero, List.take_succ_cons, List.take_zero] at m))
  have hk := m.kept
  refine segF (bcase_false rfl ⟨rfl, rfl⟩) (segF (bcase_false rfl ⟨rfl, rfl⟩) (segF (bcase_false rfl ⟨rfl, rfl⟩) (segF (bcase_false rfl ⟨rfl, rfl⟩) (bcase_false rfl (bcase_false rfl ?_)))))
  refine seg1 (h := hv) (bcase_true rfl ⟨rfl, rfl⟩) (seg1 (h := hv) (bcase_true rfl ?_) (seg1 (h := hv) (bcase_true rfl ?_) (seg1 (h := hv) (bcase_true rfl ⟨rfl, rfl⟩) (seg1 (h := hv) (bcase_true rfl ⟨rfl, rfl⟩) (seg1 (h := hv) (bcase_true rfl ?_)
    (seg1 (h := hv) (bcase_true rfl ?_) (seg1 (h := hv) (bcase_true rfl ?_) (seg1 (h := hv) (bcase_true rfl ⟨rfl, rfl⟩) (seg1 (h := hv) (bcase_true rfl ⟨rfl, rfl⟩) (seg1 (h := hv) (bcase_true rfl ?_) (seg1 (h := hv) (bcase_true rfl ?_) (seg1 (h := hv) (bcase_true rfl ?_)
    (seg1 (h := hv) (bcase_true rfl ⟨rfl, rfl⟩) (bcase_true rfl ?_))))))))))))))
  · refine ⟨_, Mem.cell m 7 rfl rfl, ?_⟩; exact ⟨rfl, rfl⟩
  · refine ⟨_, Mem.cell m 7 rfl rfl, ?_⟩; exact ⟨F _ (by omega) (by omega), by simp, rfl⟩
  · refine ⟨_, Mem.cell m 5 rfl rfl, ?_⟩; exact ⟨rfl, rfl⟩
  · refine ⟨_, Mem.cell m 5 rfl rfl, ?_⟩; exact ⟨rfl, rfl⟩
  · refine ⟨_, Mem.cell m 5 rfl rfl, ?_⟩; exact ⟨F _ (by omega) (by omega), F _ (by omega) (by omega), by simp, rfl⟩
  · refine ⟨_, Mem.cell m 3 rfl rfl, ?_⟩; exact ⟨rfl, rfl⟩
  · refine ⟨_, Mem.cell m 3 rfl rfl, ?_⟩; exact ⟨rfl, rfl⟩
  · refine ⟨_, Mem.cell m 3 rfl rfl, ?_⟩; exact ⟨F _ (by omega) (by omega), F _ (by omega) (by omega), by simp; omega, rfl⟩
  · refine ⟨_, Mem.cell m 0 rfl rfl, ?_⟩; exact ⟨rfl, hk⟩
theorem walk_CodelStands (a b : Int) (_ : (Lit.int .i64 a).wf = true) (_ : (Lit.int .i64 b).wf = true) (w : World) :
    Calls Try.prog 4 #[.int .i64 a, .int .i64 b] w fun e w' => e = .returned (.bool true) ∧ RowKit.Below w.heap.size w w' :=
  calls_of_runs (codelStands_r a b _)
end Go.Proofs.Ytpecigkicmgbdaa
