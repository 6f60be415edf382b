/- The walk of SchedWeights: charged the same, one of more weight is nearer to its next turn. -/
import Derived.Test.YthnmgpmgfhilhaaDoorSchedFirst
import Derived.Test.YthnmgpmgfhilhaaDoorSchedPlain2
import Derived.Test.YthnmgpmgfhilhaaDoorOpn
set_option linter.unusedVariables false
set_option linter.unusedSimpArgs false
set_option maxRecDepth 8000
namespace Go.Proofs.YthnmgpmgfhilhaaDoor
open Go.Vc
/-- Stations 4 and 9. -/
def twoS (x y : Option St) : Sts := [none, none, none, x, none, none, none, none, y, none, none, none, none, none, none, none]
theorem lt14b (i : Nat) (h : i < 14) : ∀ j, (some i : Er) = some j → j < 14 := fun j e => by cases e; exact h
theorem two_mem {o : List Int} {x y : Int} (hn : o.length = 2) (hx : x ∈ o) (hy : y ∈ o) (hne : x ≠ y) : o = [x, y] ∨ o = [y, x] := by
  match o, hn with
  | [p, q], _ =>
    simp only [List.mem_cons, List.not_mem_nil, or_false] at hx hy
    rcases hx with rfl | rfl <;> rcases hy with rfl | rfl
    · exact absurd rfl hne
    · exact .inl rfl
    · exact .inr rfl
    · exact absurd rfl hne
set_option maxHeartbeats 2000000
theorem schedWeights_r {h : Heap} {ads : List Addr} (s : Snt (Wd.of h) ads) (a b c air : Int) : Runs Tryd.prog 5 #[.int .i64 a, .int .i64 b, .int .i64 c, .int .i64 air] h fun v h' => v = .bool true ∧ Kept h h' := by
  refine vc_muezzinlaw20_SchedWeights _ _ _ _ _ _ ((schedFirst_c (Me.start h)).mono ?_)
  rintro _ h1 ⟨rfl, m⟩
  have a0 := Int.emod_nonneg a (show (100 : Int) ≠ 0 by decide)
  have a1 := Int.emod_lt_of_pos a (show (0 : Int) < 100 by decide)
  have b0 := Int.emod_nonneg b (show (100 : Int) ≠ 0 by decide)
  have b1 := Int.emod_lt_of_pos b (show (0 : Int) < 100 by decide)
  have c0 := Int.emod_nonneg c (show (100 : Int) ≠ 0 by decide)
  have c1 := Int.emod_lt_of_pos c (show (0 : Int) < 100 by decide)
  have r0 := Int.emod_nonneg air (show (1048576 : Int) ≠ 0 by decide)
  have r1 := Int.emod_lt_of_pos air (show (0 : Int) < 1048576 by decide)
  refine ⟨_, rfl, bcase_false rfl ((number_c a 100 _ (by decide) (by decide)).ret ⟨_, rfl, by simp only [fits]; omega, (number_c b 100 _ (by decide) (by decide)).ret ⟨_, rfl, by simp only [fits]; omega, (number_c c 100 _ (by decide) (by decide)).ret ⟨_, rfl, by simp only [fits]; omega, (number_c air 1048576 _ (by decide) (by decide)).ret ⟨_, rfl, ?_⟩⟩⟩⟩)⟩
  have xa0 : 1 ≤ a % 100 + 1 := by omega
  have xa1 : a % 100 + 1 ≤ 100 := by omega
  have xb0 : 1 ≤ b % 100 + 1 := by omega
  have xb1 : b % 100 + 1 ≤ 100 := by omega
  have xc0 : 1 ≤ c % 100 + 1 := by omega
  have xc1 : c % 100 + 1 ≤ 100 := by omega
  generalize a % 100 + 1 = an at *
  generalize b % 100 + 1 = bn at *
  generalize c % 100 + 1 = cn at *
  generalize air % 1048576 = rn at *
  refine (new_c m).mono ?_
  rintro _ h6 ⟨p, L, rfl, hv, m⟩
  have q1 : addS sts0 4 an = (twoS (some ⟨an, 0, false⟩) none, none) := addS_eq rfl (by decide) (by decide) xa0 xa1
  refine ⟨_, rfl, fun x h' => x = false ∧ ∃ L, ScV p (twoS (some ⟨an, 0, false⟩) none) L ∧ Me (Wd.of h) h' (L :: []), bcase_false rfl ((add_c (ads := ads) m hv (eg_of (by rw [q1]))).mono ?_), fun _ => ?_⟩
  · rintro _ h7 ⟨L1, rfl, hv1, m⟩
    rw [q1] at hv1 ⊢
    exact ⟨_, rfl, true, rfl, rfl, L1, hv1, m⟩
  clear m hv q1
  rintro _ h8 ⟨rfl, L, hv, m⟩
  have q2 : addS (twoS (some ⟨an, 0, false⟩) none) 9 bn = (twoS (some ⟨an, 0, false⟩) (some ⟨bn, 0, false⟩), none) := addS_eq rfl (by decide) (by decide) xb0 xb1
  refine ⟨fun x h' => x = false ∧ ∃ L, ScV p (twoS (some ⟨an, 0, false⟩) (some ⟨bn, 0, false⟩)) L ∧ Me (Wd.of h) h' (L :: []), bcase_false rfl ((add_c (ads := ads) m hv (eg_of (by rw [q2]))).mono ?_), fun _ => ?_⟩
  · rintro _ h7 ⟨L1, rfl, hv1, m⟩
    rw [q2] at hv1 ⊢
    exact ⟨_, rfl, true, rfl, rfl, L1, hv1, m⟩
  clear m hv q2
  rintro _ h8 ⟨rfl, L, hv, m⟩
  have q3 : activeS (twoS (some ⟨an, 0, false⟩) (some ⟨bn, 0, false⟩)) 4 true = (twoS (some ⟨an, 0, true⟩) (some ⟨bn, 0, false⟩), none) := activeS_on (s := ⟨an, 0, false⟩) rfl rfl
  refine ⟨fun x h' => x = false ∧ ∃ L, ScV p (twoS (some ⟨an, 0, true⟩) (some ⟨bn, 0, false⟩)) L ∧ Me (Wd.of h) h' (L :: []), bcase_false rfl ((active_c (ads := ads) m hv (eg_of (by rw [q3]))).mono ?_), fun _ => ?_⟩
  · rintro _ h7 ⟨L1, rfl, hv1, m⟩
    rw [q3] at hv1 ⊢
    exact ⟨_, rfl, true, rfl, rfl, L1, hv1, m⟩
  clear m hv q3
  rintro _ h8 ⟨rfl, L, hv, m⟩
  have q4 : activeS (twoS (some ⟨an, 0, true⟩) (some ⟨bn, 0, false⟩)) 9 true = (twoS (some ⟨an, 0, true⟩) (some ⟨bn, 0, true⟩), none) := activeS_on (s := ⟨bn, 0, false⟩) rfl rfl
  refine ⟨fun x h' => x = false ∧ ∃ L, ScV p (twoS (some ⟨an, 0, true⟩) (some ⟨bn, 0, true⟩)) L ∧ Me (Wd.of h) h' (L :: []), bcase_false rfl ((active_c (ads := ads) m hv (eg_of (by rw [q4]))).mono ?_), fun _ => ?_⟩
  · rintro _ h7 ⟨L1, rfl, hv1, m⟩
    rw [q4] at hv1 ⊢
    exact ⟨_, rfl, true, rfl, rfl, L1, hv1, m⟩
  clear m hv q4
  rintro _ h8 ⟨rfl, L, hv, m⟩
  have okT : ∀ (x y z : Int) (w1 w2 : Int), 1 ≤ w1 → w1 ≤ 100 → 1 ≤ w2 → w2 ≤ 100 → 0 ≤ x → x ≤ 1152921504606846976 → 0 ≤ y → y ≤ 1152921504606846976 → SOk (twoS (some ⟨w1, x, true⟩) (some ⟨w2, y, true⟩)) := by
    intro x y z w1 w2 h1 h2 h3 h4 h5 h6 h7 h8
    refine ⟨rfl, fun k s hk => ?_⟩
    have hk16 := (List.getElem?_eq_some_iff.1 hk).1
    have hk16 : k < 16 := hk16
    unfold twoS at hk
    match k, hk16 with
    | 3, _ => cases hk; exact ⟨h1, h2, h5, h6⟩
    | 8, _ => cases hk; exact ⟨h3, h4, h7, h8⟩
    | 0, _ | 1, _ | 2, _ | 4, _ | 5, _ | 6, _ | 7, _ | 9, _ | 10, _ | 11, _ | 12, _ | 13, _ | 14, _ | 15, _ => cases hk
  have dv : ∀ w : Int, 1 ≤ w → 0 ≤ 10000 * rn / w ∧ 10000 * rn / w ≤ 10000 * rn := fun w hw => ⟨Int.ediv_nonneg (by omega) (by omega), Int.ediv_le_self _ (by omega)⟩
  obtain ⟨da0, da1⟩ := dv an xa0
  obtain ⟨db0, db1⟩ := dv bn xb0
  obtain ⟨dc0, dc1⟩ := dv cn xc0
  have ct : ∀ (w t : Int) (on : Bool), 0 ≤ 10000 * rn / w → 10000 * rn / w ≤ 10000 * rn → t ≤ 100000000000 → chargeT ⟨w, t, on⟩ rn = t + 10000 * rn / w := fun w t on h1 h2 h3 => by unfold chargeT; dsimp only; omega
  have q5 : chargeS (twoS (some ⟨an, 0, true⟩) (some ⟨bn, 0, true⟩)) 4 rn = (twoS (some ⟨an, 10000 * rn / an, true⟩) (some ⟨bn, 0, true⟩), none) := by
    have := chargeS_eq (S := twoS (some ⟨an, 0, true⟩) (some ⟨bn, 0, true⟩)) (a := 4) (s := ⟨an, 0, true⟩) (air := rn) rfl r0 (by omega)
    rw [ct an 0 true da0 da1 (by decide), Int.zero_add] at this
    exact this
  refine ⟨fun x h' => x = false ∧ ∃ L, ScV p (twoS (some ⟨an, 10000 * rn / an, true⟩) (some ⟨bn, 0, true⟩)) L ∧ Me (Wd.of h) h' (L :: []), bcase_false rfl ((charge_c (ads := ads) m hv (okT _ _ 0 _ _ xa0 xa1 xb0 xb1 (by decide) (by decide) (by decide) (by decide)) (eg_of (by rw [q5]))).mono ?_), fun _ => ?_⟩
  · rintro _ h7 ⟨L1, rfl, hv1, m⟩
    rw [q5] at hv1 ⊢
    exact ⟨_, rfl, true, rfl, rfl, L1, hv1, m⟩
  clear m hv q5
  rintro _ h8 ⟨rfl, L, hv, m⟩
  have q6 : chargeS (twoS (some ⟨an, 10000 * rn / an, true⟩) (some ⟨bn, 0, true⟩)) 9 rn = (twoS (some ⟨an, 10000 * rn / an, true⟩) (some ⟨bn, 10000 * rn / bn, true⟩), none) := by
    have := chargeS_eq (S := twoS (some ⟨an, 10000 * rn / an, true⟩) (some ⟨bn, 0, true⟩)) (a := 9) (s := ⟨bn, 0, true⟩) (air := rn) rfl r0 (by omega)
    rw [ct bn 0 true db0 db1 (by decide), Int.zero_add] at this
    exact this
  refine bcase_false rfl ((charge_c (ads := ads) m hv (okT _ _ 0 _ _ xa0 xa1 xb0 xb1 da0 (by omega) (by decide) (by decide)) (eg_of (by rw [q6]))).mono ?_)
  rintro _ h9 ⟨L1, rfl, hv1, m⟩
  rw [q6] at hv1 ⊢
  clear hv q6
  refine ⟨_, rfl, true, rfl, bcase_false rfl ((time_c m hv1 4).mono ?_)⟩
  rintro _ _ ⟨rfl, rfl⟩
  refine ⟨_, _, rfl, (time_c m hv1 9).mono ?_⟩
  rintro _ _ ⟨rfl, rfl⟩
  refine ⟨_, _, rfl, ?_⟩
  intro b1 h20 e1 e2
  replace m := m.push e2 e1
  clear e1 e2
  generalize hx : 10000 * rn / an = tx at *
  generalize hy : 10000 * rn / bn = ty at *
  generalize hz : 10000 * rn / cn = tz at *
  refine ⟨fun wa wl wc h' => ∃ (B : Grp), wl = 2 ∧ Me (Wd.of h) h' (L1 :: B :: []) ∧ ∀ (h2 : Heap) (G : List Grp), Me (Wd.of h) h2 (B :: G) → src h2 wa 2 (ints .i64 (if ty < tx then [9, 4] else [4, 9])), ?_, fun _ => ?_⟩
  · refine dcase_intro (fun q => ?_) fun q => ?_
    · intro b2 h21 e1 e2
      have m2 := m.push e2 e1
      refine ⟨_, rfl, (m2.free 1 rfl).focus 1 rfl, fun h2 G m3 => ?_⟩
      rw [if_pos q]
      exact m3.row 0 rfl rfl (by simp)
    · refine ⟨_, rfl, m.focus 1 rfl, fun h2 G m3 => ?_⟩
      rw [if_neg q]
      exact m3.row 0 rfl rfl (by simp)
  clear m
  rintro wa _ wc h22 ⟨B, rfl, m, hB⟩
  refine (order_c m hv1).mono ?_
  rintro _ h23 ⟨oa, oc, o, E, rfl, ow, io, m⟩
  have hlo : o.length = 2 := io.n
  have h4 : (4 : Int) ∈ o := (io.m 4).2 ⟨⟨an, tx, true⟩, rfl, rfl⟩
  have h9 : (9 : Int) ∈ o := (io.m 9).2 ⟨⟨bn, ty, true⟩, rfl, rfl⟩
  have ho : o = if ty < tx then [9, 4] else [4, 9] := by
    rcases two_mem hlo h4 h9 (by decide) with rfl | rfl
    · obtain ⟨x, y, e1, e2, e3⟩ := (List.pairwise_cons.1 io.p).1 9 (by simp)
      cases (show some (⟨an, tx, true⟩ : St) = some x from e1)
      cases (show some (⟨bn, ty, true⟩ : St) = some y from e2)
      rw [if_neg (by dsimp only at e3; omega)]
    · obtain ⟨x, y, e1, e2, e3⟩ := (List.pairwise_cons.1 io.p).1 4 (by simp)
      cases (show some (⟨bn, ty, true⟩ : St) = some x from e1)
      cases (show some (⟨an, tx, true⟩ : St) = some y from e2)
      rw [if_pos (by dsimp only at e3; omega)]
  refine ⟨_, _, _, rfl, ?_⟩
  have q7 : weighS (twoS (some ⟨an, tx, true⟩) (some ⟨bn, ty, true⟩)) 4 cn = (twoS (some ⟨cn, tx, true⟩) (some ⟨bn, ty, true⟩), none) := weighS_eq (s := ⟨an, tx, true⟩) rfl xc0 xc1
  have m2 := m.focus 1 rfl
  simp only [List.eraseIdx_cons_succ, List.eraseIdx_cons_zero] at m2
  refine (weigh_c (ads := ads) m2 hv1 (eg_of (by rw [q7]))).mono ?_
  rintro _ h24 ⟨L2, rfl, hv2, m⟩
  rw [q7] at hv2 ⊢
  clear m2 hv1 q7
  have q8 : chargeS (twoS (some ⟨cn, tx, true⟩) (some ⟨bn, ty, true⟩)) 4 rn = (twoS (some ⟨cn, tx + tz, true⟩) (some ⟨bn, ty, true⟩), none) := by
    have := chargeS_eq (S := twoS (some ⟨cn, tx, true⟩) (some ⟨bn, ty, true⟩)) (a := 4) (s := ⟨cn, tx, true⟩) (air := rn) rfl r0 (by omega)
    rw [ct cn tx true (by omega) (by omega) (by omega), hz] at this
    exact this
  have ok8 : SOk (twoS (some ⟨cn, tx, true⟩) (some ⟨bn, ty, true⟩)) := okT _ _ 0 _ _ xc0 xc1 xb0 xb1 da0 (by omega) db0 (by omega)
  refine ⟨_, rfl, (charge_c (ads := ads) m hv2 ok8 (eg_of (by rw [q8]))).mono ?_⟩
  rintro _ h25 ⟨L3, rfl, hv3, m⟩
  rw [q8] at hv3 ⊢
  clear hv2 q8
  have ok9 : SOk (twoS (some ⟨cn, tx + tz, true⟩) (some ⟨bn, ty, true⟩)) := okT _ _ 0 _ _ xc0 xc1 xb0 xb1 (by omega) (by omega) db0 (by omega)
  refine ⟨_, rfl, (time_c m hv3 4).mono ?_⟩
  rintro _ h25 ⟨rfl, rfl⟩
  refine ⟨_, _, rfl, ?_⟩
  have hsB := m.focus 2 rfl
  have hs2 := hB _ _ hsB
  have hsO := ow.src1 m 1 rfl
  clear hsB
  refine ⟨fun x h' => x = true ∧ h' = h25, bcase_true rfl ⟨by simp only [fits]; omega, ⟨by omega, by omega, by simp only [fits]; omega⟩, decide_eq_true rfl, rfl⟩, fun _ => ?_⟩
  rintro _ h25 ⟨rfl, rfl⟩
  refine ⟨fun x h' => x = true ∧ h' = h25, bcase_true rfl ⟨by simp only [fits]; omega, ⟨by omega, by omega, by simp only [fits]; omega⟩, decide_eq_true rfl, rfl⟩, fun _ => ?_⟩
  rintro _ h25 ⟨rfl, rfl⟩
  have hsame : Runs Tryd.prog 17 #[.slice oa o.length oc, .slice wa 2 wc] h25 fun v h' => v = .bool (decide (o = if ty < tx then [9, 4] else [4, 9])) ∧ h' = h25 := by
    have hl : (if ty < tx then [9, 4] else [4, 9] : List Int).length = 2 := by split <;> rfl
    have := sameInts_c (xa := oa) (xc := oc) (yc := wc) (xs := o) (ys := if ty < tx then [9, 4] else [4, 9]) hsO (by rw [hl]; exact hs2) (by omega)
    rw [hl] at this
    exact this
  refine ⟨fun x h' => x = true ∧ h' = h25, bcase_true rfl (hsame.mono ?_), fun _ => ?_⟩
  · rintro _ _ ⟨rfl, rfl⟩
    exact ⟨_, rfl, decide_eq_true ho, rfl⟩
  clear hsame hs2 hsO
  rintro _ h25 ⟨rfl, rfl⟩
  refine ⟨fun x h' => x = true ∧ h' = h25, bcase_true rfl ⟨true, rfl, rfl, rfl⟩, fun _ => ?_⟩
  rintro _ h25 ⟨rfl, rfl⟩
  refine ⟨fun x h' => x = true ∧ h' = h25, bcase_true rfl ⟨true, rfl, rfl, rfl⟩, fun _ => ?_⟩
  rintro _ h25 ⟨rfl, rfl⟩
  refine ⟨fun x h' => x = true ∧ h' = h25, bcase_true rfl ⟨by simp only [fits]; omega, ⟨by omega, by omega, by simp only [fits]; omega⟩, by simp only [fits]; omega, decide_eq_true rfl, rfl⟩, fun _ => ?_⟩
  rintro _ h25 ⟨rfl, rfl⟩
  refine ⟨fun x h' => x = true ∧ ∃ L G, ScV p (twoS (some ⟨cn, tx + tz, true⟩) (some ⟨bn, ty, true⟩)) L ∧ Me (Wd.of h) h' (L :: G), bcase_true rfl ((weigh_c (ads := ads) (a := 5) (w := 1) m hv3 (s.eg (lt14b 6 (by decide)))).mono ?_), fun _ => ?_⟩
  · rintro _ h33 ⟨L4, rfl, hv4, m⟩
    refine ⟨_, rfl, (is_c s m (lt14b 6 (by decide)) 107).mono ?_⟩
    rintro _ h34 ⟨rfl, m⟩
    exact ⟨_, rfl, decide_eq_true rfl, _, _, hv4, m⟩
  clear m hv3
  rintro _ h35 ⟨rfl, L4, G4, hv4, m⟩
  refine ⟨fun x h' => x = true ∧ ∃ L G, ScV p (twoS (some ⟨cn, tx + tz, true⟩) (some ⟨bn, ty, true⟩)) L ∧ Me (Wd.of h) h' (L :: G), bcase_true rfl ((weigh_c (ads := ads) (a := 4) (w := 101) m hv4 (s.eg (lt14b 2 (by decide)))).mono ?_), fun _ => ?_⟩
  · rintro _ h33 ⟨L4, rfl, hv4, m⟩
    refine ⟨_, rfl, (is_c s m (lt14b 2 (by decide)) 103).mono ?_⟩
    rintro _ h34 ⟨rfl, m⟩
    exact ⟨_, rfl, decide_eq_true rfl, _, _, hv4, m⟩
  clear m hv4
  rintro _ h38 ⟨rfl, L4, G4, hv4, m⟩
  have q9 : (chargeS (twoS (some ⟨cn, tx + tz, true⟩) (some ⟨bn, ty, true⟩)) 4 (-1)).2 = some 2 := by
    have g : getS (twoS (some ⟨cn, tx + tz, true⟩) (some ⟨bn, ty, true⟩)) 4 = some ⟨cn, tx + tz, true⟩ := rfl
    unfold chargeS; rw [g]; dsimp only; rw [if_neg (by decide)]
  refine bcase_true rfl ((charge_c (ads := ads) (a := 4) (air := -1) m hv4 ok9 (by rw [q9]; exact s.eg (lt14b 2 (by decide)))).mono ?_)
  rintro _ h39 ⟨L5, rfl, hv5, m⟩
  rw [q9]
  refine ⟨_, rfl, (is_c s m (lt14b 2 (by decide)) 103).mono ?_⟩
  rintro _ h40 ⟨rfl, m⟩
  exact ⟨_, rfl, rfl, m.kept (Wd.le.refl _)⟩
theorem walk_SchedWeights (w : World) (hE : ∃ ads, Snt (Wd.of w.heap) ads) (a0 : Int) (w0 : (Lit.int .i64 a0).wf = true) (a1 : Int) (w1 : (Lit.int .i64 a1).wf = true) (a2 : Int) (w2 : (Lit.int .i64 a2).wf = true) (a3 : Int) (w3 : (Lit.int .i64 a3).wf = true) :
    Calls Tryd.prog 5 #[.int .i64 a0, .int .i64 a1, .int .i64 a2, .int .i64 a3] w fun e w' => e = .returned (.bool true) ∧ Go.RowKit.Below w.heap.size w w' := by
  obtain ⟨ads, hs⟩ := hE
  exact calls_of_runs (schedWeights_r hs a0 a1 a2 a3)
end Go.Proofs.YthnmgpmgfhilhaaDoor
