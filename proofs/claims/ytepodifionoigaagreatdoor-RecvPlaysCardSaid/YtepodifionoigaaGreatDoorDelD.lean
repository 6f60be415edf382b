import Derived.Test.YtepodifionoigaaGreatDoorDelG
import Derived.Test.YtepodifionoigaaGreatDoorAdD
set_option linter.unusedVariables false
set_option linter.unusedSimpArgs false
set_option maxRecDepth 8000
namespace Go.Proofs.YtepodifionoigaaGreatDoor
open Go.Vc
section
variable {W W' : Wd} {h h' : Heap} {G : List Grp} {E : Grp} {a a2 : Option Addr} {l r c c2 n k : Nat} {vs us : List Value} {bs xs ys to fr bss : List Int} {tid re : Int}
theorem rdelG_c (m : Me W h G) (h1 : to.length = 6) (h2 : fr.length = 6) (h3 : bss.length = 6) (k2 : 0 ≤ tid ∧ tid ≤ 15) (k4 : 0 ≤ re ∧ re ≤ 65535) (mine : Bool) :
    Runs Tryz.prog 26 #[.agg (delC3 to fr bss mine tid re).toArray] h (DelB W G to fr bss mine tid re (.int .i64 0) fun v => ∃ e : Int, v = .int .i64 e ∧ e ≠ 0) := by
  obtain ⟨x1, x2, x3, x4, x5, x6, rfl⟩ := six_of h1
  obtain ⟨y1, y2, y3, y4, y5, y6, rfl⟩ := six_of h2
  obtain ⟨z1, z2, z3, z4, z5, z6, rfl⟩ := six_of h3
  refine vc_muezzinref1_DelBytes _ _ _ ?_
  intro b1 g1 e1 e2
  replace m := m.push e2 e1
  by_cases ht7 : 7 < tid
  · exact ⟨_, m.cell 0 rfl rfl, rout_out ht7 ⟨_, rfl, bcase_true rfl ⟨W, Wd.le.refl W, m.drop1, .inr ⟨ht7, _, rfl, _, rfl, by decide⟩⟩⟩⟩
  replace ht7 : tid ≤ 7 := by omega
  refine ⟨_, m.cell 0 rfl rfl, rout_in ⟨k2.1, ht7⟩ ⟨_, rfl, bcase_false rfl ?_⟩⟩
  refine ⟨_, m.cell 0 rfl rfl, rout_in k4 ⟨_, rfl, bcase_false rfl ?_⟩⟩
  have eN : (if mine = true then (2048 : Int) else 0) + tid * 4096 = delN mine tid := by unfold delN; rw [Int.add_comm]
  have fN : fits .i64 ((if mine = true then (2048 : Int) else 0) + tid * 4096) := by simp only [fits]; split <;> omega
  refine ⟨_, m.row 0 rfl rfl (Nat.le_of_ble_eq_true rfl), _, m.row 0 rfl rfl (Nat.le_of_ble_eq_true rfl), _, m.row 0 rfl rfl (Nat.le_of_ble_eq_true rfl), mine, m.cell 0 rfl rfl, tid, m.cell 0 rfl rfl, by simp only [fits]; omega, re, m.cell 0 rfl rfl, ⟨?_, ?_⟩⟩
  · refine (rhead_c (to := [x1, x2, x3, x4, x5, x6]) (fr := [y1, y2, y3, y4, y5, y6]) (bss := [z1, z2, z3, z4, z5, z6]) m rfl rfl rfl).mono ?_
    rintro _ g2 ⟨a2, c2, E2, rfl, m, o2⟩
    refine ⟨_, _, _, rfl, m.cell 1 rfl rfl, m.cell 1 rfl rfl, m.cell 1 rfl rfl, ?_⟩
    intro b3 g3 e3 e4
    replace m := m.push e4 e3
    refine ⟨ints .u8 [2], ⟨m.row 0 rfl rfl (Nat.le_of_ble_eq_true rfl), ints_one⟩, ?_⟩
    refine o2.app m 1 rfl rfl (Nat.le_of_ble_eq_true rfl) (by decide) fun a3 c3 E3 g3 m o3 => ?_
    simp only [List.set_cons_zero, List.set_cons_succ] at m
    replace m := m.drop1
    rw [← ints_app] at o3
    refine ⟨m.cell 1 rfl rfl, m.cell 1 rfl rfl, m.cell 1 rfl rfl, (rflag_c _ _ _).ret ⟨_, rfl, m.cell 1 rfl rfl, m.cell 1 rfl rfl, fN, ?_⟩⟩
    rw [eN]
    refine (rtwo_c (bs := [208, 0, 0, 0] ++ [x1, x2, x3, x4, x5, x6] ++ [y1, y2, y3, y4, y5, y6] ++ [z1, z2, z3, z4, z5, z6] ++ [0, 0, 3] ++ [2]) _ o3 m (Nat.le_of_ble_eq_true rfl)).mono ?_
    rintro _ g4 ⟨a4, c4, E4, rfl, m, o4⟩
    refine ⟨_, _, _, rfl, m.cell 1 rfl rfl, ?_⟩
    refine (rtwo_c (bs := [208, 0, 0, 0] ++ [x1, x2, x3, x4, x5, x6] ++ [y1, y2, y3, y4, y5, y6] ++ [z1, z2, z3, z4, z5, z6] ++ [0, 0, 3] ++ [2] ++ [delN mine tid % 256, delN mine tid / 256 % 256]) _ o4 m (Nat.le_of_ble_eq_true rfl)).mono ?_
    rintro _ g5 ⟨a5, c5, E5, rfl, m, o5⟩
    refine ⟨_, _, _, rfl, ?_⟩
    obtain ⟨W', hl, m10, hb10⟩ := ow_give (l := delGB [x1, x2, x3, x4, x5, x6] [y1, y2, y3, y4, y5, y6] [z1, z2, z3, z4, z5, z6] mine tid re) o5 m
    exact ⟨W', hl, m10.drop1, .inl ⟨ht7, _, _, rfl, hb10⟩⟩
  · intro b3 g3 e3 e4
    replace m := m.push e4 e3
    refine (rhead_c (to := [x1, x2, x3, x4, x5, x6]) (fr := [y1, y2, y3, y4, y5, y6]) (bss := [z1, z2, z3, z4, z5, z6]) m rfl rfl rfl).mono ?_
    rintro _ g2 ⟨a2, c2, E2, rfl, m, o2⟩
    refine ⟨_, _, _, rfl, m.cell 2 rfl rfl, m.cell 2 rfl rfl, m.cell 2 rfl rfl, ?_⟩
    refine ⟨ints .u8 [2], ⟨m.row 1 rfl rfl (Nat.le_of_ble_eq_true rfl), ints_one⟩, ?_⟩
    refine o2.app m 0 rfl rfl (Nat.le_of_ble_eq_true rfl) (by decide) fun a3 c3 E3 g3 m o3 => ?_
    simp only [List.set_cons_zero] at m
    replace m := (me_swap m).drop1
    rw [← ints_app] at o3
    refine ⟨m.cell 1 rfl rfl, m.cell 1 rfl rfl, m.cell 1 rfl rfl, (rflag_c _ _ _).ret ⟨_, rfl, m.cell 1 rfl rfl, m.cell 1 rfl rfl, fN, ?_⟩⟩
    rw [eN]
    refine (rtwo_c (bs := [208, 0, 0, 0] ++ [x1, x2, x3, x4, x5, x6] ++ [y1, y2, y3, y4, y5, y6] ++ [z1, z2, z3, z4, z5, z6] ++ [0, 0, 3] ++ [2]) _ o3 m (Nat.le_of_ble_eq_true rfl)).mono ?_
    rintro _ g4 ⟨a4, c4, E4, rfl, m, o4⟩
    refine ⟨_, _, _, rfl, m.cell 1 rfl rfl, ?_⟩
    refine (rtwo_c (bs := [208, 0, 0, 0] ++ [x1, x2, x3, x4, x5, x6] ++ [y1, y2, y3, y4, y5, y6] ++ [z1, z2, z3, z4, z5, z6] ++ [0, 0, 3] ++ [2] ++ [delN mine tid % 256, delN mine tid / 256 % 256]) _ o4 m (Nat.le_of_ble_eq_true rfl)).mono ?_
    rintro _ g5 ⟨a5, c5, E5, rfl, m, o5⟩
    refine ⟨_, _, _, rfl, ?_⟩
    obtain ⟨W', hl, m10, hb10⟩ := ow_give (l := delGB [x1, x2, x3, x4, x5, x6] [y1, y2, y3, y4, y5, y6] [z1, z2, z3, z4, z5, z6] mine tid re) o5 m
    exact ⟨W', hl, m10.drop1, .inl ⟨ht7, _, _, rfl, hb10⟩⟩
set_option maxHeartbeats 6000000 in
theorem rreadDelG_c (m : Me W h G) (hb : Bts W (.slice a n c) xs) (hx : ∀ x ∈ xs, 0 ≤ x ∧ x < 256) :
    Runs Tryz.prog 70 #[.slice a n c] h (DelV2 W G xs (.int .i64 0) fun v => ∃ e : Int, v = .int .i64 e ∧ e ≠ 0) := by
  obtain ⟨-, hn, -⟩ := bts_src hb
  refine vc_muezzinref1_ReadDel _ _ _ _ _ ?_
  intro b1 g1 e1 e2
  replace m := m.push e2 e1
  refine (rsess_c (low := 2) (high := 2) (ws := [2]) (N := 30) m hb (fun y => by simp; omega) (by decide)).mono ?_
  rintro v g3 ⟨⟨rfl, hk⟩ | ⟨⟨e, rfl, he0⟩, hno⟩, rfl⟩
  · refine ⟨_, rfl, bcase_false rfl ?_⟩
    have hk0 := hk
    obtain ⟨hl, h0, h24, h25⟩ := hk
    have hb0 := hb
    obtain ⟨x1, x2, x3, x4, x5, x6, hX⟩ := six_of (sub6_len (xs := xs) (i := 4) (by omega))
    obtain ⟨y1, y2, y3, y4, y5, y6, hY⟩ := six_of (sub6_len (xs := xs) (i := 10) (by omega))
    obtain ⟨z1, z2, z3, z4, z5, z6, hZ⟩ := six_of (sub6_len (xs := xs) (i := 16) (by omega))
    have t4 := bts_tail hb (k := 4) (by omega)
    have t10 := bts_tail hb (k := 10) (by omega)
    have t16 := bts_tail hb (k := 16) (by omega)
    have t26 := bts_tail hb (k := 26) (by omega)
    have t28 := bts_tail hb (k := 28) (by omega)
    have hp26 := wd_bd (xs := xs) (i := 26) hx (by omega)
    have hp28 := wd_bd (xs := xs) (i := 28) hx (by omega)
    have hti : 0 ≤ dlTid xs ∧ dlTid xs ≤ 15 := by unfold dlTid; omega
    refine ⟨⟨by decide, by omega⟩, (rnumX_c m t26 hx (by omega)).ret ⟨_, rfl, ?_⟩⟩
    rw [mine_d hp26]
    refine ⟨fun p h => ∃ b5, p = some ⟨b5, 0, none⟩ ∧ Me W h ([(b5, delC3 [x1, x2, x3, x4, x5, x6] [y1, y2, y3, y4, y5, y6] [z1, z2, z3, z4, z5, z6] (dlMine xs) (dlTid xs) (wd xs 28), 81)] :: [(b1, z21g, 81)] :: G), ?_, fun _ => ?_⟩
    · refine ⟨⟨by decide, by omega⟩, ⟨by decide, by omega⟩, ⟨by decide, by omega⟩, ⟨hp26.1, by decide, by simp only [fits]; omega⟩, ⟨by decide, by omega⟩, ?_, ?_⟩
      · skip
        (refine (six_c m t4 (by rw [List.length_drop]; omega)).mono ?_; rintro _ gS ⟨rfl, mS⟩; replace m := mS; clear mS; refine ⟨ints .u8 [x1, x2, x3, x4, x5, x6], by rw [← hX]; rfl, ?_⟩)
        refine ⟨?_, ?_⟩
        · skip
          (refine (six_c m t10 (by rw [List.length_drop]; omega)).mono ?_; rintro _ gS ⟨rfl, mS⟩; replace m := mS; clear mS; refine ⟨ints .u8 [y1, y2, y3, y4, y5, y6], by rw [← hY]; rfl, ?_⟩)
          refine ⟨?_, ?_⟩
          · skip
            (refine (six_c m t16 (by rw [List.length_drop]; omega)).mono ?_; rintro _ gS ⟨rfl, mS⟩; replace m := mS; clear mS; refine ⟨ints .u8 [z1, z2, z3, z4, z5, z6], by rw [← hZ]; rfl, ?_⟩)
            refine ⟨?_, ?_⟩
            · skip
              refine (rnumX_c m t28 hx (by omega)).ret ⟨_, rfl, ?_⟩
              refine ⟨rfl, rfl, rfl, ?_⟩
              (intro bX gX eX1 eX2; replace m := m.push eX2 eX1; clear eX1 eX2)
              exact ⟨⟨rfl, m.wrsb 0 rfl rfl, delC3_one [x1, x2, x3, x4, x5, x6] [y1, y2, y3, y4, y5, y6] [z1, z2, z3, z4, z5, z6] (dlMine xs) (dlTid xs) (wd xs 28)⟩, fun g6 e6 => ⟨bX, rfl, by have m9 := m.setr 0 rfl e6; rw [setL_all (by rfl)] at m9; exact m9⟩⟩
            · skip
              (intro bX gX eX1 eX2; replace m := m.push eX2 eX1; clear eX1 eX2)
              refine (rnumX_c m t28 hx (by omega)).ret ⟨_, rfl, ?_⟩
              refine ⟨rfl, rfl, rfl, ?_⟩
              exact ⟨⟨rfl, m.wrsb 0 rfl rfl, delC3_one [x1, x2, x3, x4, x5, x6] [y1, y2, y3, y4, y5, y6] [z1, z2, z3, z4, z5, z6] (dlMine xs) (dlTid xs) (wd xs 28)⟩, fun g6 e6 => ⟨bX, rfl, by have m9 := m.setr 0 rfl e6; rw [setL_all (by rfl)] at m9; exact m9⟩⟩
          · skip
            (intro bX gX eX1 eX2; replace m := m.push eX2 eX1; clear eX1 eX2)
            (refine (six_c m t16 (by rw [List.length_drop]; omega)).mono ?_; rintro _ gS ⟨rfl, mS⟩; replace m := mS; clear mS; refine ⟨ints .u8 [z1, z2, z3, z4, z5, z6], by rw [← hZ]; rfl, ?_⟩)
            refine (rnumX_c m t28 hx (by omega)).ret ⟨_, rfl, ?_⟩
            refine ⟨rfl, rfl, rfl, ?_⟩
            exact ⟨⟨rfl, m.wrsb 0 rfl rfl, delC3_one [x1, x2, x3, x4, x5, x6] [y1, y2, y3, y4, y5, y6] [z1, z2, z3, z4, z5, z6] (dlMine xs) (dlTid xs) (wd xs 28)⟩, fun g6 e6 => ⟨bX, rfl, by have m9 := m.setr 0 rfl e6; rw [setL_all (by rfl)] at m9; exact m9⟩⟩
        · skip
          (intro bX gX eX1 eX2; replace m := m.push eX2 eX1; clear eX1 eX2)
          (refine (six_c m t10 (by rw [List.length_drop]; omega)).mono ?_; rintro _ gS ⟨rfl, mS⟩; replace m := mS; clear mS; refine ⟨ints .u8 [y1, y2, y3, y4, y5, y6], by rw [← hY]; rfl, ?_⟩)
          (refine (six_c m t16 (by rw [List.length_drop]; omega)).mono ?_; rintro _ gS ⟨rfl, mS⟩; replace m := mS; clear mS; refine ⟨ints .u8 [z1, z2, z3, z4, z5, z6], by rw [← hZ]; rfl, ?_⟩)
          refine (rnumX_c m t28 hx (by omega)).ret ⟨_, rfl, ?_⟩
          refine ⟨rfl, rfl, rfl, ?_⟩
          exact ⟨⟨rfl, m.wrsb 0 rfl rfl, delC3_one [x1, x2, x3, x4, x5, x6] [y1, y2, y3, y4, y5, y6] [z1, z2, z3, z4, z5, z6] (dlMine xs) (dlTid xs) (wd xs 28)⟩, fun g6 e6 => ⟨bX, rfl, by have m9 := m.setr 0 rfl e6; rw [setL_all (by rfl)] at m9; exact m9⟩⟩
      · skip
        (intro bX gX eX1 eX2; replace m := m.push eX2 eX1; clear eX1 eX2)
        (refine (six_c m t4 (by rw [List.length_drop]; omega)).mono ?_; rintro _ gS ⟨rfl, mS⟩; replace m := mS; clear mS; refine ⟨ints .u8 [x1, x2, x3, x4, x5, x6], by rw [← hX]; rfl, ?_⟩)
        (refine (six_c m t10 (by rw [List.length_drop]; omega)).mono ?_; rintro _ gS ⟨rfl, mS⟩; replace m := mS; clear mS; refine ⟨ints .u8 [y1, y2, y3, y4, y5, y6], by rw [← hY]; rfl, ?_⟩)
        (refine (six_c m t16 (by rw [List.length_drop]; omega)).mono ?_; rintro _ gS ⟨rfl, mS⟩; replace m := mS; clear mS; refine ⟨ints .u8 [z1, z2, z3, z4, z5, z6], by rw [← hZ]; rfl, ?_⟩)
        refine (rnumX_c m t28 hx (by omega)).ret ⟨_, rfl, ?_⟩
        refine ⟨rfl, rfl, rfl, ?_⟩
        exact ⟨⟨rfl, m.wrsb 0 rfl rfl, delC3_one [x1, x2, x3, x4, x5, x6] [y1, y2, y3, y4, y5, y6] [z1, z2, z3, z4, z5, z6] (dlMine xs) (dlTid xs) (wd xs 28)⟩, fun g6 e6 => ⟨bX, rfl, by have m9 := m.setr 0 rfl e6; rw [setL_all (by rfl)] at m9; exact m9⟩⟩
    clear m
    rintro _ g5 ⟨b5, rfl, m⟩
    refine ⟨_, m.row 0 rfl rfl (Nat.le_of_ble_eq_true rfl), ?_⟩
    refine (rdelG_c (to := [x1, x2, x3, x4, x5, x6]) (fr := [y1, y2, y3, y4, y5, y6]) (bss := [z1, z2, z3, z4, z5, z6]) m rfl rfl rfl hti hp28 (dlMine xs)).mono ?_
    clear m
    have eB : delXB xs = delGB [x1, x2, x3, x4, x5, x6] [y1, y2, y3, y4, y5, y6] [z1, z2, z3, z4, z5, z6] (dlMine xs) (dlTid xs) (wd xs 28) := by unfold delXB; rw [hX, hY, hZ]
    have eC : delX xs = delC3 [x1, x2, x3, x4, x5, x6] [y1, y2, y3, y4, y5, y6] [z1, z2, z3, z4, z5, z6] (dlMine xs) (dlTid xs) (wd xs 28) := by unfold delX; rw [hX, hY, hZ]
    unfold DelB
    rw [← eB]
    rintro _ g15 ⟨W', hle, m, ⟨ht7, a8, c8, rfl, hb8⟩ | ⟨ht7, _, rfl, e, rfl, he0⟩⟩
    · refine ⟨_, _, _, _, rfl, bcase_false rfl ?_⟩
      obtain ⟨k1, k2, k3⟩ := bts_src hb8
      obtain ⟨k4, k5, k6⟩ := bts_src hb0
      refine (sameBytes_c (m.wsrc (wsrc_le hle k4)) k5 (m.wsrc k1) k2 (by omega)).ret ⟨_, rfl, bcase_intro (fun q => ?_) fun q => ?_⟩
      · have hne := of_decide_eq_false (by simpa using q)
        refine ⟨⟨rfl, m.wrsb 1 rfl rfl, z21g_one⟩, fun g8 e8 => ?_⟩
        have m8 := m.setr 1 rfl e8
        exact ⟨_, m8.row 1 rfl rfl (Nat.le_of_ble_eq_true rfl), W', hle, m8.drop1.drop1, .inr ⟨fun hh => hne hh.2.2.symm, _, rfl, _, rfl, by decide⟩⟩
      · have he := of_decide_eq_true (by simpa using q)
        obtain ⟨Y, hY⟩ : ∃ Y, Y = delC3 [x1, x2, x3, x4, x5, x6] [y1, y2, y3, y4, y5, y6] [z1, z2, z3, z4, z5, z6] (dlMine xs) (dlTid xs) (wd xs 28) := ⟨_, rfl⟩
        have hYl : Y.length = 21 := by rw [hY]; rfl
        have hY1 : ∀ u ∈ Y, u.oneCell' = true := by rw [hY]; exact delC3_one _ _ _ _ _ _
        have hYx : delX xs = Y := by rw [eC, hY]
        rw [← hY] at m
        have hYt : (Y.drop 0).take 21 = Y := by rw [List.drop_zero]; exact List.take_of_length_le (by omega)
        refine ⟨Y, m.row 0 rfl hYt (by omega), ⟨hYl, m.wrsb 1 rfl rfl, hY1⟩, fun g8 e8 => ?_⟩
        have m8 := m.setr 1 rfl e8
        simp only [List.set_cons_succ, List.set_cons_zero] at m8
        rw [setL_all (show Y.length = z21g.length by rw [hYl]; rfl)] at m8
        exact ⟨Y, m8.row 1 rfl hYt (by omega), W', hle, m8.drop1.drop1, .inl ⟨⟨hk0, ht7, he.symm⟩, by rw [hYx]⟩⟩
    · refine ⟨_, _, _, _, rfl, bcase_true (by simp [he0]) ?_⟩
      refine ⟨⟨rfl, m.wrsb 1 rfl rfl, z21g_one⟩, fun g8 e8 => ?_⟩
      have m8 := m.setr 1 rfl e8
      exact ⟨_, m8.row 1 rfl rfl (Nat.le_of_ble_eq_true rfl), W', hle, m8.drop1.drop1, .inr ⟨fun hh => absurd hh.2.1 (by omega), _, rfl, _, rfl, by decide⟩⟩
  · refine ⟨_, rfl, bcase_true (by simp [he0]) ⟨⟨rfl, m.wrsb 0 rfl rfl, z21g_one⟩, fun g4 e5 => ?_⟩⟩
    have m2 := m.setr 0 rfl e5
    exact ⟨_, m2.row 0 rfl rfl (Nat.le_of_ble_eq_true rfl), W, Wd.le.refl W, m2.drop1, .inr ⟨fun hh => hno hh.1, _, rfl, e, rfl, he0⟩⟩
end
end Go.Proofs.YtepodifionoigaaGreatDoor
