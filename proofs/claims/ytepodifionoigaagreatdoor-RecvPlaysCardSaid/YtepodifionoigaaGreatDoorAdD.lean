import Derived.Test.YtepodifionoigaaGreatDoorAdG
set_option linter.unusedVariables false
set_option linter.unusedSimpArgs false
set_option maxRecDepth 8000
namespace Go.Proofs.YtepodifionoigaaGreatDoor
open Go.Vc
section
variable {W W' : Wd} {h h' : Heap} {G : List Grp} {E : Grp} {a a2 : Option Addr} {l r c c2 n k : Nat} {vs us : List Value} {bs xs ys to fr bss : List Int} {token tid size tmo sq st : Int}
theorem rsess_c {low high : Int} {ws : List Int} {N : Nat} (m : Me W h G) (hb : Bts W (.slice a n c) xs) (hws : ∀ y, y ∈ ws ↔ low ≤ y ∧ y ≤ high) (hN : 26 ≤ N) :
    Runs Tryz.prog 102 #[.slice a n c, .int .u8 low, .int .u8 high, .int .i64 (N : Int)] h fun v h' => ((v = .int .i64 0 ∧ actOk ws N xs) ∨ ((∃ e : Int, v = .int .i64 e ∧ e ≠ 0) ∧ ¬ actOk ws N xs)) ∧ h' = h := by
  obtain ⟨-, hn, -⟩ := bts_src hb
  by_cases hl : 26 ≤ xs.length
  · obtain ⟨b', o, rfl, -, hc, hxx⟩ := bts_opn hb (by omega)
    refine vc_muezzinref1_session _ _ _ _ _ _ _ _ (dcase_neg (by omega) ⟨⟨by decide, by omega⟩, _, m.wcell (by simpa using hxx 0 _ (get_by0 (by omega))), bcase_intro (fun q => ?_) fun q => ?_⟩)
    · exact ⟨.inr ⟨⟨_, rfl, by decide⟩, fun hh => by have := hh.2.1; simp at q; exact q this⟩, rfl⟩
    have q0 : by0 xs 0 = 208 := by simpa using q
    refine ⟨⟨by decide, by omega⟩, _, m.wcell (hxx 24 _ (get_by0 (by omega))), bcase_intro (fun q1 => ?_) fun q1 => ?_⟩
    · exact ⟨.inr ⟨⟨_, rfl, by decide⟩, fun hh => by have := hh.2.2.1; simp at q1; exact q1 this⟩, rfl⟩
    have q24 : by0 xs 24 = 3 := by simpa using q1
    refine ⟨⟨by decide, by omega⟩, _, m.wcell (hxx 25 _ (get_by0 (by omega))), dcase_intro (fun q2 => ?_) fun q2 => ?_⟩
    · exact ⟨.inr ⟨⟨_, rfl, by decide⟩, fun hh => by have := ((hws _).1 hh.2.2.2).1; omega⟩, rfl⟩
    refine ⟨⟨by decide, by omega⟩, _, m.wcell (hxx 25 _ (get_by0 (by omega))), dcase_intro (fun q3 => ?_) fun q3 => ?_⟩
    · exact ⟨.inr ⟨⟨_, rfl, by decide⟩, fun hh => by have := ((hws _).1 hh.2.2.2).2; omega⟩, rfl⟩
    refine dcase_intro (fun q4 => ⟨.inr ⟨⟨_, rfl, by decide⟩, fun hh => by have := hh.1; omega⟩, rfl⟩) fun q4 => ?_
    refine dcase_intro (fun q5 => ⟨.inr ⟨⟨_, rfl, by decide⟩, fun hh => by have := hh.1; omega⟩, rfl⟩) fun q5 => ?_
    exact ⟨.inl ⟨rfl, by omega, q0, q24, (hws _).2 ⟨by omega, by omega⟩⟩, rfl⟩
  · exact vc_muezzinref1_session _ _ _ _ _ _ _ _ (dcase_pos (by omega) ⟨.inr ⟨⟨_, rfl, by decide⟩, fun hh => by have := hh.1; omega⟩, rfl⟩)
theorem raddG_c (m : Me W h G) (h1 : to.length = 6) (h2 : fr.length = 6) (h3 : bss.length = 6) (k1 : 0 ≤ token ∧ token ≤ 255) (k2 : 0 ≤ tid ∧ tid ≤ 15) (k3 : 0 ≤ size ∧ size ≤ 1023) (k4 : 0 ≤ tmo ∧ tmo ≤ 65535) (k5 : 0 ≤ sq ∧ sq ≤ 4095) (k6 : 0 ≤ st ∧ st ≤ 65535)
    (ans : Bool) (hs : ans = true → sq = 0) (ht : ans = false → st = 0) :
    Runs Tryz.prog 25 #[.agg (addC2 to fr bss ans token tid size tmo sq st).toArray] h fun v h' => ∃ W', W.le W' ∧ Me W' h' G ∧
      ((tid ≤ 7 ∧ ∃ a c, v = .tuple #[.slice a (addGB to fr bss ans token tid size tmo sq st).length c, .int .i64 0] ∧ Bts W' (.slice a (addGB to fr bss ans token tid size tmo sq st).length c) (addGB to fr bss ans token tid size tmo sq st)) ∨ (7 < tid ∧ ∃ e : Int, v = .tuple #[.slice none 0 0, .int .i64 e] ∧ e ≠ 0)) := by
  obtain ⟨x1, x2, x3, x4, x5, x6, rfl⟩ := six_of h1
  obtain ⟨y1, y2, y3, y4, y5, y6, rfl⟩ := six_of h2
  obtain ⟨z1, z2, z3, z4, z5, z6, rfl⟩ := six_of h3
  refine vc_muezzinref1_AddBytes _ _ _ ?_
  intro b1 g1 e1 e2
  replace m := m.push e2 e1
  refine ⟨fun h => h = g1 ∧ tid ≤ 7, ?_, fun _ => ?_⟩
  · refine ⟨_, m.cell 0 rfl rfl, rout_in ⟨k1.1, k1.2⟩ ⟨_, rfl, bcase_false rfl ?_⟩⟩
    by_cases ht7 : 7 < tid
    · exact ⟨_, m.cell 0 rfl rfl, rout_out ht7 ⟨_, rfl, bcase_true rfl ⟨W, Wd.le.refl W, m.drop1, .inr ⟨ht7, _, rfl, by decide⟩⟩⟩⟩
    refine ⟨_, m.cell 0 rfl rfl, rout_in ⟨k2.1, by omega⟩ ⟨_, rfl, bcase_false rfl ?_⟩⟩
    refine ⟨_, m.cell 0 rfl rfl, rout_in ⟨k3.1, k3.2⟩ ⟨_, rfl, bcase_false rfl ?_⟩⟩
    refine ⟨_, m.cell 0 rfl rfl, rout_in k4 ⟨_, rfl, bcase_false rfl ?_⟩⟩
    refine ⟨_, m.cell 0 rfl rfl, rout_in k6 ⟨_, rfl, bcase_false rfl ?_⟩⟩
    refine ⟨_, m.cell 0 rfl rfl, rout_in ⟨k5.1, k5.2⟩ ⟨_, rfl, bcase_false rfl ?_⟩⟩
    refine ⟨ans, m.cell 0 rfl rfl, ?_⟩
    cases ans with
    | false =>
      obtain rfl := ht rfl
      exact bcase_true rfl ⟨0, m.cell 0 rfl rfl, bcase_false rfl ⟨false, m.cell 0 rfl rfl, bcase_false rfl ⟨rfl, by omega⟩⟩⟩
    | true =>
      obtain rfl := hs rfl
      exact bcase_false rfl ⟨true, m.cell 0 rfl rfl, bcase_true rfl ⟨0, m.cell 0 rfl rfl, bcase_false rfl ⟨rfl, by omega⟩⟩⟩
  · rintro _ ⟨rfl, ht7⟩
    refine ⟨ints .u8 [x1, x2, x3, x4, x5, x6], m.row 0 rfl rfl (Nat.le_of_ble_eq_true rfl), ints .u8 [y1, y2, y3, y4, y5, y6], m.row 0 rfl rfl (Nat.le_of_ble_eq_true rfl), ints .u8 [z1, z2, z3, z4, z5, z6], m.row 0 rfl rfl (Nat.le_of_ble_eq_true rfl), ?_⟩
    refine (rhead_c (to := [x1, x2, x3, x4, x5, x6]) (fr := [y1, y2, y3, y4, y5, y6]) (bss := [z1, z2, z3, z4, z5, z6]) m rfl rfl rfl).mono ?_
    rintro _ g2 ⟨a2, c2, E2, rfl, m, o2⟩
    refine ⟨_, _, _, rfl, ans, m.cell 1 rfl rfl, ?_⟩
    cases ans with
    | true =>
      refine bcase_true rfl ⟨token, m.cell 1 rfl rfl, by simp only [fits]; omega, st, m.cell 1 rfl rfl, tid, m.cell 1 rfl rfl, by simp only [fits]; omega, by simp only [fits]; omega, size, m.cell 1 rfl rfl, by simp only [fits]; omega, by simp only [fits]; omega, tmo, m.cell 1 rfl rfl, ?_⟩
      refine o2.appn m (us := ints .u8 [1, token]) rfl ints_one (Nat.le_of_ble_eq_true rfl) (by decide) fun a3 c3 E3 g3 m o3 => ?_
      rw [← ints_app] at o3
      refine ⟨m.cell 1 rfl rfl, m.cell 1 rfl rfl, m.cell 1 rfl rfl, m.cell 1 rfl rfl, ?_⟩
      refine (rtwo_c (bs := [208, 0, 0, 0] ++ [x1, x2, x3, x4, x5, x6] ++ [y1, y2, y3, y4, y5, y6] ++ [z1, z2, z3, z4, z5, z6] ++ [0, 0, 3] ++ [1, token]) st o3 m (Nat.le_of_ble_eq_true rfl)).mono ?_
      rintro _ g4 ⟨a4, c4, E4, rfl, m, o4⟩
      refine ⟨_, _, _, rfl, m.cell 1 rfl rfl, m.cell 1 rfl rfl, m.cell 1 rfl rfl, ?_⟩
      refine (rtwo_c (bs := [208, 0, 0, 0] ++ [x1, x2, x3, x4, x5, x6] ++ [y1, y2, y3, y4, y5, y6] ++ [z1, z2, z3, z4, z5, z6] ++ [0, 0, 3] ++ [1, token] ++ [st % 256, st / 256 % 256]) (2 + tid * 4 + size * 64) o4 m (Nat.le_of_ble_eq_true rfl)).mono ?_
      rintro _ g5 ⟨a5, c5, E5, rfl, m, o5⟩
      refine ⟨_, _, _, rfl, m.cell 1 rfl rfl, ?_⟩
      refine (rtwo_c (bs := [208, 0, 0, 0] ++ [x1, x2, x3, x4, x5, x6] ++ [y1, y2, y3, y4, y5, y6] ++ [z1, z2, z3, z4, z5, z6] ++ [0, 0, 3] ++ [1, token] ++ [st % 256, st / 256 % 256] ++ [(2 + tid * 4 + size * 64) % 256, (2 + tid * 4 + size * 64) / 256 % 256]) tmo o5 m (Nat.le_of_ble_eq_true rfl)).mono ?_
      rintro _ g6 ⟨a6, c6, E6, rfl, m, o6⟩
      refine ⟨_, _, _, rfl, ?_⟩
      obtain ⟨W', hle, m', hb'⟩ := ow_give (l := addGB [x1, x2, x3, x4, x5, x6] [y1, y2, y3, y4, y5, y6] [z1, z2, z3, z4, z5, z6] true token tid size tmo sq st) o6 m
      exact ⟨W', hle, m'.drop1, .inl ⟨ht7, _, _, rfl, hb'⟩⟩
    | false =>
      refine bcase_false rfl ⟨token, m.cell 1 rfl rfl, by simp only [fits]; omega, tid, m.cell 1 rfl rfl, by simp only [fits]; omega, by simp only [fits]; omega, size, m.cell 1 rfl rfl, by simp only [fits]; omega, by simp only [fits]; omega, tmo, m.cell 1 rfl rfl, sq, m.cell 1 rfl rfl, by simp only [fits]; omega, ?_⟩
      refine o2.appn m (us := ints .u8 [0, token]) rfl ints_one (Nat.le_of_ble_eq_true rfl) (by decide) fun a3 c3 E3 g3 m o3 => ?_
      rw [← ints_app] at o3
      refine ⟨m.cell 1 rfl rfl, m.cell 1 rfl rfl, m.cell 1 rfl rfl, m.cell 1 rfl rfl, ?_⟩
      refine (rtwo_c (bs := [208, 0, 0, 0] ++ [x1, x2, x3, x4, x5, x6] ++ [y1, y2, y3, y4, y5, y6] ++ [z1, z2, z3, z4, z5, z6] ++ [0, 0, 3] ++ [0, token]) (2 + tid * 4 + size * 64) o3 m (Nat.le_of_ble_eq_true rfl)).mono ?_
      rintro _ g4 ⟨a4, c4, E4, rfl, m, o4⟩
      refine ⟨_, _, _, rfl, m.cell 1 rfl rfl, m.cell 1 rfl rfl, ?_⟩
      refine (rtwo_c (bs := [208, 0, 0, 0] ++ [x1, x2, x3, x4, x5, x6] ++ [y1, y2, y3, y4, y5, y6] ++ [z1, z2, z3, z4, z5, z6] ++ [0, 0, 3] ++ [0, token] ++ [(2 + tid * 4 + size * 64) % 256, (2 + tid * 4 + size * 64) / 256 % 256]) tmo o4 m (Nat.le_of_ble_eq_true rfl)).mono ?_
      rintro _ g5 ⟨a5, c5, E5, rfl, m, o5⟩
      refine ⟨_, _, _, rfl, m.cell 1 rfl rfl, ?_⟩
      refine (rtwo_c (bs := [208, 0, 0, 0] ++ [x1, x2, x3, x4, x5, x6] ++ [y1, y2, y3, y4, y5, y6] ++ [z1, z2, z3, z4, z5, z6] ++ [0, 0, 3] ++ [0, token] ++ [(2 + tid * 4 + size * 64) % 256, (2 + tid * 4 + size * 64) / 256 % 256] ++ [tmo % 256, tmo / 256 % 256]) (sq * 16) o5 m (Nat.le_of_ble_eq_true rfl)).mono ?_
      rintro _ g6 ⟨a6, c6, E6, rfl, m, o6⟩
      refine ⟨_, _, _, rfl, ?_⟩
      obtain ⟨W', hle, m', hb'⟩ := ow_give (l := addGB [x1, x2, x3, x4, x5, x6] [y1, y2, y3, y4, y5, y6] [z1, z2, z3, z4, z5, z6] false token tid size tmo sq st) o6 m
      exact ⟨W', hle, m'.drop1, .inl ⟨ht7, _, _, rfl, hb'⟩⟩
theorem rnumX_c {o : Nat} (m : Me W h G) (hb : Bts W (.slice a n c) (xs.drop o)) (hx : ∀ x ∈ xs, 0 ≤ x ∧ x < 256) (hl : o + 1 < xs.length) :
    Runs Tryz.prog 85 #[.slice a n c] h fun v h' => v = .int .i64 (wd xs o) ∧ h' = h :=
  num_c m hb (get_drop (k := 0) (by omega)) (get_drop (k := 1) hl) (hx _ (by0_mem (by omega))) (hx _ (by0_mem (by omega)))
set_option maxHeartbeats 6000000 in
theorem rreadAddG_c (m : Me W h G) (hb : Bts W (.slice a n c) xs) (hx : ∀ x ∈ xs, 0 ≤ x ∧ x < 256) :
    Runs Tryz.prog 69 #[.slice a n c] h (AddV2 W G xs (.int .i64 0) fun v => ∃ e : Int, v = .int .i64 e ∧ e ≠ 0) := by
  obtain ⟨-, hn, -⟩ := bts_src hb
  refine vc_muezzinref1_ReadAdd _ _ _ _ _ ?_
  intro b1 g1 e1 e2
  replace m := m.push e2 e1
  refine (rsess_c (low := 0) (high := 1) (ws := [0, 1]) (N := 33) m hb (fun y => by simp; omega) (by decide)).mono ?_
  rintro v g3 ⟨⟨rfl, hk⟩ | ⟨⟨e, rfl, he0⟩, hno⟩, rfl⟩
  · refine ⟨_, rfl, bcase_false rfl ?_⟩
    have hk0 := hk
    obtain ⟨hl, h0, h24, h25⟩ := hk
    have hb0 := hb
    obtain ⟨bb, o, rfl, -, hc, hxx⟩ := bts_opn hb (by omega)
    have cw : ∀ k, k < 33 → wcell W bb (o + k) = some (.int .u8 (by0 xs k)) := fun k hk => hxx k _ (get_by0 (by omega))
    have r26 := hx _ (by0_mem (xs := xs) (k := 26) (by omega))
    obtain ⟨x1, x2, x3, x4, x5, x6, hX⟩ := six_of (sub6_len (xs := xs) (i := 4) (by omega))
    obtain ⟨y1, y2, y3, y4, y5, y6, hY⟩ := six_of (sub6_len (xs := xs) (i := 10) (by omega))
    obtain ⟨z1, z2, z3, z4, z5, z6, hZ⟩ := six_of (sub6_len (xs := xs) (i := 16) (by omega))
    obtain ⟨tk, htk⟩ : ∃ tk, tk = by0 xs 26 := ⟨_, rfl⟩
    obtain ⟨an, han⟩ : ∃ an, an = decide (by0 xs 25 = 1) := ⟨_, rfl⟩
    have t4 := bts_tail hb (k := 4) (by omega)
    have t10 := bts_tail hb (k := 10) (by omega)
    have t16 := bts_tail hb (k := 16) (by omega)
    have t27 := bts_tail hb (k := 27) (by omega)
    have t29 := bts_tail hb (k := 29) (by omega)
    have t31 := bts_tail hb (k := 31) (by omega)
    have hp27 := wd_bd (xs := xs) (i := 27) hx (by omega)
    have hp29 := wd_bd (xs := xs) (i := 29) hx (by omega)
    have hp31 := wd_bd (xs := xs) (i := 31) hx (by omega)
    refine ⟨fun p h => ∃ b5, p = some ⟨b5, 0, none⟩ ∧ Me W h ([(b5, addC2 [x1, x2, x3, x4, x5, x6] [y1, y2, y3, y4, y5, y6] [z1, z2, z3, z4, z5, z6] false tk 0 0 0 0 0, 78)] :: [(b1, z25g, 78)] :: G), ?_, fun _ => ?_⟩
    · refine ⟨⟨by decide, by omega⟩, ⟨by decide, by omega⟩, ⟨by decide, by omega⟩, ⟨by decide, by omega⟩, _, m.wcell (cw 26 (by decide)), by simp only [fits]; omega, ?_, ?_⟩
      · skip
        (refine (six_c m t4 (by rw [List.length_drop]; omega)).mono ?_; rintro _ gS ⟨rfl, mS⟩; replace m := mS; clear mS; refine ⟨ints .u8 [x1, x2, x3, x4, x5, x6], by rw [← hX]; rfl, m.wcell (cw 26 (by decide)), ?_⟩)
        refine ⟨?_, ?_⟩
        · skip
          (refine (six_c m t10 (by rw [List.length_drop]; omega)).mono ?_; rintro _ gS ⟨rfl, mS⟩; replace m := mS; clear mS; refine ⟨ints .u8 [y1, y2, y3, y4, y5, y6], by rw [← hY]; rfl, m.wcell (cw 26 (by decide)), ?_⟩)
          refine ⟨?_, ?_⟩
          · skip
            (refine (six_c m t16 (by rw [List.length_drop]; omega)).mono ?_; rintro _ gS ⟨rfl, mS⟩; replace m := mS; clear mS; refine ⟨ints .u8 [z1, z2, z3, z4, z5, z6], by rw [← hZ]; rfl, m.wcell (cw 26 (by decide)), ?_⟩)
            refine ⟨rfl, rfl, rfl, ?_⟩
            (intro bX gX eX1 eX2; replace m := m.push eX2 eX1; clear eX1 eX2)
            rw [← htk]
            exact ⟨⟨rfl, m.wrsb 0 rfl rfl, addC2_one [x1, x2, x3, x4, x5, x6] [y1, y2, y3, y4, y5, y6] [z1, z2, z3, z4, z5, z6] false tk 0 0 0 0 0⟩, fun g6 e6 => ⟨bX, rfl, by have m9 := m.setr 0 rfl e6; rw [setL_all (by rfl)] at m9; exact m9⟩⟩
          · skip
            (intro bX gX eX1 eX2; replace m := m.push eX2 eX1; clear eX1 eX2)
            (refine (six_c m t16 (by rw [List.length_drop]; omega)).mono ?_; rintro _ gS ⟨rfl, mS⟩; replace m := mS; clear mS; refine ⟨ints .u8 [z1, z2, z3, z4, z5, z6], by rw [← hZ]; rfl, m.wcell (cw 26 (by decide)), ?_⟩)
            refine ⟨rfl, rfl, rfl, ?_⟩
            rw [← htk]
            exact ⟨⟨rfl, m.wrsb 0 rfl rfl, addC2_one [x1, x2, x3, x4, x5, x6] [y1, y2, y3, y4, y5, y6] [z1, z2, z3, z4, z5, z6] false tk 0 0 0 0 0⟩, fun g6 e6 => ⟨bX, rfl, by have m9 := m.setr 0 rfl e6; rw [setL_all (by rfl)] at m9; exact m9⟩⟩
        · skip
          (intro bX gX eX1 eX2; replace m := m.push eX2 eX1; clear eX1 eX2)
          (refine (six_c m t10 (by rw [List.length_drop]; omega)).mono ?_; rintro _ gS ⟨rfl, mS⟩; replace m := mS; clear mS; refine ⟨ints .u8 [y1, y2, y3, y4, y5, y6], by rw [← hY]; rfl, m.wcell (cw 26 (by decide)), ?_⟩)
          (refine (six_c m t16 (by rw [List.length_drop]; omega)).mono ?_; rintro _ gS ⟨rfl, mS⟩; replace m := mS; clear mS; refine ⟨ints .u8 [z1, z2, z3, z4, z5, z6], by rw [← hZ]; rfl, m.wcell (cw 26 (by decide)), ?_⟩)
          refine ⟨rfl, rfl, rfl, ?_⟩
          rw [← htk]
          exact ⟨⟨rfl, m.wrsb 0 rfl rfl, addC2_one [x1, x2, x3, x4, x5, x6] [y1, y2, y3, y4, y5, y6] [z1, z2, z3, z4, z5, z6] false tk 0 0 0 0 0⟩, fun g6 e6 => ⟨bX, rfl, by have m9 := m.setr 0 rfl e6; rw [setL_all (by rfl)] at m9; exact m9⟩⟩
      · skip
        (intro bX gX eX1 eX2; replace m := m.push eX2 eX1; clear eX1 eX2)
        (refine (six_c m t4 (by rw [List.length_drop]; omega)).mono ?_; rintro _ gS ⟨rfl, mS⟩; replace m := mS; clear mS; refine ⟨ints .u8 [x1, x2, x3, x4, x5, x6], by rw [← hX]; rfl, m.wcell (cw 26 (by decide)), ?_⟩)
        (refine (six_c m t10 (by rw [List.length_drop]; omega)).mono ?_; rintro _ gS ⟨rfl, mS⟩; replace m := mS; clear mS; refine ⟨ints .u8 [y1, y2, y3, y4, y5, y6], by rw [← hY]; rfl, m.wcell (cw 26 (by decide)), ?_⟩)
        (refine (six_c m t16 (by rw [List.length_drop]; omega)).mono ?_; rintro _ gS ⟨rfl, mS⟩; replace m := mS; clear mS; refine ⟨ints .u8 [z1, z2, z3, z4, z5, z6], by rw [← hZ]; rfl, m.wcell (cw 26 (by decide)), ?_⟩)
        refine ⟨rfl, rfl, rfl, ?_⟩
        rw [← htk]
        exact ⟨⟨rfl, m.wrsb 0 rfl rfl, addC2_one [x1, x2, x3, x4, x5, x6] [y1, y2, y3, y4, y5, y6] [z1, z2, z3, z4, z5, z6] false tk 0 0 0 0 0⟩, fun g6 e6 => ⟨bX, rfl, by have m9 := m.setr 0 rfl e6; rw [setL_all (by rfl)] at m9; exact m9⟩⟩
    clear m
    rintro _ g5 ⟨b5, rfl, m⟩
    refine ⟨fun p h => p = adPar xs ∧ Me W h ([(b5, addC2 [x1, x2, x3, x4, x5, x6] [y1, y2, y3, y4, y5, y6] [z1, z2, z3, z4, z5, z6] an tk 0 0 (wd xs (adOff xs + 2)) (adSq xs) (adSt xs), 78)] :: [(b1, z25g, 78)] :: G), ?_, fun _ => ?_⟩
    · refine ⟨⟨by decide, by omega⟩, _, m.wcell (cw 25 (by decide)), dcase_intro (fun q => ?_) fun q => ?_⟩
      · have ha : adAns xs = true := by unfold adAns; simp [q]
        have ha2 : an = true := by rw [han]; simp [q]
        have ho : adOff xs = 29 := by unfold adOff; rw [ha]; rfl
        have hst : adSt xs = wd xs 27 := by unfold adSt; rw [ha]; rfl
        have hsq : adSq xs = 0 := by unfold adSq; rw [ha]; rfl
        have hpar : adPar xs = wd xs 29 := by unfold adPar; rw [ho]
        rw [hpar, ho, hst, hsq, ha2]
        refine m.store 0 rfl (Nat.le_of_ble_eq_true rfl) fun g6 m6 => ?_
        refine ⟨⟨by decide, by omega⟩, (rnumX_c m6 t27 hx (by omega)).ret ⟨_, rfl, ?_⟩⟩
        refine m6.store 0 rfl (Nat.le_of_ble_eq_true rfl) fun g7 m7 => ?_
        refine ⟨⟨by decide, by omega⟩, (rnumX_c m7 t29 hx (by omega)).ret ⟨_, rfl, ⟨by decide, by omega⟩, (rnumX_c m7 t31 hx (by omega)).ret ⟨_, rfl, ?_⟩⟩⟩
        exact m7.store 0 rfl (Nat.le_of_ble_eq_true rfl) fun g8 m8 => ⟨rfl, m8⟩
      · have ha : adAns xs = false := by unfold adAns; simp [q]
        have ha2 : an = false := by rw [han]; simp [q]
        have ho : adOff xs = 27 := by unfold adOff; rw [ha]; rfl
        have hst : adSt xs = 0 := by unfold adSt; rw [ha]; rfl
        have hsq : adSq xs = wd xs 31 / 16 := by unfold adSq; rw [ha]; rfl
        have hpar : adPar xs = wd xs 27 := by unfold adPar; rw [ho]
        rw [hpar, ho, hst, hsq, ha2]
        refine ⟨⟨by decide, by omega⟩, (rnumX_c m t27 hx (by omega)).ret ⟨_, rfl, ⟨by decide, by omega⟩, (rnumX_c m t29 hx (by omega)).ret ⟨_, rfl, ?_⟩⟩⟩
        refine m.store 0 rfl (Nat.le_of_ble_eq_true rfl) fun g6 m6 => ?_
        refine ⟨⟨by decide, by omega⟩, (rnumX_c m6 t31 hx (by omega)).ret ⟨_, rfl, ⟨hp31.1, by decide, by simp only [fits]; omega⟩, ?_⟩⟩
        exact m6.store 0 rfl (Nat.le_of_ble_eq_true rfl) fun g7 m7 => ⟨rfl, m7⟩
    clear m
    rintro _ g9 ⟨rfl, m⟩
    have hoff : adOff xs ≤ 29 := by unfold adOff; split <;> decide
    have hp : 0 ≤ adPar xs ∧ adPar xs ≤ 65535 := wd_bd hx (by omega)
    have hp2 := wd_bd (xs := xs) (i := adOff xs + 2) hx (by omega)
    have etid : adPar xs / 4 % 16 = adTid xs := by unfold adTid; omega
    refine ⟨⟨hp.1, by decide, by simp only [fits]; omega⟩, ⟨by omega, by decide⟩, ?_⟩
    rw [etid]
    refine m.store 0 rfl (Nat.le_of_ble_eq_true rfl) fun g10 m10 => ?_
    refine ⟨⟨hp.1, by decide, by simp only [fits]; omega⟩, ?_⟩
    refine m10.store 0 rfl (Nat.le_of_ble_eq_true rfl) fun g11 m11 => ?_
    clear m m10
    replace m11 : Me W g11 ([(b5, addC2 [x1, x2, x3, x4, x5, x6] [y1, y2, y3, y4, y5, y6] [z1, z2, z3, z4, z5, z6] an tk (adTid xs) (adSize xs) (wd xs (adOff xs + 2)) (adSq xs) (adSt xs), 78)] :: [(b1, z25g, 78)] :: G) := m11
    refine ⟨_, m11.row 0 rfl rfl (Nat.le_of_ble_eq_true rfl), ?_⟩
    have hst : 0 ≤ adSt xs ∧ adSt xs ≤ 65535 := by
      unfold adSt; split
      · exact hp27
      · exact ⟨by decide, by decide⟩
    have hsq : 0 ≤ adSq xs ∧ adSq xs ≤ 4095 := by
      unfold adSq; split
      · exact ⟨by decide, by decide⟩
      · omega
    have hti : 0 ≤ adTid xs ∧ adTid xs ≤ 15 := by unfold adTid; omega
    have hsz : 0 ≤ adSize xs ∧ adSize xs ≤ 1023 := by unfold adSize; omega
    have ea : adAns xs = an := han.symm
    refine (raddG_c (to := [x1, x2, x3, x4, x5, x6]) (fr := [y1, y2, y3, y4, y5, y6]) (bss := [z1, z2, z3, z4, z5, z6]) m11 rfl rfl rfl (by rw [htk]; omega) hti hsz hp2 hsq hst an (fun q => by unfold adSq; rw [ea, q]; rfl) (fun q => by unfold adSt; rw [ea, q]; rfl)).mono ?_
    have eB : addXB xs = addGB [x1, x2, x3, x4, x5, x6] [y1, y2, y3, y4, y5, y6] [z1, z2, z3, z4, z5, z6] an tk (adTid xs) (adSize xs) (wd xs (adOff xs + 2)) (adSq xs) (adSt xs) := by unfold addXB; rw [hX, hY, hZ, ea, ← htk]
    have eC : addX xs = addC2 [x1, x2, x3, x4, x5, x6] [y1, y2, y3, y4, y5, y6] [z1, z2, z3, z4, z5, z6] an tk (adTid xs) (adSize xs) (wd xs (adOff xs + 2)) (adSq xs) (adSt xs) := by unfold addX; rw [hX, hY, hZ, ea, ← htk]
    rw [← eB]
    clear m11
    rintro _ g15 ⟨W', hle, m, ⟨ht7, a8, c8, rfl, hb8⟩ | ⟨ht7, e, rfl, he0⟩⟩
    · refine ⟨_, _, _, _, rfl, bcase_false rfl ?_⟩
      obtain ⟨k1, k2, k3⟩ := bts_src hb8
      obtain ⟨k4, k5, k6⟩ := bts_src hb0
      refine (sameBytes_c (m.wsrc (wsrc_le hle k4)) k5 (m.wsrc k1) k2 (by omega)).ret ⟨_, rfl, bcase_intro (fun q => ?_) fun q => ?_⟩
      · have hne := of_decide_eq_false (by simpa using q)
        refine ⟨⟨rfl, m.wrsb 1 rfl rfl, z25g_one⟩, fun g8 e8 => ?_⟩
        have m8 := m.setr 1 rfl e8
        exact ⟨_, m8.row 1 rfl rfl (Nat.le_of_ble_eq_true rfl), W', hle, m8.drop1.drop1, .inr ⟨fun hh => hne hh.2.2.symm, _, rfl, _, rfl, by decide⟩⟩
      · have he := of_decide_eq_true (by simpa using q)
        obtain ⟨Y, hY⟩ : ∃ Y, Y = addC2 [x1, x2, x3, x4, x5, x6] [y1, y2, y3, y4, y5, y6] [z1, z2, z3, z4, z5, z6] an tk (adTid xs) (adSize xs) (wd xs (adOff xs + 2)) (adSq xs) (adSt xs) := ⟨_, rfl⟩
        have hYl : Y.length = 25 := by rw [hY]; rfl
        have hY1 : ∀ u ∈ Y, u.oneCell' = true := by rw [hY]; exact addC2_one _ _ _ _ _ _ _ _ _ _
        have hYx : addX xs = Y := by rw [eC, hY]
        rw [← hY] at m
        have hYt : (Y.drop 0).take 25 = Y := by rw [List.drop_zero]; exact List.take_of_length_le (by omega)
        refine ⟨Y, m.row 0 rfl hYt (by omega), ⟨hYl, m.wrsb 1 rfl rfl, hY1⟩, fun g8 e8 => ?_⟩
        have m8 := m.setr 1 rfl e8
        simp only [List.set_cons_succ, List.set_cons_zero] at m8
        rw [setL_all (show Y.length = z25g.length by rw [hYl]; rfl)] at m8
        exact ⟨Y, m8.row 1 rfl hYt (by omega), W', hle, m8.drop1.drop1, .inl ⟨⟨hk0, ht7, he.symm⟩, by rw [hYx]⟩⟩
    · refine ⟨_, _, _, _, rfl, bcase_true (by simp [he0]) ?_⟩
      refine ⟨⟨rfl, m.wrsb 1 rfl rfl, z25g_one⟩, fun g8 e8 => ?_⟩
      have m8 := m.setr 1 rfl e8
      exact ⟨_, m8.row 1 rfl rfl (Nat.le_of_ble_eq_true rfl), W', hle, m8.drop1.drop1, .inr ⟨fun hh => absurd hh.2.1 (by omega), _, rfl, _, rfl, by decide⟩⟩
  · refine ⟨_, rfl, bcase_true (by simp [he0]) ⟨⟨rfl, m.wrsb 0 rfl rfl, z25g_one⟩, fun g4 e5 => ?_⟩⟩
    have m2 := m.setr 0 rfl e5
    exact ⟨_, m2.row 0 rfl rfl (Nat.le_of_ble_eq_true rfl), W, Wd.le.refl W, m2.drop1, .inr ⟨fun hh => hno hh.1, _, rfl, e, rfl, he0⟩⟩
end
end Go.Proofs.YtepodifionoigaaGreatDoor
