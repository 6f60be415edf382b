/- The document's ReadAdd of an Add that answers. -/
import Derived.Test.YthlacliefgliiaaDoorOther
set_option linter.unusedVariables false
set_option linter.unusedSimpArgs false
set_option maxRecDepth 8000
namespace Go.Proofs.YthlacliefgliiaaDoor
open Go.Vc
section
variable {W W' : Wd} {h h' : Heap} {G : List Grp} {E : Grp} {a a2 : Option Addr} {l r c c2 n k : Nat} {vs us : List Value} {bs xs ys to fr bss : List Int} {token tid size sq : Int}
theorem rsess_c {low high what : Int} {N : Nat} (m : Me W h G) (hb : Bts W (.slice a n c) xs) (h0 : xs[0]? = some 208) (h24 : xs[24]? = some 3) (h25 : xs[25]? = some what) (hN : xs.length = N) (h1 : low ≤ what ∧ what ≤ high) :
    Runs Tryd.prog 57 #[.slice a n c, .int .u8 low, .int .u8 high, .int .i64 (N : Int)] h fun v h' => v = .int .i64 0 ∧ h' = h := by
  have hl := (List.getElem?_eq_some_iff.1 h25).1
  obtain ⟨b', o, rfl, hn, hc, hx⟩ := bts_opn hb (by omega)
  exact vc_muezzinref1_session _ _ _ _ _ _ _ _ (dcase_neg (by omega) ⟨⟨by decide, by omega⟩, _, m.wcell (by simpa using hx 0 _ h0), bcase_false rfl ⟨⟨by decide, by omega⟩, _, m.wcell (hx 24 _ h24), bcase_false rfl ⟨⟨by decide, by omega⟩, _, m.wcell (hx 25 _ h25), dcase_neg (by omega) ⟨⟨by decide, by omega⟩, _, m.wcell (hx 25 _ h25), dcase_neg (by omega) (dcase_neg (by omega) (dcase_neg (by omega) ⟨rfl, rfl⟩))⟩⟩⟩⟩)
theorem me_setAll {b : Nat} {T : TypeId} (m : Me W h ([(b, vs, T)] :: G)) (hl : us.length = vs.length) (e : h' = setr h b 0 us) : Me W h' ([(b, us, T)] :: G) := by
  have m1 := m.setr 0 rfl e
  simp only [List.set_cons_zero] at m1
  rwa [setL_all hl] at m1
set_option maxHeartbeats 1000000 in
theorem rreadAdd_c (m : Me W h G) (hb : Bts W (.slice a n c) (ansAdd to fr bss token tid size)) (h1 : to.length = 6) (h2 : fr.length = 6) (h3 : bss.length = 6) (hk : AdOk token tid size 0) :
    Runs Tryd.prog 30 #[.slice a n c] h fun v h' => v = .tuple #[.agg (addC to fr bss true token tid size 0).toArray, .int .i64 0] ∧ ∃ W', W.le W' ∧ Me W' h' G := by
  have hL := ansAdd_len (token := token) (tid := tid) (size := size) h1 h2 h3
  obtain ⟨x1, x2, x3, x4, x5, x6, rfl⟩ := six_of h1
  obtain ⟨y1, y2, y3, y4, y5, y6, rfl⟩ := six_of h2
  obtain ⟨z1, z2, z3, z4, z5, z6, rfl⟩ := six_of h3
  obtain ⟨k1, k2, k3, k4⟩ := hk
  obtain ⟨hsb, hn, hc⟩ := bts_src hb
  rw [hL] at hn
  subst hn
  have hb0 := hb
  obtain ⟨b, o, rfl, -, -, hx⟩ := bts_opn hb (by omega)
  have s1 : ∀ {h : Heap} {G : List Grp}, Me W h G → Runs Tryd.prog 37 #[.slice (slcAddr (some ⟨b, o, none⟩) 4 c 4) (33 - 4) (c - 4)] h fun v h' => v = .agg (ints .u8 [x1, x2, x3, x4, x5, x6]).toArray ∧ Me W h' G := fun m => six_c m (bts_tail hb0 (by omega)) (by rw [List.length_drop]; omega)
  have s2 : ∀ {h : Heap} {G : List Grp}, Me W h G → Runs Tryd.prog 37 #[.slice (slcAddr (some ⟨b, o, none⟩) 10 c 10) (33 - 10) (c - 10)] h fun v h' => v = .agg (ints .u8 [y1, y2, y3, y4, y5, y6]).toArray ∧ Me W h' G := fun m => six_c m (bts_tail hb0 (by omega)) (by rw [List.length_drop]; omega)
  have s3 : ∀ {h : Heap} {G : List Grp}, Me W h G → Runs Tryd.prog 37 #[.slice (slcAddr (some ⟨b, o, none⟩) 16 c 16) (33 - 16) (c - 16)] h fun v h' => v = .agg (ints .u8 [z1, z2, z3, z4, z5, z6]).toArray ∧ Me W h' G := fun m => six_c m (bts_tail hb0 (by omega)) (by rw [List.length_drop]; omega)
  have n27 : ∀ {h : Heap} {G : List Grp}, Me W h G → Runs Tryd.prog 38 #[.slice (slcAddr (some ⟨b, o, none⟩) 27 c 27) (33 - 27) (c - 27)] h fun v h' => v = .int .i64 0 ∧ h' = h := fun m =>
    num_c m (bts_tail hb0 (k := 27) (by omega)) (x := 0) (y := 0) rfl rfl (by decide) (by decide)
  have n29 : ∀ {h : Heap} {G : List Grp}, Me W h G → Runs Tryd.prog 38 #[.slice (slcAddr (some ⟨b, o, none⟩) 29 c 29) (33 - 29) (c - 29)] h fun v h' => v = .int .i64 (2 + tid * 4 + size * 64) ∧ h' = h := fun m => by
    have := num_c m (bts_tail hb0 (k := 29) (by omega)) (x := (2 + tid * 4 + size * 64) % 256) (y := (2 + tid * 4 + size * 64) / 256 % 256) rfl rfl (by omega) (by omega)
    rwa [show (2 + tid * 4 + size * 64) % 256 + (2 + tid * 4 + size * 64) / 256 % 256 * 256 = 2 + tid * 4 + size * 64 by omega] at this
  have n31 : ∀ {h : Heap} {G : List Grp}, Me W h G → Runs Tryd.prog 38 #[.slice (slcAddr (some ⟨b, o, none⟩) 31 c 31) (33 - 31) (c - 31)] h fun v h' => v = .int .i64 0 ∧ h' = h := fun m =>
    num_c m (bts_tail hb0 (k := 31) (by omega)) (x := 0) (y := 0) rfl rfl (by decide) (by decide)
  refine vc_muezzinref1_ReadAdd _ _ _ _ _ ?_
  intro b1 g1 e1 e2
  replace m := m.push e2 e1
  refine (rsess_c (what := 1) (N := 33) m hb0 rfl rfl rfl hL (by decide)).ret ⟨_, rfl, bcase_false rfl ⟨⟨by decide, by decide⟩, ⟨by decide, by decide⟩, ⟨by decide, by decide⟩, ⟨by decide, by decide⟩, token, m.wcell (hx 26 _ rfl), by simp only [fits]; omega, ⟨?_, ?_⟩⟩⟩
  · refine (s1 m).mono ?_
    rintro _ g2 ⟨rfl, m⟩
    refine ⟨_, rfl, m.wcell (hx 26 _ rfl), ⟨?_, ?_⟩⟩
    · refine (s2 m).mono ?_
      rintro _ g3 ⟨rfl, m⟩
      refine ⟨_, rfl, m.wcell (hx 26 _ rfl), ⟨?_, ?_⟩⟩
      · refine (s3 m).mono ?_
        rintro _ g4 ⟨rfl, m⟩
        refine ⟨_, rfl, m.wcell (hx 26 _ rfl), rfl, rfl, rfl, fun bX g5 e3 e4 => ?_⟩
        replace m := m.push e4 e3
        refine ⟨⟨rfl, m.wrsb 0 rfl rfl, addC_one [x1, x2, x3, x4, x5, x6] [y1, y2, y3, y4, y5, y6] [z1, z2, z3, z4, z5, z6] false token 0 0 0⟩, fun g6 e6 => ?_⟩
        replace m := me_setAll (us := addC [x1, x2, x3, x4, x5, x6] [y1, y2, y3, y4, y5, y6] [z1, z2, z3, z4, z5, z6] false token 0 0 0) m rfl e6
        refine ⟨fun pr h => pr = 2 + tid * 4 + size * 64 ∧ Me W h ([(bX, addC [x1, x2, x3, x4, x5, x6] [y1, y2, y3, y4, y5, y6] [z1, z2, z3, z4, z5, z6] true token 0 0 0, 65)] :: [(b1, z25, 65)] :: G), ?_, fun _ => ?_⟩
        · refine ⟨⟨by decide, by decide⟩, 1, m.wcell (hx 25 _ rfl), bcase_true rfl ?_⟩
          refine m.store 0 rfl (by show 18 < 25; decide) fun g7 m => ?_
          refine ⟨⟨by decide, by decide⟩, (n27 m).ret ⟨_, rfl, ?_⟩⟩
          refine m.store 0 rfl (by show 24 < 25; decide) fun g8 m => ?_
          refine ⟨⟨by decide, by decide⟩, (n29 m).ret ⟨_, rfl, ⟨by decide, by decide⟩, (n31 m).ret ⟨_, rfl, ?_⟩⟩⟩
          refine m.store 0 rfl (by show 22 < 25; decide) fun g9 m => ?_
          exact ⟨rfl, m⟩
        · rintro _ g7 ⟨rfl, m⟩
          rw [show (2 + tid * 4 + size * 64) / 4 = tid + size * 16 by omega, show (2 + tid * 4 + size * 64) / 64 = size by omega, show (tid + size * 16) % 16 = tid by omega]
          refine ⟨⟨by omega, by decide, by simp only [fits]; omega⟩, ⟨by omega, by decide⟩, ?_⟩
          refine m.store 0 rfl (by show 20 < 25; decide) fun g8 m => ?_
          refine ⟨⟨by omega, by decide, by simp only [fits]; omega⟩, ?_⟩
          refine m.store 0 rfl (by show 21 < 25; decide) fun g9 m => ?_
          replace m : Me W g9 ([(bX, addC [x1, x2, x3, x4, x5, x6] [y1, y2, y3, y4, y5, y6] [z1, z2, z3, z4, z5, z6] true token tid size 0, 65)] :: [(b1, z25, 65)] :: G) := m
          have r9 : row g9 bX 0 25 = some (addC [x1, x2, x3, x4, x5, x6] [y1, y2, y3, y4, y5, y6] [z1, z2, z3, z4, z5, z6] true token tid size 0) := m.row 0 rfl rfl (Nat.le_of_ble_eq_true rfl)
          refine ⟨_, r9, ?_⟩
          have hB := raddBytes_c (to := [x1, x2, x3, x4, x5, x6]) (fr := [y1, y2, y3, y4, y5, y6]) (bss := [z1, z2, z3, z4, z5, z6]) (sq := 0) m rfl rfl rfl ⟨k1, k2, k3, k4⟩ true (fun _ => rfl)
          rw [if_pos rfl] at hB
          refine hB.mono ?_
          rintro _ g10 ⟨W', a8, c8, hle, rfl, m, hb8⟩
          obtain ⟨q1, q2, q3⟩ := bts_src hb8
          refine ⟨_, _, _, _, rfl, bcase_false rfl ?_⟩
          refine (sameBytes_c (m.wsrc (wsrc_le hle hsb)) hL (m.wsrc q1) q2 (by decide)).ret ⟨_, rfl, bcase_false (by simp) ?_⟩
          have r10 : row g10 bX 0 25 = some (addC [x1, x2, x3, x4, x5, x6] [y1, y2, y3, y4, y5, y6] [z1, z2, z3, z4, z5, z6] true token tid size 0) := m.row 0 rfl rfl (Nat.le_of_ble_eq_true rfl)
          refine ⟨_, r10, ⟨rfl, m.wrsb 1 rfl rfl, addC_one _ _ _ _ _ _ _ _⟩, fun g11 e11 => ?_⟩
          have m11 := m.setr 1 rfl e11
          simp only [List.set_cons_zero, List.set_cons_succ] at m11
          rw [setL_all (show (addC [x1, x2, x3, x4, x5, x6] [y1, y2, y3, y4, y5, y6] [z1, z2, z3, z4, z5, z6] true token tid size 0).length = z25.length from rfl)] at m11
          have r11 : row g11 b1 0 25 = some (addC [x1, x2, x3, x4, x5, x6] [y1, y2, y3, y4, y5, y6] [z1, z2, z3, z4, z5, z6] true token tid size 0) := m11.row 1 rfl rfl (Nat.le_of_ble_eq_true rfl)
          exact ⟨_, r11, rfl, W', hle, m11.drop1.drop1⟩
      · intro bX g4 e3 e4
        replace m := m.push e4 e3
        refine (s3 m).mono ?_
        rintro _ g5 ⟨rfl, m⟩
        refine ⟨_, rfl, m.wcell (hx 26 _ rfl), rfl, rfl, rfl, ?_⟩
        refine ⟨⟨rfl, m.wrsb 0 rfl rfl, addC_one [x1, x2, x3, x4, x5, x6] [y1, y2, y3, y4, y5, y6] [z1, z2, z3, z4, z5, z6] false token 0 0 0⟩, fun g6 e6 => ?_⟩
        replace m := me_setAll (us := addC [x1, x2, x3, x4, x5, x6] [y1, y2, y3, y4, y5, y6] [z1, z2, z3, z4, z5, z6] false token 0 0 0) m rfl e6
        refine ⟨fun pr h => pr = 2 + tid * 4 + size * 64 ∧ Me W h ([(bX, addC [x1, x2, x3, x4, x5, x6] [y1, y2, y3, y4, y5, y6] [z1, z2, z3, z4, z5, z6] true token 0 0 0, 65)] :: [(b1, z25, 65)] :: G), ?_, fun _ => ?_⟩
        · refine ⟨⟨by decide, by decide⟩, 1, m.wcell (hx 25 _ rfl), bcase_true rfl ?_⟩
          refine m.store 0 rfl (by show 18 < 25; decide) fun g7 m => ?_
          refine ⟨⟨by decide, by decide⟩, (n27 m).ret ⟨_, rfl, ?_⟩⟩
          refine m.store 0 rfl (by show 24 < 25; decide) fun g8 m => ?_
          refine ⟨⟨by decide, by decide⟩, (n29 m).ret ⟨_, rfl, ⟨by decide, by decide⟩, (n31 m).ret ⟨_, rfl, ?_⟩⟩⟩
          refine m.store 0 rfl (by show 22 < 25; decide) fun g9 m => ?_
          exact ⟨rfl, m⟩
        · rintro _ g7 ⟨rfl, m⟩
          rw [show (2 + tid * 4 + size * 64) / 4 = tid + size * 16 by omega, show (2 + tid * 4 + size * 64) / 64 = size by omega, show (tid + size * 16) % 16 = tid by omega]
          refine ⟨⟨by omega, by decide, by simp only [fits]; omega⟩, ⟨by omega, by decide⟩, ?_⟩
          refine m.store 0 rfl (by show 20 < 25; decide) fun g8 m => ?_
          refine ⟨⟨by omega, by decide, by simp only [fits]; omega⟩, ?_⟩
          refine m.store 0 rfl (by show 21 < 25; decide) fun g9 m => ?_
          replace m : Me W g9 ([(bX, addC [x1, x2, x3, x4, x5, x6] [y1, y2, y3, y4, y5, y6] [z1, z2, z3, z4, z5, z6] true token tid size 0, 65)] :: [(b1, z25, 65)] :: G) := m
          have r9 : row g9 bX 0 25 = some (addC [x1, x2, x3, x4, x5, x6] [y1, y2, y3, y4, y5, y6] [z1, z2, z3, z4, z5, z6] true token tid size 0) := m.row 0 rfl rfl (Nat.le_of_ble_eq_true rfl)
          refine ⟨_, r9, ?_⟩
          have hB := raddBytes_c (to := [x1, x2, x3, x4, x5, x6]) (fr := [y1, y2, y3, y4, y5, y6]) (bss := [z1, z2, z3, z4, z5, z6]) (sq := 0) m rfl rfl rfl ⟨k1, k2, k3, k4⟩ true (fun _ => rfl)
          rw [if_pos rfl] at hB
          refine hB.mono ?_
          rintro _ g10 ⟨W', a8, c8, hle, rfl, m, hb8⟩
          obtain ⟨q1, q2, q3⟩ := bts_src hb8
          refine ⟨_, _, _, _, rfl, bcase_false rfl ?_⟩
          refine (sameBytes_c (m.wsrc (wsrc_le hle hsb)) hL (m.wsrc q1) q2 (by decide)).ret ⟨_, rfl, bcase_false (by simp) ?_⟩
          have r10 : row g10 bX 0 25 = some (addC [x1, x2, x3, x4, x5, x6] [y1, y2, y3, y4, y5, y6] [z1, z2, z3, z4, z5, z6] true token tid size 0) := m.row 0 rfl rfl (Nat.le_of_ble_eq_true rfl)
          refine ⟨_, r10, ⟨rfl, m.wrsb 1 rfl rfl, addC_one _ _ _ _ _ _ _ _⟩, fun g11 e11 => ?_⟩
          have m11 := m.setr 1 rfl e11
          simp only [List.set_cons_zero, List.set_cons_succ] at m11
          rw [setL_all (show (addC [x1, x2, x3, x4, x5, x6] [y1, y2, y3, y4, y5, y6] [z1, z2, z3, z4, z5, z6] true token tid size 0).length = z25.length from rfl)] at m11
          have r11 : row g11 b1 0 25 = some (addC [x1, x2, x3, x4, x5, x6] [y1, y2, y3, y4, y5, y6] [z1, z2, z3, z4, z5, z6] true token tid size 0) := m11.row 1 rfl rfl (Nat.le_of_ble_eq_true rfl)
          exact ⟨_, r11, rfl, W', hle, m11.drop1.drop1⟩
    · intro bX g3 e3 e4
      replace m := m.push e4 e3
      refine (s2 m).mono ?_
      rintro _ g4 ⟨rfl, m⟩
      refine ⟨_, rfl, m.wcell (hx 26 _ rfl), ?_⟩
      refine (s3 m).mono ?_
      rintro _ g5 ⟨rfl, m⟩
      refine ⟨_, rfl, m.wcell (hx 26 _ rfl), rfl, rfl, rfl, ?_⟩
      refine ⟨⟨rfl, m.wrsb 0 rfl rfl, addC_one [x1, x2, x3, x4, x5, x6] [y1, y2, y3, y4, y5, y6] [z1, z2, z3, z4, z5, z6] false token 0 0 0⟩, fun g6 e6 => ?_⟩
      replace m := me_setAll (us := addC [x1, x2, x3, x4, x5, x6] [y1, y2, y3, y4, y5, y6] [z1, z2, z3, z4, z5, z6] false token 0 0 0) m rfl e6
      refine ⟨fun pr h => pr = 2 + tid * 4 + size * 64 ∧ Me W h ([(bX, addC [x1, x2, x3, x4, x5, x6] [y1, y2, y3, y4, y5, y6] [z1, z2, z3, z4, z5, z6] true token 0 0 0, 65)] :: [(b1, z25, 65)] :: G), ?_, fun _ => ?_⟩
      · refine ⟨⟨by decide, by decide⟩, 1, m.wcell (hx 25 _ rfl), bcase_true rfl ?_⟩
        refine m.store 0 rfl (by show 18 < 25; decide) fun g7 m => ?_
        refine ⟨⟨by decide, by decide⟩, (n27 m).ret ⟨_, rfl, ?_⟩⟩
        refine m.store 0 rfl (by show 24 < 25; decide) fun g8 m => ?_
        refine ⟨⟨by decide, by decide⟩, (n29 m).ret ⟨_, rfl, ⟨by decide, by decide⟩, (n31 m).ret ⟨_, rfl, ?_⟩⟩⟩
        refine m.store 0 rfl (by show 22 < 25; decide) fun g9 m => ?_
        exact ⟨rfl, m⟩
      · rintro _ g7 ⟨rfl, m⟩
        rw [show (2 + tid * 4 + size * 64) / 4 = tid + size * 16 by omega, show (2 + tid * 4 + size * 64) / 64 = size by omega, show (tid + size * 16) % 16 = tid by omega]
        refine ⟨⟨by omega, by decide, by simp only [fits]; omega⟩, ⟨by omega, by decide⟩, ?_⟩
        refine m.store 0 rfl (by show 20 < 25; decide) fun g8 m => ?_
        refine ⟨⟨by omega, by decide, by simp only [fits]; omega⟩, ?_⟩
        refine m.store 0 rfl (by show 21 < 25; decide) fun g9 m => ?_
        replace m : Me W g9 ([(bX, addC [x1, x2, x3, x4, x5, x6] [y1, y2, y3, y4, y5, y6] [z1, z2, z3, z4, z5, z6] true token tid size 0, 65)] :: [(b1, z25, 65)] :: G) := m
        have r9 : row g9 bX 0 25 = some (addC [x1, x2, x3, x4, x5, x6] [y1, y2, y3, y4, y5, y6] [z1, z2, z3, z4, z5, z6] true token tid size 0) := m.row 0 rfl rfl (Nat.le_of_ble_eq_true rfl)
        refine ⟨_, r9, ?_⟩
        have hB := raddBytes_c (to := [x1, x2, x3, x4, x5, x6]) (fr := [y1, y2, y3, y4, y5, y6]) (bss := [z1, z2, z3, z4, z5, z6]) (sq := 0) m rfl rfl rfl ⟨k1, k2, k3, k4⟩ true (fun _ => rfl)
        rw [if_pos rfl] at hB
        refine hB.mono ?_
        rintro _ g10 ⟨W', a8, c8, hle, rfl, m, hb8⟩
        obtain ⟨q1, q2, q3⟩ := bts_src hb8
        refine ⟨_, _, _, _, rfl, bcase_false rfl ?_⟩
        refine (sameBytes_c (m.wsrc (wsrc_le hle hsb)) hL (m.wsrc q1) q2 (by decide)).ret ⟨_, rfl, bcase_false (by simp) ?_⟩
        have r10 : row g10 bX 0 25 = some (addC [x1, x2, x3, x4, x5, x6] [y1, y2, y3, y4, y5, y6] [z1, z2, z3, z4, z5, z6] true token tid size 0) := m.row 0 rfl rfl (Nat.le_of_ble_eq_true rfl)
        refine ⟨_, r10, ⟨rfl, m.wrsb 1 rfl rfl, addC_one _ _ _ _ _ _ _ _⟩, fun g11 e11 => ?_⟩
        have m11 := m.setr 1 rfl e11
        simp only [List.set_cons_zero, List.set_cons_succ] at m11
        rw [setL_all (show (addC [x1, x2, x3, x4, x5, x6] [y1, y2, y3, y4, y5, y6] [z1, z2, z3, z4, z5, z6] true token tid size 0).length = z25.length from rfl)] at m11
        have r11 : row g11 b1 0 25 = some (addC [x1, x2, x3, x4, x5, x6] [y1, y2, y3, y4, y5, y6] [z1, z2, z3, z4, z5, z6] true token tid size 0) := m11.row 1 rfl rfl (Nat.le_of_ble_eq_true rfl)
        exact ⟨_, r11, rfl, W', hle, m11.drop1.drop1⟩
  · intro bX g2 e3 e4
    replace m := m.push e4 e3
    refine (s1 m).mono ?_
    rintro _ g3 ⟨rfl, m⟩
    refine ⟨_, rfl, m.wcell (hx 26 _ rfl), ?_⟩
    refine (s2 m).mono ?_
    rintro _ g4 ⟨rfl, m⟩
    refine ⟨_, rfl, m.wcell (hx 26 _ rfl), ?_⟩
    refine (s3 m).mono ?_
    rintro _ g5 ⟨rfl, m⟩
    refine ⟨_, rfl, m.wcell (hx 26 _ rfl), rfl, rfl, rfl, ?_⟩
    refine ⟨⟨rfl, m.wrsb 0 rfl rfl, addC_one [x1, x2, x3, x4, x5, x6] [y1, y2, y3, y4, y5, y6] [z1, z2, z3, z4, z5, z6] false token 0 0 0⟩, fun g6 e6 => ?_⟩
    replace m := me_setAll (us := addC [x1, x2, x3, x4, x5, x6] [y1, y2, y3, y4, y5, y6] [z1, z2, z3, z4, z5, z6] false token 0 0 0) m rfl e6
    refine ⟨fun pr h => pr = 2 + tid * 4 + size * 64 ∧ Me W h ([(bX, addC [x1, x2, x3, x4, x5, x6] [y1, y2, y3, y4, y5, y6] [z1, z2, z3, z4, z5, z6] true token 0 0 0, 65)] :: [(b1, z25, 65)] :: G), ?_, fun _ => ?_⟩
    · refine ⟨⟨by decide, by decide⟩, 1, m.wcell (hx 25 _ rfl), bcase_true rfl ?_⟩
      refine m.store 0 rfl (by show 18 < 25; decide) fun g7 m => ?_
      refine ⟨⟨by decide, by decide⟩, (n27 m).ret ⟨_, rfl, ?_⟩⟩
      refine m.store 0 rfl (by show 24 < 25; decide) fun g8 m => ?_
      refine ⟨⟨by decide, by decide⟩, (n29 m).ret ⟨_, rfl, ⟨by decide, by decide⟩, (n31 m).ret ⟨_, rfl, ?_⟩⟩⟩
      refine m.store 0 rfl (by show 22 < 25; decide) fun g9 m => ?_
      exact ⟨rfl, m⟩
    · rintro _ g7 ⟨rfl, m⟩
      rw [show (2 + tid * 4 + size * 64) / 4 = tid + size * 16 by omega, show (2 + tid * 4 + size * 64) / 64 = size by omega, show (tid + size * 16) % 16 = tid by omega]
      refine ⟨⟨by omega, by decide, by simp only [fits]; omega⟩, ⟨by omega, by decide⟩, ?_⟩
      refine m.store 0 rfl (by show 20 < 25; decide) fun g8 m => ?_
      refine ⟨⟨by omega, by decide, by simp only [fits]; omega⟩, ?_⟩
      refine m.store 0 rfl (by show 21 < 25; decide) fun g9 m => ?_
      replace m : Me W g9 ([(bX, addC [x1, x2, x3, x4, x5, x6] [y1, y2, y3, y4, y5, y6] [z1, z2, z3, z4, z5, z6] true token tid size 0, 65)] :: [(b1, z25, 65)] :: G) := m
      have r9 : row g9 bX 0 25 = some (addC [x1, x2, x3, x4, x5, x6] [y1, y2, y3, y4, y5, y6] [z1, z2, z3, z4, z5, z6] true token tid size 0) := m.row 0 rfl rfl (Nat.le_of_ble_eq_true rfl)
      refine ⟨_, r9, ?_⟩
      have hB := raddBytes_c (to := [x1, x2, x3, x4, x5, x6]) (fr := [y1, y2, y3, y4, y5, y6]) (bss := [z1, z2, z3, z4, z5, z6]) (sq := 0) m rfl rfl rfl ⟨k1, k2, k3, k4⟩ true (fun _ => rfl)
      rw [if_pos rfl] at hB
      refine hB.mono ?_
      rintro _ g10 ⟨W', a8, c8, hle, rfl, m, hb8⟩
      obtain ⟨q1, q2, q3⟩ := bts_src hb8
      refine ⟨_, _, _, _, rfl, bcase_false rfl ?_⟩
      refine (sameBytes_c (m.wsrc (wsrc_le hle hsb)) hL (m.wsrc q1) q2 (by decide)).ret ⟨_, rfl, bcase_false (by simp) ?_⟩
      have r10 : row g10 bX 0 25 = some (addC [x1, x2, x3, x4, x5, x6] [y1, y2, y3, y4, y5, y6] [z1, z2, z3, z4, z5, z6] true token tid size 0) := m.row 0 rfl rfl (Nat.le_of_ble_eq_true rfl)
      refine ⟨_, r10, ⟨rfl, m.wrsb 1 rfl rfl, addC_one _ _ _ _ _ _ _ _⟩, fun g11 e11 => ?_⟩
      have m11 := m.setr 1 rfl e11
      simp only [List.set_cons_zero, List.set_cons_succ] at m11
      rw [setL_all (show (addC [x1, x2, x3, x4, x5, x6] [y1, y2, y3, y4, y5, y6] [z1, z2, z3, z4, z5, z6] true token tid size 0).length = z25.length from rfl)] at m11
      have r11 : row g11 b1 0 25 = some (addC [x1, x2, x3, x4, x5, x6] [y1, y2, y3, y4, y5, y6] [z1, z2, z3, z4, z5, z6] true token tid size 0) := m11.row 1 rfl rfl (Nat.le_of_ble_eq_true rfl)
      exact ⟨_, r11, rfl, W', hle, m11.drop1.drop1⟩
end
end Go.Proofs.YthlacliefgliiaaDoor
