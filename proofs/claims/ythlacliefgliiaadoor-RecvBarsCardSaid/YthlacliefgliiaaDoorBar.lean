/- Questions: a Bar's bytes, built by the document's BarBytes, read by ctl.ReadBar; a station that is asked. -/
import Derived.Test.YthlacliefgliiaaDoorOther
import Derived.Test.YthlacliefgliiaaDoorOff2
set_option linter.unusedVariables false
set_option linter.unusedSimpArgs false
set_option maxRecDepth 8000
namespace Go.Proofs.YthlacliefgliiaaDoor
open Go.Vc
/-- A Bar's cells. -/
def barC (to fr : List Int) (tid sq : Int) : List Value := ints .u8 to ++ (ints .u8 fr ++ [.int .i64 tid, .int .i64 sq])
theorem barC_one (to fr : List Int) (tid sq : Int) : ∀ u ∈ barC to fr tid sq, u.oneCell' = true := by
  intro u hu
  unfold barC at hu
  simp only [List.mem_append] at hu
  rcases hu with hu | hu | hu
  · exact ints_one u hu
  · exact ints_one u hu
  · simp only [List.mem_cons, List.not_mem_nil, or_false] at hu
    rcases hu with rfl | rfl <;> rfl
section
variable {W W' : Wd} {h h' : Heap} {G : List Grp} {E : Grp} {a a2 : Option Addr} {l r c c2 n k : Nat} {vs us : List Value} {bs xs ys to fr : List Int} {tid sq : Int}
theorem cnum_c {x y : Int} (m : Me W h G) (hb : Bts W (.slice a n c) xs) (h0 : xs[0]? = some x) (h1 : xs[1]? = some y) (hx : 0 ≤ x ∧ x < 256) (hy : 0 ≤ y ∧ y < 256) :
    Runs Tryd.prog 83 #[.slice a n c] h fun v h' => v = .int .i64 (x + y * 256) ∧ h' = h := by
  have hl := (List.getElem?_eq_some_iff.1 h1).1
  obtain ⟨b, o, rfl, hn, hc, hcl⟩ := bts_opn hb (by omega)
  refine vc_ctl_number _ _ _ _ _ ⟨⟨by decide, by omega⟩, x, m.wcell (by simpa using hcl 0 x h0), by simp only [fits]; omega, ⟨by decide, by omega⟩, y, m.wcell (hcl 1 y h1), by simp only [fits]; omega, by decide, by simp only [fits]; omega, ?_, rfl⟩
  rw [or_lo hx hy]
/-- The document's bytes of a Bar. -/
theorem rbarBytes_c (m : Me W h G) (h1 : to.length = 6) (h2 : fr.length = 6) (ht : 0 ≤ tid ∧ tid ≤ 7) (hs : 0 ≤ sq ∧ sq ≤ 4095) :
    Runs Tryd.prog 28 #[.agg (barC to fr tid sq).toArray] h (Bmade W G (askB 132 to fr tid sq) fun v => .tuple #[v, .int .i64 0]) := by
  have hL := askB_len (tid := tid) (sq := sq) 132 h1 h2
  obtain ⟨x1, x2, x3, x4, x5, x6, rfl⟩ := six_of h1
  obtain ⟨y1, y2, y3, y4, y5, y6, rfl⟩ := six_of h2
  refine vc_muezzinref1_BarBytes _ _ _ ?_
  intro b1 g1 e1 e2
  replace m := m.push e2 e1
  refine ⟨_, m.cell 0 rfl rfl, rout_in ⟨ht.1, ht.2⟩ ⟨_, rfl, bcase_false rfl ?_⟩⟩
  refine ⟨_, m.cell 0 rfl rfl, rout_in ⟨hs.1, hs.2⟩ ⟨_, rfl, bcase_false rfl ?_⟩⟩
  refine ⟨_, m.row 0 rfl rfl (Nat.le_of_ble_eq_true rfl), _, m.row 0 rfl rfl (Nat.le_of_ble_eq_true rfl), tid, m.cell 0 rfl rfl, by simp only [fits]; omega, by simp only [fits]; omega, sq, m.cell 0 rfl rfl, by simp only [fits]; omega, ?_⟩
  intro b2 g2 f1 f2
  have m2 := m.push f2 f1
  have o2 : Ow (some ⟨b2, 0, none⟩) 4 4 1 (ints .u8 [132, 0, 0, 0]) [(b2, ints .u8 [132, 0, 0, 0], 5)] := Ow.fresh0 rfl
  refine (raddr_c (xs := [x1, x2, x3, x4, x5, x6]) (bs := [132, 0, 0, 0]) o2 m2 rfl (Nat.le_of_ble_eq_true rfl)).mono ?_
  rintro _ h3 ⟨a3, c3, E3, rfl, m3, o3⟩
  refine ⟨_, _, _, rfl, m3.cell 1 rfl rfl, m3.cell 1 rfl rfl, m3.row 1 rfl rfl (Nat.le_of_ble_eq_true rfl), ?_⟩
  refine (raddr_c (xs := [y1, y2, y3, y4, y5, y6]) (bs := [132, 0, 0, 0] ++ [x1, x2, x3, x4, x5, x6]) o3 m3 rfl (Nat.le_of_ble_eq_true rfl)).mono ?_
  rintro _ h4 ⟨a4, c4, E4, rfl, m4, o4⟩
  refine ⟨_, _, _, rfl, m4.cell 1 rfl rfl, m4.cell 1 rfl rfl, ?_⟩
  refine (rtwo_c (bs := [132, 0, 0, 0] ++ [x1, x2, x3, x4, x5, x6] ++ [y1, y2, y3, y4, y5, y6]) (4 + tid * 4096) o4 m4 (Nat.le_of_ble_eq_true rfl)).mono ?_
  rintro _ h5 ⟨a5, c5, E5, rfl, m5, o5⟩
  refine ⟨_, _, _, rfl, m5.cell 1 rfl rfl, m5.cell 1 rfl rfl, ?_⟩
  refine (rtwo_c (bs := [132, 0, 0, 0] ++ [x1, x2, x3, x4, x5, x6] ++ [y1, y2, y3, y4, y5, y6] ++ [(4 + tid * 4096) % 256, (4 + tid * 4096) / 256 % 256]) (sq * 16) o5 m5 (Nat.le_of_ble_eq_true rfl)).mono ?_
  rintro _ h6 ⟨a6, c6, E6, rfl, m6, o6⟩
  refine ⟨_, _, _, rfl, m6.cell 1 rfl rfl, m6.cell 1 rfl rfl, ?_⟩
  have o10 : Ow a6 (askB 132 [x1, x2, x3, x4, x5, x6] [y1, y2, y3, y4, y5, y6] tid sq).length c6 1 (ints .u8 (askB 132 [x1, x2, x3, x4, x5, x6] [y1, y2, y3, y4, y5, y6] tid sq)) E6 := by rw [hL]; exact o6
  obtain ⟨W', hl, m10, hb10⟩ := ow_give o10 m6
  exact ⟨W', a6, c6, hl, by rw [hL]; rfl, m10.drop1, hb10⟩
theorem cbarBytes_c (m : Me W h G) (h1 : to.length = 6) (h2 : fr.length = 6) (ht : 0 ≤ tid ∧ tid ≤ 7) (hs : 0 ≤ sq ∧ sq ≤ 4095) :
    Runs Tryd.prog 70 #[.agg (barC to fr tid sq).toArray] h (Bmade W G (askB 132 to fr tid sq) fun v => .tuple #[v, .nilIface]) := by
  have hL := askB_len (tid := tid) (sq := sq) 132 h1 h2
  obtain ⟨x1, x2, x3, x4, x5, x6, rfl⟩ := six_of h1
  obtain ⟨y1, y2, y3, y4, y5, y6, rfl⟩ := six_of h2
  refine vc_ctl_BarBytes _ _ _ ?_
  intro b1 g1 e1 e2
  replace m := m.push e2 e1
  refine ⟨_, m.row 0 rfl rfl (Nat.le_of_ble_eq_true rfl), _, m.row 0 rfl rfl (Nat.le_of_ble_eq_true rfl), _, m.cell 0 rfl rfl, _, m.cell 0 rfl rfl, ?_⟩
  refine (asks_c (to := [x1, x2, x3, x4, x5, x6]) (fr := [y1, y2, y3, y4, y5, y6]) 132 m rfl rfl ht hs).mono ?_
  rintro _ g2 ⟨a2, c2, E2, rfl, m, o2⟩
  refine ⟨_, _, _, _, rfl, ?_⟩
  have o10 : Ow a2 (askB 132 [x1, x2, x3, x4, x5, x6] [y1, y2, y3, y4, y5, y6] tid sq).length c2 1 (ints .u8 (askB 132 [x1, x2, x3, x4, x5, x6] [y1, y2, y3, y4, y5, y6] tid sq)) E2 := by rw [hL]; exact o2
  obtain ⟨W', hl, m10, hb10⟩ := ow_give o10 m
  exact ⟨W', a2, c2, hl, by rw [hL], m10.drop1, hb10⟩
theorem asked_c (m : Me W h G) (hb : Bts W (.slice a n c) (askB 132 to fr tid sq)) (h1 : to.length = 6) (h2 : fr.length = 6) (ht : 0 ≤ tid ∧ tid ≤ 7) (hs : 0 ≤ sq ∧ sq ≤ 4095) :
    Runs Tryd.prog 69 #[.slice a n c] h fun v h' => v = .agg (barC to fr tid sq).toArray ∧ Me W h' G := by
  have hL := askB_len (tid := tid) (sq := sq) 132 h1 h2
  obtain ⟨x1, x2, x3, x4, x5, x6, rfl⟩ := six_of h1
  obtain ⟨y1, y2, y3, y4, y5, y6, rfl⟩ := six_of h2
  obtain ⟨-, hn, -⟩ := bts_src hb
  rw [hL] at hn
  subst hn
  have t16 := bts_tail hb (k := 16) (by omega)
  have t18 := bts_tail hb (k := 18) (by omega)
  obtain ⟨ha4, -, -⟩ := bts_src (bts_tail hb (k := 4) (by omega))
  obtain ⟨ha10, -, -⟩ := bts_src (bts_tail hb (k := 10) (by omega))
  replace ha4 : wsrc W (slcAddr a 4 c 4) 6 (ints .u8 [x1, x2, x3, x4, x5, x6]) := wsrc_take (j := 6) ha4 (by omega) (by rw [ints_len, List.length_drop, hL])
  replace ha10 : wsrc W (slcAddr a 10 c 10) 6 (ints .u8 [y1, y2, y3, y4, y5, y6]) := wsrc_take (j := 6) ha10 (by omega) (by rw [ints_len, List.length_drop, hL])
  have n16 : ∀ {h : Heap} {G : List Grp}, Me W h G → Runs Tryd.prog 83 #[.slice (slcAddr a 16 c 16) (20 - 16) (c - 16)] h fun v h' => v = .int .i64 (4 + tid * 4096) ∧ h' = h := fun m => by
    have := cnum_c m t16 (x := (4 + tid * 4096) % 256) (y := (4 + tid * 4096) / 256 % 256) rfl rfl (by omega) (by omega)
    rwa [show (4 + tid * 4096) % 256 + (4 + tid * 4096) / 256 % 256 * 256 = 4 + tid * 4096 by omega] at this
  have n18 : ∀ {h : Heap} {G : List Grp}, Me W h G → Runs Tryd.prog 83 #[.slice (slcAddr a 18 c 18) (20 - 18) (c - 18)] h fun v h' => v = .int .i64 (sq * 16) ∧ h' = h := fun m => by
    have := cnum_c m t18 (x := sq * 16 % 256) (y := sq * 16 / 256 % 256) rfl rfl (by omega) (by omega)
    rwa [show sq * 16 % 256 + sq * 16 / 256 % 256 * 256 = sq * 16 by omega] at this
  have d1 : (4 + tid * 4096) / 4096 = tid := by omega
  have d2 : sq * 16 / 16 = sq := by omega
  have f1 : fits .i64 tid := by simp only [fits]; omega
  have f2 : fits .i64 sq := by simp only [fits]; omega
  refine vc_ctl_asked _ _ _ _ _ ?_
  intro b1 g1 e1 e2
  replace m := m.push e2 e1
  refine ⟨⟨by decide, by decide⟩, ⟨by decide, by decide⟩, ⟨?_, ?_⟩⟩
  · refine (n16 m).ret ⟨_, rfl, ?_⟩
    rw [d1]
    refine ⟨⟨by omega, by decide, f1⟩, ⟨?_, ?_⟩⟩
    · refine (n18 m).ret ⟨_, rfl, ?_⟩
      rw [d2]
      refine ⟨⟨by omega, by decide, f2⟩, fun bX g4 e3 e4 => ?_⟩
      replace m := m.push e4 e3
      refine ⟨⟨rfl, m.wrsb 0 rfl rfl, barC_one [0, 0, 0, 0, 0, 0] [0, 0, 0, 0, 0, 0] tid sq⟩, fun g5 e5 => ?_⟩
      replace m := m.setr 0 rfl e5
      replace m : Me W g5 ([(bX, barC [0, 0, 0, 0, 0, 0] [0, 0, 0, 0, 0, 0] tid sq, 69)] :: [(b1, z14, 69)] :: G) := m
      refine ⟨⟨by decide, by decide⟩, _, ⟨m.wsrc (rd6 ha4 (by decide)), ints_one⟩, m.wrsb 0 rfl rfl, fun g6 e6 => ?_⟩
      replace m := m.setr 0 rfl e6
      replace m : Me W g6 ([(bX, barC [x1, x2, x3, x4, x5, x6] [0, 0, 0, 0, 0, 0] tid sq, 69)] :: [(b1, z14, 69)] :: G) := m
      refine ⟨⟨by decide, by decide⟩, _, ⟨m.wsrc (rd6 ha10 (by decide)), ints_one⟩, m.wrsb 0 rfl rfl, fun g7 e7 => ?_⟩
      replace m := m.setr 0 rfl e7
      replace m : Me W g7 ([(bX, barC [x1, x2, x3, x4, x5, x6] [y1, y2, y3, y4, y5, y6] tid sq, 69)] :: [(b1, z14, 69)] :: G) := m
      have r8 : row g7 bX 0 14 = some (barC [x1, x2, x3, x4, x5, x6] [y1, y2, y3, y4, y5, y6] tid sq) := m.row 0 rfl rfl (Nat.le_of_ble_eq_true rfl)
      refine ⟨_, r8, ⟨rfl, m.wrsb 1 rfl rfl, barC_one _ _ _ _⟩, fun g8 e8 => ?_⟩
      have m8 := m.setr 1 rfl e8
      simp only [List.set_cons_zero, List.set_cons_succ] at m8
      rw [setL_all (show (barC [x1, x2, x3, x4, x5, x6] [y1, y2, y3, y4, y5, y6] tid sq).length = z14.length from rfl)] at m8
      have r9 : row g8 b1 0 14 = some (barC [x1, x2, x3, x4, x5, x6] [y1, y2, y3, y4, y5, y6] tid sq) := m8.row 1 rfl rfl (Nat.le_of_ble_eq_true rfl)
      exact ⟨_, r9, rfl, m8.drop1.drop1⟩
    · intro bX g4 e3 e4
      replace m := m.push e4 e3
      refine (n18 m).ret ⟨_, rfl, ?_⟩
      rw [d2]
      refine ⟨⟨by omega, by decide, f2⟩, ?_⟩
      refine ⟨⟨rfl, m.wrsb 0 rfl rfl, barC_one [0, 0, 0, 0, 0, 0] [0, 0, 0, 0, 0, 0] tid sq⟩, fun g5 e5 => ?_⟩
      replace m := m.setr 0 rfl e5
      replace m : Me W g5 ([(bX, barC [0, 0, 0, 0, 0, 0] [0, 0, 0, 0, 0, 0] tid sq, 69)] :: [(b1, z14, 69)] :: G) := m
      refine ⟨⟨by decide, by decide⟩, _, ⟨m.wsrc (rd6 ha4 (by decide)), ints_one⟩, m.wrsb 0 rfl rfl, fun g6 e6 => ?_⟩
      replace m := m.setr 0 rfl e6
      replace m : Me W g6 ([(bX, barC [x1, x2, x3, x4, x5, x6] [0, 0, 0, 0, 0, 0] tid sq, 69)] :: [(b1, z14, 69)] :: G) := m
      refine ⟨⟨by decide, by decide⟩, _, ⟨m.wsrc (rd6 ha10 (by decide)), ints_one⟩, m.wrsb 0 rfl rfl, fun g7 e7 => ?_⟩
      replace m := m.setr 0 rfl e7
      replace m : Me W g7 ([(bX, barC [x1, x2, x3, x4, x5, x6] [y1, y2, y3, y4, y5, y6] tid sq, 69)] :: [(b1, z14, 69)] :: G) := m
      have r8 : row g7 bX 0 14 = some (barC [x1, x2, x3, x4, x5, x6] [y1, y2, y3, y4, y5, y6] tid sq) := m.row 0 rfl rfl (Nat.le_of_ble_eq_true rfl)
      refine ⟨_, r8, ⟨rfl, m.wrsb 1 rfl rfl, barC_one _ _ _ _⟩, fun g8 e8 => ?_⟩
      have m8 := m.setr 1 rfl e8
      simp only [List.set_cons_zero, List.set_cons_succ] at m8
      rw [setL_all (show (barC [x1, x2, x3, x4, x5, x6] [y1, y2, y3, y4, y5, y6] tid sq).length = z14.length from rfl)] at m8
      have r9 : row g8 b1 0 14 = some (barC [x1, x2, x3, x4, x5, x6] [y1, y2, y3, y4, y5, y6] tid sq) := m8.row 1 rfl rfl (Nat.le_of_ble_eq_true rfl)
      exact ⟨_, r9, rfl, m8.drop1.drop1⟩
  · intro bX g4 e3 e4
    replace m := m.push e4 e3
    refine (n16 m).ret ⟨_, rfl, ?_⟩
    rw [d1]
    refine ⟨⟨by omega, by decide, f1⟩, ?_⟩
    refine (n18 m).ret ⟨_, rfl, ?_⟩
    rw [d2]
    refine ⟨⟨by omega, by decide, f2⟩, ?_⟩
    refine ⟨⟨rfl, m.wrsb 0 rfl rfl, barC_one [0, 0, 0, 0, 0, 0] [0, 0, 0, 0, 0, 0] tid sq⟩, fun g5 e5 => ?_⟩
    replace m := m.setr 0 rfl e5
    replace m : Me W g5 ([(bX, barC [0, 0, 0, 0, 0, 0] [0, 0, 0, 0, 0, 0] tid sq, 69)] :: [(b1, z14, 69)] :: G) := m
    refine ⟨⟨by decide, by decide⟩, _, ⟨m.wsrc (rd6 ha4 (by decide)), ints_one⟩, m.wrsb 0 rfl rfl, fun g6 e6 => ?_⟩
    replace m := m.setr 0 rfl e6
    replace m : Me W g6 ([(bX, barC [x1, x2, x3, x4, x5, x6] [0, 0, 0, 0, 0, 0] tid sq, 69)] :: [(b1, z14, 69)] :: G) := m
    refine ⟨⟨by decide, by decide⟩, _, ⟨m.wsrc (rd6 ha10 (by decide)), ints_one⟩, m.wrsb 0 rfl rfl, fun g7 e7 => ?_⟩
    replace m := m.setr 0 rfl e7
    replace m : Me W g7 ([(bX, barC [x1, x2, x3, x4, x5, x6] [y1, y2, y3, y4, y5, y6] tid sq, 69)] :: [(b1, z14, 69)] :: G) := m
    have r8 : row g7 bX 0 14 = some (barC [x1, x2, x3, x4, x5, x6] [y1, y2, y3, y4, y5, y6] tid sq) := m.row 0 rfl rfl (Nat.le_of_ble_eq_true rfl)
    refine ⟨_, r8, ⟨rfl, m.wrsb 1 rfl rfl, barC_one _ _ _ _⟩, fun g8 e8 => ?_⟩
    have m8 := m.setr 1 rfl e8
    simp only [List.set_cons_zero, List.set_cons_succ] at m8
    rw [setL_all (show (barC [x1, x2, x3, x4, x5, x6] [y1, y2, y3, y4, y5, y6] tid sq).length = z14.length from rfl)] at m8
    have r9 : row g8 b1 0 14 = some (barC [x1, x2, x3, x4, x5, x6] [y1, y2, y3, y4, y5, y6] tid sq) := m8.row 1 rfl rfl (Nat.le_of_ble_eq_true rfl)
    exact ⟨_, r9, rfl, m8.drop1.drop1⟩
theorem readBar_c (m : Me W h G) (hb : Bts W (.slice a n c) (askB 132 to fr tid sq)) (h1 : to.length = 6) (h2 : fr.length = 6) (ht : 0 ≤ tid ∧ tid ≤ 7) (hs : 0 ≤ sq ∧ sq ≤ 4095) :
    Runs Tryd.prog 50 #[.slice a n c] h fun v h' => v = .tuple #[.agg (barC to fr tid sq).toArray, .nilIface] ∧ ∃ W', W.le W' ∧ Me W' h' G := by
  have hL := askB_len (tid := tid) (sq := sq) 132 h1 h2
  have hb0 := hb
  obtain ⟨x1, x2, x3, x4, x5, x6, rfl⟩ := six_of h1
  obtain ⟨y1, y2, y3, y4, y5, y6, rfl⟩ := six_of h2
  obtain ⟨b', o, rfl, hn, hc, hxx⟩ := bts_opn hb (by omega)
  rw [hL] at hn
  refine vc_ctl_ReadBar _ _ _ _ _ ?_
  intro b1 g1 e1 e2
  replace m := m.push e2 e1
  refine vc_ctl_long _ _ _ _ _ _ _ (dcase_pos (by omega) ⟨⟨by decide, by omega⟩, 132, m.wcell (by simpa using hxx 0 _ rfl), bcase_false rfl (dcase_neg (by omega) (dcase_neg (by omega) ?_))⟩)
  refine ⟨_, rfl, true, rfl, bcase_false rfl ?_⟩
  refine (asked_c m hb0 rfl rfl ht hs).mono ?_
  rintro _ g2 ⟨rfl, m⟩
  refine ⟨_, rfl, ?_⟩
  intro b2 g3 e3 e4
  replace m := m.push e4 e3
  refine ⟨⟨rfl, m.wrsb 0 rfl rfl, barC_one _ _ _ _⟩, fun g4 e5 => ?_⟩
  replace m := m.setr 0 rfl e5
  replace m : Me W g4 ([(b2, barC [x1, x2, x3, x4, x5, x6] [y1, y2, y3, y4, y5, y6] tid sq, 69)] :: [(b1, z14, 69)] :: G) := m
  refine ⟨barC [x1, x2, x3, x4, x5, x6] [y1, y2, y3, y4, y5, y6] tid sq, m.row 0 rfl rfl (Nat.le_of_ble_eq_true rfl), ?_⟩
  refine (cbarBytes_c (to := [x1, x2, x3, x4, x5, x6]) (fr := [y1, y2, y3, y4, y5, y6]) m rfl rfl ht hs).mono ?_
  rintro _ g5 ⟨W', a8, c8, hle, rfl, m, hb8⟩
  refine ⟨_, _, _, _, rfl, true, rfl, bcase_false rfl ?_⟩
  refine (eqB_c m hb8 (hb0.le hle)).ret ⟨_, rfl, bcase_false rfl ?_⟩
  have r8 : row g5 b2 0 14 = some (barC [x1, x2, x3, x4, x5, x6] [y1, y2, y3, y4, y5, y6] tid sq) := m.row 0 rfl rfl (Nat.le_of_ble_eq_true rfl)
  refine ⟨_, r8, ⟨rfl, m.wrsb 1 rfl rfl, barC_one _ _ _ _⟩, fun g8 e8 => ?_⟩
  have m8 := m.setr 1 rfl e8
  simp only [List.set_cons_zero, List.set_cons_succ] at m8
  rw [setL_all (show (barC [x1, x2, x3, x4, x5, x6] [y1, y2, y3, y4, y5, y6] tid sq).length = z14.length from rfl)] at m8
  have r9 : row g8 b1 0 14 = some (barC [x1, x2, x3, x4, x5, x6] [y1, y2, y3, y4, y5, y6] tid sq) := m8.row 1 rfl rfl (Nat.le_of_ble_eq_true rfl)
  exact ⟨_, r9, rfl, W', hle, m8.drop1.drop1⟩
end
/-- A question whose board is not ahead of it. -/
def Ses.bar (x : Ses) (to : Int) : List Fm × Ses := if distZ x.start to < 2048 then ((x.up to).1 ++ (x.up to).2.run.1, (x.up to).2.run.2.move to) else ([], x.move to)
section
variable {W W' : Wd} {h h' : Heap} {b t j n c : Nat} {a : Option Addr} {T : TypeId} {size : Int} {css : List (List Value)} {cs us vs : List Value} {G G' : List Grp} {v : Value} {x : Ses} {f : Fm} {mv : Option Nat} {Q : Heap → Prop} {E : Grp} {to : Int}
theorem bar_c (s : St W h b T size css t (sesC x mv) G) (hk : KeptV W mv x.kept) (hon : x.on = true) (hok : SesOk x) (hfr : distZ x.fr to < 2048) (hok2 : SesOk (x.bar to).2) :
    Runs Tryd.prog 51 #[.pointer (some ⟨b, 0, none⟩), .agg (barC meL bssL t to).toArray] h (DataV W b T size css t G mv (x.bar to).1 (x.bar to).2) := by
  have ht := s.ht
  refine vc_recv_Station_bar _ _ _ _ ?_
  intro b1 g1 e1 e2
  replace s := s.push e1 e2
  refine ⟨(t : Int), s.m.cell 1 rfl rfl, ⟨by omega, by omega⟩, ?_⟩
  rw [show (t : Int).toNat = t from rfl]
  refine ⟨_, s.m.row 1 rfl rfl (Nat.le_of_ble_eq_true rfl), _, s.rme, meL, meL, rfl, rfl, ⟨rfl, rfl⟩, bcase_false (by decide) ?_⟩
  refine ⟨_, s.m.row 1 rfl rfl (Nat.le_of_ble_eq_true rfl), _, s.rbss, bssL, bssL, rfl, rfl, ⟨rfl, rfl⟩, bcase_false (by decide) ?_⟩
  refine ⟨_, s.get0 rfl, bcase_false (by rw [hon]; rfl) ?_⟩
  refine ⟨_, s.get 1 rfl, to, s.m.cell 1 rfl rfl, (dist_c _ _ _).ret ⟨_, rfl, ?_⟩⟩
  refine dcase_intro (fun q => ?_) fun q => ?_
  · have e : x.bar to = ((x.up to).1 ++ (x.up to).2.run.1, (x.up to).2.run.2.move to) := if_pos q
    rw [e] at hok2 ⊢
    refine ⟨to, s.m.cell 1 rfl rfl, ?_⟩
    have hlen := upP_len (distZ x.start to).toNat (l := x.kept) (s := x.start)
    have hl3 : (x.up to).1.length + (x.up to).2.kept.length = x.kept.length := hlen
    have hokk3 : ∀ g ∈ (x.up to).2.kept, FmOk g := fun g hg => hok.k g (upP_sub _ hg)
    refine (up_c s hk hok.k to hok.n).mono ?_
    rintro _ g3 ⟨W3, a3, c3, E3, vs3, hg3, rfl, o3, hs3, hk3, s3⟩
    refine ⟨_, _, _, rfl, ?_⟩
    have hn := hok.n
    refine (run_c s3 hk3 hokk3 (by omega)).mono ?_
    rintro _ g8 ⟨W8, a8, c8, E8, vs8, hg8, rfl, o8, hs8, hk8, s8⟩
    refine ⟨_, _, _, rfl, vs8, ⟨o8.src s8.m 1 rfl, hs8.all fun f cs hv => hv.one'⟩, ?_⟩
    have hrl := run_len (x.up to).2
    refine o3.app s8.m 2 rfl o8.len (by omega) (by decide) fun a9 c9 E9 g9 m9 o9 => ?_
    simp only [List.set_cons_zero, List.set_cons_succ] at m9
    have s9 := (s8.mem m9).drop
    refine ⟨_, s9.get 3 rfl, to, s9.m.cell 2 rfl rfl, (dist_c _ _ _).ret ⟨_, rfl, ?_⟩⟩
    have hfr2 : distZ (x.up to).2.run.2.fr to < 2048 := hfr
    refine dcase_pos hfr2 ⟨to, s9.m.cell 2 rfl rfl, ?_⟩
    refine (move_c s9 to).mono ?_
    rintro _ g10 ⟨rfl, s10⟩
    refine ⟨(t : Int), s10.m.cell 2 rfl rfl, ?_⟩
    refine (answer_c s10 hok2).mono ?_
    rintro _ g11 ⟨W11, a11, c11, hle11, rfl, hb11, s11⟩
    refine ⟨_, _, _, rfl, ?_⟩
    have hgg := gr_ler (gr_trans hg3 hg8) hle11
    refine ⟨W11, a9, c9, E9, _, a11, c11, hgg, by rw [List.length_append], by rw [List.length_append]; exact o9, ((hs3.mono fun f cs hv => fmv_cl (kept_cl hk3 hg8) hv).app hs8).mono fun f cs hv => hv.le hle11, hk8.le hle11, hb11, ?_⟩
    exact s11.mem (s11.m.sub ⟨[(b1, barC meL bssL t to, 69)], by
      simp only [List.flatten_cons, List.append_assoc]
      exact List.Perm.append_left _ (List.Perm.append_left _ List.perm_append_comm)⟩)
  · have e : x.bar to = ([], x.move to) := if_neg q
    rw [e] at hok2 ⊢
    refine ⟨_, s.get 3 rfl, to, s.m.cell 1 rfl rfl, (dist_c _ _ _).ret ⟨_, rfl, ?_⟩⟩
    refine dcase_pos hfr ⟨to, s.m.cell 1 rfl rfl, ?_⟩
    refine (move_c s to).mono ?_
    rintro _ g10 ⟨rfl, s10⟩
    refine ⟨(t : Int), s10.m.cell 1 rfl rfl, ?_⟩
    refine (answer_c s10 hok2).mono ?_
    rintro _ g11 ⟨W11, a11, c11, hle11, rfl, hb11, s11⟩
    refine ⟨_, _, _, rfl, ?_⟩
    exact ⟨W11, none, 0, [], [], a11, c11, gr_le hle11, rfl, Ow.nil, rfl, hk.le hle11, hb11, s11.drop.mem (me_swap s11.drop.m.nilI)⟩
theorem other_bar (s : St W h b T size css t (sesC x mv) G) (hk : KeptV W mv x.kept) (hon : x.on = true) (hok : SesOk x) (hto : 0 ≤ to ∧ to ≤ 4095) (hfr : distZ x.fr to < 2048) (hok2 : SesOk (x.bar to).2) (hb : Bts W (.slice a n c) (askB 132 meL bssL t to)) :
    Runs Tryd.prog 24 #[.pointer (some ⟨b, 0, none⟩), .slice a n c] h (DataV W b T size css t G mv (x.bar to).1 (x.bar to).2) := by
  have ht := s.ht
  refine vc_recv_Station_Other _ _ _ _ _ _ ?_
  refine (readBar_c s.m hb rfl rfl (by omega) hto).mono ?_
  rintro _ g1 ⟨rfl, W1, hle1, m1⟩
  replace s := s.mem m1
  refine ⟨_, _, rfl, ?_⟩
  intro b1 g2 e1 e2
  replace s := s.push e1 e2
  refine ⟨⟨rfl, s.m.wrsb 1 rfl rfl, barC_one _ _ _ _⟩, fun g3 e3 => ?_⟩
  have m3 := s.m.setr 1 rfl e3
  replace m3 : Me W1 g3 ([(b, stC size css t (sesC x mv), T)] :: [(b1, barC meL bssL t to, 69)] :: G) := m3
  have s3 := s.mem m3
  refine ⟨true, rfl, bcase_true rfl ⟨barC meL bssL t to, s3.m.row 1 rfl rfl (Nat.le_of_ble_eq_true rfl), ?_⟩⟩
  refine (bar_c s3.drop (hk.le hle1) hon hok hfr hok2).mono ?_
  rintro v h' ⟨W2, a2, c2, E2, vs2, a3, c3, hg, rfl, hr⟩
  exact ⟨_, _, _, _, _, _, rfl, W2, a2, c2, E2, vs2, a3, c3, gr_lel hle1 hg, rfl, hr⟩
end
end Go.Proofs.YthlacliefgliiaaDoor
