/- act.ReadAdd of an Add that asks. -/
import Derived.Test.YthlacliefgliiaaDoorAct2
set_option linter.unusedVariables false
set_option linter.unusedSimpArgs false
set_option maxRecDepth 8000
namespace Go.Proofs.YthlacliefgliiaaDoor
open Go.Vc
section
variable {W W' : Wd} {h h' : Heap} {G : List Grp} {E : Grp} {a a2 : Option Addr} {l r c c2 n k : Nat} {vs us : List Value} {bs xs ys to fr bss : List Int} {token tid size sq : Int}
set_option maxHeartbeats 600000 in
theorem readAdd_c (m : Me W h G) (hb : Bts W (.slice a n c) (askAdd to fr bss token tid size sq)) (h1 : to.length = 6) (h2 : fr.length = 6) (h3 : bss.length = 6) (hk : AdOk token tid size sq) :
    Runs Tryd.prog 52 #[.slice a n c] h fun v h' => v = .tuple #[.agg (addC to fr bss false token tid size sq).toArray, .nilIface] ∧ ∃ W', W.le W' ∧ Me W' h' G := by
  have hL := askAdd_len (token := token) (tid := tid) (size := size) (sq := sq) h1 h2 h3
  obtain ⟨x1, x2, x3, x4, x5, x6, rfl⟩ := six_of h1
  obtain ⟨y1, y2, y3, y4, y5, y6, rfl⟩ := six_of h2
  obtain ⟨z1, z2, z3, z4, z5, z6, rfl⟩ := six_of h3
  obtain ⟨k1, k2, k3, k4⟩ := hk
  obtain ⟨-, hn, -⟩ := bts_src hb
  rw [hL] at hn
  subst hn
  have hb0 := hb
  obtain ⟨b, o, rfl, -, -, hx⟩ := bts_opn hb (by omega)
  have t27 := bts_tail hb (k := 27) (by omega)
  have t29 := bts_tail t27 (k := 2) (by omega)
  have t31 := bts_tail t27 (k := 4) (by omega)
  have n27 : ∀ {h : Heap} {G : List Grp}, Me W h G → Runs Tryd.prog 75 #[.slice (slcAddr (some ⟨b, o, none⟩) 27 c 27) (33 - 27) (c - 27)] h fun v h' => v = .int .i64 (2 + tid * 4 + size * 64) ∧ h' = h := fun m => by
    have := anum_c m t27 (x := (2 + tid * 4 + size * 64) % 256) (y := (2 + tid * 4 + size * 64) / 256 % 256) rfl rfl (by omega) (by omega)
    rwa [show (2 + tid * 4 + size * 64) % 256 + (2 + tid * 4 + size * 64) / 256 % 256 * 256 = 2 + tid * 4 + size * 64 by omega] at this
  have n29 : ∀ {h : Heap} {G : List Grp}, Me W h G → Runs Tryd.prog 75 #[.slice (slcAddr (slcAddr (some ⟨b, o, none⟩) 27 c 27) 2 (c - 27) 2) (33 - 27 - 2) (c - 27 - 2)] h fun v h' => v = .int .i64 0 ∧ h' = h := fun m =>
    anum_c m t29 (x := 0) (y := 0) rfl rfl (by decide) (by decide)
  have n31 : ∀ {h : Heap} {G : List Grp}, Me W h G → Runs Tryd.prog 75 #[.slice (slcAddr (slcAddr (some ⟨b, o, none⟩) 27 c 27) 4 (c - 27) 4) (33 - 27 - 4) (c - 27 - 4)] h fun v h' => v = .int .i64 (sq * 16) ∧ h' = h := fun m => by
    have := anum_c m t31 (x := sq * 16 % 256) (y := sq * 16 / 256 % 256) rfl rfl (by omega) (by omega)
    rwa [show sq * 16 % 256 + sq * 16 / 256 % 256 * 256 = sq * 16 by omega] at this
  refine vc_act_ReadAdd _ _ _ _ _ ?_
  intro b1 g1 e1 e2 b2 g2 e3 e4
  replace m := (m.push e2 e1).push e4 e3
  refine (along_ok (ws := [0, 1]) (what := 0) (v := 0) (N := 33) m hb0 rfl rfl rfl hL rfl (by decide) (by decide)).ret ⟨_, rfl, true, rfl, bcase_false rfl ?_⟩
  refine ⟨⟨by decide, by decide⟩, 0, m.wcell (hx 25 _ rfl), ⟨by decide, by decide⟩, token, m.wcell (hx 26 _ rfl), by simp only [fits]; omega, ?_⟩
  replace m := m.drop1
  intro b5 g5 e5 e6
  replace m := m.push e6 e5
  refine ⟨⟨rfl, m.wrsb 0 rfl rfl, addC_one [0, 0, 0, 0, 0, 0] [0, 0, 0, 0, 0, 0] [0, 0, 0, 0, 0, 0] false token 0 0 0⟩, fun g6 e7 => ?_⟩
  replace m := m.setr 0 rfl e7
  replace m : Me W g6 ([(b5, addC [0, 0, 0, 0, 0, 0] [0, 0, 0, 0, 0, 0] [0, 0, 0, 0, 0, 0] false token 0 0 0, 65)] :: [(b1, z25, 65)] :: G) := m
  refine (addrs_c m hb0).mono ?_
  rintro _ g7 ⟨rfl, m⟩
  refine ⟨_, _, _, rfl, ⟨rfl, m.wrsb 0 rfl rfl, ints_one (k := .u8) (l := [x1, x2, x3, x4, x5, x6])⟩, fun g8 e8 => ?_⟩
  replace m := m.setr 0 rfl e8
  replace m : Me W g8 ([(b5, addC [x1, x2, x3, x4, x5, x6] [0, 0, 0, 0, 0, 0] [0, 0, 0, 0, 0, 0] false token 0 0 0, 65)] :: [(b1, z25, 65)] :: G) := m
  refine ⟨⟨rfl, m.wrsb 0 rfl rfl, ints_one (k := .u8) (l := [y1, y2, y3, y4, y5, y6])⟩, fun g9 e9 => ?_⟩
  replace m := m.setr 0 rfl e9
  replace m : Me W g9 ([(b5, addC [x1, x2, x3, x4, x5, x6] [y1, y2, y3, y4, y5, y6] [0, 0, 0, 0, 0, 0] false token 0 0 0, 65)] :: [(b1, z25, 65)] :: G) := m
  refine ⟨⟨rfl, m.wrsb 0 rfl rfl, ints_one (k := .u8) (l := [z1, z2, z3, z4, z5, z6])⟩, fun g10 e10 => ?_⟩
  replace m := m.setr 0 rfl e10
  replace m : Me W g10 ([(b5, addC [x1, x2, x3, x4, x5, x6] [y1, y2, y3, y4, y5, y6] [z1, z2, z3, z4, z5, z6] false token 0 0 0, 65)] :: [(b1, z25, 65)] :: G) := m
  refine ⟨⟨by decide, by decide⟩, ?_⟩
  refine ⟨fun a' l' c' h => a' = slcAddr (some ⟨b, o, none⟩) 27 c 27 ∧ l' = 33 - 27 ∧ c' = c - 27 ∧ h = g10, ⟨false, m.cell 0 rfl rfl, ⟨rfl, rfl, rfl, rfl⟩⟩, fun _ => ?_⟩
  rintro _ _ _ g10 ⟨rfl, rfl, rfl, rfl⟩
  refine (n27 m).ret ⟨_, rfl, ?_⟩
  rw [show (2 + tid * 4 + size * 64) % 64 / 4 = tid by omega, show (2 + tid * 4 + size * 64) / 64 = size by omega]
  refine ⟨⟨by omega, by decide⟩, ⟨by omega, by decide, by simp only [fits]; omega⟩, ⟨by omega, by decide, by simp only [fits]; omega⟩, ⟨by decide, by decide⟩, ?_⟩
  refine (n29 m).ret ⟨_, rfl, ?_⟩
  refine m.store 0 rfl (by show 20 < 25; decide) fun g11 m => ?_
  refine m.store 0 rfl (by show 21 < 25; decide) fun g12 m => ?_
  refine m.store 0 rfl (by show 22 < 25; decide) fun g13 m => ?_
  replace m : Me W g13 ([(b5, addC [x1, x2, x3, x4, x5, x6] [y1, y2, y3, y4, y5, y6] [z1, z2, z3, z4, z5, z6] false token tid size 0, 65)] :: [(b1, z25, 65)] :: G) := m
  refine ⟨fun h => Me W h ([(b5, addC [x1, x2, x3, x4, x5, x6] [y1, y2, y3, y4, y5, y6] [z1, z2, z3, z4, z5, z6] false token tid size sq, 65)] :: [(b1, z25, 65)] :: G), ?_, fun _ => ?_⟩
  · refine ⟨false, m.cell 0 rfl rfl, bcase_true rfl ⟨⟨by decide, by decide⟩, ?_⟩⟩
    refine (n31 m).ret ⟨_, rfl, ?_⟩
    rw [show sq * 16 / 16 = sq by omega]
    refine ⟨⟨by omega, by decide, by simp only [fits]; omega⟩, ?_⟩
    refine m.store 0 rfl (by show 23 < 25; decide) fun g14 m => ?_
    exact m
  · intro g14 m
    refine ⟨addC [x1, x2, x3, x4, x5, x6] [y1, y2, y3, y4, y5, y6] [z1, z2, z3, z4, z5, z6] false token tid size sq, m.row 0 rfl rfl (Nat.le_of_ble_eq_true rfl), ?_⟩
    refine (addBytesA_c (to := [x1, x2, x3, x4, x5, x6]) (fr := [y1, y2, y3, y4, y5, y6]) (bss := [z1, z2, z3, z4, z5, z6]) m rfl rfl rfl ⟨k1, k2, k3, k4⟩ false (fun q => by cases q)).mono ?_
    rintro _ g15 ⟨W', a8, c8, hle, rfl, m, hb8⟩
    refine ⟨_, _, _, _, rfl, true, rfl, bcase_false rfl ?_⟩
    refine (eqB_c m hb8 (hb0.le hle)).ret ⟨_, rfl, bcase_false rfl ?_⟩
    have r14 : row g15 b5 0 25 = some (addC [x1, x2, x3, x4, x5, x6] [y1, y2, y3, y4, y5, y6] [z1, z2, z3, z4, z5, z6] false token tid size sq) := m.row 0 rfl rfl (Nat.le_of_ble_eq_true rfl)
    refine ⟨_, r14, ⟨rfl, m.wrsb 1 rfl rfl, addC_one _ _ _ _ _ _ _ _⟩, fun g16 e16 => ?_⟩
    have m16 := m.setr 1 rfl e16
    simp only [List.set_cons_zero, List.set_cons_succ] at m16
    rw [setL_all (show (addC [x1, x2, x3, x4, x5, x6] [y1, y2, y3, y4, y5, y6] [z1, z2, z3, z4, z5, z6] false token tid size sq).length = z25.length from rfl)] at m16
    have r16 : row g16 b1 0 25 = some (addC [x1, x2, x3, x4, x5, x6] [y1, y2, y3, y4, y5, y6] [z1, z2, z3, z4, z5, z6] false token tid size sq) := m16.row 1 rfl rfl (Nat.le_of_ble_eq_true rfl)
    exact ⟨_, r16, rfl, W', hle, m16.drop1.drop1⟩
theorem readAdd_no {what : Int} (hE : Snt5 W) (m : Me W h G) (hb : Bts W (.slice a n c) xs) (h0 : xs[0]? = some 208) (h24 : xs[24]? = some 3) (h25 : xs[25]? = some what)
    (hi : Lib.indexByte (Lib.bytesOf [0, 1]) what.toNat.toUInt8 = -1) :
    Runs Tryd.prog 52 #[.slice a n c] h fun v h' => (∃ e, v = .tuple #[.agg z25.toArray, ptE e]) ∧ Me W h' G := by
  refine vc_act_ReadAdd _ _ _ _ _ ?_
  intro b1 g1 e1 e2 b2 g2 e3 e4
  replace m := (m.push e2 e1).push e4 e3
  refine (along_kind (ws := [0, 1]) (N := 33) hE m hb h0 h24 h25 rfl hi).mono ?_
  rintro _ _ ⟨⟨e, rfl⟩, rfl⟩
  replace m := m.drop1
  refine ⟨_, rfl, false, rfl, bcase_true rfl ⟨⟨rfl, m.wrsb 0 rfl rfl, addC_one [0, 0, 0, 0, 0, 0] [0, 0, 0, 0, 0, 0] [0, 0, 0, 0, 0, 0] false 0 0 0 0⟩, fun g3 e5 => ?_⟩⟩
  have m3 := m.setr 0 rfl e5
  exact ⟨z25, m3.row 0 rfl rfl (Nat.le_of_ble_eq_true rfl), ⟨e, rfl⟩, m3.drop1⟩
end
end Go.Proofs.YthlacliefgliiaaDoor
