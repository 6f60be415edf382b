/- Sessions' frames: the document's bytes of an Add; act.ReadAdd; ctl.ReadBar of what is no Bar. -/
import Derived.Test.YthlacliefgliiaaDoorAct
set_option linter.unusedVariables false
set_option linter.unusedSimpArgs false
set_option maxRecDepth 8000
namespace Go.Proofs.YthlacliefgliiaaDoor
open Go.Vc
section
variable {W W' : Wd} {h h' : Heap} {G : List Grp} {E : Grp} {a a2 : Option Addr} {l r c c2 n k : Nat} {vs us : List Value} {bs xs ys to fr bss : List Int} {token tid size sq : Int}
theorem rhead_c (m : Me W h G) (h1 : to.length = 6) (h2 : fr.length = 6) (h3 : bss.length = 6) :
    Runs Tryd.prog 55 #[.agg (ints .u8 to).toArray, .agg (ints .u8 fr).toArray, .agg (ints .u8 bss).toArray] h (Grew W G ([208, 0, 0, 0] ++ to ++ fr ++ bss) [0, 0, 3]) := by
  obtain ⟨x1, x2, x3, x4, x5, x6, rfl⟩ := six_of h1
  obtain ⟨y1, y2, y3, y4, y5, y6, rfl⟩ := six_of h2
  obtain ⟨z1, z2, z3, z4, z5, z6, rfl⟩ := six_of h3
  refine vc_muezzinref1_head _ _ _ _ _ ?_
  intro b1 g1 e1 e2 b2 g2 e3 e4 b3 g3 e5 e6
  replace m := ((m.push e2 e1).push e4 e3).push e6 e5
  refine ⟨_, m.row 2 rfl rfl (Nat.le_of_ble_eq_true rfl), _, m.row 1 rfl rfl (Nat.le_of_ble_eq_true rfl), _, m.row 0 rfl rfl (Nat.le_of_ble_eq_true rfl), ?_⟩
  intro b4 g4 e7 e8
  have m4 := m.push e8 e7
  have o4 : Ow (some ⟨b4, 0, none⟩) 4 4 1 (ints .u8 [208, 0, 0, 0]) [(b4, ints .u8 [208, 0, 0, 0], 5)] := Ow.fresh0 rfl
  refine (raddr_c (xs := [x1, x2, x3, x4, x5, x6]) (bs := [208, 0, 0, 0]) o4 m4 rfl (Nat.le_of_ble_eq_true rfl)).mono ?_
  rintro _ g5 ⟨a5, c5, E5, rfl, m5, o5⟩
  refine ⟨_, _, _, rfl, m5.row 1 rfl rfl (Nat.le_of_ble_eq_true rfl), m5.row 2 rfl rfl (Nat.le_of_ble_eq_true rfl), ?_⟩
  refine (raddr_c (xs := [y1, y2, y3, y4, y5, y6]) (bs := [208, 0, 0, 0] ++ [x1, x2, x3, x4, x5, x6]) o5 m5 rfl (Nat.le_of_ble_eq_true rfl)).mono ?_
  rintro _ g6 ⟨a6, c6, E6, rfl, m6, o6⟩
  refine ⟨_, _, _, rfl, m6.row 1 rfl rfl (Nat.le_of_ble_eq_true rfl), ?_⟩
  refine (raddr_c (xs := [z1, z2, z3, z4, z5, z6]) (bs := [208, 0, 0, 0] ++ [x1, x2, x3, x4, x5, x6] ++ [y1, y2, y3, y4, y5, y6]) o6 m6 rfl (Nat.le_of_ble_eq_true rfl)).mono ?_
  rintro _ g7 ⟨a7, c7, E7, rfl, m7, o7⟩
  refine ⟨_, _, _, rfl, ?_⟩
  refine o7.appn m7 (us := ints .u8 [0, 0, 3]) rfl ints_one (Nat.le_of_ble_eq_true rfl) (by decide) fun a8 c8 E8 g8 m8 o8 => ?_
  exact ⟨a8, c8, E8, rfl, (me_swap (me_swap (me_swap m8).drop1).drop1).drop1, by rw [ints_app]; exact o8⟩
theorem raddBytes_c (m : Me W h G) (h1 : to.length = 6) (h2 : fr.length = 6) (h3 : bss.length = 6) (hk : AdOk token tid size sq) (ans : Bool) (hs : ans = true → sq = 0) :
    Runs Tryd.prog 25 #[.agg (addC to fr bss ans token tid size sq).toArray] h (Bmade W G (if ans then ansAdd to fr bss token tid size else askAdd to fr bss token tid size sq) fun v => .tuple #[v, .int .i64 0]) := by
  have hL1 := ansAdd_len (token := token) (tid := tid) (size := size) h1 h2 h3
  have hL2 := askAdd_len (token := token) (tid := tid) (size := size) (sq := sq) h1 h2 h3
  obtain ⟨x1, x2, x3, x4, x5, x6, rfl⟩ := six_of h1
  obtain ⟨y1, y2, y3, y4, y5, y6, rfl⟩ := six_of h2
  obtain ⟨z1, z2, z3, z4, z5, z6, rfl⟩ := six_of h3
  obtain ⟨k1, k2, k3, k4⟩ := hk
  refine vc_muezzinref1_AddBytes _ _ _ ?_
  intro b1 g1 e1 e2
  replace m := m.push e2 e1
  refine ⟨_, m.cell 0 rfl rfl, rout_in ⟨k1.1, k1.2⟩ ⟨_, rfl, bcase_false rfl ?_⟩⟩
  refine ⟨_, m.cell 0 rfl rfl, rout_in ⟨k2.1, k2.2⟩ ⟨_, rfl, bcase_false rfl ?_⟩⟩
  refine ⟨_, m.cell 0 rfl rfl, rout_in ⟨k3.1, k3.2⟩ ⟨_, rfl, bcase_false rfl ?_⟩⟩
  refine ⟨_, m.cell 0 rfl rfl, rout_in (by decide) ⟨_, rfl, bcase_false rfl ?_⟩⟩
  refine ⟨_, m.cell 0 rfl rfl, rout_in (by decide) ⟨_, rfl, bcase_false rfl ?_⟩⟩
  refine ⟨_, m.cell 0 rfl rfl, rout_in ⟨k4.1, k4.2⟩ ⟨_, rfl, bcase_false rfl ?_⟩⟩
  refine ⟨ans, m.cell 0 rfl rfl, ?_⟩
  cases ans with
  | false =>
    refine bcase_true rfl ⟨0, m.cell 0 rfl rfl, bcase_false rfl ⟨false, m.cell 0 rfl rfl, bcase_false rfl ?_⟩⟩
    refine ⟨_, m.row 0 rfl rfl (Nat.le_of_ble_eq_true rfl), _, m.row 0 rfl rfl (Nat.le_of_ble_eq_true rfl), _, m.row 0 rfl rfl (Nat.le_of_ble_eq_true rfl), ?_⟩
    refine (rhead_c (to := [x1, x2, x3, x4, x5, x6]) (fr := [y1, y2, y3, y4, y5, y6]) (bss := [z1, z2, z3, z4, z5, z6]) m rfl rfl rfl).mono ?_
    rintro _ g2 ⟨a2, c2, E2, rfl, m, o2⟩
    refine ⟨_, _, _, rfl, false, m.cell 1 rfl rfl, bcase_false rfl ?_⟩
    refine ⟨token, m.cell 1 rfl rfl, by simp only [fits]; omega, tid, m.cell 1 rfl rfl, by simp only [fits]; omega, by simp only [fits]; omega, size, m.cell 1 rfl rfl, by simp only [fits]; omega, by simp only [fits]; omega, 0, m.cell 1 rfl rfl, sq, m.cell 1 rfl rfl, by simp only [fits]; omega, ?_⟩
    refine o2.appn m (us := ints .u8 [0, token]) rfl ints_one (Nat.le_of_ble_eq_true rfl) (by decide) fun a3 c3 E3 g3 m o3 => ?_
    rw [← ints_app] at o3
    refine ⟨m.cell 1 rfl rfl, m.cell 1 rfl rfl, m.cell 1 rfl rfl, m.cell 1 rfl rfl, m.cell 1 rfl rfl, ?_⟩
    refine (rtwo_c (bs := [208, 0, 0, 0] ++ [x1, x2, x3, x4, x5, x6] ++ [y1, y2, y3, y4, y5, y6] ++ [z1, z2, z3, z4, z5, z6] ++ [0, 0, 3] ++ [0, token]) _ o3 m (Nat.le_of_ble_eq_true rfl)).mono ?_
    rintro _ g4 ⟨a4, c4, E4, rfl, m, o4⟩
    refine ⟨_, _, _, rfl, m.cell 1 rfl rfl, m.cell 1 rfl rfl, m.cell 1 rfl rfl, m.cell 1 rfl rfl, m.cell 1 rfl rfl, ?_⟩
    refine (rtwo_c (bs := [208, 0, 0, 0] ++ [x1, x2, x3, x4, x5, x6] ++ [y1, y2, y3, y4, y5, y6] ++ [z1, z2, z3, z4, z5, z6] ++ [0, 0, 3] ++ [0, token] ++ [(2 + tid * 4 + size * 64) % 256, (2 + tid * 4 + size * 64) / 256 % 256]) _ o4 m (Nat.le_of_ble_eq_true rfl)).mono ?_
    rintro _ g5 ⟨a5, c5, E5, rfl, m, o5⟩
    refine ⟨_, _, _, rfl, m.cell 1 rfl rfl, m.cell 1 rfl rfl, m.cell 1 rfl rfl, m.cell 1 rfl rfl, ?_⟩
    refine (rtwo_c (bs := [208, 0, 0, 0] ++ [x1, x2, x3, x4, x5, x6] ++ [y1, y2, y3, y4, y5, y6] ++ [z1, z2, z3, z4, z5, z6] ++ [0, 0, 3] ++ [0, token] ++ [(2 + tid * 4 + size * 64) % 256, (2 + tid * 4 + size * 64) / 256 % 256] ++ [0 % 256, 0 / 256 % 256]) _ o5 m (Nat.le_of_ble_eq_true rfl)).mono ?_
    rintro _ g6 ⟨a6, c6, E6, rfl, m, o6⟩
    refine ⟨_, _, _, rfl, m.cell 1 rfl rfl, m.cell 1 rfl rfl, m.cell 1 rfl rfl, m.cell 1 rfl rfl, ?_⟩
    have o10 : Ow a6 (askAdd [x1, x2, x3, x4, x5, x6] [y1, y2, y3, y4, y5, y6] [z1, z2, z3, z4, z5, z6] token tid size sq).length c6 1 (ints .u8 (askAdd [x1, x2, x3, x4, x5, x6] [y1, y2, y3, y4, y5, y6] [z1, z2, z3, z4, z5, z6] token tid size sq)) E6 := by rw [hL2]; exact o6
    obtain ⟨W', hl, m10, hb10⟩ := ow_give o10 m
    exact ⟨W', a6, c6, hl, by rw [if_neg (by decide), hL2]; rfl, m10.drop1, hb10⟩
  | true =>
    obtain rfl := hs rfl
    refine bcase_false rfl ⟨true, m.cell 0 rfl rfl, bcase_true rfl ⟨0, m.cell 0 rfl rfl, bcase_false rfl ?_⟩⟩
    refine ⟨_, m.row 0 rfl rfl (Nat.le_of_ble_eq_true rfl), _, m.row 0 rfl rfl (Nat.le_of_ble_eq_true rfl), _, m.row 0 rfl rfl (Nat.le_of_ble_eq_true rfl), ?_⟩
    refine (rhead_c (to := [x1, x2, x3, x4, x5, x6]) (fr := [y1, y2, y3, y4, y5, y6]) (bss := [z1, z2, z3, z4, z5, z6]) m rfl rfl rfl).mono ?_
    rintro _ g2 ⟨a2, c2, E2, rfl, m, o2⟩
    refine ⟨_, _, _, rfl, true, m.cell 1 rfl rfl, bcase_true rfl ?_⟩
    refine ⟨token, m.cell 1 rfl rfl, by simp only [fits]; omega, 0, m.cell 1 rfl rfl, tid, m.cell 1 rfl rfl, by simp only [fits]; omega, by simp only [fits]; omega, size, m.cell 1 rfl rfl, by simp only [fits]; omega, by simp only [fits]; omega, 0, m.cell 1 rfl rfl, ?_⟩
    refine o2.appn m (us := ints .u8 [1, token]) rfl ints_one (Nat.le_of_ble_eq_true rfl) (by decide) fun a3 c3 E3 g3 m o3 => ?_
    rw [← ints_app] at o3
    refine ⟨m.cell 1 rfl rfl, m.cell 1 rfl rfl, m.cell 1 rfl rfl, m.cell 1 rfl rfl, m.cell 1 rfl rfl, ?_⟩
    refine (rtwo_c (bs := [208, 0, 0, 0] ++ [x1, x2, x3, x4, x5, x6] ++ [y1, y2, y3, y4, y5, y6] ++ [z1, z2, z3, z4, z5, z6] ++ [0, 0, 3] ++ [1, token]) _ o3 m (Nat.le_of_ble_eq_true rfl)).mono ?_
    rintro _ g4 ⟨a4, c4, E4, rfl, m, o4⟩
    refine ⟨_, _, _, rfl, m.cell 1 rfl rfl, m.cell 1 rfl rfl, m.cell 1 rfl rfl, m.cell 1 rfl rfl, ?_⟩
    refine (rtwo_c (bs := [208, 0, 0, 0] ++ [x1, x2, x3, x4, x5, x6] ++ [y1, y2, y3, y4, y5, y6] ++ [z1, z2, z3, z4, z5, z6] ++ [0, 0, 3] ++ [1, token] ++ [0 % 256, 0 / 256 % 256]) _ o4 m (Nat.le_of_ble_eq_true rfl)).mono ?_
    rintro _ g5 ⟨a5, c5, E5, rfl, m, o5⟩
    refine ⟨_, _, _, rfl, m.cell 1 rfl rfl, m.cell 1 rfl rfl, m.cell 1 rfl rfl, m.cell 1 rfl rfl, ?_⟩
    refine (rtwo_c (bs := [208, 0, 0, 0] ++ [x1, x2, x3, x4, x5, x6] ++ [y1, y2, y3, y4, y5, y6] ++ [z1, z2, z3, z4, z5, z6] ++ [0, 0, 3] ++ [1, token] ++ [0 % 256, 0 / 256 % 256] ++ [(2 + tid * 4 + size * 64) % 256, (2 + tid * 4 + size * 64) / 256 % 256]) _ o5 m (Nat.le_of_ble_eq_true rfl)).mono ?_
    rintro _ g6 ⟨a6, c6, E6, rfl, m, o6⟩
    refine ⟨_, _, _, rfl, m.cell 1 rfl rfl, m.cell 1 rfl rfl, m.cell 1 rfl rfl, ?_⟩
    have o10 : Ow a6 (ansAdd [x1, x2, x3, x4, x5, x6] [y1, y2, y3, y4, y5, y6] [z1, z2, z3, z4, z5, z6] token tid size).length c6 1 (ints .u8 (ansAdd [x1, x2, x3, x4, x5, x6] [y1, y2, y3, y4, y5, y6] [z1, z2, z3, z4, z5, z6] token tid size)) E6 := by rw [hL1]; exact o6
    obtain ⟨W', hl, m10, hb10⟩ := ow_give o10 m
    exact ⟨W', a6, c6, hl, by rw [if_pos rfl, hL1]; rfl, m10.drop1, hb10⟩
/-- Addresses that were read, so many. -/
def adrA (x y z : List Int) (k : Nat) : List Value :=
  ints .u8 (match k with | 0 => [0, 0, 0, 0, 0, 0] | _ => x) ++ (ints .u8 (match k with | 0 => [0, 0, 0, 0, 0, 0] | 1 => [0, 0, 0, 0, 0, 0] | _ => y) ++ (ints .u8 (match k with | 3 => z | _ => [0, 0, 0, 0, 0, 0])))
theorem addrs_c {x1 x2 x3 x4 x5 x6 y1 y2 y3 y4 y5 y6 z1 z2 z3 z4 z5 z6 q1 q2 q3 q4 : Int} (m : Me W h G) (hb : Bts W (.slice a n c) (q1 :: q2 :: q3 :: q4 :: x1 :: x2 :: x3 :: x4 :: x5 :: x6 :: y1 :: y2 :: y3 :: y4 :: y5 :: y6 :: z1 :: z2 :: z3 :: z4 :: z5 :: z6 :: xs)) :
    Runs Tryd.prog 74 #[.slice a n c] h fun v h' => v = .tuple #[.agg (ints .u8 [x1, x2, x3, x4, x5, x6]).toArray, .agg (ints .u8 [y1, y2, y3, y4, y5, y6]).toArray, .agg (ints .u8 [z1, z2, z3, z4, z5, z6]).toArray] ∧ Me W h' G := by
  obtain ⟨-, hn, -⟩ := bts_src hb
  simp only [List.length_cons] at hn
  obtain ⟨ha4, -, -⟩ := bts_src (bts_tail hb (k := 4) (by omega))
  obtain ⟨ha10, -, -⟩ := bts_src (bts_tail hb (k := 10) (by omega))
  obtain ⟨ha16, -, -⟩ := bts_src (bts_tail hb (k := 16) (by omega))
  replace ha4 : wsrc W (slcAddr a 4 c 4) 6 (ints .u8 [x1, x2, x3, x4, x5, x6]) := wsrc_take (j := 6) ha4 (by omega) (by rw [ints_len, List.length_drop]; simp only [List.length_cons]; omega)
  replace ha10 : wsrc W (slcAddr a 10 c 10) 6 (ints .u8 [y1, y2, y3, y4, y5, y6]) := wsrc_take (j := 6) ha10 (by omega) (by rw [ints_len, List.length_drop]; simp only [List.length_cons]; omega)
  replace ha16 : wsrc W (slcAddr a 16 c 16) 6 (ints .u8 [z1, z2, z3, z4, z5, z6]) := wsrc_take (j := 6) ha16 (by omega) (by rw [ints_len, List.length_drop]; simp only [List.length_cons]; omega)
  refine vc_act_addrs _ _ _ _ _ ?_
  intro b1 g1 e1 e2 b2 g2 e3 e4 b3 g3 e5 e6 b4 g4 e7 e8
  replace m := (((m.push e2 e1).push e4 e3).push e6 e5).push e8 e7
  refine ⟨fun i h => ∃ k : Nat, i = k ∧ k ≤ 3 ∧ Me W h ([(b4, adrA [x1, x2, x3, x4, x5, x6] [y1, y2, y3, y4, y5, y6] [z1, z2, z3, z4, z5, z6] k, 136)] :: [(b3, ints .u8 [0, 0, 0, 0, 0, 0], 31)] :: [(b2, ints .u8 [0, 0, 0, 0, 0, 0], 31)] :: [(b1, ints .u8 [0, 0, 0, 0, 0, 0], 31)] :: G), fun i _ => (3 - i).toNat, ⟨0, rfl, by omega, m⟩, fun _ => ?_⟩
  rintro _ g5 ⟨k, rfl, hk, m⟩
  refine dcase_intro (fun q => ?_) fun q => ?_
  · have : k = 0 ∨ k = 1 ∨ k = 2 := by omega
    rcases this with rfl | rfl | rfl
    · skip
      refine ⟨⟨by decide, by decide⟩, by simp only [fits]; omega, by simp only [fits]; omega, ⟨by decide, by omega⟩, _, ⟨m.wsrc (rd6 ha4 (by omega)), ints_one⟩, m.wrsb 0 rfl rfl, fun h13 g6 => ?_⟩
      have m13 := m.setr 0 rfl g6
      exact ⟨by simp only [fits]; omega, ⟨0 + 1, rfl, by decide, m13⟩, by dsimp only; omega⟩
    · skip
      refine ⟨⟨by decide, by decide⟩, by simp only [fits]; omega, by simp only [fits]; omega, ⟨by decide, by omega⟩, _, ⟨m.wsrc (rd6 ha10 (by omega)), ints_one⟩, m.wrsb 0 rfl rfl, fun h13 g6 => ?_⟩
      have m13 := m.setr 0 rfl g6
      exact ⟨by simp only [fits]; omega, ⟨1 + 1, rfl, by decide, m13⟩, by dsimp only; omega⟩
    · skip
      refine ⟨⟨by decide, by decide⟩, by simp only [fits]; omega, by simp only [fits]; omega, ⟨by decide, by omega⟩, _, ⟨m.wsrc (rd6 ha16 (by omega)), ints_one⟩, m.wrsb 0 rfl rfl, fun h13 g6 => ?_⟩
      have m13 := m.setr 0 rfl g6
      exact ⟨by simp only [fits]; omega, ⟨2 + 1, rfl, by decide, m13⟩, by dsimp only; omega⟩
  · obtain rfl : k = 3 := by omega
    refine ⟨by decide, _, m.row 0 rfl rfl (Nat.le_of_ble_eq_true rfl), by decide, _, m.row 0 rfl rfl (Nat.le_of_ble_eq_true rfl), by decide, _, m.row 0 rfl rfl (Nat.le_of_ble_eq_true rfl), ?_⟩
    refine ⟨⟨rfl, m.wrsb 3 rfl rfl, ints_one (k := .u8) (l := [x1, x2, x3, x4, x5, x6])⟩, fun h7 f1 => ?_⟩
    have m7 := m.setr 3 rfl f1
    simp only [List.set_cons_zero, List.set_cons_succ] at m7
    refine ⟨m7.row 0 rfl rfl (Nat.le_of_ble_eq_true rfl), m7.row 0 rfl rfl (Nat.le_of_ble_eq_true rfl), ⟨rfl, m7.wrsb 2 rfl rfl, ints_one (k := .u8) (l := [y1, y2, y3, y4, y5, y6])⟩, fun h8 f2 => ?_⟩
    have m8 := m7.setr 2 rfl f2
    simp only [List.set_cons_zero, List.set_cons_succ] at m8
    refine ⟨m8.row 0 rfl rfl (Nat.le_of_ble_eq_true rfl), ⟨rfl, m8.wrsb 1 rfl rfl, ints_one (k := .u8) (l := [z1, z2, z3, z4, z5, z6])⟩, fun h9 f3 => ?_⟩
    have m9 := m8.setr 1 rfl f3
    simp only [List.set_cons_zero, List.set_cons_succ] at m9
    exact ⟨_, m9.row 3 rfl rfl (Nat.le_of_ble_eq_true rfl), _, m9.row 2 rfl rfl (Nat.le_of_ble_eq_true rfl), _, m9.row 1 rfl rfl (Nat.le_of_ble_eq_true rfl), rfl, m9.drop1.drop1.drop1.drop1⟩
theorem along_ok {b : Nat} {T : TypeId} {ws : List Int} {what v : Int} {N : Nat} (m : Me W h ([(b, ints .u8 ws, T)] :: G)) (hb : Bts W (.slice a n c) xs) (h0 : xs[0]? = some 208) (h24 : xs[24]? = some 3) (h25 : xs[25]? = some what) (hN : xs.length = N) (hw : ws.length = k)
    (hi : Lib.indexByte (Lib.bytesOf ws) what.toNat.toUInt8 = v) (hv : 0 ≤ v) :
    Runs Tryd.prog 73 #[.slice a n c, .int .i64 (N : Int), .slice (some ⟨b, 0, none⟩) k k] h fun v h' => v = .nilIface ∧ h' = h := by
  have hl := (List.getElem?_eq_some_iff.1 h25).1
  obtain ⟨b', o, rfl, hn, hc, hx⟩ := bts_opn hb (by omega)
  refine vc_act_long _ _ _ _ _ _ _ _ _ (dcase_neg (by omega) ⟨⟨by decide, by omega⟩, _, m.wcell (by simpa using hx 0 _ h0), bcase_false rfl ⟨⟨by decide, by omega⟩, _, m.wcell (hx 24 _ h24), bcase_false rfl ⟨⟨by decide, by omega⟩, _, m.wcell (hx 25 _ h25), ?_⟩⟩⟩)
  refine (idx_c m hw hi).ret ⟨_, rfl, dcase_neg (by omega) (dcase_neg (by omega) (dcase_neg (by omega) ⟨rfl, rfl⟩))⟩
theorem along_kind {b : Nat} {T : TypeId} {ws : List Int} {what : Int} {N : Nat} (hE : Snt5 W) (m : Me W h ([(b, ints .u8 ws, T)] :: G)) (hb : Bts W (.slice a n c) xs) (h0 : xs[0]? = some 208) (h24 : xs[24]? = some 3) (h25 : xs[25]? = some what) (hw : ws.length = k)
    (hi : Lib.indexByte (Lib.bytesOf ws) what.toNat.toUInt8 = -1) :
    Runs Tryd.prog 73 #[.slice a n c, .int .i64 (N : Int), .slice (some ⟨b, 0, none⟩) k k] h fun v h' => (∃ a, v = ptE a) ∧ h' = h := by
  have hl := (List.getElem?_eq_some_iff.1 h25).1
  obtain ⟨e, he⟩ := hE 2 (by decide)
  obtain ⟨b', o, rfl, hn, hc, hx⟩ := bts_opn hb (by omega)
  refine vc_act_long _ _ _ _ _ _ _ _ _ (dcase_neg (by omega) ⟨⟨by decide, by omega⟩, _, m.wcell (by simpa using hx 0 _ h0), bcase_false rfl ⟨⟨by decide, by omega⟩, _, m.wcell (hx 24 _ h24), bcase_false rfl ⟨⟨by decide, by omega⟩, _, m.wcell (hx 25 _ h25), ?_⟩⟩⟩)
  exact (idx_c m hw hi).ret ⟨_, rfl, dcase_pos (by decide) ⟨_, m.wcell he, ⟨e, rfl⟩, rfl⟩⟩
def z14 : List Value := ints .u8 [0, 0, 0, 0, 0, 0, 0, 0, 0, 0, 0, 0] ++ [.int .i64 0, .int .i64 0]
theorem z14_one : ∀ u ∈ z14, u.oneCell' = true := by
  intro u hu
  simp only [z14, List.mem_append] at hu
  rcases hu with hu | hu
  · exact ints_one u hu
  · simp only [List.mem_cons, List.not_mem_nil, or_false] at hu
    rcases hu with rfl | rfl <;> rfl
/-- What is no Bar. -/
theorem readBar_no {x : Int} (hE : Snt5 W) (m : Me W h G) (hb : Bts W (.slice a n c) xs) (h0 : xs[0]? = some x) (hx : x ≠ 132) :
    Runs Tryd.prog 50 #[.slice a n c] h fun v h' => (∃ e, v = .tuple #[.agg z14.toArray, ptE e]) ∧ Me W h' G := by
  have hl := (List.getElem?_eq_some_iff.1 h0).1
  obtain ⟨e, he⟩ := hE 2 (by decide)
  obtain ⟨b', o, rfl, hn, hc, hxx⟩ := bts_opn hb (by omega)
  refine vc_ctl_ReadBar _ _ _ _ _ ?_
  intro b1 g1 e1 e2
  replace m := m.push e2 e1
  refine vc_ctl_long _ _ _ _ _ _ _ (dcase_pos (by omega) ⟨⟨by decide, by omega⟩, x, m.wcell (by simpa using hxx 0 _ h0), bcase_true (by simp [hx]) ⟨_, m.wcell he, ?_⟩⟩)
  refine ⟨ptE e, rfl, false, rfl, bcase_true rfl ⟨⟨rfl, m.wrsb 0 rfl rfl, z14_one⟩, fun g2 e3 => ?_⟩⟩
  have m2 := m.setr 0 rfl e3
  exact ⟨z14, m2.row 0 rfl rfl (Nat.le_of_ble_eq_true rfl), ⟨e, rfl⟩, m2.drop1⟩
end
end Go.Proofs.YthlacliefgliiaaDoor
