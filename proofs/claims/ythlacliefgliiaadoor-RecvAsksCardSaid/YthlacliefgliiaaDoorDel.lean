/- Sessions that end: a Del's bytes, built by the document and by act, read by act.ReadDel; a station that is told. -/
import Derived.Test.YthlacliefgliiaaDoorOther
set_option linter.unusedVariables false
set_option linter.unusedSimpArgs false
set_option maxRecDepth 8000
namespace Go.Proofs.YthlacliefgliiaaDoor
open Go.Vc
/-- A Del of him who began the session, without a reason. -/
def delB (to fr bss : List Int) (tid : Int) : List Int := headB 2 to fr bss ++ (w2 (tid * 4096 + 2048) ++ w2 0)
def delC (to fr bss : List Int) (mine : Bool) (tid : Int) : List Value := ints .u8 to ++ (ints .u8 fr ++ (ints .u8 bss ++ [.bool mine, .int .i64 tid, .int .i64 0]))
def z21 : List Value := delC [0, 0, 0, 0, 0, 0] [0, 0, 0, 0, 0, 0] [0, 0, 0, 0, 0, 0] false 0
theorem delC_one (to fr bss : List Int) (mine : Bool) (tid : Int) : ∀ u ∈ delC to fr bss mine tid, u.oneCell' = true := by
  intro u hu
  unfold delC at hu
  simp only [List.mem_append] at hu
  rcases hu with hu | hu | hu | hu
  · exact ints_one u hu
  · exact ints_one u hu
  · exact ints_one u hu
  · simp only [List.mem_cons, List.not_mem_nil, or_false] at hu
    rcases hu with rfl | rfl | rfl <;> rfl
theorem delB_len {to fr bss : List Int} {tid : Int} (h1 : to.length = 6) (h2 : fr.length = 6) (h3 : bss.length = 6) : (delB to fr bss tid).length = 30 := by simp [delB, headB, w2, h1, h2, h3]
theorem mine_bit {tid : Int} (ht : 0 ≤ tid ∧ tid ≤ 7) : decide ((0 : Int) < bits .and .i64 (tid * 4096 + 2048) 2048) = true := by
  have : tid = 0 ∨ tid = 1 ∨ tid = 2 ∨ tid = 3 ∨ tid = 4 ∨ tid = 5 ∨ tid = 6 ∨ tid = 7 := by omega
  rcases this with rfl | rfl | rfl | rfl | rfl | rfl | rfl | rfl <;> decide
section
variable {W W' : Wd} {h h' : Heap} {G : List Grp} {E : Grp} {a a2 : Option Addr} {l r c c2 n k : Nat} {vs us : List Value} {bs xs ys to fr bss : List Int} {tid : Int}
theorem rdelBytes_c (m : Me W h G) (h1 : to.length = 6) (h2 : fr.length = 6) (h3 : bss.length = 6) (ht : 0 ≤ tid ∧ tid ≤ 7) :
    Runs Tryd.prog 31 #[.agg (delC to fr bss true tid).toArray] h (Bmade W G (delB to fr bss tid) fun v => .tuple #[v, .int .i64 0]) := by
  have hL := delB_len (tid := tid) h1 h2 h3
  obtain ⟨x1, x2, x3, x4, x5, x6, rfl⟩ := six_of h1
  obtain ⟨y1, y2, y3, y4, y5, y6, rfl⟩ := six_of h2
  obtain ⟨z1, z2, z3, z4, z5, z6, rfl⟩ := six_of h3
  refine vc_muezzinref1_DelBytes _ _ _ ?_
  intro b1 g1 e1 e2
  replace m := m.push e2 e1
  refine ⟨_, m.cell 0 rfl rfl, rout_in ht ⟨_, rfl, bcase_false rfl ?_⟩⟩
  refine ⟨_, m.cell 0 rfl rfl, rout_in (by decide) ⟨_, rfl, bcase_false rfl ?_⟩⟩
  refine ⟨_, m.row 0 rfl rfl (Nat.le_of_ble_eq_true rfl), _, m.row 0 rfl rfl (Nat.le_of_ble_eq_true rfl), _, m.row 0 rfl rfl (Nat.le_of_ble_eq_true rfl), true, m.cell 0 rfl rfl, tid, m.cell 0 rfl rfl, by simp only [fits]; omega, 0, m.cell 0 rfl rfl, ⟨?_, ?_⟩⟩
  · refine (rhead_c (to := [x1, x2, x3, x4, x5, x6]) (fr := [y1, y2, y3, y4, y5, y6]) (bss := [z1, z2, z3, z4, z5, z6]) m rfl rfl rfl).mono ?_
    rintro _ g2 ⟨a2, c2, E2, rfl, m, o2⟩
    refine ⟨_, _, _, rfl, m.cell 1 rfl rfl, m.cell 1 rfl rfl, m.cell 1 rfl rfl, ?_⟩
    intro b3 g3 e3 e4
    replace m := m.push e4 e3
    refine ⟨ints .u8 [2], ⟨m.row 0 rfl rfl (Nat.le_of_ble_eq_true rfl), ints_one⟩, ?_⟩
    refine o2.app m 1 rfl rfl (Nat.le_of_ble_eq_true rfl) (by decide) fun a3 c3 E3 g3 m o3 => ?_
    simp only [List.set_cons_zero, List.set_cons_succ] at m
    replace m := m.drop1
    rw [← ints_app] at o3
    refine ⟨m.cell 1 rfl rfl, m.cell 1 rfl rfl, m.cell 1 rfl rfl, (rflag_c _ _ _).ret ⟨2048, rfl, m.cell 1 rfl rfl, m.cell 1 rfl rfl, by simp only [fits]; omega, ?_⟩⟩
    rw [Int.add_comm 2048 (tid * 4096)]
    refine (rtwo_c (bs := [208, 0, 0, 0] ++ [x1, x2, x3, x4, x5, x6] ++ [y1, y2, y3, y4, y5, y6] ++ [z1, z2, z3, z4, z5, z6] ++ [0, 0, 3] ++ [2]) _ o3 m (Nat.le_of_ble_eq_true rfl)).mono ?_
    rintro _ g4 ⟨a4, c4, E4, rfl, m, o4⟩
    refine ⟨_, _, _, rfl, m.cell 1 rfl rfl, m.cell 1 rfl rfl, ?_⟩
    refine (rtwo_c (bs := [208, 0, 0, 0] ++ [x1, x2, x3, x4, x5, x6] ++ [y1, y2, y3, y4, y5, y6] ++ [z1, z2, z3, z4, z5, z6] ++ [0, 0, 3] ++ [2] ++ [(tid * 4096 + 2048) % 256, (tid * 4096 + 2048) / 256 % 256]) _ o4 m (Nat.le_of_ble_eq_true rfl)).mono ?_
    rintro _ g5 ⟨a5, c5, E5, rfl, m, o5⟩
    refine ⟨_, _, _, rfl, m.cell 1 rfl rfl, ?_⟩
    have o10 : Ow a5 (delB [x1, x2, x3, x4, x5, x6] [y1, y2, y3, y4, y5, y6] [z1, z2, z3, z4, z5, z6] tid).length c5 1 (ints .u8 (delB [x1, x2, x3, x4, x5, x6] [y1, y2, y3, y4, y5, y6] [z1, z2, z3, z4, z5, z6] tid)) E5 := by rw [hL]; exact o5
    obtain ⟨W', hl, m10, hb10⟩ := ow_give o10 m
    exact ⟨W', a5, c5, hl, by rw [hL]; rfl, m10.drop1, hb10⟩
  · intro b3 g3 e3 e4
    replace m := m.push e4 e3
    refine (rhead_c (to := [x1, x2, x3, x4, x5, x6]) (fr := [y1, y2, y3, y4, y5, y6]) (bss := [z1, z2, z3, z4, z5, z6]) m rfl rfl rfl).mono ?_
    rintro _ g2 ⟨a2, c2, E2, rfl, m, o2⟩
    refine ⟨_, _, _, rfl, m.cell 2 rfl rfl, m.cell 2 rfl rfl, m.cell 2 rfl rfl, ?_⟩
    refine ⟨ints .u8 [2], ⟨m.row 1 rfl rfl (Nat.le_of_ble_eq_true rfl), ints_one⟩, ?_⟩
    refine o2.app m 0 rfl rfl (Nat.le_of_ble_eq_true rfl) (by decide) fun a3 c3 E3 g3 m o3 => ?_
    simp only [List.set_cons_zero] at m
    replace m := (me_swap m).drop1
    rw [← ints_app] at o3
    refine ⟨m.cell 1 rfl rfl, m.cell 1 rfl rfl, m.cell 1 rfl rfl, (rflag_c _ _ _).ret ⟨2048, rfl, m.cell 1 rfl rfl, m.cell 1 rfl rfl, by simp only [fits]; omega, ?_⟩⟩
    rw [Int.add_comm 2048 (tid * 4096)]
    refine (rtwo_c (bs := [208, 0, 0, 0] ++ [x1, x2, x3, x4, x5, x6] ++ [y1, y2, y3, y4, y5, y6] ++ [z1, z2, z3, z4, z5, z6] ++ [0, 0, 3] ++ [2]) _ o3 m (Nat.le_of_ble_eq_true rfl)).mono ?_
    rintro _ g4 ⟨a4, c4, E4, rfl, m, o4⟩
    refine ⟨_, _, _, rfl, m.cell 1 rfl rfl, m.cell 1 rfl rfl, ?_⟩
    refine (rtwo_c (bs := [208, 0, 0, 0] ++ [x1, x2, x3, x4, x5, x6] ++ [y1, y2, y3, y4, y5, y6] ++ [z1, z2, z3, z4, z5, z6] ++ [0, 0, 3] ++ [2] ++ [(tid * 4096 + 2048) % 256, (tid * 4096 + 2048) / 256 % 256]) _ o4 m (Nat.le_of_ble_eq_true rfl)).mono ?_
    rintro _ g5 ⟨a5, c5, E5, rfl, m, o5⟩
    refine ⟨_, _, _, rfl, m.cell 1 rfl rfl, ?_⟩
    have o10 : Ow a5 (delB [x1, x2, x3, x4, x5, x6] [y1, y2, y3, y4, y5, y6] [z1, z2, z3, z4, z5, z6] tid).length c5 1 (ints .u8 (delB [x1, x2, x3, x4, x5, x6] [y1, y2, y3, y4, y5, y6] [z1, z2, z3, z4, z5, z6] tid)) E5 := by rw [hL]; exact o5
    obtain ⟨W', hl, m10, hb10⟩ := ow_give o10 m
    exact ⟨W', a5, c5, hl, by rw [hL]; rfl, m10.drop1, hb10⟩
theorem delBytesA_c (m : Me W h G) (h1 : to.length = 6) (h2 : fr.length = 6) (h3 : bss.length = 6) (ht : 0 ≤ tid ∧ tid ≤ 7) :
    Runs Tryd.prog 77 #[.agg (delC to fr bss true tid).toArray] h (Bmade W G (delB to fr bss tid) fun v => .tuple #[v, .nilIface]) := by
  have hL := delB_len (tid := tid) h1 h2 h3
  obtain ⟨x1, x2, x3, x4, x5, x6, rfl⟩ := six_of h1
  obtain ⟨y1, y2, y3, y4, y5, y6, rfl⟩ := six_of h2
  obtain ⟨z1, z2, z3, z4, z5, z6, rfl⟩ := six_of h3
  refine vc_act_DelBytes _ _ _ ?_
  intro b1 g1 e1 e2
  replace m := m.push e2 e1
  refine ⟨_, m.cell 0 rfl rfl, top_in ht ⟨_, rfl, bcase_false rfl ?_⟩⟩
  refine ⟨_, m.cell 0 rfl rfl, top_in (by decide) ⟨_, rfl, bcase_false rfl ?_⟩⟩
  refine ⟨tid, m.cell 0 rfl rfl, by simp only [fits]; omega, true, m.cell 0 rfl rfl, bcase_true rfl ⟨by simp only [fits]; omega, _, m.row 0 rfl rfl (Nat.le_of_ble_eq_true rfl), _, m.row 0 rfl rfl (Nat.le_of_ble_eq_true rfl), _, m.row 0 rfl rfl (Nat.le_of_ble_eq_true rfl), 0, m.cell 0 rfl rfl, ?_⟩⟩
  refine (front_c (to := [x1, x2, x3, x4, x5, x6]) (fr := [y1, y2, y3, y4, y5, y6]) (bss := [z1, z2, z3, z4, z5, z6]) _ m rfl rfl rfl).mono ?_
  rintro _ g2 ⟨a2, c2, E2, rfl, m, o2⟩
  refine ⟨_, _, _, rfl, m.cell 1 rfl rfl, ?_⟩
  refine (atwo_c _ m).mono ?_
  rintro _ g4 ⟨b4, T4, rfl, m⟩
  refine ⟨_, _, _, rfl, m.cell 2 rfl rfl, ?_⟩
  refine grow2 o2 m (by omega) fun a5 c5 E5 g5 m o5 => ?_
  refine ⟨m.cell 1 rfl rfl, ?_⟩
  refine (atwo_c _ m).mono ?_
  rintro _ g6 ⟨b6, T6, rfl, m⟩
  refine ⟨_, _, _, rfl, ?_⟩
  refine grow2 o5 m (by omega) fun a7 c7 E7 g7 m o7 => ?_
  have e9 : headB 2 [x1, x2, x3, x4, x5, x6] [y1, y2, y3, y4, y5, y6] [z1, z2, z3, z4, z5, z6] ++ w2 (tid * 4096 + 2048) ++ w2 0 = delB [x1, x2, x3, x4, x5, x6] [y1, y2, y3, y4, y5, y6] [z1, z2, z3, z4, z5, z6] tid := by simp only [delB, List.append_assoc]
  rw [e9] at o7
  have o10 : Ow a7 (delB [x1, x2, x3, x4, x5, x6] [y1, y2, y3, y4, y5, y6] [z1, z2, z3, z4, z5, z6] tid).length c7 1 (ints .u8 (delB [x1, x2, x3, x4, x5, x6] [y1, y2, y3, y4, y5, y6] [z1, z2, z3, z4, z5, z6] tid)) E7 := by rw [hL]; exact o7
  obtain ⟨W', hl, m10, hb10⟩ := ow_give o10 m
  exact ⟨W', a7, c7, hl, by rw [hL], m10.drop1, hb10⟩
set_option maxHeartbeats 600000 in
theorem readDel_c (m : Me W h G) (hb : Bts W (.slice a n c) (delB to fr bss tid)) (h1 : to.length = 6) (h2 : fr.length = 6) (h3 : bss.length = 6) (ht : 0 ≤ tid ∧ tid ≤ 7) :
    Runs Tryd.prog 54 #[.slice a n c] h fun v h' => v = .tuple #[.agg (delC to fr bss true tid).toArray, .nilIface] ∧ ∃ W', W.le W' ∧ Me W' h' G := by
  have hL := delB_len (tid := tid) h1 h2 h3
  obtain ⟨x1, x2, x3, x4, x5, x6, rfl⟩ := six_of h1
  obtain ⟨y1, y2, y3, y4, y5, y6, rfl⟩ := six_of h2
  obtain ⟨z1, z2, z3, z4, z5, z6, rfl⟩ := six_of h3
  obtain ⟨-, hn, -⟩ := bts_src hb
  rw [hL] at hn
  subst hn
  have hb0 := hb
  obtain ⟨b, o, rfl, -, -, hx⟩ := bts_opn hb (by omega)
  have t26 := bts_tail hb (k := 26) (by omega)
  have t28 := bts_tail hb (k := 28) (by omega)
  have n26 : ∀ {h : Heap} {G : List Grp}, Me W h G → Runs Tryd.prog 75 #[.slice (slcAddr (some ⟨b, o, none⟩) 26 c 26) (30 - 26) (c - 26)] h fun v h' => v = .int .i64 (tid * 4096 + 2048) ∧ h' = h := fun m => by
    have := anum_c m t26 (x := (tid * 4096 + 2048) % 256) (y := (tid * 4096 + 2048) / 256 % 256) rfl rfl (by omega) (by omega)
    rwa [show (tid * 4096 + 2048) % 256 + (tid * 4096 + 2048) / 256 % 256 * 256 = tid * 4096 + 2048 by omega] at this
  have n28 : ∀ {h : Heap} {G : List Grp}, Me W h G → Runs Tryd.prog 75 #[.slice (slcAddr (some ⟨b, o, none⟩) 28 c 28) (30 - 28) (c - 28)] h fun v h' => v = .int .i64 0 ∧ h' = h := fun m =>
    anum_c m t28 (x := 0) (y := 0) rfl rfl (by decide) (by decide)
  refine vc_act_ReadDel _ _ _ _ _ ?_
  intro b1 g1 e1 e2 b2 g2 e3 e4
  replace m := (m.push e2 e1).push e4 e3
  refine (along_ok (ws := [2]) (what := 2) (v := 0) (N := 30) m hb0 rfl rfl rfl hL rfl (by decide) (by decide)).ret ⟨_, rfl, true, rfl, bcase_false rfl ?_⟩
  replace m := m.drop1
  refine ⟨⟨by decide, by decide⟩, ?_⟩
  refine (n26 m).ret ⟨_, rfl, ?_⟩
  rw [show (tid * 4096 + 2048) / 4096 = tid by omega, mine_bit ht]
  refine ⟨⟨by omega, by decide, by simp only [fits]; omega⟩, ⟨by decide, by decide⟩, ?_⟩
  refine (n28 m).ret ⟨_, rfl, ?_⟩
  intro b5 g5 e5 e6
  replace m := m.push e6 e5
  refine ⟨⟨rfl, m.wrsb 0 rfl rfl, delC_one [0, 0, 0, 0, 0, 0] [0, 0, 0, 0, 0, 0] [0, 0, 0, 0, 0, 0] true tid⟩, fun g6 e7 => ?_⟩
  replace m := m.setr 0 rfl e7
  replace m : Me W g6 ([(b5, delC [0, 0, 0, 0, 0, 0] [0, 0, 0, 0, 0, 0] [0, 0, 0, 0, 0, 0] true tid, 77)] :: [(b1, z21, 77)] :: G) := m
  refine (addrs_c m hb0).mono ?_
  rintro _ g7 ⟨rfl, m⟩
  refine ⟨_, _, _, rfl, ⟨rfl, m.wrsb 0 rfl rfl, ints_one (k := .u8) (l := [x1, x2, x3, x4, x5, x6])⟩, fun g8 e8 => ?_⟩
  replace m := m.setr 0 rfl e8
  replace m : Me W g8 ([(b5, delC [x1, x2, x3, x4, x5, x6] [0, 0, 0, 0, 0, 0] [0, 0, 0, 0, 0, 0] true tid, 77)] :: [(b1, z21, 77)] :: G) := m
  refine ⟨⟨rfl, m.wrsb 0 rfl rfl, ints_one (k := .u8) (l := [y1, y2, y3, y4, y5, y6])⟩, fun g9 e9 => ?_⟩
  replace m := m.setr 0 rfl e9
  replace m : Me W g9 ([(b5, delC [x1, x2, x3, x4, x5, x6] [y1, y2, y3, y4, y5, y6] [0, 0, 0, 0, 0, 0] true tid, 77)] :: [(b1, z21, 77)] :: G) := m
  refine ⟨⟨rfl, m.wrsb 0 rfl rfl, ints_one (k := .u8) (l := [z1, z2, z3, z4, z5, z6])⟩, fun g10 e10 => ?_⟩
  replace m := m.setr 0 rfl e10
  replace m : Me W g10 ([(b5, delC [x1, x2, x3, x4, x5, x6] [y1, y2, y3, y4, y5, y6] [z1, z2, z3, z4, z5, z6] true tid, 77)] :: [(b1, z21, 77)] :: G) := m
  have r10 : row g10 b5 0 21 = some (delC [x1, x2, x3, x4, x5, x6] [y1, y2, y3, y4, y5, y6] [z1, z2, z3, z4, z5, z6] true tid) := m.row 0 rfl rfl (Nat.le_of_ble_eq_true rfl)
  refine ⟨_, r10, ?_⟩
  refine (delBytesA_c (to := [x1, x2, x3, x4, x5, x6]) (fr := [y1, y2, y3, y4, y5, y6]) (bss := [z1, z2, z3, z4, z5, z6]) m rfl rfl rfl ht).mono ?_
  rintro _ g15 ⟨W', a8, c8, hle, rfl, m, hb8⟩
  refine ⟨_, _, _, _, rfl, true, rfl, bcase_false rfl ?_⟩
  refine (eqB_c m hb8 (hb0.le hle)).ret ⟨_, rfl, bcase_false rfl ?_⟩
  have r14 : row g15 b5 0 21 = some (delC [x1, x2, x3, x4, x5, x6] [y1, y2, y3, y4, y5, y6] [z1, z2, z3, z4, z5, z6] true tid) := m.row 0 rfl rfl (Nat.le_of_ble_eq_true rfl)
  refine ⟨_, r14, ⟨rfl, m.wrsb 1 rfl rfl, delC_one _ _ _ _ _⟩, fun g16 e16 => ?_⟩
  have m16 := m.setr 1 rfl e16
  simp only [List.set_cons_zero, List.set_cons_succ] at m16
  rw [setL_all (show (delC [x1, x2, x3, x4, x5, x6] [y1, y2, y3, y4, y5, y6] [z1, z2, z3, z4, z5, z6] true tid).length = z21.length from rfl)] at m16
  have r16 : row g16 b1 0 21 = some (delC [x1, x2, x3, x4, x5, x6] [y1, y2, y3, y4, y5, y6] [z1, z2, z3, z4, z5, z6] true tid) := m16.row 1 rfl rfl (Nat.le_of_ble_eq_true rfl)
  exact ⟨_, r16, rfl, W', hle, m16.drop1.drop1⟩
end
section
variable {W W' : Wd} {h h' : Heap} {b t j n c : Nat} {a : Option Addr} {T : TypeId} {size : Int} {css : List (List Value)} {cs us vs : List Value} {G G' : List Grp} {v : Value} {x : Ses} {f : Fm} {mv : Option Nat} {Q : Heap → Prop} {E : Grp} {l : List Fm}
/-- What the end of a session, or of all, yields. -/
def EndV (W : Wd) (b : Nat) (T : TypeId) (size : Int) (css : List (List Value)) (t : Nat) (G : List Grp) (kept : List Fm) (K : Value → Value) (v : Value) (h' : Heap) : Prop :=
  ∃ W' a c E vs, W.le W' ∧ v = K (.slice a kept.length c) ∧ Ow a kept.length c 24 vs E ∧ Sq (FmV W') kept vs ∧ St W' h' b T size css t (sesC ses0 none) (E :: G)
theorem other_del (hE : Snt5 W) (s : St W h b T size css t (sesC x mv) G) (hk : KeptV W mv x.kept) (hok : SesOk x) (h1 : x.kept.length ≤ 1) (hb : Bts W (.slice a n c) (delB meL bssL bssL t)) :
    Runs Tryd.prog 24 #[.pointer (some ⟨b, 0, none⟩), .slice a n c] h (EndV W b T size css t G x.kept fun u => .tuple #[u, .slice none 0 0]) := by
  have ht := s.ht
  refine vc_recv_Station_Other _ _ _ _ _ _ ?_
  refine (readBar_no (x := 208) hE s.m hb rfl (by decide)).mono ?_
  rintro _ g1 ⟨⟨e, rfl⟩, m1⟩
  replace s := s.mem m1
  refine ⟨_, _, rfl, ?_⟩
  intro b1 g2 e1 e2
  replace s := s.push e1 e2
  refine ⟨⟨rfl, s.m.wrsb 1 rfl rfl, z14_one⟩, fun g3 e3 => ?_⟩
  replace s := (s.mem (s.m.setr 1 rfl e3)).drop
  refine ⟨false, rfl, bcase_false rfl ?_⟩
  refine (readAdd_no (what := 2) hE s.m hb rfl rfl rfl (by decide)).mono ?_
  rintro _ g4 ⟨⟨e', rfl⟩, m4⟩
  replace s := s.mem m4
  refine ⟨_, _, rfl, ?_⟩
  intro b2 g5 e5 e6
  replace s := s.push e5 e6
  refine ⟨⟨rfl, s.m.wrsb 1 rfl rfl, addC_one _ _ _ _ _ _ _ _⟩, fun g6 e7 => ?_⟩
  replace s := (s.mem (s.m.setr 1 rfl e7)).drop
  refine ⟨false, rfl, bcase_false rfl ?_⟩
  refine (readDel_c s.m hb rfl rfl rfl (by omega)).mono ?_
  rintro _ g7 ⟨rfl, W2, hle2, m7⟩
  replace s := s.mem m7
  refine ⟨_, _, rfl, ?_⟩
  intro b3 g8 e8 e9
  replace s := s.push e8 e9
  refine ⟨⟨rfl, s.m.wrsb 1 rfl rfl, delC_one _ _ _ _ _⟩, fun g9 e10 => ?_⟩
  have m9 := s.m.setr 1 rfl e10
  replace m9 : Me W2 g9 ([(b, stC size css t (sesC x mv), T)] :: [(b3, delC meL bssL bssL true t, 77)] :: G) := m9
  replace s := s.mem m9
  refine ⟨true, rfl, bcase_true rfl ?_⟩
  refine ⟨_, s.m.row 1 rfl rfl (Nat.le_of_ble_eq_true rfl), _, s.rme, meL, meL, rfl, rfl, ⟨rfl, rfl⟩, bcase_true (by decide) ?_⟩
  refine ⟨_, s.m.row 1 rfl rfl (Nat.le_of_ble_eq_true rfl), _, s.rbss, bssL, bssL, rfl, rfl, ⟨rfl, rfl⟩, bcase_true (by decide) ?_⟩
  refine ⟨true, s.m.cell 1 rfl rfl, bcase_true rfl ⟨(t : Int), s.m.cell 1 rfl rfl, ⟨by omega, by omega⟩, ?_⟩⟩
  rw [show (t : Int).toNat = t from rfl]
  refine (all1_c s (hk.le hle2) hok h1).mono ?_
  rintro _ g11 ⟨W3, a3, c3, E3, vs3, hle3, rfl, o3, hs3, s3⟩
  refine ⟨_, _, _, rfl, ⟨rfl, s3.wrs, by simp [Value.oneCell']⟩, fun g12 e12 => ?_⟩
  have s4 : St W3 g12 b T size css t (sesC ses0 none) (E3 :: [(b3, delC meL bssL bssL true t, 77)] :: G) := s3.setr rfl e12
  exact ⟨W3, a3, c3, E3, vs3, hle2.trans hle3, rfl, o3, hs3, s4.mem (s4.m.sub ⟨[(b3, delC meL bssL bssL true t, 77)], by
    simp only [List.flatten_cons, List.append_assoc]
    exact List.Perm.append_left _ (List.Perm.append_left _ List.perm_append_comm)⟩)⟩
end
end Go.Proofs.YthlacliefgliiaaDoor
