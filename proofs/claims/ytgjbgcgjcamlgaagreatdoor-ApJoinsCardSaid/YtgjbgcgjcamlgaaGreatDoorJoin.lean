/- A station that joins: its rate, its place in the table, its turns, whether it sleeps. -/
import Derived.Test.YtgjbgcgjcamlgaaGreatDoorSend0
set_option linter.unusedVariables false
set_option linter.unusedSimpArgs false
set_option maxRecDepth 8000
namespace Go.Proofs.YtgjbgcgjcamlgaaGreatDoor
open Go.Vc
def Ap.setTb (x : Ap) (tb : List (List Value)) : Ap := { x with tb := tb }
def Ap.setPw (x : Ap) (pw : List (List Value)) : Ap := { x with pw := pw }
def rateC (mode mcs st wd gi : Int) : List Value := [.int .i64 mode, .int .i64 mcs, .int .i64 st, .int .i64 wd, .int .i64 gi]
section
variable {W W' : Wd} {h h' : Heap} {G : List Grp} {E : Grp} {ads : List Addr} {n k i j b o : Nat} {vs us cs : List Value} {x : Ap} {v : Value} {tm : List On} {T : TypeId} {l : List Int} {q : On}
theorem ApW.tb_at (w : ApW x) (hk : x.tb[k]? = some cs) (hv : cs[j]? = some v) : x.C[22 + k * 8 + j]? = some v := by
  rw [w.tbC]; exact ck_get w.t8 hk (by simp [w.cc]) hv
theorem ApW.tb_set (w : ApW x) (hk : x.tb[k]? = some cs) (hj : j < 8) : x.C.set (22 + k * 8 + j) v = (x.setTb (x.tb.set k (cs.set j v))).C := by
  rw [w.tbC, ck_set w.t8 hk (by simp [w.cc]) hj]
  unfold Ap.setTb Ap.C ck; simp only [List.append_assoc, List.cons_append, List.nil_append]
theorem ApW.tb_setL (w : ApW x) (hk : x.tb[k]? = some cs) (hj : j + us.length ≤ 8) : setL x.C (22 + k * 8 + j) us = (x.setTb (x.tb.set k (setL cs j us))).C := by
  rw [w.tbC, ck_setL w.t8 hk (by simp [w.cc]) hj]
  unfold Ap.setTb Ap.C ck; simp only [List.append_assoc, List.cons_append, List.nil_append]
theorem ApW.pre150 (w : ApW x) : (x.cc ++ (Value.int .i64 x.now :: x.tb.flatten)).length = 150 := by simp [w.cc, w.tl]
theorem ApW.pw_at (w : ApW x) (hk : x.pw[k]? = some cs) (hv : cs[j]? = some v) : x.C[150 + k * 10 + j]? = some v := by
  rw [w.pwC]; exact ck_get w.p10 hk (by rw [w.pre150]) hv
theorem ApW.pw_setL (w : ApW x) (hk : x.pw[k]? = some cs) (hj : us.length = 10) : setL x.C (150 + k * 10) us = (x.setPw (x.pw.set k us)).C := by
  have hc := w.p10 cs (List.mem_of_getElem? hk)
  rw [w.pwC, ck_setL (j := 0) w.p10 hk (by rw [w.pre150]; rfl) (by omega), setL_all (by omega)]
  unfold Ap.setPw Ap.C ck; simp only [List.append_assoc, List.cons_append]
theorem ApW.tbw (w : ApW x) (hc : cs.length = 8) : ApW (x.setTb (x.tb.set k cs)) :=
  ⟨w.cc, (List.length_set ..).trans w.t16, set_all w.t8 hc, w.p16, w.p10, w.mid, w.ts, w.ed, w.ls⟩
theorem ApW.pww (w : ApW x) (hc : cs.length = 10) : ApW (x.setPw (x.pw.set k cs)) :=
  ⟨w.cc, w.t16, w.t8, (List.length_set ..).trans w.p16, set_all w.p10 hc, w.mid, w.ts, w.ed, w.ls⟩
theorem valid20_c (m : Me W h G) {mode : Int} (hm : mode = 1 ∨ mode = 2) : Runs Tryz.prog 31 #[.agg (rateC mode 0 1 20 0).toArray] h fun v h' => v = .bool true ∧ Me W h' G := by
  refine vc_rate_Valid _ _ _ ?_
  intro b1 h1 e1 e2
  replace m := m.push e2 e1
  refine ⟨mode, m.cell 0 rfl rfl, ?_⟩
  have ht : Runs Tryz.prog 65 #[.int .i64 mode] h1 fun v h' => (∃ s g : Int, v = .tuple #[.int .i64 7, .int .i64 s, .int .i64 g] ∧ 1 ≤ s ∧ 0 ≤ g) ∧ h' = h1 := by
    rcases hm with rfl | rfl
    · exact vc_rate_tops _ _ _ (dcase_pos rfl ⟨⟨1, 0, rfl, by decide, by decide⟩, rfl⟩)
    · exact vc_rate_tops _ _ _ (dcase_neg (by decide) (dcase_pos rfl ⟨⟨4, 1, rfl, by decide, by decide⟩, rfl⟩))
  refine ht.mono ?_
  rintro _ h1 ⟨⟨s, g, rfl, hs, hg⟩, rfl⟩
  refine ⟨7, s, g, rfl, 0, m.cell 0 rfl rfl, dcase_pos (by decide) ⟨0, m.cell 0 rfl rfl, dcase_pos (by decide) ⟨1, m.cell 0 rfl rfl, dcase_pos (by decide) ⟨1, m.cell 0 rfl rfl, dcase_pos hs ⟨0, m.cell 0 rfl rfl, dcase_pos (by decide) ⟨0, m.cell 0 rfl rfl, dcase_pos hg ⟨mode, m.cell 0 rfl rfl, 20, m.cell 0 rfl rfl, ?_⟩⟩⟩⟩⟩⟩⟩
  have hwd : Runs Tryz.prog 67 #[.int .i64 mode] h1 fun v h' => ∃ (bw : Nat) (ws : List Int) (tt : TypeId), v = .slice (some ⟨bw, 0, none⟩) (20 :: ws).length (20 :: ws).length ∧ Me W h' ([(bw, ints .i64 (20 :: ws), tt)] :: [(b1, rateC mode 0 1 20 0, 42)] :: G) := by
    rcases hm with rfl | rfl
    · refine vc_rate_widths _ _ _ (dcase_pos rfl ?_)
      intro b2 h2 f1 f2
      exact ⟨b2, [], _, rfl, m.push f2 f1⟩
    · refine vc_rate_widths _ _ _ (dcase_neg (by decide) (dcase_pos rfl ?_))
      intro b2 h2 f1 f2
      exact ⟨b2, [40], _, rfl, m.push f2 f1⟩
  refine hwd.mono ?_
  rintro _ h2 ⟨bw, ws, tt, rfl, m2⟩
  refine ⟨_, _, _, rfl, m2.cell 1 rfl rfl, m2.cell 1 rfl rfl, m2.cell 1 rfl rfl, m2.cell 1 rfl rfl, m2.cell 1 rfl rfl, m2.cell 1 rfl rfl, m2.cell 1 rfl rfl, ?_⟩
  refine vc_slices_Contains_int _ _ _ _ _ _ (vc_slices_Index_int _ _ _ _ _ _ ?_)
  refine ⟨fun z h => z = 0 ∧ h = h2, fun _ _ => 0, ⟨rfl, rfl⟩, fun _ => ?_⟩
  rintro _ h2 ⟨rfl, rfl⟩
  refine dcase_pos (by rw [List.length_cons]; omega) ⟨⟨by decide, by rw [List.length_cons]; omega⟩, 20, m2.cell 0 rfl rfl, dcase_pos rfl ⟨0, rfl, true, rfl, m2.cell 1 rfl rfl, m2.cell 1 rfl rfl, m2.cell 1 rfl rfl, m2.cell 1 rfl rfl, m2.cell 1 rfl rfl, m2.cell 1 rfl rfl, rfl, m2.drop1.drop1⟩⟩
theorem tabAdd_c (w : ApW x) (tw : TbW tm) (ht : x.tb = tm.map onC) (hl : l.length = 6) (hf : fairB l = true) (hno : (tm.any fun q => q.th && q.a == l) = false) (hi : i < 16)
    (hpre : ∀ j q, j < i → tm[j]? = some q → q.th = true) (hq : tm[i]? = some q) (hqf : q.th = false) (hep : 0 ≤ q.ep ∧ q.ep ≤ 1099511627776) (m : Me W h ([(b, x.C, T)] :: G)) :
    Runs Tryz.prog 32 #[.pointer (some ⟨b, 0 + 22, none⟩), .agg (ints .u8 l).toArray] h fun v h' => v = .tuple #[.int .i64 ((i : Int) + 1), .nilIface] ∧ Me W h' ([(b, (x.setTb ((tm.set i ⟨true, l, q.ep + 1⟩).map onC)).C, T)] :: G) := by
  have hlen := w.len
  obtain ⟨x1, x2, x3, x4, x5, x6, rfl⟩ := six_of' hl
  refine vc_sta_Table_Add _ _ _ _ ?_
  intro b1 h1 e1 e2
  replace m : Me W h1 ([(b1, ints .u8 [x1, x2, x3, x4, x5, x6], 24)] :: [(b, x.C, T)] :: G) := m.push e2 e1
  refine ⟨_, m.row 0 rfl rfl (Nat.le_of_ble_eq_true rfl), (fair_c (l := [x1, x2, x3, x4, x5, x6]) m rfl).mono ?_⟩
  rintro _ h2 ⟨rfl, m⟩
  rw [hf]
  refine ⟨true, rfl, bcase_false rfl ⟨_, m.row 0 rfl rfl (Nat.le_of_ble_eq_true rfl), ?_⟩⟩
  refine (find_c (o := 0 + 22) (l := [x1, x2, x3, x4, x5, x6]) tw m (fun m => m.row 2 rfl (w.tm_row ht) (by omega)) rfl).mono ?_
  rintro _ h3 ⟨⟨z, rfl⟩, m⟩
  rw [hno]
  refine ⟨z, false, rfl, bcase_false rfl ?_⟩
  refine ⟨fun y h => ∃ k : Nat, y = k ∧ k ≤ i ∧ h = h3, fun y _ => (16 - y).toNat, ⟨0, rfl, by omega, rfl⟩, fun _ => ?_⟩
  rintro _ h3 ⟨k, rfl, hk, rfl⟩
  refine dcase_pos (by omega) ⟨⟨by omega, by omega⟩, ?_⟩
  have ea : 0 + 22 + ((k : Int)).toNat * 8 = 22 + k * 8 := by omega
  rw [ea]
  by_cases hki : k = i
  · subst hki
    have hcs : x.tb[k]? = some (onC q) := by rw [ht, List.getElem?_map, hq]; rfl
    have hq6 := tw.a q (List.mem_of_getElem? hq)
    obtain ⟨th, qa, ep⟩ := q
    dsimp only at hq6 hqf hep hcs
    subst hqf
    obtain ⟨y1, y2, y3, y4, y5, y6, rfl⟩ := six_of' hq6
    refine ⟨false, m.cell 1 rfl (by rw [← Nat.add_zero (22 + k * 8)]; exact w.tb_at hcs rfl), bcase_true rfl ⟨_, m.row 0 rfl rfl (Nat.le_of_ble_eq_true rfl), ?_⟩⟩
    refine m.store 1 rfl (by omega) fun h4 m => ?_
    simp only [List.set_cons_zero, List.set_cons_succ] at m
    rw [show x.C.set (22 + k * 8) (.bool true) = x.C.set (22 + k * 8 + 0) (.bool true) from rfl, w.tb_set hcs (by decide)] at m
    have w4 := w.tbw (k := k) (cs := (onC ⟨false, [y1, y2, y3, y4, y5, y6], ep⟩).set 0 (.bool true)) rfl
    obtain ⟨A4, hA4⟩ : ∃ A, A = x.tb.set k ((onC ⟨false, [y1, y2, y3, y4, y5, y6], ep⟩).set 0 (.bool true)) := ⟨_, rfl⟩
    rw [← hA4] at m w4
    have hcs4 : A4[k]? = some (onC ⟨true, [y1, y2, y3, y4, y5, y6], ep⟩) := by rw [hA4]; exact set_at hcs
    refine ⟨m.row 0 rfl rfl (Nat.le_of_ble_eq_true rfl), ⟨rfl, m.wrs 1 rfl (by rw [w4.len]; omega), ints_one (k := .u8) (l := [x1, x2, x3, x4, x5, x6])⟩, fun h5 e5 => ?_⟩
    have m5 := m.setr (us := ints .u8 [x1, x2, x3, x4, x5, x6]) 1 rfl e5
    simp only [List.set_cons_zero, List.set_cons_succ] at m5
    rw [w4.tb_setL (us := ints .u8 [x1, x2, x3, x4, x5, x6]) hcs4 (by show 1 + 6 ≤ 8; decide)] at m5
    have w5 := w4.tbw (k := k) (cs := setL (onC ⟨true, [y1, y2, y3, y4, y5, y6], ep⟩) 1 (ints .u8 [x1, x2, x3, x4, x5, x6])) rfl
    obtain ⟨A5, hA5⟩ : ∃ A, A = A4.set k (setL (onC ⟨true, [y1, y2, y3, y4, y5, y6], ep⟩) 1 (ints .u8 [x1, x2, x3, x4, x5, x6])) := ⟨_, rfl⟩
    replace m5 : Me W h5 ([(b1, ints .u8 [x1, x2, x3, x4, x5, x6], 24)] :: [(b, (x.setTb A5).C, T)] :: G) := by rw [hA5]; exact m5
    replace w5 : ApW (x.setTb A5) := by rw [hA5]; exact w5
    have hcs5 : A5[k]? = some (onC ⟨true, [x1, x2, x3, x4, x5, x6], ep⟩) := by rw [hA5]; exact set_at hcs4
    refine ⟨ep, m5.cell 1 rfl (w5.tb_at hcs5 rfl), by simp only [fits]; omega, ?_⟩
    refine m5.store 1 rfl (by rw [w5.len]; omega) fun h6 m6 => ?_
    simp only [List.set_cons_zero, List.set_cons_succ] at m6
    rw [w5.tb_set hcs5 (by decide)] at m6
    refine ⟨by simp only [fits]; omega, rfl, ?_⟩
    have e : A5.set k ((onC ⟨true, [x1, x2, x3, x4, x5, x6], ep⟩).set 7 (.int .i64 (ep + 1))) = (tm.set k ⟨true, [x1, x2, x3, x4, x5, x6], ep + 1⟩).map onC := by
      rw [hA5, hA4, List.set_set, List.set_set, List.map_set, ht]; rfl
    have m7 := m6.drop1
    rw [← e]
    exact m7
  · have hkl : k < tm.length := by rw [tw.n]; omega
    have hk' := List.getElem?_eq_getElem hkl
    have hth := hpre k _ (by omega) hk'
    refine ⟨true, m.cell 1 rfl (by rw [← Nat.add_zero (22 + k * 8)]; exact w.tb_at (cs := onC tm[k]) (by rw [ht, List.getElem?_map, hk']; rfl) (by rw [← hth]; rfl)), bcase_false rfl ⟨by simp only [fits]; omega, ⟨k + 1, by omega, by omega, rfl⟩, by dsimp only; omega⟩⟩
end
end Go.Proofs.YtgjbgcgjcamlgaaGreatDoor
