/- Who may not join; what is asked of one that is not there. -/
import Derived.Test.YtgjbgcgjcamlgaaGreatDoorLeave2
import Derived.Test.YtgjbgcgjcamlgaaGreatDoorDoor
set_option linter.unusedVariables false
set_option linter.unusedSimpArgs false
set_option maxRecDepth 8000
namespace Go.Proofs.YtgjbgcgjcamlgaaGreatDoor
open Go.Vc
section
variable {W W' : Wd} {h h' : Heap} {G : List Grp} {E Q : Grp} {ads : List Addr} {n k i j b o : Nat} {vs us cs : List Value} {x : Ap} {v : Value} {tm : List On} {T : TypeId} {l : List Int} {q : On} {ss : List Sc} {c : Cf}
theorem noneE (s : Snt W ads) (m : Me W h G) : ∃ e, erV ads (some 6) = ptE e ∧ cell h 2 0 = some (ptE e) := by
  obtain ⟨e, h1, h2⟩ := s.get (i := 6) (by decide)
  exact ⟨e, h2, by rw [← h2]; exact s.var m rfl (by decide)⟩
theorem valid0_c (m : Me W h G) : Runs Tryz.prog 31 #[.agg (rateC 0 0 0 0 0).toArray] h fun v h' => v = .bool false ∧ Me W h' G := by
  refine vc_rate_Valid _ _ _ ?_
  intro b1 h1 e1 e2
  replace m := m.push e2 e1
  refine ⟨0, m.cell 0 rfl rfl, vc_rate_tops _ _ _ (dcase_neg (by decide) (dcase_neg (by decide) (dcase_neg (by decide) (dcase_neg (by decide) ?_))))⟩
  exact ⟨_, _, _, rfl, 0, m.cell 0 rfl rfl, dcase_pos (by decide) ⟨0, m.cell 0 rfl rfl, dcase_neg (by decide) ⟨rfl, m.drop1⟩⟩⟩
/-- One that came twice. -/
theorem tabTwice_c (s : Snt W ads) (w : ApW x) (tw : TbW tm) (ht : x.tb = tm.map onC) (hl : l.length = 6) (hf : fairB l = true) (hno : (tm.any fun q => q.th && q.a == l) = true) (m : Me W h ([(b, x.C, T)] :: G)) :
    Runs Tryz.prog 32 #[.pointer (some ⟨b, 0 + 22, none⟩), .agg (ints .u8 l).toArray] h fun v h' => v = .tuple #[.int .i64 0, erV ads (some 7)] ∧ Me W h' ([(b, x.C, T)] :: G) := by
  have hlen := w.len
  obtain ⟨x1, x2, x3, x4, x5, x6, rfl⟩ := six_of' hl
  refine vc_sta_Table_Add _ _ _ _ ?_
  intro b1 h1 e1 e2
  replace m : Me W h1 ([(b1, ints .u8 [x1, x2, x3, x4, x5, x6], 24)] :: [(b, x.C, T)] :: G) := m.push e2 e1
  refine ⟨_, m.row 0 rfl rfl (Nat.le_of_ble_eq_true rfl), (fair_c (l := [x1, x2, x3, x4, x5, x6]) m rfl).mono ?_⟩
  rintro _ h2 ⟨rfl, m⟩
  rw [hf]
  refine ⟨true, rfl, bcase_false rfl ⟨_, m.row 0 rfl rfl (Nat.le_of_ble_eq_true rfl), ?_⟩⟩
  refine (find_c (o := 0 + 22) (l := [x1, x2, x3, x4, x5, x6]) tw m (fun m => m.row 2 rfl (w.tm_row ht) (by omega)) rfl).mono ?_
  rintro _ h3 ⟨⟨z, rfl⟩, m⟩
  rw [hno]
  obtain ⟨e, he, hc⟩ := twiceE s m
  exact ⟨z, true, rfl, bcase_true rfl ⟨_, hc, by rw [he], m.drop1⟩⟩
theorem joinTwice_c (s : Snt W ads) (w : ApW x) (tw : TbW tm) (ht : x.tb = tm.map onC) (hcc : x.cc = cfC c) (h6 : c.bss.length = 6) (hl : l.length = 6) (hf : fairB l = true) {mode weight most : Int} (hmode : mode = 1 ∨ mode = 2) (hw : 1 ≤ weight ∧ weight ≤ 100) (hmo : 0 ≤ most ∧ most ≤ 8)
    (hno : l = c.bss ∨ (tm.any fun q => q.th && q.a == l) = true) (m : Me W h ([(b, x.C, T)] :: G)) :
    Runs Tryz.prog 10 #[.pointer (some ⟨b, 0, none⟩), .agg (ints .u8 l).toArray, .agg (rateC mode 0 1 20 0).toArray, .int .i64 weight, .agg no4.toArray, .int .i64 most] h fun v h' =>
      v = .tuple #[.int .i64 0, erV ads (some 7)] ∧ Me W h' ([(b, x.C, T)] :: G) := by
  have hlen := w.len
  have hcl : (ints IntKind.u8 l).length = 6 := by rw [ints_len, hl]
  refine vc_ap_AP_Join _ _ _ _ _ _ _ _ ?_
  intro b1 h1 e1 e2 b2 h2 e3 e4 b3 h3 e5 e6
  replace m := me_swap (m.push e2 e1)
  replace m := me_swap (m.push e4 e3)
  replace m : Me W h3 ([(b, x.C, T)] :: [(b3, no4, 46)] :: [(b2, rateC mode 0 1 20 0, 42)] :: [(b1, ints .u8 l, 24)] :: G) := me_swap (m.push e6 e5)
  have r1 : ∀ {h : Heap} {W' : Wd} {X Y : Grp} {R : List Grp}, Me W' h (X :: Y :: [(b2, rateC mode 0 1 20 0, 42)] :: [(b1, ints .u8 l, 24)] :: R) → row h b1 0 6 = some (ints .u8 l) := fun m => m.row 3 rfl (by rw [List.drop_zero]; exact List.take_of_length_le (by omega)) (by omega)
  refine ⟨_, r1 m, (fair_c m hl).mono ?_⟩
  rintro _ h4 ⟨rfl, m⟩
  rw [hf]
  refine ⟨true, rfl, bcase_false rfl ⟨_, r1 m, on_addr ⟨ints .u8 c.bss, m.row 0 rfl (by rw [w.cc_row (by decide), hcc, cf_row h6]) (by omega), l, c.bss, rfl, rfl, ⟨hl, h6⟩, dcase_intro (fun q1 => ?_) fun q1 => ?_⟩⟩⟩
  · obtain ⟨e, he, hc⟩ := twiceE s m
    exact ⟨_, hc, by rw [he], (me_swap (me_swap (me_swap m).drop1).drop1).drop1⟩
  replace hno : (tm.any fun q => q.th && q.a == l) = true := hno.resolve_left q1
  refine ⟨fun z h => z = false ∧ Me W h ([(b, x.C, T)] :: [(b3, no4, 46)] :: [(b2, rateC mode 0 1 20 0, 42)] :: [(b1, ints .u8 l, 24)] :: G), ⟨_, m.row 2 rfl rfl (Nat.le_of_ble_eq_true rfl), (valid20_c m hmode).mono ?_⟩, fun _ => ?_⟩
  · rintro _ h5 ⟨rfl, m⟩
    exact ⟨true, rfl, bcase_false rfl ⟨decide_eq_false (by omega), m⟩⟩
  rintro _ h5 ⟨rfl, m⟩
  refine ⟨fun z h => z = false ∧ h = h5, bcase_false rfl ⟨decide_eq_false (by omega), rfl⟩, fun _ => ?_⟩
  rintro _ h5 ⟨rfl, rfl⟩
  refine ⟨fun z h => z = false ∧ h = h5, bcase_false rfl ⟨decide_eq_false (by omega), rfl⟩, fun _ => ?_⟩
  rintro _ h5 ⟨rfl, rfl⟩
  refine bcase_false rfl (dcase_neg (by omega) (on_addr ⟨_, r1 m, ?_⟩))
  refine (tabTwice_c s w tw ht hl hf hno m).mono ?_
  rintro _ h6' ⟨rfl, m⟩
  obtain ⟨e, he, -⟩ := twiceE s m
  exact ⟨_, _, rfl, false, by rw [he]; rfl, bcase_true rfl ⟨rfl, (me_swap (me_swap (me_swap m).drop1).drop1).drop1⟩⟩
/-- A rate, a weight, a number that may not be. -/
theorem joinRange_c (s : Snt W ads) (w : ApW x) (hcc : x.cc = cfC c) (h6 : c.bss.length = 6) (hl : l.length = 6) (hf : fairB l = true) (hne : l ≠ c.bss) {r : List Value} {weight most : Int} (hr : r.length = 5)
    (hv : ∀ {h : Heap} {G : List Grp}, Me W h G → Runs Tryz.prog 31 #[.agg r.toArray] h fun v h' => (∃ t : Bool, v = .bool t ∧ (t = true → weight < 1 ∨ 100 < weight ∨ most < 0 ∨ 8 < most)) ∧ Me W h' G) (m : Me W h ([(b, x.C, T)] :: G)) :
    Runs Tryz.prog 10 #[.pointer (some ⟨b, 0, none⟩), .agg (ints .u8 l).toArray, .agg r.toArray, .int .i64 weight, .agg no4.toArray, .int .i64 most] h fun v h' =>
      v = .tuple #[.int .i64 0, erV ads (some 2)] ∧ Me W h' ([(b, x.C, T)] :: G) := by
  have hlen := w.len
  have hcl : (ints IntKind.u8 l).length = 6 := by rw [ints_len, hl]
  refine vc_ap_AP_Join _ _ _ _ _ _ _ _ ?_
  intro b1 h1 e1 e2 b2 h2 e3 e4 b3 h3 e5 e6
  replace m := me_swap (m.push e2 e1)
  replace m := me_swap (m.push e4 e3)
  replace m : Me W h3 ([(b, x.C, T)] :: [(b3, no4, 46)] :: [(b2, r, 42)] :: [(b1, ints .u8 l, 24)] :: G) := me_swap (m.push e6 e5)
  have r1 : ∀ {h : Heap} {W' : Wd} {X Y : Grp} {R : List Grp}, Me W' h (X :: Y :: [(b2, r, 42)] :: [(b1, ints .u8 l, 24)] :: R) → row h b1 0 6 = some (ints .u8 l) := fun m => m.row 3 rfl (by rw [List.drop_zero]; exact List.take_of_length_le (by omega)) (by omega)
  refine ⟨_, r1 m, (fair_c m hl).mono ?_⟩
  rintro _ h4 ⟨rfl, m⟩
  rw [hf]
  refine ⟨true, rfl, bcase_false rfl ⟨_, r1 m, on_addr ⟨ints .u8 c.bss, m.row 0 rfl (by rw [w.cc_row (by decide), hcc, cf_row h6]) (by omega), l, c.bss, rfl, rfl, ⟨hl, h6⟩, dcase_neg hne ?_⟩⟩⟩
  refine ⟨fun z h => (z = false → (1 ≤ weight ∧ (weight < 1 ∨ 100 < weight ∨ most < 0 ∨ 8 < most))) ∧ Me W h ([(b, x.C, T)] :: [(b3, no4, 46)] :: [(b2, r, 42)] :: [(b1, ints .u8 l, 24)] :: G), ⟨_, m.row 2 rfl (by rw [List.drop_zero]; exact List.take_of_length_le (by omega)) (by omega), (hv m).mono ?_⟩, fun _ => ?_⟩
  · rintro _ h5 ⟨⟨t, rfl, ht⟩, m⟩
    exact ⟨t, rfl, bcase_intro (fun q => ⟨(fun h => by cases h), m⟩) (fun q => ⟨fun h => ⟨by have := of_decide_eq_false h; omega, ht (by simpa using q)⟩, m⟩)⟩
  rintro z1 h5 ⟨hz1, m⟩
  refine ⟨fun z h => (z = false → (weight ≤ 100 ∧ 1 ≤ weight ∧ (weight < 1 ∨ 100 < weight ∨ most < 0 ∨ 8 < most))) ∧ h = h5, bcase_intro (fun q => ⟨(fun h => by cases h), rfl⟩) (fun q => ⟨fun h => ⟨by have := of_decide_eq_false h; omega, hz1 q⟩, rfl⟩), fun _ => ?_⟩
  rintro z2 h5 ⟨hz2, rfl⟩
  refine ⟨fun z h => (z = false → (0 ≤ most ∧ weight ≤ 100 ∧ 1 ≤ weight ∧ (weight < 1 ∨ 100 < weight ∨ most < 0 ∨ 8 < most))) ∧ h = h5, bcase_intro (fun q => ⟨(fun h => by cases h), rfl⟩) (fun q => ⟨fun h => ⟨by have := of_decide_eq_false h; omega, hz2 q⟩, rfl⟩), fun _ => ?_⟩
  rintro z3 h5 ⟨hz3, rfl⟩
  obtain ⟨e, he, hc⟩ := rangeE s m
  refine bcase_intro (fun q => ⟨_, hc, by rw [he], (me_swap (me_swap (me_swap m).drop1).drop1).drop1⟩) fun q => ?_
  have h3 := hz3 q
  exact dcase_pos (by omega) ⟨_, hc, by rw [he], (me_swap (me_swap (me_swap m).drop1).drop1).drop1⟩
/-- One that is not there. -/
theorem apNone_c (w : ApW x) (m : Me W h G) (i : Nat) (hi : G[i]? = some [(b, x.C, T)]) {aid : Int} (ha : 3 ≤ aid ∧ aid ≤ 16) (hp : ∀ k, 2 ≤ k → k < 16 → x.ls[k]? = some (.pointer none)) :
    Runs Tryz.prog 35 #[.pointer (some ⟨b, 0, none⟩), .int .i64 aid] h fun v h' => v = .pointer none ∧ h' = h := by
  have := apOf_c (k := (aid - 1).toNat) w m i hi (by omega) (p := none) (hp _ (by omega) (by omega))
  rw [show (((aid - 1).toNat : Nat) : Int) + 1 = aid by omega] at this
  exact this
theorem offerNone_c (s : Snt W ads) (w : ApW x) (m : Me W h ([(b, x.C, T)] :: G)) {aid now tid flow : Int} {body : Option Addr} {bl bc : Nat} (ha : 3 ≤ aid ∧ aid ≤ 16) (hp : ∀ k, 2 ≤ k → k < 16 → x.ls[k]? = some (.pointer none)) :
    Runs Tryz.prog 13 #[.pointer (some ⟨b, 0, none⟩), .int .i64 now, .int .i64 aid, .int .i64 tid, .int .u32 flow, .slice body bl bc] h fun v h' => v = .tuple #[.int .i64 0, erV ads (some 6)] ∧ h' = h := by
  obtain ⟨e, he, hc⟩ := noneE s m
  exact vc_ap_AP_Offer _ _ _ _ _ _ _ _ _ _ ((apNone_c w m 0 rfl ha hp).ret ⟨none, rfl, bcase_true rfl ⟨_, hc, by rw [he], rfl⟩⟩)
theorem offerRange_c (s : Snt W ads) (w : ApW x) (m : Me W h ([(b, x.C, T)] :: G)) {now tid flow : Int} {p : Addr} {body : Option Addr} {bl bc : Nat} (hp : x.ls[0]? = some (.pointer (some p))) (ht : 8 ≤ tid) :
    Runs Tryz.prog 13 #[.pointer (some ⟨b, 0, none⟩), .int .i64 now, .int .i64 1, .int .i64 tid, .int .u32 flow, .slice body bl bc] h fun v h' => v = .tuple #[.int .i64 0, erV ads (some 2)] ∧ h' = h := by
  obtain ⟨e, he, hc⟩ := rangeE s m
  exact vc_ap_AP_Offer _ _ _ _ _ _ _ _ _ _ ((apOf_c (k := 0) w m 0 rfl (by decide) hp).ret ⟨some p, rfl, bcase_false rfl (dcase_neg (by omega) (dcase_pos ht ⟨_, hc, by rw [he], rfl⟩))⟩)
theorem leaveNone_c (s : Snt W ads) (w : ApW x) (m : Me W h ([(b, x.C, T)] :: G)) {aid : Int} (ha : 3 ≤ aid ∧ aid ≤ 16) (hp : ∀ k, 2 ≤ k → k < 16 → x.ls[k]? = some (.pointer none)) :
    Runs Tryz.prog 14 #[.pointer (some ⟨b, 0, none⟩), .int .i64 aid] h fun v h' => v = erV ads (some 6) ∧ Me W h' ([(b, x.C, T)] :: G) := by
  refine vc_ap_AP_Leave _ _ _ _ ?_
  intro b1 h1 e1 e2
  have m2 := m.push e2 e1
  obtain ⟨e, he, hc⟩ := noneE s m2
  exact ⟨aid, m2.cell 0 rfl rfl, (apNone_c w m2 1 rfl ha hp).ret ⟨none, rfl, bcase_true rfl ⟨_, hc, by rw [he], m2.drop1⟩⟩⟩
theorem rateNone_c (s : Snt W ads) (w : ApW x) (m : Me W h ([(b, x.C, T)] :: G)) {aid : Int} {r : List Value} (ha : 3 ≤ aid ∧ aid ≤ 16) (hp : ∀ k, 2 ≤ k → k < 16 → x.ls[k]? = some (.pointer none)) :
    Runs Tryz.prog 15 #[.pointer (some ⟨b, 0, none⟩), .int .i64 aid, .agg r.toArray] h fun v h' => v = erV ads (some 6) ∧ Me W h' ([(b, x.C, T)] :: G) := by
  refine vc_ap_AP_Rate _ _ _ _ _ ?_
  intro b1 h1 e1 e2
  have m2 := m.push e2 e1
  obtain ⟨e, he, hc⟩ := noneE s m2
  exact (apNone_c w m2 1 rfl ha hp).ret ⟨none, rfl, bcase_true rfl ⟨_, hc, by rw [he], m2.drop1⟩⟩
theorem weighNone_c (s : Snt W ads) (w : ApW x) (m : Me W h ([(b, x.C, T)] :: G)) {aid weight : Int} (ha : 3 ≤ aid ∧ aid ≤ 16) (hp : ∀ k, 2 ≤ k → k < 16 → x.ls[k]? = some (.pointer none)) :
    Runs Tryz.prog 16 #[.pointer (some ⟨b, 0, none⟩), .int .i64 aid, .int .i64 weight] h fun v h' => v = erV ads (some 6) ∧ h' = h := by
  obtain ⟨e, he, hc⟩ := noneE s m
  exact vc_ap_AP_Weigh _ _ _ _ _ ((apNone_c w m 0 rfl ha hp).ret ⟨none, rfl, bcase_true rfl ⟨_, hc, by rw [he], rfl⟩⟩)
theorem dozeNone_c (s : Snt W ads) (w : ApW x) (m : Me W h ([(b, x.C, T)] :: G)) {aid : Int} {on : Bool} (ha : 3 ≤ aid ∧ aid ≤ 16) (hp : ∀ k, 2 ≤ k → k < 16 → x.ls[k]? = some (.pointer none)) :
    Runs Tryz.prog 17 #[.pointer (some ⟨b, 0, none⟩), .int .i64 aid, .bool on] h fun v h' => v = erV ads (some 6) ∧ h' = h := by
  obtain ⟨e, he, hc⟩ := noneE s m
  exact vc_ap_AP_Doze _ _ _ _ _ ((apNone_c w m 0 rfl ha hp).ret ⟨none, rfl, bcase_true rfl ⟨_, hc, by rw [he], rfl⟩⟩)
theorem triggerNone_c (s : Snt W ads) (w : ApW x) (m : Me W h ([(b, x.C, T)] :: G)) {aid ac : Int} (ha : 3 ≤ aid ∧ aid ≤ 16) (hp : ∀ k, 2 ≤ k → k < 16 → x.ls[k]? = some (.pointer none)) :
    Runs Tryz.prog 18 #[.pointer (some ⟨b, 0, none⟩), .int .i64 aid, .int .i64 ac] h fun v h' => v = erV ads (some 6) ∧ h' = h := by
  obtain ⟨e, he, hc⟩ := noneE s m
  exact vc_ap_AP_Trigger _ _ _ _ _ ((apNone_c w m 0 rfl ha hp).ret ⟨none, rfl, bcase_true rfl ⟨_, hc, by rw [he], rfl⟩⟩)
theorem stations_c (w : ApW x) (tw : TbW tm) (ht : x.tb = tm.map onC) (m : Me W h ([(b, x.C, T)] :: G)) :
    Runs Tryz.prog 19 #[.pointer (some ⟨b, 0, none⟩)] h fun v h' => ∃ b2 T2, v = .pointer (some ⟨b2, 0, none⟩) ∧ Me W h' ([(b2, (tm.map onC).flatten, T2)] :: [(b, x.C, T)] :: G) := by
  have hlen := w.len
  have h128 : (tm.map onC).flatten.length = 128 := by rw [← ht]; exact w.tl
  refine vc_ap_AP_Stations _ _ _ (on_addr (vc_sta_Table_Clone _ _ _ (on_addr ⟨_, m.row 0 rfl (w.tm_row ht) (by omega), ?_⟩)))
  intro b2 h2 e1 e2
  have m2 := m.push e2 e1
  refine ⟨⟨h128, m2.wrsb 0 rfl rfl, ?_⟩, fun h3 e3 => ⟨some ⟨b2, 0, none⟩, rfl, b2, _, rfl, me_setAll (us := (tm.map onC).flatten) m2 (by rw [h128]; rfl) e3⟩⟩
  intro u hu
  obtain ⟨c', hc', hu'⟩ := List.mem_flatten.1 hu
  obtain ⟨o', -, rfl⟩ := List.mem_map.1 hc'
  exact onC_one u hu'
end
end Go.Proofs.YtgjbgcgjcamlgaaGreatDoor
