/- A station that joins an access point: it is taken. -/
import Derived.Test.YtgjbgcgjcamlgaaGreatDoorJoin2
set_option linter.unusedVariables false
set_option linter.unusedSimpArgs false
set_option maxRecDepth 8000
namespace Go.Proofs.YtgjbgcgjcamlgaaGreatDoor
open Go.Vc
/-- An access point when a station of number i + 1 has joined. -/
def Ap.join (x : Ap) (tb : List (List Value)) (i : Nat) (us : List Value) (most : Int) (bx : Nat) : Ap := ((x.setTb tb).setPw (x.pw.set i (pwC us most))).setLs (x.ls.set i (.pointer (some ⟨bx, 0, none⟩)))
/-- Its sessions lie there. -/
def SesV (W : Wd) (c : Cf) (ps : List (Option Addr)) : Prop := ∀ p ∈ ps, ∃ b w, p = some ⟨b, 0, none⟩ ∧ W b = some (.cells (baC w c.wn c.rt c.lf).toArray 155)
/-- The turns, of which the first k have the station. -/
def ScR (W : Wd) (i : Nat) (weight : Int) (k : Nat) (ss s2 : List Sc) : Prop := s2.length = ss.length ∧ ∀ j s, ss[j]? = some s → ∃ s', s2[j]? = some s' ∧ s'.b = s.b ∧ s'.t = s.t ∧ s'.l.length = 16 ∧
  if j < k then ∃ o, s' = s.put i o ∧ W o = some (.cells (oneS ((i : Int) + 1) weight).toArray 179) else s' = s
section
variable {W W' : Wd} {h h' : Heap} {G : List Grp} {E : Grp} {ads : List Addr} {n k i j b o : Nat} {vs us cs : List Value} {x : Ap} {v : Value} {tm : List On} {T : TypeId} {l : List Int} {q : On} {ss : List Sc} {c : Cf}
theorem SesV.le {ps : List (Option Addr)} (hl : W.le W') (s : SesV W c ps) : SesV W' c ps := fun p hp => by
  obtain ⟨b, w, e, h⟩ := s p hp
  exact ⟨b, w, e, hl _ _ h⟩
theorem ScR.le {s2 : List Sc} {weight : Int} (hl : W.le W') (r : ScR W i weight k ss s2) : ScR W' i weight k ss s2 := ⟨r.1, fun j s hs => by
  obtain ⟨s', e1, e2, e3, e4, e5⟩ := r.2 j s hs
  refine ⟨s', e1, e2, e3, e4, ?_⟩
  split at e5
  · obtain ⟨o, h1, h2⟩ := e5
    rw [if_pos (by assumption)]
    exact ⟨o, h1, hl _ _ h2⟩
  · rw [if_neg (by assumption)]; exact e5⟩
theorem map_set5 {A B C D F X : Grp} {s2 : List Sc} {s : Sc} (hk : k < s2.length) : (A :: B :: C :: D :: F :: (s2.map Sc.g ++ G)).set (5 + k) s.g = A :: B :: C :: D :: F :: ((s2.set k s).map Sc.g ++ G) := by
  rw [show 5 + k = k + 1 + 1 + 1 + 1 + 1 by omega]
  simp only [List.set_cons_succ]
  rw [List.set_append_left _ _ (by rw [List.length_map]; exact hk), List.map_set]
set_option maxHeartbeats 800000 in
theorem join_c (w : ApW x) (tw : TbW tm) (ht : x.tb = tm.map onC) (hcc : x.cc = cfC c) (h6 : c.bss.length = 6) (okb : okBa c.wn c.rt c.lf) (hl : l.length = 6) (hf : fairB l = true) (hne : l ≠ c.bss) {mode weight most : Int} (hmode : mode = 1 ∨ mode = 2) (hw : 1 ≤ weight ∧ weight ≤ 100) (hmo : 0 ≤ most ∧ most ≤ 8)
    (hno : (tm.any fun q => q.th && q.a == l) = false) (hi : i < 16) (hpre : ∀ j q, j < i → tm[j]? = some q → q.th = true) (hq : tm[i]? = some q) (hqf : q.th = false) (hep : 0 ≤ q.ep ∧ q.ep ≤ 1099511627776)
    (hts : x.ts = ss.map fun s => .pointer (some ⟨s.b, 0, none⟩)) (hss : ss.length = 4) (hsl : ∀ s ∈ ss, s.l.length = 16 ∧ s.l[i]? = some (.pointer none)) (hcs : x.pw[i]? = some cs) (h0 : cs[0]? = some (.bool false))
    (m : Me W h ([(b, x.C, T)] :: (ss.map Sc.g ++ G))) :
    Runs Tryz.prog 10 #[.pointer (some ⟨b, 0, none⟩), .agg (ints .u8 l).toArray, .agg (rateC mode 0 1 20 0).toArray, .int .i64 weight, .agg no4.toArray, .int .i64 most] h fun v h' =>
      v = .tuple #[.int .i64 ((i : Int) + 1), .nilIface] ∧ ∃ W' bx ps s2, W.le W' ∧ W' bx = some (.cells (stC (rateC mode 0 1 20 0) ps).toArray 113) ∧ ps.length = 8 ∧ SesV W' c ps ∧ ScR W' i weight 4 ss s2 ∧
        Me W' h' ([(b, (x.join ((tm.set i ⟨true, l, q.ep + 1⟩).map onC) i no4 most bx).C, T)] :: (s2.map Sc.g ++ G)) := by
  have hlen := w.len
  have hcl : (ints IntKind.u8 l).length = 6 := by rw [ints_len, hl]
  refine vc_ap_AP_Join _ _ _ _ _ _ _ _ ?_
  intro b1 h1 e1 e2 b2 h2 e3 e4 b3 h3 e5 e6
  replace m := me_swap (m.push e2 e1)
  replace m := me_swap (m.push e4 e3)
  replace m : Me W h3 ([(b, x.C, T)] :: [(b3, no4, 46)] :: [(b2, rateC mode 0 1 20 0, 42)] :: [(b1, ints .u8 l, 24)] :: (ss.map Sc.g ++ G)) := me_swap (m.push e6 e5)
  have r1 : ∀ {h : Heap} {W' : Wd} {X Y : Grp} {R : List Grp}, Me W' h (X :: Y :: [(b2, rateC mode 0 1 20 0, 42)] :: [(b1, ints .u8 l, 24)] :: R) → row h b1 0 6 = some (ints .u8 l) := fun m => m.row 3 rfl (by rw [List.drop_zero]; exact List.take_of_length_le (by omega)) (by omega)
  refine ⟨_, r1 m, (fair_c m hl).mono ?_⟩
  rintro _ h4 ⟨rfl, m⟩
  rw [hf]
  refine ⟨true, rfl, bcase_false rfl ⟨_, r1 m, on_addr ⟨ints .u8 c.bss, m.row 0 rfl (by rw [w.cc_row (by decide), hcc, cf_row h6]) (by omega), l, c.bss, rfl, rfl, ⟨hl, h6⟩, dcase_neg hne ?_⟩⟩⟩
  refine ⟨fun z h => z = false ∧ Me W h ([(b, x.C, T)] :: [(b3, no4, 46)] :: [(b2, rateC mode 0 1 20 0, 42)] :: [(b1, ints .u8 l, 24)] :: (ss.map Sc.g ++ G)), ⟨_, m.row 2 rfl rfl (Nat.le_of_ble_eq_true rfl), (valid20_c m hmode).mono ?_⟩, fun _ => ?_⟩
  · rintro _ h5 ⟨rfl, m⟩
    exact ⟨true, rfl, bcase_false rfl ⟨decide_eq_false (by omega), m⟩⟩
  rintro _ h5 ⟨rfl, m⟩
  refine ⟨fun z h => z = false ∧ h = h5, bcase_false rfl ⟨decide_eq_false (by omega), rfl⟩, fun _ => ?_⟩
  rintro _ h5 ⟨rfl, rfl⟩
  refine ⟨fun z h => z = false ∧ h = h5, bcase_false rfl ⟨decide_eq_false (by omega), rfl⟩, fun _ => ?_⟩
  rintro _ h5 ⟨rfl, rfl⟩
  refine bcase_false rfl (dcase_neg (by omega) (on_addr ⟨_, r1 m, ?_⟩))
  refine (tabAdd_c w tw ht hl hf hno hi hpre hq hqf hep m).mono ?_
  rintro _ h6' ⟨rfl, m⟩
  obtain ⟨tb, htb⟩ : ∃ tb, tb = (tm.set i ⟨true, l, q.ep + 1⟩).map onC := ⟨_, rfl⟩
  rw [← htb] at m ⊢
  have w1 : ApW (x.setTb tb) := by
    have : tb = x.tb.set i (onC ⟨true, l, q.ep + 1⟩) := by rw [htb, ht, List.map_set]
    rw [this]; exact w.tbw (onC_len hl)
  have hlen1 := w1.len
  refine ⟨_, _, rfl, true, rfl, bcase_false rfl ⟨rateC mode 0 1 20 0, m.row 2 rfl rfl (Nat.le_of_ble_eq_true rfl), rfl, ?_⟩⟩
  intro b6 h7 f1 f2
  replace m : Me W h7 ([(b, (x.setTb tb).C, T)] :: [(b6, stC (rateC mode 0 1 20 0) (List.replicate 8 none), 113)] :: [(b3, no4, 46)] :: [(b2, rateC mode 0 1 20 0, 42)] :: [(b1, ints .u8 l, 24)] :: (ss.map Sc.g ++ G)) := me_swap (m.push f2 f1)
  obtain ⟨k1, k2, k3⟩ := cf_at h6
  rw [← hcc] at k1 k2 k3
  refine ⟨fun z h => ∃ (k : Nat) (W1 : Wd) (ps : List (Option Addr)), z = k ∧ k ≤ 8 ∧ W.le W1 ∧ ps.length = k ∧ SesV W1 c ps ∧ Me W1 h ([(b, (x.setTb tb).C, T)] :: [(b6, stC (rateC mode 0 1 20 0) (ps ++ List.replicate (8 - k) none), 113)] :: [(b3, no4, 46)] :: [(b2, rateC mode 0 1 20 0, 42)] :: [(b1, ints .u8 l, 24)] :: (ss.map Sc.g ++ G)),
    fun z _ => (8 - z).toNat, ⟨0, W, [], rfl, by omega, Wd.le.refl W, rfl, fun p hp => by (cases hp), m⟩, fun _ => ?_⟩
  clear m
  rintro _ h8 ⟨k, W1, ps, rfl, hk, hle1, hps, hses, m⟩
  refine dcase_intro (fun q3 => ?_) fun q3 => ?_
  · refine on_addr ⟨c.wn, m.cell 0 rfl (w1.cc_at k1), on_addr ⟨c.rt, m.cell 0 rfl (w1.cc_at k2), on_addr ⟨c.lf, m.cell 0 rfl (w1.cc_at k3), ?_⟩⟩⟩
    refine (baNew_c m okb).mono ?_
    rintro _ h9 ⟨bp, bw, rfl, m9⟩
    have hpl : (ps ++ List.replicate (8 - k) none)[k]? = some none := by
      rw [List.getElem?_append_right (by omega), show k - ps.length = 0 by omega, show 8 - k = (7 - k) + 1 by omega, List.replicate_succ]; rfl
    have hsl8 : (stC (rateC mode 0 1 20 0) (ps ++ List.replicate (8 - k) none)).length = 50 := stC_len rfl (by simp; omega)
    refine ⟨_, _, rfl, ⟨by omega, by omega⟩, ?_⟩
    rw [show 6 + ((k : Int)).toNat * 5 = 6 + k * 5 from rfl]
    refine m9.store 2 rfl (by omega) fun h10 m10 => ?_
    simp only [List.set_cons_succ, List.set_cons_zero] at m10
    rw [stC_set rfl hpl] at m10
    obtain ⟨W2, hle2, hx2, m11⟩ := m10.give
    have hset : (ps ++ List.replicate (8 - k) none).set k (some ⟨bp, 0, none⟩) = (ps ++ [some ⟨bp, 0, none⟩]) ++ List.replicate (8 - (k + 1)) none := by
      rw [List.set_append_right _ _ (by omega), show k - ps.length = 0 by omega, show 8 - k = (8 - (k + 1)) + 1 by omega, List.replicate_succ, List.set_cons_zero, List.append_assoc]; rfl
    rw [hset] at m11
    refine ⟨true, rfl, bcase_false rfl ⟨by simp only [fits]; omega, ⟨k + 1, W2, ps ++ [some ⟨bp, 0, none⟩], by omega, by omega, hle1.trans hle2, by simp [hps], ?_, m11⟩, by dsimp only; omega⟩⟩
    intro p hp
    rcases List.mem_append.1 hp with h | h
    · exact hses.le hle2 p h
    · simp at h; subst h
      exact ⟨bp, bw, rfl, hx2 _ (List.mem_cons_self ..)⟩
  obtain rfl : k = 8 := by omega
  rw [show 8 - 8 = 0 from rfl, List.replicate_zero, List.append_nil] at m
  refine on_addr ⟨(x.setTb tb).ts, m.row 0 rfl w1.ts_row (by omega), ?_⟩
  refine ⟨fun z h => ∃ (k : Nat) (W2 : Wd) (s2 : List Sc), z = k ∧ k ≤ 4 ∧ W1.le W2 ∧ ScR W2 i weight k ss s2 ∧ Me W2 h ([(b, (x.setTb tb).C, T)] :: [(b6, stC (rateC mode 0 1 20 0) ps, 113)] :: [(b3, no4, 46)] :: [(b2, rateC mode 0 1 20 0, 42)] :: [(b1, ints .u8 l, 24)] :: (s2.map Sc.g ++ G)),
    fun z _ => (4 - z).toNat, ⟨0, W1, ss, rfl, by omega, Wd.le.refl W1, ⟨rfl, fun j s hs => ⟨s, hs, rfl, rfl, (hsl s (List.mem_of_getElem? hs)).1, by rw [if_neg (by omega)]⟩⟩, m⟩, fun _ => ?_⟩
  clear m
  rintro _ h9 ⟨k, W2, s2, rfl, hk4, hle2, hR, m⟩
  refine dcase_intro (fun q4 => ?_) fun q4 => ?_
  · have hkl : k < ss.length := by omega
    have hsk := List.getElem?_eq_getElem hkl
    obtain ⟨s', e1', e2', e3', e4', e5'⟩ := hR.2 k _ hsk
    rw [if_neg (by omega)] at e5'
    have hslk := hsl _ (List.getElem_mem hkl)
    refine ⟨⟨by omega, by omega⟩, some ⟨ss[k].b, 0, none⟩, ?_, ?_⟩
    · rw [show ((k : Int)).toNat = k from rfl]
      show x.ts[k]? = _
      rw [hts, List.getElem?_map, hsk]; rfl
    · rw [← e2']
      refine (schedAdd_c (k := i) m (5 + k) (by
        rw [show 5 + k = k + 1 + 1 + 1 + 1 + 1 by omega]
        simp only [List.getElem?_cons_succ]
        rw [List.getElem?_append_left (by rw [List.length_map, hR.1]; omega), List.getElem?_map, e1']; rfl) e4' hi (by rw [e5']; exact hslk.2) hw).mono ?_
      rintro _ h10 ⟨rfl, W3, o, hle3, ho, m10⟩
      rw [map_set5 (X := []) (by rw [hR.1]; omega)] at m10
      refine ⟨_, rfl, true, rfl, bcase_false rfl ⟨by simp only [fits]; omega, ⟨k + 1, W3, s2.set k (s'.put i o), by omega, by omega, hle2.trans hle3, ⟨by rw [List.length_set]; exact hR.1, fun j s hs => ?_⟩, m10⟩, by dsimp only; omega⟩⟩
      by_cases hjk : j = k
      · subst hjk
        rw [hsk] at hs
        cases hs
        refine ⟨s'.put i o, set_at e1', e2', e3', by show (s'.l.set i _).length = 16; rw [List.length_set]; exact e4', ?_⟩
        rw [if_pos (by omega)]
        exact ⟨o, by rw [e5'], ho⟩
      · obtain ⟨s3, f1, f2, f3, f4, f5⟩ := hR.2 j s hs
        refine ⟨s3, by rw [List.getElem?_set_ne (Ne.symm hjk)]; exact f1, f2, f3, f4, ?_⟩
        by_cases hjl : j < k
        · rw [if_pos hjl] at f5
          rw [if_pos (by omega)]
          obtain ⟨o', g1, g2⟩ := f5
          exact ⟨o', g1, hle3 _ _ g2⟩
        · rw [if_neg hjl] at f5
          rw [if_neg (by omega)]; exact f5
  obtain rfl : k = 4 := by omega
  refine on_addr ⟨no4, m.row 2 rfl rfl (Nat.le_of_ble_eq_true rfl), ?_⟩
  refine (powerAdd_c (us := no4) w1 hi hcs h0 rfl no4_one hmo m).mono ?_
  rintro _ h11 ⟨rfl, m⟩
  have w2 := w1.pww (k := i) (cs := pwC no4 most) rfl
  refine ⟨_, rfl, true, rfl, bcase_false rfl ⟨by simp only [fits]; omega, on_addr ⟨by omega, ?_⟩⟩⟩
  rw [show 0 + 329 + ((i : Int) + 1 - 1).toNat = 329 + i by omega]
  refine m.store 0 rfl (by rw [show (((x.setTb tb).setPw ((x.setTb tb).pw.set i (pwC no4 most))).C).length = 347 from w2.len]; omega) fun h12 m => ?_
  simp only [List.set_cons_zero] at m
  rw [w2.ls_set hi] at m
  obtain ⟨W3, hle3, hx3, m13⟩ := (me_swap m).give
  refine ⟨rfl, W3, b6, ps, s2, hle1.trans (hle2.trans hle3), hx3 _ (List.mem_singleton.2 rfl), hps, (hses.le hle2).le hle3, hR.le hle3, ?_⟩
  exact (me_swap (me_swap (me_swap m13).drop1).drop1).drop1
end
end Go.Proofs.YtgjbgcgjcamlgaaGreatDoor
