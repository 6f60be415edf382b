/- The walk of PoolPlays: the program's pool and the document's one are one model; errors are the document's numbers. -/
import Derived.Test.YtpcilleldanfmaaDoorPoolFirst
import Derived.Test.YtpcilleldanfmaaDoorPoolDo
import Derived.Test.YtpcilleldanfmaaDoorPoolr2
import Derived.Test.YtpcilleldanfmaaDoorGenAll1
set_option linter.unusedVariables false
set_option linter.unusedSimpArgs false
set_option maxRecDepth 8000
namespace Go.Proofs.YtpcilleldanfmaaDoor
open Go.Vc
section
variable {P : Po} {p : Pk} {aid tid now : Int} {ads : List Addr} {W : Wd}
theorem putZ_spec (hP : PoOk P) (h0 : 0 ≤ p.at_) (h1 : p.at_ ≤ 1125899906842624) (hl : p.body.length ≤ 1048576) (hm : (P.len : Int) ≤ P.mp) :
    PoOk (P.putZ aid p).1 ∧ Alike P (P.putZ aid p).1 ∧ ((P.putZ aid p).1.len : Int) ≤ (P.putZ aid p).1.mp ∧ (P.putZ aid p).2.length ≤ 600 ∧ ∀ x ∈ (P.putZ aid p).2, x.body.length ≤ 1099511627776 := by
  have hp1 := hP.p1
  unfold Po.putZ
  by_cases ht : thereZ aid p.tid = true
  · rw [if_pos ht]
    obtain ⟨a1, a2, a3, a4, a5⟩ := put_spec hP (pix_lt ht) (p := p) h0 h1 hl (by omega)
    have hlen := a3.length_eq
    rw [List.length_append, List.length_cons, ← Po.len_all, ← Po.len_all] at hlen
    refine ⟨a1, a2, by rw [a2.mp]; exact a4, by omega, fun x hx => ?_⟩
    rcases List.mem_cons.1 (a3.mem_iff.1 (List.mem_append_left _ hx)) with rfl | h
    · omega
    · have := hP.all_len x h; omega
  · rw [if_neg ht]
    exact ⟨hP, Alike.refl _, hm, by simp, fun x hx => by cases hx⟩
theorem takeZ_spec (hP : PoOk P) (n0 : 0 ≤ now) (n1 : now ≤ 1125899906842624) (hm : (P.len : Int) ≤ P.mp) :
    PoOk (P.takeZ aid tid now).1 ∧ Alike P (P.takeZ aid tid now).1 ∧ ((P.takeZ aid tid now).1.len : Int) ≤ (P.takeZ aid tid now).1.mp ∧ (P.takeZ aid tid now).2.1.length ≤ 600 ∧ (∀ x ∈ (P.takeZ aid tid now).2.1, x.body.length ≤ 1099511627776) ∧ ((P.takeZ aid tid now).2.2.getD pk0).body.length ≤ 1099511627776 := by
  have hp1 := hP.p1
  unfold Po.takeZ
  by_cases ht : thereZ aid tid = true
  · rw [if_pos ht]
    have hk := pix_lt ht
    obtain ⟨a1, a2, a3⟩ := take_spec hP hk n0 n1
    obtain ⟨e, w⟩ := hP.qu hk
    have hl := take_law n0 n1 w
    have hc := hl.cnt w.ok
    have hcn := hP.cnt hk
    have hs := (hl.sub w.ok).2
    rw [List.length_append] at hc
    refine ⟨a1, a2, by rw [a2.mp]; omega, ?_, fun x hx => ?_, ?_⟩
    · show ((P.qu (pix aid tid)).take now).2.1.length ≤ 600
      omega
    · have := w.ok.all_len x (hs x (List.mem_append_left _ hx)); omega
    · show (((P.qu (pix aid tid)).take now).2.2.getD pk0).body.length ≤ _
      cases hx : ((P.qu (pix aid tid)).take now).2.2 with
      | none => simp [pk0]
      | some y =>
        have := w.ok.all_len y (hs y (List.mem_append_right _ (by rw [hx]; simp)))
        simp; omega
  · rw [if_neg ht]
    exact ⟨hP, Alike.refl _, hm, by simp, fun x hx => (by cases hx), by simp [pk0]⟩
theorem dropZ_spec (hP : PoOk P) (hm : (P.len : Int) ≤ P.mp) :
    PoOk (P.drop aid).1 ∧ ((P.drop aid).1.len : Int) ≤ (P.drop aid).1.mp ∧ (P.drop aid).2.length ≤ 600 ∧ ∀ x ∈ (P.drop aid).2, x.body.length ≤ 1099511627776 := by
  have hp1 := hP.p1
  obtain ⟨a1, a2, a3⟩ := drop_spec hP aid
  have hlen := a3.length_eq
  rw [List.length_append, ← Po.len_all, ← Po.len_all] at hlen
  refine ⟨a1, by rw [a2.mp]; omega, by omega, fun x hx => ?_⟩
  have := hP.all_len x (a3.mem_iff.1 (List.mem_append_left _ hx)); omega
theorem Snt.range (s : Snt W ads) : wcell W 0 0 = some (erV ads (some 2)) := by
  obtain ⟨a, h1, h2⟩ := s.get (i := 2) (by decide)
  rw [h2]; exact s.v 2 a _ h1 rfl
theorem Snt.rangeP (s : Snt W ads) : ∃ a, wcell W 0 0 = some (ptE a) := by
  obtain ⟨a, h1, h2⟩ := s.get (i := 2) (by decide)
  exact ⟨a, s.v 2 a _ h1 rfl⟩
theorem lt14 : ∀ i, (some 2 : Er) = some i → i < 14 := fun i h => by cases h; decide
set_option maxHeartbeats 4000000
theorem poolPlays_r {h : Heap} {l : List Dp} {la : Option Addr} {cap : Nat} {vs : List Value} (s : Snt (Wd.of h) ads) (seed packets bytes : Int) (hs : src h la (l.length * 9) vs) (hq : Sq (DpV (Wd.of h)) l vs) :
    Runs Tryd.prog 6 #[.int .u32 seed, .int .i64 packets, .int .i64 bytes, .slice la l.length cap] h fun v h' => v = .bool true ∧ Kept h h' := by
  obtain ⟨a, hg⟩ := s.rangeP
  refine vc_muezzinlaw14_PoolPlays _ _ _ _ _ _ _ _ ((first14_c (Me.start h) hg).mono ?_)
  rintro _ h1 ⟨rfl, W1, hle, m⟩
  clear hg a
  refine ⟨_, rfl, bcase_false rfl ((poNew_c m (s.le hle).range seed 50 1000 packets bytes).mono ?_)⟩
  rintro _ h2 ⟨hbad, hok⟩
  clear m
  by_cases ok : 1 ≤ packets ∧ packets ≤ 512 ∧ 1 ≤ bytes ∧ bytes ≤ 1048576
  case neg =>
    obtain ⟨rfl, m⟩ := hbad ok
    have fin : ∀ h', h' = h2 → Runs Tryd.prog 17 #[erV ads (some 2), .int .i64 103] h' fun r3 h6 => ∃ t2 : Bool, r3 = .bool t2 ∧ (Value.bool t2 = .bool true ∧ Kept h h6) := by
      rintro _ rfl
      refine (is_c (s.le hle) m lt14 103).mono ?_
      rintro _ h3 ⟨rfl, m⟩
      exact ⟨_, rfl, rfl, m.kept hle⟩
    refine ⟨_, _, rfl, fun x h' => x = decide (packets < 1 ∨ 512 < packets) ∧ h' = h2, dcase_intro (fun q => ⟨by simp [q], rfl⟩) (fun q => ⟨by simp [q], rfl⟩), fun _ => ?_⟩
    rintro _ h3 ⟨rfl, e3⟩
    refine ⟨fun x h' => x = decide (packets < 1 ∨ 512 < packets ∨ bytes < 1) ∧ h' = h2, dcase_intro (fun q => ⟨by rcases q with q | q <;> simp [q], e3⟩) (fun q => ⟨by simp only [not_or] at q; simp [q.1, q.2], e3⟩), fun _ => ?_⟩
    rintro _ h4 ⟨rfl, e4⟩
    refine dcase_intro (fun _ => ?_) fun q => dcase_intro (fun _ => ?_) fun q2 => absurd ⟨by omega, by omega, by omega, by omega⟩ ok
    · refine ⟨fun x h' => x = true ∧ h' = h2, bcase_true rfl ⟨rfl, e4⟩, fun _ => ?_⟩
      rintro _ h5 ⟨rfl, e5⟩
      exact bcase_true rfl (fin h5 e5)
    · refine ⟨fun x h' => x = true ∧ h' = h2, bcase_true rfl ⟨rfl, e4⟩, fun _ => ?_⟩
      rintro _ h5 ⟨rfl, e5⟩
      exact bcase_true rfl (fin h5 e5)
  obtain ⟨b, L, rfl, hv, m⟩ := hok ok
  obtain ⟨o1, o2, o3, o4⟩ := ok
  clear hbad hok
  refine ⟨_, _, rfl, fun x h' => x = false ∧ h' = h2, dcase_neg (by omega) ⟨by simp; omega, rfl⟩, fun _ => ?_⟩
  rintro _ h2 ⟨rfl, rfl⟩
  refine ⟨fun x h' => x = false ∧ h' = h2, bcase_false rfl ⟨by simp; omega, rfl⟩, fun _ => ?_⟩
  rintro _ h2 ⟨rfl, rfl⟩
  refine bcase_false rfl (dcase_neg (by omega) (bcase_false rfl ⟨true, rfl, bcase_false rfl (dcase_intro (fun _ => ⟨rfl, m.kept hle⟩) fun hl50 => ?_)⟩))
  have hP0 : PoOk (po0 seed 50 1000 packets bytes) := pok0 _ _ _ o1 o2 o3 o4
  have l0 := len0 seed 50 1000 packets bytes
  have m0 : (po0 seed 50 1000 packets bytes).mp = packets := rfl
  refine (prNew_c m seed 50 1000 packets bytes).mono ?_
  rintro _ h9 ⟨br, Lr, rfl, hvr, m⟩
  generalize po0 seed 50 1000 packets bytes = P0 at *
  refine ⟨_, rfl, fun now x h' => ∃ (j : Nat) (W2 : Wd) (L Lr : Grp) (P : Po), x = j ∧ j ≤ l.length ∧ 0 ≤ now ∧ now ≤ 4000 * (j : Int) ∧ (Wd.of h).le W2 ∧ Me W2 h' (L :: Lr :: []) ∧ PoV W2 b P L ∧ PrV W2 br P Lr ∧ PoOk P ∧ (P.len : Int) ≤ P.mp, fun _ x _ => ((l.length : Int) - x).toNat,
    ⟨0, W1, L, Lr, P0, rfl, by omega, by omega, by omega, hle, m.focus 1 rfl, hv, hvr, hP0, by omega⟩, fun _ => ?_⟩
  clear m hv hvr hP0 l0 m0
  rintro now _ h10 ⟨j, W2, L, Lr, P, rfl, hj, n0, n1, hle, m, hv, hvr, hP, hlm⟩
  have kk := m.kept hle
  refine dcase_intro (fun q1 => ?_) fun q1 => ⟨rfl, kk⟩
  obtain ⟨x, hx⟩ : ∃ x, l[j]? = some x := ⟨_, List.getElem?_eq_getElem (by omega)⟩
  obtain ⟨sb, so, pa, pc, rfl, hbt, hrd⟩ := dp_at hs hq hx
  refine ⟨⟨by omega, by omega⟩, _, hrd _ kk, ?_⟩
  intro bD h11 e1 e2
  replace m := m.push e2 e1
  clear e1 e2
  refine ⟨⟨rfl, m.wrsb 0 rfl rfl, by simp [Value.oneCell']⟩, ?_⟩
  intro h12 e3
  replace m := m.setr 0 rfl e3
  clear e3
  obtain ⟨TD, m⟩ : ∃ TD, Me W2 h12 ([(bD, [.int .i64 x.kind, .int .i64 x.a, .int .i64 x.b, .int .i64 x.n, .int .i64 x.p.id, .int .u32 x.p.flow, .int .i64 x.p.tid, .int .i64 x.p.at_, .slice pa x.p.body.length pc], TD)] :: L :: Lr :: []) := ⟨_, m⟩
  refine ⟨_, _, _, m.cell 0 rfl rfl, dcase_intro (fun _ => ⟨rfl, m.kept hle⟩) fun h200 => ?_⟩
  have hp1 := hP.p1
  refine (poClone_c (m.focus 1 rfl) hv hP).mono ?_
  rintro _ h13 ⟨W3, bc, Lc, hle3, rfl, hvc, m⟩
  refine ⟨_, rfl, (poLen_c m hvc hP (by omega)).mono ?_⟩
  rintro _ h14 ⟨rfl, m⟩
  simp only [List.eraseIdx_cons_zero, List.eraseIdx_cons_succ] at m
  replace hv := hv.le hle3
  replace hvr := hvr.le hle3
  have hbt3 := hbt.le (hle.trans hle3)
  have s3 := s.le (hle.trans hle3)
  have hle' := hle.trans hle3
  refine ⟨_, rfl, fun now' h' => ∃ (W4 : Wd) (L Lr : Grp) (P' : Po) (at' : Int), W3.le W4 ∧ 0 ≤ now' ∧ now' ≤ 4000 * ((j : Int) + 1) ∧ Me W4 h' ([(bD, [.int .i64 x.kind, .int .i64 x.a, .int .i64 x.b, .int .i64 x.n, .int .i64 x.p.id, .int .u32 x.p.flow, .int .i64 x.p.tid, .int .i64 at', .slice pa x.p.body.length pc], TD)] :: Lc :: L :: Lr :: []) ∧
    PoV W4 b P' L ∧ PrV W4 br P' Lr ∧ PoOk P' ∧ (P'.len : Int) ≤ P'.mp, ?_, fun _ => ?_⟩
  · replace m := m.focus 2 rfl
    simp only [List.eraseIdx_cons_zero, List.eraseIdx_cons_succ] at m
    refine ⟨_, m.cell 0 rfl rfl, dcase_intro (fun _ => ?_) fun _ => dcase_intro (fun _ => ?_) fun _ => ?_⟩
    · (refine m.store 0 rfl (Nat.le_of_ble_eq_true rfl) ?_; clear m; intro _ m; simp only [List.set_cons_zero, List.set_cons_succ] at m)
      have hpv : PkV W3 ⟨x.p.id, x.p.flow, x.p.tid, now, x.p.body⟩ [.int .i64 x.p.id, .int .u32 x.p.flow, .int .i64 x.p.tid, .int .i64 now, .slice pa x.p.body.length pc] := ⟨pa, pc, rfl, hbt3⟩
      obtain ⟨z1, z2, z3, z4, z5⟩ := putZ_spec (aid := x.a) hP (p := ⟨x.p.id, x.p.flow, x.p.tid, now, x.p.body⟩) n0 (by dsimp only; omega) (by dsimp only; omega) hlm
      refine ⟨_, m.cell 0 rfl rfl, _, m.rowb 0 rfl rfl rfl, (poPut_c (aid := x.a) (m.focus 2 rfl) hv hP (by omega) hpv n0 (by dsimp only; omega) (by dsimp only; omega) s3.range).mono ?_⟩
      rintro _ h16 ⟨oa, oc, vs2, E, W4, L4, rfl, o, hle4, hs4, hv4, m⟩
      simp only [List.eraseIdx_cons_zero, List.eraseIdx_cons_succ] at m
      refine ⟨_, _, _, _, rfl, _, m.cell 2 rfl rfl, _, m.rowb 2 rfl rfl rfl, (prPut_c (aid := x.a) (m.focus 4 rfl) (hvr.le hle4) hP (by omega) (hpv.le hle4) n0 (by dsimp only; omega) (by dsimp only; omega)).mono ?_⟩
      rintro _ h17 ⟨pa2, pc2, vs3, E2, W5, L5, rfl, o2, hle5, hs5, hv5, m⟩
      simp only [List.eraseIdx_cons_zero, List.eraseIdx_cons_succ] at m
      have e5 : (if thereZ x.a (⟨x.p.id, x.p.flow, x.p.tid, now, x.p.body⟩ : Pk).tid = true then Value.nilIface else erV ads (some 2)) = erV ads (if thereZ x.a x.p.tid = true then none else some 2) := by
        by_cases ht : thereZ x.a x.p.tid = true
        · rw [if_pos ht, if_pos ht]; rfl
        · rw [if_neg ht, if_neg ht]
      rw [e5]
      generalize P.putZ x.a ⟨x.p.id, x.p.flow, x.p.tid, now, x.p.body⟩ = res at *
      refine ⟨_, _, _, _, rfl, (samePackets_c (o.src m 2 rfl) ((hs4.mono fun _ _ => PkV.le hle5).mono fun _ _ h => h.le m.leOf) rfl (o2.src m 0 rfl) (hs5.mono fun _ _ h => h.le m.leOf) rfl (by omega) z5).mono ?_⟩
      rintro _ h18 ⟨rfl, k18⟩
      replace m := m.on k18
      refine ⟨_, rfl, bcase_false (by simp) ((is_c (s3.le (hle4.trans hle5)) m (e := if thereZ x.a x.p.tid = true then none else some 2) (fun i hi => by split at hi <;> cases hi; decide) _).mono ?_)⟩
      rintro _ h19 ⟨rfl, m⟩
      refine ⟨_, rfl, bcase_false (by split <;> simp [erC]) ⟨W5, L4, L5, res.1, now, hle4.trans hle5, n0, by omega, ?_, hv4.le hle5, hv5, z1, z3⟩⟩
      refine m.sub ⟨E2 ++ E, ?_⟩
      simp only [List.flatten_cons]
      exact permC fun c h0 hc => by simp only [hc, h0]; omega
    · refine ⟨_, m.cell 0 rfl rfl, (number_c x.n 4000 _ (by decide) (by decide)).ret ⟨_, rfl, ?_⟩⟩
      have u0 := Int.emod_nonneg x.n (show (4000 : Int) ≠ 0 by decide)
      have u1 := Int.emod_lt_of_pos x.n (show (0 : Int) < 4000 by decide)
      generalize x.n % 4000 = u at *
      obtain ⟨z1, z2, z3, z4, z5, z6⟩ := takeZ_spec (aid := x.a) (tid := x.b) (now := now + u) hP (by omega) (by omega) hlm
      refine ⟨by simp only [fits]; omega, _, m.cell 0 rfl rfl, _, m.cell 0 rfl rfl, (poTake_c (aid := x.a) (tid := x.b) (m.focus 2 rfl) hv hP (by omega) (by omega)).mono ?_⟩
      rintro _ h21 ⟨oa, oc, vs2, E, L4, cs, rfl, hcv, o, hs4, hv4, m⟩
      simp only [List.eraseIdx_cons_zero, List.eraseIdx_cons_succ] at m
      refine ⟨_, _, _, _, _, rfl, ?_⟩
      intro b3 h22 f1 f2
      replace m := m.push f2 f1
      have hcl := hcv.len
      refine ⟨⟨hcl, m.wrsb 0 rfl rfl, hcv.one⟩, ?_⟩
      intro h23 f3
      replace m := m.setr 0 rfl f3
      rw [setL_all (by rw [hcl]; rfl)] at m
      simp only [List.set_cons_zero] at m
      refine ⟨_, m.cell 3 rfl rfl, _, m.cell 3 rfl rfl, (prTake_c (aid := x.a) (tid := x.b) (m.focus 5 rfl) hvr hP (by omega) (by omega)).mono ?_⟩
      rintro _ h24 ⟨pa2, pc2, vs3, E2, L5, cs2, rfl, hcv2, o2, hs5, hv5, m⟩
      simp only [List.eraseIdx_cons_zero, List.eraseIdx_cons_succ] at m
      refine ⟨_, _, _, _, _, rfl, ?_⟩
      intro b4 h25 g1 g2
      replace m := m.push g2 g1
      have hcl2 := hcv2.len
      refine ⟨⟨hcl2, m.wrsb 0 rfl rfl, hcv2.one⟩, ?_⟩
      intro h26 g3
      replace m := m.setr 0 rfl g3
      rw [setL_all (by rw [hcl2]; rfl)] at m
      simp only [List.set_cons_zero] at m
      generalize P.takeZ x.a x.b (now + u) = res at *
      have r1 := m.row 3 rfl (o := 0) (n := 5) (us := cs) (by rw [List.drop_zero, ← hcl, List.take_length]) (by rw [hcl]; exact Nat.le_refl _)
      have r2 := m.row 0 rfl (o := 0) (n := 5) (us := cs2) (by rw [List.drop_zero, ← hcl2, List.take_length]) (by rw [hcl2]; exact Nat.le_refl _)
      refine ⟨fun z h' => z = false ∧ Kept h26 h', bcase_false (by simp) ⟨_, r1, _, r2, (samePacket_c (hcv.le m.leOf) (hcv2.le m.leOf) z6).mono ?_⟩, fun _ => ?_⟩
      · rintro _ h27 ⟨rfl, k27⟩
        exact ⟨_, rfl, by simp, k27⟩
      rintro _ h28 ⟨rfl, k28⟩
      replace m := m.on k28
      refine bcase_false rfl ((samePackets_c (o.src m 4 rfl) (hs4.mono fun _ _ h => h.le m.leOf) rfl (o2.src m 1 rfl) (hs5.mono fun _ _ h => h.le m.leOf) rfl (by omega) z5).mono ?_)
      rintro _ h29 ⟨rfl, k29⟩
      replace m := m.on k29
      refine ⟨_, rfl, bcase_false (by simp) ⟨W3, L4, L5, res.1, x.p.at_, Wd.le.refl _, by omega, by omega, ?_, hv4, hv5, z1, z3⟩⟩
      refine m.sub ⟨[(b4, cs2, 35)] ++ (E2 ++ ([(b3, cs, 35)] ++ E)), ?_⟩
      simp only [List.flatten_cons]
      exact permC fun c h0 hc => by simp only [hc, h0]; omega
    · obtain ⟨z1, z3, z4, z5⟩ := dropZ_spec (aid := x.a) hP hlm
      refine ⟨_, m.cell 0 rfl rfl, _, m.cell 0 rfl rfl, (poDrop_c (aid := x.a) (m.focus 2 rfl) hv hP (by omega)).mono ?_⟩
      rintro _ h30 ⟨W4, oa, oc, vs2, E, L4, hle4, rfl, o, hs4, hv4, m⟩
      simp only [List.eraseIdx_cons_zero, List.eraseIdx_cons_succ] at m
      refine ⟨_, _, _, rfl, m.cell 2 rfl rfl, (prDrop_c (aid := x.a) (m.focus 4 rfl) (hvr.le hle4) hP (by omega)).mono ?_⟩
      rintro _ h31 ⟨pa2, pc2, vs3, E2, L5, rfl, o2, hs5, hv5, m⟩
      simp only [List.eraseIdx_cons_zero, List.eraseIdx_cons_succ] at m
      generalize P.drop x.a = res at *
      refine ⟨_, _, _, rfl, (samePackets_c (o.src m 2 rfl) (hs4.mono fun _ _ h => h.le m.leOf) rfl (o2.src m 0 rfl) (hs5.mono fun _ _ h => h.le m.leOf) rfl (by omega) z5).mono ?_⟩
      rintro _ h32 ⟨rfl, k32⟩
      replace m := m.on k32
      refine ⟨_, rfl, bcase_false (by simp) ⟨W4, L4, L5, res.1, x.p.at_, hle4, by omega, by omega, ?_, hv4, hv5, z1, z3⟩⟩
      refine m.sub ⟨E2 ++ E, ?_⟩
      simp only [List.flatten_cons]
      exact permC fun c h0 hc => by simp only [hc, h0]; omega
  clear m hv hvr
  rintro now' h33 ⟨W4, L4, L5, P', at', hle4, n0', n1', m, hv, hvr, hP', hlm'⟩
  have hp1' := hP'.p1
  replace hvc := hvc.le hle4
  replace m := m.focus 2 rfl
  simp only [List.eraseIdx_cons_zero, List.eraseIdx_cons_succ] at m
  refine (poLen_c m hv hP' (by omega)).mono ?_
  rintro _ h34 ⟨rfl, m⟩
  refine ⟨_, rfl, (prLen_c (m.focus 3 rfl) hvr hP' (by omega)).mono ?_⟩
  rintro _ h35 ⟨rfl, m⟩
  simp only [List.eraseIdx_cons_zero, List.eraseIdx_cons_succ] at m
  refine ⟨_, rfl, bcase_false (by simp) ((poBytes_c (m.focus 1 rfl) hv hP' (by omega)).mono ?_)⟩
  rintro _ h36 ⟨rfl, m⟩
  simp only [List.eraseIdx_cons_zero, List.eraseIdx_cons_succ] at m
  refine ⟨_, rfl, (prBytes_c (m.focus 1 rfl) hvr hP' (by omega)).mono ?_⟩
  rintro _ h37 ⟨rfl, rfl⟩
  refine ⟨_, rfl, bcase_false (by simp) ⟨_, m.cell 2 rfl rfl, _, m.cell 2 rfl rfl, _, m.cell 2 rfl rfl, _, m.cell 2 rfl rfl, (poHas_c m hv hP' x.a x.b).mono ?_⟩⟩
  rintro _ h38 ⟨rfl, rfl⟩
  refine ⟨_, rfl, m.cell 2 rfl rfl, m.cell 2 rfl rfl, (prHas_c (m.focus 1 rfl) hvr hP' x.a x.b).mono ?_⟩
  rintro _ h39 ⟨rfl, m⟩
  simp only [List.eraseIdx_cons_zero, List.eraseIdx_cons_succ] at m
  refine ⟨_, rfl, bcase_false (by simp) ((poLen_c (m.focus 3 rfl) hvc hP (by omega)).mono ?_)⟩
  rintro _ h40 ⟨rfl, m⟩
  simp only [List.eraseIdx_cons_zero, List.eraseIdx_cons_succ] at m
  refine ⟨_, rfl, bcase_false (by simp) ⟨by simp only [fits]; omega, ⟨j + 1, W4, L4, L5, P', by omega, by omega, n0', by omega, hle'.trans hle4, ?_, hv, hvr, hP', hlm'⟩, by (try dsimp only); omega⟩⟩
  refine m.sub ⟨Lc ++ [(bD, [.int .i64 x.kind, .int .i64 x.a, .int .i64 x.b, .int .i64 x.n, .int .i64 x.p.id, .int .u32 x.p.flow, .int .i64 x.p.tid, .int .i64 at', .slice pa x.p.body.length pc], TD)], ?_⟩
  simp only [List.flatten_cons]
  exact permC fun c h0 hc => by simp only [hc, h0]; omega
end
theorem walk_PoolPlays (w : World) (hE : ∃ ads, Snt (Wd.of w.heap) ads) (a0 : Int) (w0 : (Lit.int .u32 a0).wf = true) (a1 : Int) (w1 : (Lit.int .i64 a1).wf = true) (a2 : Int) (w2 : (Lit.int .i64 a2).wf = true) (a3 : Option Addr) (len3 cap3 : Nat) (o3 : Opn (.slc (.con (.int .i64) (.con (.int .i64) (.con (.int .i64) (.con (.int .i64) (.con (.con (.int .i64) (.con (.int .u32) (.con (.int .i64) (.con (.int .i64) (.con (.slc (.int .u8)) .nil))))) .nil)))))) (Wd.of w.heap) [.slice a3 len3 cap3]) :
    Calls Tryd.prog 6 #[.int .u32 a0, .int .i64 a1, .int .i64 a2, .slice a3 len3 cap3] w fun e w' => e = .returned (.bool true) ∧ Go.RowKit.Below w.heap.size w w' := by
  obtain ⟨ads, s⟩ := hE
  obtain ⟨l, vs, rfl, h1, h2⟩ := opn_dps o3
  exact calls_of_runs (poolPlays_r s a0 a1 a2 (of_src.1 h1) h2)
end Go.Proofs.YtpcilleldanfmaaDoor
