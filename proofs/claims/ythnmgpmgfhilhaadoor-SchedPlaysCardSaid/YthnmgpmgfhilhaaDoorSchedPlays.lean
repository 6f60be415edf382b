/- The walk of SchedPlays: the program's turns and the document's are one model. -/
import Derived.Test.YthnmgpmgfhilhaaDoorSchedr2
import Derived.Test.YthnmgpmgfhilhaaDoorSched5
import Derived.Test.YthnmgpmgfhilhaaDoorGenSchedPlays
import Derived.Test.YthnmgpmgfhilhaaDoorOpnInts
set_option linter.unusedVariables false
set_option linter.unusedSimpArgs false
set_option maxRecDepth 8000
namespace Go.Proofs.YthnmgpmgfhilhaaDoor
open Go.Vc
structure Ds where
  kind : Int
  a : Int
  b : Int
  n : Int
  on : Bool
def dsC (x : Ds) : List Value := [.int .i64 x.kind, .int .i64 x.a, .int .i64 x.b, .int .i64 x.n, .bool x.on]
theorem opn_ds1 {W : Wd} {cs : List Value} (o : Opn (.con (.int .i64) (.con (.int .i64) (.con (.int .i64) (.con (.int .i64) (.con .bool .nil))))) W cs) : ∃ x, cs = dsC x := by
  obtain ⟨hl, ⟨kd, e1, _⟩, _, ⟨a, e2, _⟩, _, ⟨b, e3, _⟩, _, ⟨n, e4, _⟩, _, ⟨on, e5⟩, _⟩ := o
  match cs, hl with
  | [c0, c1, c2, c3, c4], _ =>
    simp [Sh1.size] at e1 e2 e3 e4 e5
    subst e1 e2 e3 e4 e5
    exact ⟨⟨kd, a, b, n, on⟩, rfl⟩
theorem opn_ds {W : Wd} {a : Option Addr} {len cap : Nat} (o : Opn (.slc (.con (.int .i64) (.con (.int .i64) (.con (.int .i64) (.con (.int .i64) (.con .bool .nil)))))) W [.slice a len cap]) : ∃ (l : List Ds) (vs : List Value), l.length = len ∧ wsrc W a (len * 5) vs ∧ Sq (fun x cs => cs = dsC x) l vs := by
  obtain ⟨a', len', cap', vs, e, h1, h2, h3, h4, h5⟩ := o
  cases e
  obtain ⟨l, hl, hx⟩ := choose_l len fun i hi => opn_ds1 (h5 i hi)
  exact ⟨l, vs, hl, h4, sq_of (by rw [hl]; exact h3) fun i x hi => hx i x hi⟩
section
variable {S : Sts} {a w air : Int} {on : Bool} {W : Wd} {h : Heap} {R : List Grp} {b : Nat} {L : Grp}
theorem add_er : ∀ i, (addS S a w).2 = some i → i < 14 := fun i h => by
  unfold addS at h
  split at h
  · split at h <;> cases h
    decide
  · cases h; decide
theorem del_er : ∀ i, (delS S a).2 = some i → i < 14 := fun i h => by
  unfold delS at h
  split at h <;> cases h
  decide
theorem weigh_er : ∀ i, (weighS S a w).2 = some i → i < 14 := fun i h => by
  unfold weighS at h
  split at h
  · cases h; decide
  · split at h <;> cases h
    decide
theorem active_er : ∀ i, (activeS S a on).2 = some i → i < 14 := fun i h => by
  unfold activeS at h
  split at h <;> cases h
  decide
theorem charge_er : ∀ i, (chargeS S a air).2 = some i → i < 14 := fun i h => by
  unfold chargeS at h
  split at h
  · cases h; decide
  · split at h <;> cases h
    decide
theorem cnt16 (hn : S.length = 16) : onCnt S ≤ 16 := by
  have := List.length_filter_le isOn S
  unfold onCnt; omega
set_option maxHeartbeats 4000000
theorem schedPlays_r {h : Heap} {ads : List Addr} {l : List Ds} {la : Option Addr} {cap : Nat} {vs : List Value} (s : Snt (Wd.of h) ads) (hs : src h la (l.length * 5) vs) (hq : Sq (fun x cs => cs = dsC x) l vs) :
    Runs Tryd.prog 7 #[.slice la l.length cap] h fun v h' => v = .bool true ∧ Kept h h' := by
  refine vc_muezzinlaw20_SchedPlays _ _ _ _ _ ((schedFirst_c (Me.start h)).mono ?_)
  rintro _ h1 ⟨rfl, m⟩
  refine ⟨_, rfl, bcase_false rfl (dcase_intro (fun _ => ⟨rfl, m.kept (Wd.le.refl _)⟩) fun hl100 => (new_c m).mono ?_)⟩
  rintro _ h2 ⟨p, L, rfl, hv, m⟩
  refine ⟨_, rfl, ?_⟩
  intro b1 h3 e1 e2
  replace m := m.push e2 e1
  clear e1 e2
  generalize eT : (47 : TypeId) = TR at m
  clear eT
  refine bcase_false rfl ⟨fun x h' => ∃ (i : Nat) (S : Sts) (L Lr : Grp), x = i ∧ i ≤ l.length ∧ SOk S ∧ ScV p S L ∧ SrV b1 S Lr ∧ Me (Wd.of h) h' (L :: Lr :: []), fun x _ => ((l.length : Int) - x).toNat,
    ⟨0, sts0, L, [(b1, [.slice none 0 0], TR)], rfl, by omega, sok0, hv, ⟨[], none, 0, [], TR, rel0, rfl, Ow.nil, by simp⟩, m.focus 1 rfl⟩, fun _ => ?_⟩
  clear m hv
  rintro _ h4 ⟨i, S, L, Lr, rfl, hi, ok, hv, hr, m⟩
  have kk := m.kept (Wd.le.refl _)
  refine dcase_intro (fun q => ?_) fun q => ⟨rfl, kk⟩
  obtain ⟨x, hx⟩ : ∃ x, l[i]? = some x := ⟨_, List.getElem?_eq_getElem (by omega)⟩
  obtain ⟨cs, rfl, hrow, hrl⟩ := hq.get (n := 5) (fun _ _ e => by rw [e]; rfl) hx
  obtain ⟨lb, lo, rfl, hrw⟩ := src_part (k := i * 5) (n := 5) (kk.src hs) hrl (by decide) hrow
  refine ⟨⟨by omega, by omega⟩, _, hrw, ?_⟩
  intro b3 h5 e1 e2
  replace m := m.push e2 e1
  clear e1 e2
  refine ⟨⟨rfl, m.wrsb 0 rfl rfl, by simp [dsC, Value.oneCell']⟩, ?_⟩
  intro h6 e1
  replace m := m.setr 0 rfl e1
  generalize eT2 : (49 : TypeId) = T3 at m
  clear e1 eT2
  have e3 : (b3, setL [.int .i64 0, .int .i64 0, .int .i64 0, .int .i64 0, .bool false] 0 (dsC x), T3) = ((b3, dsC x, T3) : B3) := rfl
  simp only [List.set_cons_zero] at m
  rw [e3] at m
  have m1 := m.focus 1 rfl
  simp only [List.eraseIdx_cons_succ, List.eraseIdx_cons_zero] at m1
  refine (clone_c m1 hv).mono ?_
  clear m m1
  rintro _ h7 ⟨b', L2, rfl, hv2, m⟩
  refine ⟨_, rfl, (order_c m hv2).mono ?_⟩
  clear m
  rintro _ h8 ⟨oa, oc, o1, E1, rfl, ow1, io1, m⟩
  have m1 := m.focus 2 rfl
  simp only [List.eraseIdx_cons_succ, List.eraseIdx_cons_zero] at m1
  clear m
  refine ⟨_, _, _, rfl, fun h' => ∃ (S' : Sts) (L' Lr' : Grp) (R' : List Grp), SOk S' ∧ ScV p S' L' ∧ SrV b1 S' Lr' ∧ Me (Wd.of h) h' (Lr' :: L' :: E1 :: L2 :: R'), ?_, fun _ => ?_⟩
  · refine ⟨_, m1.cell 3 rfl rfl, dcase_intro (fun q1 => ?_) fun q1 => dcase_intro (fun q2 => ?_) fun q2 => dcase_intro (fun q3 => ?_) fun q3 => dcase_intro (fun q4 => ?_) fun q4 => ?_⟩
    · refine ⟨_, m1.cell 3 rfl rfl, _, m1.cell 3 rfl rfl, _, m1.cell 3 rfl rfl, _, m1.cell 3 rfl rfl, (add_c (ads := ads) m1 hv (s.eg add_er)).mono ?_⟩
      rintro _ h9 ⟨L', rfl, hv', m2⟩
      refine ⟨_, rfl, m2.cell 3 rfl rfl, m2.cell 3 rfl rfl, (radd_c (m2.focus 4 rfl) hr).mono ?_⟩
      rintro _ h10 ⟨Lr', rfl, hr', m3⟩
      refine ⟨_, rfl, (is_c s m3 add_er _).mono ?_⟩
      rintro _ h11 ⟨rfl, m4⟩
      exact ⟨_, rfl, bcase_false (by simp) ⟨_, L', Lr', _, ok.add, hv', hr', m4⟩⟩
    · refine ⟨_, m1.cell 3 rfl rfl, _, m1.cell 3 rfl rfl, (del_c (ads := ads) m1 hv (s.eg del_er)).mono ?_⟩
      rintro _ h9 ⟨L', rfl, hv', m2⟩
      refine ⟨_, rfl, m2.cell 3 rfl rfl, (rdel_c (m2.focus 4 rfl) hr).mono ?_⟩
      rintro _ h10 ⟨Lr', rfl, hr', m3⟩
      refine ⟨_, rfl, (is_c s m3 del_er _).mono ?_⟩
      rintro _ h11 ⟨rfl, m4⟩
      exact ⟨_, rfl, bcase_false (by simp) ⟨_, L', Lr', _, ok.del, hv', hr', m4⟩⟩
    · refine ⟨_, m1.cell 3 rfl rfl, _, m1.cell 3 rfl rfl, _, m1.cell 3 rfl rfl, _, m1.cell 3 rfl rfl, (weigh_c (ads := ads) m1 hv (s.eg weigh_er)).mono ?_⟩
      rintro _ h9 ⟨L', rfl, hv', m2⟩
      refine ⟨_, rfl, m2.cell 3 rfl rfl, m2.cell 3 rfl rfl, (rweigh_c (m2.focus 4 rfl) hr).mono ?_⟩
      rintro _ h10 ⟨Lr', rfl, hr', m3⟩
      refine ⟨_, rfl, (is_c s m3 weigh_er _).mono ?_⟩
      rintro _ h11 ⟨rfl, m4⟩
      exact ⟨_, rfl, bcase_false (by simp) ⟨_, L', Lr', _, ok.weigh, hv', hr', m4⟩⟩
    · refine ⟨_, m1.cell 3 rfl rfl, _, m1.cell 3 rfl rfl, _, m1.cell 3 rfl rfl, _, m1.cell 3 rfl rfl, (active_c (ads := ads) m1 hv (s.eg active_er)).mono ?_⟩
      rintro _ h9 ⟨L', rfl, hv', m2⟩
      refine ⟨_, rfl, m2.cell 3 rfl rfl, m2.cell 3 rfl rfl, (ractive_c (m2.focus 4 rfl) hr).mono ?_⟩
      rintro _ h10 ⟨Lr', rfl, hr', R', m3, X, rfl⟩
      refine ⟨_, rfl, (is_c s m3 active_er _).mono ?_⟩
      rintro _ h11 ⟨rfl, m4⟩
      refine ⟨_, rfl, bcase_false (by simp) ⟨_, L', Lr', [(b3, dsC x, T3)] :: X, ok.active, hv', hr', m4.perm ?_⟩⟩
      classical
      refine List.perm_iff_count.2 fun x => ?_
      simp only [List.eraseIdx_cons_succ, List.eraseIdx_cons_zero, List.flatten_cons, List.flatten_append, List.flatten_nil, List.append_nil, List.count_append]; omega
    · refine ⟨_, m1.cell 3 rfl rfl, _, m1.cell 3 rfl rfl, _, m1.cell 3 rfl rfl, _, m1.cell 3 rfl rfl, (charge_c (ads := ads) m1 hv ok (s.eg charge_er)).mono ?_⟩
      rintro _ h9 ⟨L', rfl, hv', m2⟩
      refine ⟨_, rfl, m2.cell 3 rfl rfl, m2.cell 3 rfl rfl, (rcharge_c (m2.focus 4 rfl) hr ok).mono ?_⟩
      rintro _ h10 ⟨Lr', rfl, hr', m3⟩
      refine ⟨_, rfl, (is_c s m3 charge_er _).mono ?_⟩
      rintro _ h11 ⟨rfl, m4⟩
      exact ⟨_, rfl, bcase_false (by simp) ⟨_, L', Lr', _, ok.charge, hv', hr', m4⟩⟩
  clear m1 hv hr
  rintro h24 ⟨S', L', Lr', R', ok', hv', hr', m⟩
  refine (order_c (m.focus 1 rfl) hv').mono ?_
  clear m
  rintro _ h25 ⟨pa, pc, o2, E2, rfl, ow2, io2, m⟩
  simp only [List.eraseIdx_cons_succ, List.eraseIdx_cons_zero] at m
  refine ⟨_, _, _, rfl, (rorder_c (m.focus 2 rfl) hr').mono ?_⟩
  clear m
  rintro _ h26 ⟨qa, qc, o3, E3, rfl, ow3, od3, m⟩
  simp only [List.eraseIdx_cons_succ, List.eraseIdx_cons_zero] at m
  have e23 : o2 = o3 := io2.od.eq od3
  have hn2 := io2.n
  have hc2 := cnt16 ok'.n
  refine ⟨_, _, _, rfl, (sameInts_c (ow2.src1 m 2 rfl) (ow3.src1 m 0 rfl) (by omega)).mono ?_⟩
  rintro _ _ ⟨rfl, rfl⟩
  rw [decide_eq_true e23]
  refine ⟨_, rfl, bcase_false rfl ((order_c (m.focus 5 rfl) hv2).mono ?_)⟩
  clear m
  rintro _ h28 ⟨ra, rc, o4, E4, rfl, ow4, io4, m⟩
  simp only [List.eraseIdx_cons_succ, List.eraseIdx_cons_zero] at m
  have e41 : o4 = o1 := io4.od.eq io1.od
  have hn4 := io4.n
  have hc4 := cnt16 ok.n
  refine ⟨_, _, _, rfl, (sameInts_c (ow4.src1 m 0 rfl) (ow1.src1 m 6 rfl) (by omega)).mono ?_⟩
  rintro _ h29 ⟨rfl, rfl⟩
  rw [decide_eq_true e41]
  have mS := m.focus 5 rfl
  have mR := m.focus 3 rfl
  obtain ⟨D, sa, c, E, T, r, hn, o, mR2⟩ := hr'.opn mR
  have hlD := r.len
  refine ⟨_, rfl, bcase_false rfl ⟨fun z h' => ∃ k : Nat, z = k ∧ k ≤ 18 ∧ h' = h29, fun z _ => (18 - z).toNat, ⟨0, rfl, by omega, rfl⟩, fun _ => ?_⟩⟩
  rintro _ h30 ⟨k, rfl, hk, rfl⟩
  refine dcase_intro (fun q2 => ?_) fun q2 => ⟨by simp only [fits]; omega, ⟨i + 1, S', L', Lr', by omega, by omega, ok', hv', hr', (m.focus 5 rfl).sub ⟨E4 ++ L2 ++ E3 ++ E2 ++ E1 ++ R'.flatten, ?_⟩⟩, by (try dsimp only); omega⟩
  · refine (time_c mS hv' (k : Int)).mono ?_
    rintro _ h31 ⟨rfl, rfl⟩
    cases hg : getS S' (k : Int) with
    | none =>
      refine ⟨_, _, rfl, (rfindD_c r o mR2 (k : Int)).mono ?_⟩
      rintro _ h32 ⟨rfl, ⟨hg2, rfl⟩ | ⟨j, y, rfl, hy, e, hg2⟩⟩
      · exact ⟨_, rfl, bcase_false (by decide) (bcase_false rfl ⟨by simp only [fits]; omega, ⟨k + 1, by omega, by omega, rfl⟩, by (try dsimp only); omega⟩)⟩
      · rw [hg] at hg2; cases hg2
    | some z =>
      refine ⟨_, _, rfl, (rfindD_c r o mR2 (k : Int)).mono ?_⟩
      rintro _ h32 ⟨rfl, ⟨hg2, rfl⟩ | ⟨j, y, rfl, hy, e, hg2⟩⟩
      · rw [hg] at hg2; cases hg2
      · rw [hg] at hg2; cases hg2
        have hj := (List.getElem?_eq_some_iff.1 hy).1
        obtain ⟨yb, yo, rfl, hc⟩ := src_cell (o.src mR2 1 rfl) (tAll_get (o := 2) hy rfl)
        exact ⟨_, rfl, bcase_false (by simp) (bcase_true rfl ⟨_, _, _, mR2.cell 0 rfl rfl, ⟨by omega, by omega⟩, _, by simpa [Nat.add_assoc] using hc, bcase_false (by simp) ⟨by simp only [fits]; omega, ⟨k + 1, by omega, by omega, rfl⟩, by (try dsimp only); omega⟩⟩)⟩
  · classical
    refine List.perm_iff_count.2 fun x => ?_
    simp only [List.eraseIdx_cons_succ, List.eraseIdx_cons_zero, List.flatten_cons, List.flatten_append, List.flatten_nil, List.append_nil, List.count_append]; omega
end
theorem walk_SchedPlays (w : World) (hE : ∃ ads, Snt (Wd.of w.heap) ads) (a0 : Option Addr) (len0 cap0 : Nat) (o0 : Opn (.slc (.con (.int .i64) (.con (.int .i64) (.con (.int .i64) (.con (.int .i64) (.con .bool .nil)))))) (Wd.of w.heap) [.slice a0 len0 cap0]) :
    Calls Tryd.prog 7 #[.slice a0 len0 cap0] w fun e w' => e = .returned (.bool true) ∧ Go.RowKit.Below w.heap.size w w' := by
  obtain ⟨ads, hs⟩ := hE
  obtain ⟨l, vs, rfl, h1, h2⟩ := opn_ds o0
  exact calls_of_runs (schedPlays_r hs (of_src.1 h1) h2)
end Go.Proofs.YthnmgpmgfhilhaaDoor
