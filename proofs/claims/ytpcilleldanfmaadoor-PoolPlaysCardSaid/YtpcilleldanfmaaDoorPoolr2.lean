/- The document's pool of queues: Put, Drop. -/
import Derived.Test.YtpcilleldanfmaaDoorPoolr
set_option linter.unusedVariables false
set_option linter.unusedSimpArgs false
set_option maxRecDepth 8000
namespace Go.Proofs.YtpcilleldanfmaaDoor
open Go.Vc
/-- The document's four numbers of the fattest flow so far. -/
def FatR (s : FatS) (most ba bt bb : Int) : Prop := most = s.2.2 ∧ bb = s.2.1 ∧ match s.1 with
  | none => ba = 0 ∧ bt = 0
  | some k => 1 ≤ ba ∧ ba ≤ 16 ∧ 0 ≤ bt ∧ bt < 8 ∧ pix ba bt = k
section
variable {W W' : Wd} {h h' h1 : Heap} {G R : List Grp} {L L' E : Grp} {P P' : Po} {q q' : Qu} {bs bs2 : List Nat} {Ls Ls2 : List Grp} {b b' bk k n i : Nat} {p : Pk} {cs : List Value} {T : TypeId} {v : Value}
def PutR (W : Wd) (R : List Grp) (b bx : Nat) (xs : List Value) (T : TypeId) (res : Po × List Pk) (n : Nat) (out : Option Addr) (ol oc : Nat) (h' : Heap) : Prop :=
  ∃ (P : Po) (d : List Pk) (vs : List Value) (W2 : Wd) (E L : Grp), shrN n P d = res ∧ P.len ≤ n ∧ PoOk P ∧ P.len + d.length ≤ 1048576 ∧ W.le W2 ∧ ol = d.length ∧ Ow out ol oc 5 vs E ∧ Sq (PkV W2) d vs ∧ PrV W2 b P L ∧ Me W2 h' (L :: [(bx, xs, T)] :: E :: R)
theorem prPut_c {aid : Int} (m : Me W h (L :: R)) (hv : PrV W b P L) (hP : PoOk P) (hl : P.len < 1048576) (hp : PkV W p cs) (h0 : 0 ≤ p.at_) (h1 : p.at_ ≤ 1125899906842624) (hlen : p.body.length ≤ 1048576) :
    Runs Tryd.prog 20 #[.pointer (some ⟨b, 0, none⟩), .int .i64 aid, .agg cs.toArray] h fun v h' => ∃ a c vs E W' L', v = .tuple #[.slice a (P.putZ aid p).2.length c, .int .i64 (if thereZ aid p.tid = true then 0 else 103)] ∧
      Ow a (P.putZ aid p).2.length c 5 vs E ∧ W.le W' ∧ Sq (PkV W') (P.putZ aid p).2 vs ∧ PrV W' b (P.putZ aid p).1 L' ∧ Me W' h' (E :: L' :: R) := by
  have hp0 := hp
  obtain ⟨pa, pc, rfl, hbt⟩ := hp
  refine vc_muezzinref8_Pool_Put _ _ _ _ _ ?_
  intro bx h1 e1 e2
  replace m := m.push e2 e1
  clear e1 e2
  refine ⟨_, m.cell 0 rfl rfl, (rThere_c aid p.tid).mono ?_⟩
  rintro _ h2 ⟨rfl, rfl⟩
  refine ⟨_, rfl, ?_⟩
  by_cases ht : thereZ aid p.tid = true
  case neg =>
    have ht' : thereZ aid p.tid = false := by simpa using ht
    refine bcase_true (by rw [ht']; rfl) ?_
    unfold Po.putZ
    rw [if_neg ht, if_neg ht]
    exact ⟨none, 0, [], [], W, L, rfl, Ow.nil, Wd.le.refl _, rfl, hv, m.drop1.nilI⟩
  have hz := thereZ_iff.1 ht
  have hk := pix_lt ht
  refine bcase_false (by rw [ht]; rfl) ⟨_, m.cell 0 rfl rfl, ⟨by omega, by omega⟩, ⟨by omega, by omega⟩, ?_⟩
  replace m := m.focus 1 rfl
  simp only [List.eraseIdx_cons_zero, List.eraseIdx_cons_succ] at m
  unfold Po.putZ
  rw [if_pos ht, if_pos ht]
  have hcnt := hP.cnt hk
  obtain ⟨a1, a2, a3, a4⟩ := put1_spec hP hk (p := p) h0 h1 hlen (by omega)
  have ix : 5 + aid.toNat * 8 + p.tid.toNat = 5 + (8 + pix aid p.tid) := by unfold pix; omega
  rw [ix]
  unfold Po.put
  (obtain ⟨bs, Ls, T, hq, rfl, mNew⟩ := hv.opn m; replace m := mNew; clear mNew)
  obtain ⟨bk, Lk, e1, e2, hvk, hc⟩ := hq.cellR (hP.qu hk).1 m (j := 1) rfl
  have hmp := m.pick _ e2
  refine ⟨_, hc, _, m.rowb 2 rfl rfl rfl, (putr_c hmp hvk (hP.qu hk).2.ok (hp0.le hmp.leOf) hlen (by omega)).mono ?_⟩
  rintro _ h3 ⟨rfl, W1, Lk', hle, hvk', m1⟩
  clear m hc hmp
  refine ⟨_, rfl, m1.cell 3 rfl rfl, ?_⟩
  obtain ⟨L1, hv1, m1⟩ := hq.shutR e1 e2 hle hvk' m1
  clear hvk hvk' hq e1 e2 hv
  have hv1 : PrV W1 b (P.put1 (pix aid p.tid) p) L1 := hv1
  have hbt1 := hbt.le hle
  generalize P.put1 (pix aid p.tid) p = P1 at *
  obtain ⟨T, m1⟩ : ∃ T, Me W1 h3 (L1 :: [(bx, [.int .i64 p.id, .int .u32 p.flow, .int .i64 p.tid, .int .i64 p.at_, .slice pa p.body.length pc], T)] :: R) := ⟨_, m1⟩
  have hJ0 : PutR W1 R b bx [.int .i64 p.id, .int .u32 p.flow, .int .i64 p.tid, .int .i64 p.at_, .slice pa p.body.length pc] T (shrN P1.len P1 []) P1.len none 0 0 h3 :=
    ⟨P1, [], [], W1, [], L1, rfl, Nat.le_refl _, a1, by simp only [List.length_nil]; omega, Wd.le.refl _, rfl, Ow.nil, rfl, hv1, (m1.nilI.focus 2 rfl).focus 2 rfl⟩
  generalize shrN P1.len P1 [] = res at *
  generalize [Value.int .i64 p.id, .int .u32 p.flow, .int .i64 p.tid, .int .i64 p.at_, .slice pa p.body.length pc] = xs at *
  refine ⟨fun da dl dc h' => ∃ n, PutR W1 R b bx xs T res n da dl dc h', fun da dl dc h' => lea fun n => PutR W1 R b bx xs T res n da dl dc h', ⟨_, hJ0⟩, fun _ => ?_⟩
  clear m1 hv1 hJ0 a1 a2 a3 a4 hP
  intro da dl dc h4 hJ
  obtain ⟨n, ⟨P2, d, vsd, W2, Ed, L2, hres, hn, hP2, hbd, hle2, rfl, od, hsd, hv2, m⟩, hnn⟩ := lea_spec hJ
  clear hJ
  refine ⟨fun h' => (P2.mp < P2.len ∨ P2.mb < P2.byt) ∧ Me W2 h' (L2 :: [(bx, xs, T)] :: Ed :: R), ?_, fun _ => ?_⟩
  · refine ⟨_, hv2.mp m, (prLen_c m hv2 hP2 (by omega)).mono ?_⟩
    rintro _ h5 ⟨rfl, m⟩
    refine ⟨_, rfl, hv2.mp m, dcase_intro (fun q1 => ⟨.inl q1, m⟩) fun q1 => ?_⟩
    refine ⟨_, hv2.mb m, (prBytes_c m hv2 hP2 (by omega)).mono ?_⟩
    rintro _ h6 ⟨rfl, rfl⟩
    refine ⟨_, rfl, hv2.mb m, hv2.mp m, dcase_intro (fun q2 => ⟨.inr q2, m⟩) fun q2 => ?_⟩
    rw [shrN_done (fun hc => hc.elim q1 q2)] at hres
    rw [← hres]
    exact ⟨_, _, vsd, Ed, W2, L2, rfl, od, hle.trans hle2, hsd, hv2, (m.focus 2 rfl).focus 2 rfl |>.drop1 |> fun m => by
      simp only [List.eraseIdx_cons_zero, List.eraseIdx_cons_succ] at m; exact m⟩
  clear m
  rintro h7 ⟨hmore, m⟩
  have hpos := more_pos hP2 hmore
  obtain ⟨n, rfl⟩ : ∃ k, n = k + 1 := ⟨n - 1, by omega⟩
  rw [shrN_more hmore] at hres
  obtain ⟨k, x, hk2, hf, hsh, hd2, hok3, _, _, hlen3, _⟩ := shrink_spec hP2 hpos
  obtain ⟨bs, Ls, T2, hq, rfl, mN⟩ := hv2.opn m
  replace m := mN
  clear mN
  refine ⟨fun most ba bt bb a h' => ∃ (i : Nat) (s : FatS), a = i + 1 ∧ i ≤ 16 ∧ FatR s most ba bt bb ∧ fatQ (P2.q.drop (i * 8)) (i * 8) s = P2.fat ∧ Me W2 h' (Ls.flatten :: [(b, poH P2 ++ prs bs, T2)] :: [(bx, xs, T)] :: Ed :: R), fun _ _ _ _ a _ => (17 - a).toNat,
    ⟨0, (none, 0, -1), by omega, by omega, ⟨rfl, rfl, rfl, rfl⟩, rfl, m⟩, fun _ => ?_⟩
  clear m
  rintro most ba bt bb _ h8 ⟨i, s, rfl, hi, hfr, hfs, m⟩
  refine dcase_intro (fun q1 => ?_) fun q1 => ?_
  · refine ⟨fun most ba bt bb a h' => ∃ (t : Nat) (s : FatS), a = t ∧ t ≤ 8 ∧ FatR s most ba bt bb ∧ fatQ (P2.q.drop (i * 8 + t)) (i * 8 + t) s = P2.fat ∧ Me W2 h' (Ls.flatten :: [(b, poH P2 ++ prs bs, T2)] :: [(bx, xs, T)] :: Ed :: R), fun _ _ _ _ a _ => (8 - a).toNat,
      ⟨0, s, rfl, by omega, hfr, hfs, m⟩, fun _ => ?_⟩
    clear m hfr hfs
    rintro most ba bt bb _ h9 ⟨t, s, rfl, ht8, hfr, hfs, m⟩
    refine dcase_intro (fun q2 => ?_) fun q2 => ?_
    · have hk3 : i * 8 + t < 128 := by omega
      have hkq := (hP2.qu hk3).1
      have hok := (hP2.qu hk3).2.ok
      obtain ⟨bk, Lk, e1, e2, hvk, hc⟩ := hq.cellR hkq m (j := 1) rfl
      have ix2 : 5 + ((i : Int) + 1).toNat * 8 + (t : Int).toNat = 5 + (8 + (i * 8 + t)) := by omega
      rw [ix2]
      rw [fatQ_step hkq] at hfs
      refine ⟨fun most ba bt bb h' => FatR (fatS (i * 8 + t) (P2.qu (i * 8 + t)) s) most ba bt bb ∧ Me W2 h' (Ls.flatten :: [(b, poH P2 ++ prs bs, T2)] :: [(bx, xs, T)] :: Ed :: R), ?_, fun _ => ?_⟩
      · refine ⟨⟨by omega, by omega⟩, ⟨by omega, by omega⟩, _, hc, (fattestr_c (m.pick _ e2) hvk hok).mono ?_⟩
        rintro _ h10 ⟨rfl, rfl⟩
        refine ⟨_, _, rfl, ⟨by omega, by omega⟩, ⟨by omega, by omega⟩, _, hc, (lenr_c (m.pick _ e2) hvk hok).mono ?_⟩
        rintro _ h11 ⟨rfl, m1⟩
        replace m1 := Me.unlook e2 m1
        obtain ⟨rfl, rfl, hfm⟩ := hfr
        refine ⟨_, rfl, dcase_intro (fun q3 => dcase_intro (fun q4 => ?_) fun q4 => ?_) fun q3 => ?_⟩
        · have ef : fatS (i * 8 + t) (P2.qu (i * 8 + t)) s = (some (i * 8 + t), (P2.qu (i * 8 + t)).fattest.1, (P2.qu (i * 8 + t)).fattest.2) := by unfold fatS; rw [if_pos ⟨by omega, q4⟩]
          rw [ef]
          exact ⟨⟨rfl, rfl, by omega, by omega, by omega, by omega, by unfold pix; omega⟩, m1⟩
        · have ef : fatS (i * 8 + t) (P2.qu (i * 8 + t)) s = s := by unfold fatS; rw [if_neg (fun hc => q4 hc.2)]
          rw [ef]
          exact ⟨⟨rfl, rfl, hfm⟩, m1⟩
        · have ef : fatS (i * 8 + t) (P2.qu (i * 8 + t)) s = s := by unfold fatS; rw [if_neg (fun hc => q3 (by omega))]
          rw [ef]
          exact ⟨⟨rfl, rfl, hfm⟩, m1⟩
      clear m hfr hc
      rintro most ba bt bb h12 ⟨hfr, m⟩
      exact ⟨by simp only [fits]; omega, ⟨t + 1, _, by omega, by omega, hfr, hfs, m⟩, by (try dsimp only); omega⟩
    · obtain rfl : t = 8 := by omega
      exact ⟨by simp only [fits]; omega, ⟨i + 1, s, by omega, by omega, hfr, by rw [show (i + 1) * 8 = i * 8 + 8 by omega]; exact hfs, m⟩, by (try dsimp only); omega⟩
  · obtain rfl : i = 16 := by omega
    rw [List.drop_of_length_le (by rw [hP2.n]; omega)] at hfs
    replace hfs : s = P2.fat := hfs
    subst hfs
    rw [hf] at hfr
    obtain ⟨rfl, rfl, r1, r2, r3, r4, r5⟩ := hfr
    have hkq := (hP2.qu hk2).1
    have hok := (hP2.qu hk2).2.ok
    obtain ⟨bk, Lk, e1, e2, hvk, hc⟩ := hq.cellR hkq m (j := 1) rfl
    have ix2 : 5 + ba.toNat * 8 + bt.toNat = 5 + (8 + k) := by unfold pix at r5; omega
    rw [ix2]
    refine ⟨⟨by omega, by omega⟩, ⟨by omega, by omega⟩, _, hc, (dropHeadr_c (m.pick _ e2) hvk hok).mono ?_⟩
    rintro _ h13 ⟨W3, cs, Lk', hle3, rfl, hcv, hvk', m1⟩
    clear m
    refine ⟨_, _, rfl, ?_⟩
    dsimp only at hcv hvk'
    rw [hd2] at hcv
    simp only [Option.getD_some] at hcv
    have hcv0 := hcv
    obtain ⟨pa, pc, rfl, hbt⟩ := hcv
    intro b2 h14 f1 f2
    obtain ⟨L3, hv3, m1⟩ := hq.shutR e1 e2 hle3 hvk' m1
    replace m1 := m1.push f2 f1
    refine ⟨⟨rfl, m1.wrsb 0 rfl rfl, by simp [Value.oneCell']⟩, ?_⟩
    intro h15 f3
    replace m1 := m1.setr 0 rfl f3
    simp only [setL, List.set_cons_zero, List.set_cons_succ] at m1
    refine ⟨_, m1.rowb 0 rfl rfl rfl, rfl, ?_⟩
    replace m1 := m1.drop1
    have hv3 : PrV W3 b P2.shrink.1 L3 := by rw [hsh]; exact hv3
    have hcl := hcv0.len
    refine od.app1 (us := [Value.int .i64 x.id, .int .u32 x.flow, .int .i64 x.tid, .int .i64 x.at_, .slice pa x.body.length pc] ++ []) m1 2 rfl rfl (by simp [Value.oneCell']) (by omega) (by decide) fun a' c' E' h' m' o' => ?_
    rw [List.append_nil] at o'
    have e2' : P2.shrink.2 = x := by rw [hsh]
    rw [e2'] at hres
    refine lea_next hnn (k := n) ⟨_, _, _, W3, E', L3, hres, by omega, hok3, by rw [List.length_append]; simp only [List.length_singleton]; omega, hle2.trans hle3, by simp, o', (hsd.mono fun _ _ => PkV.le hle3).snoc hcv0, hv3, m'⟩ (by omega)
theorem prDrop_c {aid : Int} (m : Me W h (L :: R)) (hv : PrV W b P L) (hP : PoOk P) (hl : P.len ≤ 1048576) : Runs Tryd.prog 24 #[.pointer (some ⟨b, 0, none⟩), .int .i64 aid] h fun v h' =>
    ∃ a c vs E L', v = .slice a (P.drop aid).2.length c ∧ Ow a (P.drop aid).2.length c 5 vs E ∧ Sq (PkV W) (P.drop aid).2 vs ∧ PrV W b (P.drop aid).1 L' ∧ Me W h' (E :: L' :: R) := by
  obtain ⟨i, hi⟩ : ∃ i : Nat, (aid - 1).toNat = i := ⟨_, rfl⟩
  have hol : thereZ aid 0 = true → ∀ t, t ≤ 8 → (outN P (i * 8) t).length ≤ P.len := by
    intro ht t ht'
    have hz := thereZ_iff.1 ht
    have h2 := (wipeN_spec hP (i * 8) t (by omega)).2.2.1.length_eq
    rw [List.length_append] at h2
    rw [Po.len_all]; omega
  refine vc_muezzinref8_Pool_Drop _ _ _ _ ⟨fun out ol oc x h' => ∃ (t : Nat) (vs : List Value) (E L : Grp), x = t ∧ t ≤ 8 ∧ (thereZ aid 0 = false → t = 0) ∧ ol = (outN P (i * 8) t).length ∧ Ow out ol oc 5 vs E ∧ Sq (PkV W) (outN P (i * 8) t) vs ∧ PrV W b (wipeN P (i * 8) t) L ∧ Me W h' (E :: L :: R), fun _ _ _ x _ => (8 - x).toNat,
    ⟨0, [], [], L, rfl, by omega, fun _ => rfl, rfl, Ow.nil, rfl, hv, m.nilI⟩, fun _ => ?_⟩
  clear m hv
  rintro out _ oc _ h1 ⟨t, vs, E, L, rfl, ht8, htt, rfl, o, hs, hv, m⟩
  unfold Po.drop
  refine dcase_intro (fun q1 => ?_) fun q1 => ?_
  · refine (rThere_c aid (t : Int)).mono ?_
    rintro _ h2 ⟨rfl, rfl⟩
    by_cases ht : thereZ aid 0 = true
    case neg =>
      have ht' : thereZ aid 0 = false := by simpa using ht
      obtain rfl := htt ht'
      rw [if_neg ht]
      exact ⟨_, rfl, bcase_false ht' ⟨out, oc, vs, E, L, rfl, o, hs, hv, m⟩⟩
    have hz := thereZ_iff.1 ht
    rw [if_pos ht, hi]
    have htt : thereZ aid (t : Int) = true := thereZ_iff.2 ⟨by omega, by omega, by omega, by omega⟩
    obtain ⟨w1, w2, w3, w4⟩ := wipeN_spec hP (i * 8) t (by omega)
    have hk : i * 8 + t < 128 := by omega
    have hqe : (wipeN P (i * 8) t).qu (i * 8 + t) = P.qu (i * 8 + t) := by rw [w4, if_neg (by omega)]
    have hkq := (w1.qu hk).1
    rw [hqe] at hkq
    have hok := (hP.qu hk).2.ok
    replace m := m.focus 1 rfl
    simp only [List.eraseIdx_cons_zero, List.eraseIdx_cons_succ] at m
    (obtain ⟨bs, Ls, T, hq, rfl, mNew⟩ := hv.opn m; replace m := mNew; clear mNew)
    obtain ⟨bk, Lk, e1, e2, hvk, hc⟩ := hq.cellR hkq m (j := 1) rfl
    have ix2 : 5 + aid.toNat * 8 + (t : Int).toNat = 5 + (8 + (i * 8 + t)) := by omega
    rw [ix2]
    refine ⟨_, rfl, bcase_true htt ⟨⟨by omega, by omega⟩, ⟨by omega, by omega⟩, _, hc, (allr_c (m.pick _ e2) hvk hok).mono ?_⟩⟩
    rintro _ h3 ⟨a, c, vs2, E2, rfl, o2, hs2, m⟩
    have hnext : outN P (i * 8) (t + 1) = outN P (i * 8) t ++ allL (P.qu (i * 8 + t)).fl := rfl
    have hol2 := hol ht (t + 1) (by omega)
    rw [hnext, List.length_append] at hol2
    refine ⟨_, _, _, rfl, vs2, ⟨o2.src m 0 rfl, hs2.all fun _ _ => PkV.one⟩, ?_⟩
    refine o.app m 4 rfl o2.len (by omega) (by decide) fun a2 c2 E3 h10 m' o3 => ?_
    clear m
    simp only [List.set_cons_zero, List.set_cons_succ] at m'
    have hH : poH (wipeN P (i * 8) t) = poH P := by simp only [poH, w2.seed, w2.tg, w2.iv, w2.mp, w2.mb]
    have e0 : ∀ v (j : Nat), (poH P)[j]? = some v → (poH (wipeN P (i * 8) t) ++ prs bs)[j]? = some v := fun v j hj => by
      rw [hH, List.getElem?_append_left (List.getElem?_eq_some_iff.1 hj).1]; exact hj
    refine ⟨_, m'.cell 3 rfl (e0 _ 0 rfl), _, m'.cell 3 rfl (e0 _ 1 rfl), _, m'.cell 3 rfl (e0 _ 2 rfl), ⟨by omega, by omega⟩, (newr_c m' P.seed P.tg P.iv).mono ?_⟩
    rintro _ h5 ⟨b', L', rfl, hv', m⟩
    refine ⟨_, rfl, ⟨by omega, by omega⟩, ?_⟩
    have hbl : bs.length = 136 := by rw [hq.n1]; exact padR_len w1
    refine m.store 4 rfl (by rw [List.length_append, prs_len]; simp only [poH, List.length_cons, List.length_nil]; omega) fun h6 m => ?_
    rw [poH_set, prs_set] at m
    simp only [List.set_cons_zero, List.set_cons_succ] at m
    have hq2 := hq.set hv' (8 + (i * 8 + t))
    have hq3 : Qs QrV W (padR (wipeN P (i * 8) (t + 1))) (bs.set (8 + (i * 8 + t)) b') (Ls.set (8 + (i * 8 + t)) L') := by
      have e : padR (wipeN P (i * 8) (t + 1)) = (padR (wipeN P (i * 8) t)).set (8 + (i * 8 + t)) (qu0 P.seed P.tg P.iv) := by rw [padR_set]; rfl
      rw [e]; exact hq2
    have m2 : Me W h6 (L' :: (Ls.eraseIdx (8 + (i * 8 + t))).flatten :: [(b, poH (wipeN P (i * 8) (t + 1)) ++ prs (bs.set (8 + (i * 8 + t)) b'), T)] :: E3 :: R) := by
      have hH2 : poH (wipeN P (i * 8) (t + 1)) = poH (wipeN P (i * 8) t) := rfl
      rw [hH2]
      refine m.sub ⟨E2 ++ Lk, ?_⟩
      simp only [List.flatten_cons]
      exact permC fun c h0 hc => by simp only [hc, h0]; omega
    obtain ⟨L3, hv3, m3⟩ := PrV.shut hq3 (m2.unpick _ e2)
    refine ⟨by simp only [fits]; omega, ⟨t + 1, _, E3, L3, by omega, by omega, fun hc => (by rw [ht] at hc; cases hc), by rw [hnext, List.length_append], o3, by rw [hnext]; exact hs.app hs2, hv3, m3.focus 1 rfl⟩, by (try dsimp only); omega⟩
  · obtain rfl : t = 8 := by omega
    have ht : thereZ aid 0 = true := by
      cases hc : thereZ aid 0
      · have := htt hc; omega
      · rfl
    rw [if_pos ht, hi]
    exact ⟨out, oc, vs, E, L, rfl, o, hs, hv, m⟩
end
end Go.Proofs.YtpcilleldanfmaaDoor
