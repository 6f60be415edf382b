/- The texts of this proof, laid together (part 5). -/
import Derived.Test.YtpcilleldanfmaaDoorAll4
import Derived.Test.YtpcilleldanfmaaDoorRows
import Derived.Test.YtpcilleldanfmaaDoorAll1
import Derived.LaidMore
import Derived.LaidLaws
/- The document's pool of queues: Put, Drop. -/
set_option linter.unusedVariables false
set_option linter.unusedSimpArgs false
set_option maxRecDepth 8000
namespace Go.Proofs.YtpcilleldanfmaaDoor
open Go.Vc
/-- The document's four numbers of the fattest flow so far. -/
def FatR (s : FatS) (most ba bt bb : Int) : Prop := most = s.2.2 ∧ bb = s.2.1 ∧ match s.1 with
  | none => ba = 0 ∧ bt = 0
  | some k => 1 ≤ ba ∧ ba ≤ 16 ∧ 0 ≤ bt ∧ bt < 8 ∧ pix ba bt = k
section
variable {W W' : Wd} {h h' h1 : Heap} {G R : List Grp} {L L' E : Grp} {P P' : Po} {q q' : Qu} {bs bs2 : List Nat} {Ls Ls2 : List Grp} {b b' bk k n i : Nat} {p : Pk} {cs : List Value} {T : TypeId} {v : Value}
def PutR (W : Wd) (R : List Grp) (b bx : Nat) (xs : List Value) (T : TypeId) (res : Po × List Pk) (n : Nat) (out : Option Addr) (ol oc : Nat) (h' : Heap) : Prop :=
  ∃ (P : Po) (d : List Pk) (vs : List Value) (W2 : Wd) (E L : Grp), shrN n P d = res ∧ P.len ≤ n ∧ PoOk P ∧ P.len + d.length ≤ 1048576 ∧ W.le W2 ∧ ol = d.length ∧ Ow out ol oc 5 vs E ∧ Sq (PkV W2) d vs ∧ PrV W2 b P L ∧ Me W2 h' (L :: [(bx, xs, T)] :: E :: R)
theorem prPut_c {aid : Int} (m : Me W h (L :: R)) (hv : PrV W b P L) (hP : PoOk P) (hl : P.len < 1048576) (hp : PkV W p cs) (h0 : 0 ≤ p.at_) (h1 : p.at_ ≤ 1125899906842624) (hlen : p.body.length ≤ 1048576) :
    Runs Tryd.prog 20 #[.pointer (some ⟨b, 0, none⟩), .int .i64 aid, .agg cs.toArray] h fun v h' => ∃ a c vs E W' L', v = .tuple #[.slice a (P.putZ aid p).2.length c, .int .i64 (if thereZ aid p.tid = true then 0 else 103)] ∧
      Ow a (P.putZ aid p).2.length c 5 vs E ∧ W.le W' ∧ Sq (PkV W') (P.putZ aid p).2 vs ∧ PrV W' b (P.putZ aid p).1 L' ∧ Me W' h' (E :: L' :: R) := by
  have hp0 := hp
  obtain ⟨pa, pc, rfl, hbt⟩ := hp
  refine vc_muezzinref8_Pool_Put _ _ _ _ _ ?_
  intro bx h1 e1 e2
  replace m := m.push e2 e1
  clear e1 e2
  refine ⟨_, m.cell 0 rfl rfl, (rThere_c aid p.tid).mono ?_⟩
  rintro _ h2 ⟨rfl, rfl⟩
  refine ⟨_, rfl, ?_⟩
  by_cases ht : thereZ aid p.tid = true
  case neg =>
    have ht' : thereZ aid p.tid = false := by simpa using ht
    refine bcase_true (by rw [ht']; rfl) ?_
    unfold Po.putZ
    rw [if_neg ht, if_neg ht]
    exact ⟨none, 0, [], [], W, L, rfl, Ow.nil, Wd.le.refl _, rfl, hv, m.drop1.nilI⟩
  have hz := thereZ_iff.1 ht
  have hk := pix_lt ht
  refine bcase_false (by rw [ht]; rfl) ⟨_, m.cell 0 rfl rfl, ⟨by omega, by omega⟩, ⟨by omega, by omega⟩, ?_⟩
  replace m := m.focus 1 rfl
  simp only [List.eraseIdx_cons_zero, List.eraseIdx_cons_succ] at m
  unfold Po.putZ
  rw [if_pos ht, if_pos ht]
  have hcnt := hP.cnt hk
  obtain ⟨a1, a2, a3, a4⟩ := put1_spec hP hk (p := p) h0 h1 hlen (by omega)
  have ix : 5 + aid.toNat * 8 + p.tid.toNat = 5 + (8 + pix aid p.tid) := by unfold pix; omega
  rw [ix]
  unfold Po.put
  (obtain ⟨bs, Ls, T, hq, rfl, mNew⟩ := hv.opn m; replace m := mNew; clear mNew)
  obtain ⟨bk, Lk, e1, e2, hvk, hc⟩ := hq.cellR (hP.qu hk).1 m (j := 1) rfl
  have hmp := m.pick _ e2
  refine ⟨_, hc, _, m.rowb 2 rfl rfl rfl, (putr_c hmp hvk (hP.qu hk).2.ok (hp0.le hmp.leOf) hlen (by omega)).mono ?_⟩
  rintro _ h3 ⟨rfl, W1, Lk', hle, hvk', m1⟩
  clear m hc hmp
  refine ⟨_, rfl, m1.cell 3 rfl rfl, ?_⟩
  obtain ⟨L1, hv1, m1⟩ := hq.shutR e1 e2 hle hvk' m1
  clear hvk hvk' hq e1 e2 hv
  have hv1 : PrV W1 b (P.put1 (pix aid p.tid) p) L1 := hv1
  have hbt1 := hbt.le hle
  generalize P.put1 (pix aid p.tid) p = P1 at *
  obtain ⟨T, m1⟩ : ∃ T, Me W1 h3 (L1 :: [(bx, [.int .i64 p.id, .int .u32 p.flow, .int .i64 p.tid, .int .i64 p.at_, .slice pa p.body.length pc], T)] :: R) := ⟨_, m1⟩
  have hJ0 : PutR W1 R b bx [.int .i64 p.id, .int .u32 p.flow, .int .i64 p.tid, .int .i64 p.at_, .slice pa p.body.length pc] T (shrN P1.len P1 []) P1.len none 0 0 h3 :=
    ⟨P1, [], [], W1, [], L1, rfl, Nat.le_refl _, a1, by simp only [List.length_nil]; omega, Wd.le.refl _, rfl, Ow.nil, rfl, hv1, (m1.nilI.focus 2 rfl).focus 2 rfl⟩
  generalize shrN P1.len P1 [] = res at *
  generalize [Value.int .i64 p.id, .int .u32 p.flow, .int .i64 p.tid, .int .i64 p.at_, .slice pa p.body.length pc] = xs at *
  refine ⟨fun da dl dc h' => ∃ n, PutR W1 R b bx xs T res n da dl dc h', fun da dl dc h' => lea fun n => PutR W1 R b bx xs T res n da dl dc h', ⟨_, hJ0⟩, fun _ => ?_⟩
  clear m1 hv1 hJ0 a1 a2 a3 a4 hP
  intro da dl dc h4 hJ
  obtain ⟨n, ⟨P2, d, vsd, W2, Ed, L2, hres, hn, hP2, hbd, hle2, rfl, od, hsd, hv2, m⟩, hnn⟩ := lea_spec hJ
  clear hJ
  refine ⟨fun h' => (P2.mp < P2.len ∨ P2.mb < P2.byt) ∧ Me W2 h' (L2 :: [(bx, xs, T)] :: Ed :: R), ?_, fun _ => ?_⟩
  · refine ⟨_, hv2.mp m, (prLen_c m hv2 hP2 (by omega)).mono ?_⟩
    rintro _ h5 ⟨rfl, m⟩
    refine ⟨_, rfl, hv2.mp m, dcase_intro (fun q1 => ⟨.inl q1, m⟩) fun q1 => ?_⟩
    refine ⟨_, hv2.mb m, (prBytes_c m hv2 hP2 (by omega)).mono ?_⟩
    rintro _ h6 ⟨rfl, rfl⟩
    refine ⟨_, rfl, hv2.mb m, hv2.mp m, dcase_intro (fun q2 => ⟨.inr q2, m⟩) fun q2 => ?_⟩
    rw [shrN_done (fun hc => hc.elim q1 q2)] at hres
    rw [← hres]
    exact ⟨_, _, vsd, Ed, W2, L2, rfl, od, hle.trans hle2, hsd, hv2, (m.focus 2 rfl).focus 2 rfl |>.drop1 |> fun m => by
      simp only [List.eraseIdx_cons_zero, List.eraseIdx_cons_succ] at m; exact m⟩
  clear m
  rintro h7 ⟨hmore, m⟩
  have hpos := more_pos hP2 hmore
  obtain ⟨n, rfl⟩ : ∃ k, n = k + 1 := ⟨n - 1, by omega⟩
  rw [shrN_more hmore] at hres
  obtain ⟨k, x, hk2, hf, hsh, hd2, hok3, _, _, hlen3, _⟩ := shrink_spec hP2 hpos
  obtain ⟨bs, Ls, T2, hq, rfl, mN⟩ := hv2.opn m
  replace m := mN
  clear mN
  refine ⟨fun most ba bt bb a h' => ∃ (i : Nat) (s : FatS), a = i + 1 ∧ i ≤ 16 ∧ FatR s most ba bt bb ∧ fatQ (P2.q.drop (i * 8)) (i * 8) s = P2.fat ∧ Me W2 h' (Ls.flatten :: [(b, poH P2 ++ prs bs, T2)] :: [(bx, xs, T)] :: Ed :: R), fun _ _ _ _ a _ => (17 - a).toNat,
    ⟨0, (none, 0, -1), by omega, by omega, ⟨rfl, rfl, rfl, rfl⟩, rfl, m⟩, fun _ => ?_⟩
  clear m
  rintro most ba bt bb _ h8 ⟨i, s, rfl, hi, hfr, hfs, m⟩
  refine dcase_intro (fun q1 => ?_) fun q1 => ?_
  · refine ⟨fun most ba bt bb a h' => ∃ (t : Nat) (s : FatS), a = t ∧ t ≤ 8 ∧ FatR s most ba bt bb ∧ fatQ (P2.q.drop (i * 8 + t)) (i * 8 + t) s = P2.fat ∧ Me W2 h' (Ls.flatten :: [(b, poH P2 ++ prs bs, T2)] :: [(bx, xs, T)] :: Ed :: R), fun _ _ _ _ a _ => (8 - a).toNat,
      ⟨0, s, rfl, by omega, hfr, hfs, m⟩, fun _ => ?_⟩
    clear m hfr hfs
    rintro most ba bt bb _ h9 ⟨t, s, rfl, ht8, hfr, hfs, m⟩
    refine dcase_intro (fun q2 => ?_) fun q2 => ?_
    · have hk3 : i * 8 + t < 128 := by omega
      have hkq := (hP2.qu hk3).1
      have hok := (hP2.qu hk3).2.ok
      obtain ⟨bk, Lk, e1, e2, hvk, hc⟩ := hq.cellR hkq m (j := 1) rfl
      have ix2 : 5 + ((i : Int) + 1).toNat * 8 + (t : Int).toNat = 5 + (8 + (i * 8 + t)) := by omega
      rw [ix2]
      rw [fatQ_step hkq] at hfs
      refine ⟨fun most ba bt bb h' => FatR (fatS (i * 8 + t) (P2.qu (i * 8 + t)) s) most ba bt bb ∧ Me W2 h' (Ls.flatten :: [(b, poH P2 ++ prs bs, T2)] :: [(bx, xs, T)] :: Ed :: R), ?_, fun _ => ?_⟩
      · refine ⟨⟨by omega, by omega⟩, ⟨by omega, by omega⟩, _, hc, (fattestr_c (m.pick _ e2) hvk hok).mono ?_⟩
        rintro _ h10 ⟨rfl, rfl⟩
        refine ⟨_, _, rfl, ⟨by omega, by omega⟩, ⟨by omega, by omega⟩, _, hc, (lenr_c (m.pick _ e2) hvk hok).mono ?_⟩
        rintro _ h11 ⟨rfl, m1⟩
        replace m1 := Me.unlook e2 m1
        obtain ⟨rfl, rfl, hfm⟩ := hfr
        refine ⟨_, rfl, dcase_intro (fun q3 => dcase_intro (fun q4 => ?_) fun q4 => ?_) fun q3 => ?_⟩
        · have ef : fatS (i * 8 + t) (P2.qu (i * 8 + t)) s = (some (i * 8 + t), (P2.qu (i * 8 + t)).fattest.1, (P2.qu (i * 8 + t)).fattest.2) := by unfold fatS; rw [if_pos ⟨by omega, q4⟩]
          rw [ef]
          exact ⟨⟨rfl, rfl, by omega, by omega, by omega, by omega, by unfold pix; omega⟩, m1⟩
        · have ef : fatS (i * 8 + t) (P2.qu (i * 8 + t)) s = s := by unfold fatS; rw [if_neg (fun hc => q4 hc.2)]
          rw [ef]
          exact ⟨⟨rfl, rfl, hfm⟩, m1⟩
        · have ef : fatS (i * 8 + t) (P2.qu (i * 8 + t)) s = s := by unfold fatS; rw [if_neg (fun hc => q3 (by omega))]
          rw [ef]
          exact ⟨⟨rfl, rfl, hfm⟩, m1⟩
      clear m hfr hc
      rintro most ba bt bb h12 ⟨hfr, m⟩
      exact ⟨by simp only [fits]; omega, ⟨t + 1, _, by omega, by omega, hfr, hfs, m⟩, by (try dsimp only); omega⟩
    · obtain rfl : t = 8 := by omega
      exact ⟨by simp only [fits]; omega, ⟨i + 1, s, by omega, by omega, hfr, by rw [show (i + 1) * 8 = i * 8 + 8 by omega]; exact hfs, m⟩, by (try dsimp only); omega⟩
  · obtain rfl : i = 16 := by omega
    rw [List.drop_of_length_le (by rw [hP2.n]; omega)] at hfs
    replace hfs : s = P2.fat := hfs
    subst hfs
    rw [hf] at hfr
    obtain ⟨rfl, rfl, r1, r2, r3, r4, r5⟩ := hfr
    have hkq := (hP2.qu hk2).1
    have hok := (hP2.qu hk2).2.ok
    obtain ⟨bk, Lk, e1, e2, hvk, hc⟩ := hq.cellR hkq m (j := 1) rfl
    have ix2 : 5 + ba.toNat * 8 + bt.toNat = 5 + (8 + k) := by unfold pix at r5; omega
    rw [ix2]
    refine ⟨⟨by omega, by omega⟩, ⟨by omega, by omega⟩, _, hc, (dropHeadr_c (m.pick _ e2) hvk hok).mono ?_⟩
    rintro _ h13 ⟨W3, cs, Lk', hle3, rfl, hcv, hvk', m1⟩
    clear m
    refine ⟨_, _, rfl, ?_⟩
    dsimp only at hcv hvk'
    rw [hd2] at hcv
    simp only [Option.getD_some] at hcv
    have hcv0 := hcv
    obtain ⟨pa, pc, rfl, hbt⟩ := hcv
    intro b2 h14 f1 f2
    obtain ⟨L3, hv3, m1⟩ := hq.shutR e1 e2 hle3 hvk' m1
    replace m1 := m1.push f2 f1
    refine ⟨⟨rfl, m1.wrsb 0 rfl rfl, by simp [Value.oneCell']⟩, ?_⟩
    intro h15 f3
    replace m1 := m1.setr 0 rfl f3
    simp only [setL, List.set_cons_zero, List.set_cons_succ] at m1
    refine ⟨_, m1.rowb 0 rfl rfl rfl, rfl, ?_⟩
    replace m1 := m1.drop1
    have hv3 : PrV W3 b P2.shrink.1 L3 := by rw [hsh]; exact hv3
    have hcl := hcv0.len
    refine od.app1 (us := [Value.int .i64 x.id, .int .u32 x.flow, .int .i64 x.tid, .int .i64 x.at_, .slice pa x.body.length pc] ++ []) m1 2 rfl rfl (by simp [Value.oneCell']) (by omega) (by decide) fun a' c' E' h' m' o' => ?_
    rw [List.append_nil] at o'
    have e2' : P2.shrink.2 = x := by rw [hsh]
    rw [e2'] at hres
    refine lea_next hnn (k := n) ⟨_, _, _, W3, E', L3, hres, by omega, hok3, by rw [List.length_append]; simp only [List.length_singleton]; omega, hle2.trans hle3, by simp, o', (hsd.mono fun _ _ => PkV.le hle3).snoc hcv0, hv3, m'⟩ (by omega)
theorem prDrop_c {aid : Int} (m : Me W h (L :: R)) (hv : PrV W b P L) (hP : PoOk P) (hl : P.len ≤ 1048576) : Runs Tryd.prog 24 #[.pointer (some ⟨b, 0, none⟩), .int .i64 aid] h fun v h' =>
    ∃ a c vs E L', v = .slice a (P.drop aid).2.length c ∧ Ow a (P.drop aid).2.length c 5 vs E ∧ Sq (PkV W) (P.drop aid).2 vs ∧ PrV W b (P.drop aid).1 L' ∧ Me W h' (E :: L' :: R) := by
  obtain ⟨i, hi⟩ : ∃ i : Nat, (aid - 1).toNat = i := ⟨_, rfl⟩
  have hol : thereZ aid 0 = true → ∀ t, t ≤ 8 → (outN P (i * 8) t).length ≤ P.len := by
    intro ht t ht'
    have hz := thereZ_iff.1 ht
    have h2 := (wipeN_spec hP (i * 8) t (by omega)).2.2.1.length_eq
    rw [List.length_append] at h2
    rw [Po.len_all]; omega
  refine vc_muezzinref8_Pool_Drop _ _ _ _ ⟨fun out ol oc x h' => ∃ (t : Nat) (vs : List Value) (E L : Grp), x = t ∧ t ≤ 8 ∧ (thereZ aid 0 = false → t = 0) ∧ ol = (outN P (i * 8) t).length ∧ Ow out ol oc 5 vs E ∧ Sq (PkV W) (outN P (i * 8) t) vs ∧ PrV W b (wipeN P (i * 8) t) L ∧ Me W h' (E :: L :: R), fun _ _ _ x _ => (8 - x).toNat,
    ⟨0, [], [], L, rfl, by omega, fun _ => rfl, rfl, Ow.nil, rfl, hv, m.nilI⟩, fun _ => ?_⟩
  clear m hv
  rintro out _ oc _ h1 ⟨t, vs, E, L, rfl, ht8, htt, rfl, o, hs, hv, m⟩
  unfold Po.drop
  refine dcase_intro (fun q1 => ?_) fun q1 => ?_
  · refine (rThere_c aid (t : Int)).mono ?_
    rintro _ h2 ⟨rfl, rfl⟩
    by_cases ht : thereZ aid 0 = true
    case neg =>
      have ht' : thereZ aid 0 = false := by simpa using ht
      obtain rfl := htt ht'
      rw [if_neg ht]
      exact ⟨_, rfl, bcase_false ht' ⟨out, oc, vs, E, L, rfl, o, hs, hv, m⟩⟩
    have hz := thereZ_iff.1 ht
    rw [if_pos ht, hi]
    have htt : thereZ aid (t : Int) = true := thereZ_iff.2 ⟨by omega, by omega, by omega, by omega⟩
    obtain ⟨w1, w2, w3, w4⟩ := wipeN_spec hP (i * 8) t (by omega)
    have hk : i * 8 + t < 128 := by omega
    have hqe : (wipeN P (i * 8) t).qu (i * 8 + t) = P.qu (i * 8 + t) := by rw [w4, if_neg (by omega)]
    have hkq := (w1.qu hk).1
    rw [hqe] at hkq
    have hok := (hP.qu hk).2.ok
    replace m := m.focus 1 rfl
    simp only [List.eraseIdx_cons_zero, List.eraseIdx_cons_succ] at m
    (obtain ⟨bs, Ls, T, hq, rfl, mNew⟩ := hv.opn m; replace m := mNew; clear mNew)
    obtain ⟨bk, Lk, e1, e2, hvk, hc⟩ := hq.cellR hkq m (j := 1) rfl
    have ix2 : 5 + aid.toNat * 8 + (t : Int).toNat = 5 + (8 + (i * 8 + t)) := by omega
    rw [ix2]
    refine ⟨_, rfl, bcase_true htt ⟨⟨by omega, by omega⟩, ⟨by omega, by omega⟩, _, hc, (allr_c (m.pick _ e2) hvk hok).mono ?_⟩⟩
    rintro _ h3 ⟨a, c, vs2, E2, rfl, o2, hs2, m⟩
    have hnext : outN P (i * 8) (t + 1) = outN P (i * 8) t ++ allL (P.qu (i * 8 + t)).fl := rfl
    have hol2 := hol ht (t + 1) (by omega)
    rw [hnext, List.length_append] at hol2
    refine ⟨_, _, _, rfl, vs2, ⟨o2.src m 0 rfl, hs2.all fun _ _ => PkV.one⟩, ?_⟩
    refine o.app m 4 rfl o2.len (by omega) (by decide) fun a2 c2 E3 h10 m' o3 => ?_
    clear m
    simp only [List.set_cons_zero, List.set_cons_succ] at m'
    have hH : poH (wipeN P (i * 8) t) = poH P := by simp only [poH, w2.seed, w2.tg, w2.iv, w2.mp, w2.mb]
    have e0 : ∀ v (j : Nat), (poH P)[j]? = some v → (poH (wipeN P (i * 8) t) ++ prs bs)[j]? = some v := fun v j hj => by
      rw [hH, List.getElem?_append_left (List.getElem?_eq_some_iff.1 hj).1]; exact hj
    refine ⟨_, m'.cell 3 rfl (e0 _ 0 rfl), _, m'.cell 3 rfl (e0 _ 1 rfl), _, m'.cell 3 rfl (e0 _ 2 rfl), ⟨by omega, by omega⟩, (newr_c m' P.seed P.tg P.iv).mono ?_⟩
    rintro _ h5 ⟨b', L', rfl, hv', m⟩
    refine ⟨_, rfl, ⟨by omega, by omega⟩, ?_⟩
    have hbl : bs.length = 136 := by rw [hq.n1]; exact padR_len w1
    refine m.store 4 rfl (by rw [List.length_append, prs_len]; simp only [poH, List.length_cons, List.length_nil]; omega) fun h6 m => ?_
    rw [poH_set, prs_set] at m
    simp only [List.set_cons_zero, List.set_cons_succ] at m
    have hq2 := hq.set hv' (8 + (i * 8 + t))
    have hq3 : Qs QrV W (padR (wipeN P (i * 8) (t + 1))) (bs.set (8 + (i * 8 + t)) b') (Ls.set (8 + (i * 8 + t)) L') := by
      have e : padR (wipeN P (i * 8) (t + 1)) = (padR (wipeN P (i * 8) t)).set (8 + (i * 8 + t)) (qu0 P.seed P.tg P.iv) := by rw [padR_set]; rfl
      rw [e]; exact hq2
    have m2 : Me W h6 (L' :: (Ls.eraseIdx (8 + (i * 8 + t))).flatten :: [(b, poH (wipeN P (i * 8) (t + 1)) ++ prs (bs.set (8 + (i * 8 + t)) b'), T)] :: E3 :: R) := by
      have hH2 : poH (wipeN P (i * 8) (t + 1)) = poH (wipeN P (i * 8) t) := rfl
      rw [hH2]
      refine m.sub ⟨E2 ++ Lk, ?_⟩
      simp only [List.flatten_cons]
      exact permC fun c h0 hc => by simp only [hc, h0]; omega
    obtain ⟨L3, hv3, m3⟩ := PrV.shut hq3 (m2.unpick _ e2)
    refine ⟨by simp only [fits]; omega, ⟨t + 1, _, E3, L3, by omega, by omega, fun hc => (by rw [ht] at hc; cases hc), by rw [hnext, List.length_append], o3, by rw [hnext]; exact hs.app hs2, hv3, m3.focus 1 rfl⟩, by (try dsimp only); omega⟩
  · obtain rfl : t = 8 := by omega
    have ht : thereZ aid 0 = true := by
      cases hc : thereZ aid 0
      · have := htt hc; omega
      · rfl
    rw [if_pos ht, hi]
    exact ⟨out, oc, vs, E, L, rfl, o, hs, hv, m⟩
end
end Go.Proofs.YtpcilleldanfmaaDoor

/- The conditions for calls of functions of the program, in plain form: written by a program (vcgen) off the elaborated code; each is the reckoner's own, by the kernel. -/
set_option linter.unusedVariables false
set_option maxRecDepth 100000
namespace Go.Proofs.YtpcilleldanfmaaDoor
open Go.Vc
theorem vc_muezzinlaw14_PoolPlays (seed : Int) (packets : Int) (bytes : Int) (l : Option Addr) (lL lC : Nat) (h0 : Heap) (Post : Value → Heap → Prop) (H :
Runs Tryd.prog 7 #[] h0 fun r1 h1 =>
∃ t1 : Bool,
r1 = (.bool t1) ∧
bcase (!t1) (
Post (.bool false) h1) (
Runs Tryd.prog 9 #[(.int .u32 seed), (.int .i64 (50 : Int)), (.int .i64 (1000 : Int)), (.int .i64 packets), (.int .i64 bytes)] h1 fun r2 h2 =>
∃ p1 : Option Addr,
∃ v1 : Value,
r2 = (.tuple #[(.pointer p1), v1]) ∧
∃ J1 : Bool → Heap → Prop, (
bcase (decide (packets < (1 : Int))) (
J1 true h2) (
J1 (decide ((512 : Int) < packets)) h2)) ∧ ∀ _ : Env,
∀ (x1 : Bool) (h3 : Heap), J1 x1 h3 →
∃ J2 : Bool → Heap → Prop, (
bcase x1 (
J2 true h3) (
J2 (decide (bytes < (1 : Int))) h3)) ∧ ∀ _ : Env,
∀ (x2 : Bool) (h4 : Heap), J2 x2 h4 →
bcase x2 (
∃ J3 : Bool → Heap → Prop, (
bcase t1 (
J3 (isNilAddr p1) h4) (
J3 false h4)) ∧ ∀ _ : Env,
∀ (x3 : Bool) (h5 : Heap), J3 x3 h5 →
bcase x3 (
Runs Tryd.prog 17 #[v1, (.int .i64 (103 : Int))] h5 fun r3 h6 =>
∃ t2 : Bool,
r3 = (.bool t2) ∧
Post (.bool t2) h6) (
Post (.bool false) h5)) (
bcase (decide ((1048576 : Int) < bytes)) (
∃ J4 : Bool → Heap → Prop, (
bcase t1 (
J4 (isNilAddr p1) h4) (
J4 false h4)) ∧ ∀ _ : Env,
∀ (x4 : Bool) (h7 : Heap), J4 x4 h7 →
bcase x4 (
Runs Tryd.prog 17 #[v1, (.int .i64 (103 : Int))] h7 fun r4 h8 =>
∃ t3 : Bool,
r4 = (.bool t3) ∧
Post (.bool t3) h8) (
Post (.bool false) h7)) (
bcase (isNilAddr p1) (
Post (.bool false) h4) (
∃ t4 : Bool, ifeqH Tryd.prog h4 true (v1) (.nilIface) = some t4 ∧
bcase (!t4) (
Post (.bool false) h4) (
bcase (decide ((50 : Int) < ((lL : Nat) : Int))) (
Post (.bool t1) h4) (
Runs Tryd.prog 18 #[(.int .u32 seed), (.int .i64 (50 : Int)), (.int .i64 (1000 : Int)), (.int .i64 packets), (.int .i64 bytes)] h4 fun r5 h9 =>
∃ p2 : Option Addr,
r5 = (.pointer p2) ∧
∃ (I1 : Int → Int → Heap → Prop) (m1 : Int → Int → Heap → Nat), I1 (0 : Int) (0 : Int) h9 ∧ ∀ _ : Env,
∀ (now_1 : Int) (i_1 : Int) (h10 : Heap), I1 now_1 i_1 h10 →
bcase (decide (i_1 < ((lL : Nat) : Int))) (
(0 ≤ i_1 ∧ i_1 < ((lL : Nat) : Int)) ∧
onAddr l fun b1 o1 =>
∃ cs1 : List Value, row h10 b1 (o1 + ((i_1).toNat * 9)) 9 = some cs1 ∧
∀ (b2 : Nat) (h11 : Heap), b2 = h10.size → h11 = h10.push (.cells ([(.int .i64 (0 : Int)), (.int .i64 (0 : Int)), (.int .i64 (0 : Int)), (.int .i64 (0 : Int)), (.int .i64 (0 : Int)), (.int .u32 (0 : Int)), (.int .i64 (0 : Int)), (.int .i64 (0 : Int)), (.slice none 0 0)] : List Value).toArray 43) →
(((cs1)).length = 9 ∧ wrs h11 b2 0 9 ∧ ∀ u ∈ ((cs1) : List Value), u.oneCell' = true) ∧ ∀ h12 : Heap, h12 = setr h11 b2 0 (cs1) →
∃ (s1 : Option Addr) (s1l s1c : Nat), cell h12 b2 8 = some (.slice s1 s1l s1c) ∧
bcase (decide ((200 : Int) < ((s1l : Nat) : Int))) (
Post (.bool t1) h12) (
Runs Tryd.prog 19 #[(.pointer p1)] h12 fun r6 h13 =>
∃ p3 : Option Addr,
r6 = (.pointer p3) ∧
Runs Tryd.prog 13 #[(.pointer p3)] h13 fun r7 h14 =>
∃ n1 : Int,
r7 = (.int .i64 n1) ∧
∃ J5 : Int → Heap → Prop, (
∃ n2 : Int, cell h14 b2 0 = some (.int .i64 n2) ∧
bcase (decide (n2 = (1 : Int))) (
wr h14 b2 7 ∧ ∀ h15 : Heap, h15 = setc h14 b2 7 (.int .i64 now_1) →
∃ n3 : Int, cell h15 b2 1 = some (.int .i64 n3) ∧
∃ cs2 : List Value, row h15 b2 4 5 = some cs2 ∧
Runs Tryd.prog 10 #[(.pointer p1), (.int .i64 n3), (.agg (cs2).toArray)] h15 fun r8 h16 =>
∃ (s2 : Option Addr) (s2l s2c : Nat),
∃ v2 : Value,
r8 = (.tuple #[(.slice s2 s2l s2c), v2]) ∧
∃ n4 : Int, cell h16 b2 1 = some (.int .i64 n4) ∧
∃ cs3 : List Value, row h16 b2 4 5 = some cs3 ∧
Runs Tryd.prog 20 #[(.pointer p2), (.int .i64 n4), (.agg (cs3).toArray)] h16 fun r9 h17 =>
∃ (s3 : Option Addr) (s3l s3c : Nat),
∃ n5 : Int,
r9 = (.tuple #[(.slice s3 s3l s3c), (.int .i64 n5)]) ∧
Runs Tryd.prog 21 #[(.slice s2 s2l s2c), (.slice s3 s3l s3c)] h17 fun r10 h18 =>
∃ t5 : Bool,
r10 = (.bool t5) ∧
bcase (!t5) (
Post (.bool false) h18) (
Runs Tryd.prog 17 #[v2, (.int .i64 n5)] h18 fun r11 h19 =>
∃ t6 : Bool,
r11 = (.bool t6) ∧
bcase (!t6) (
Post (.bool false) h19) (
J5 now_1 h19))) (
bcase (decide (n2 = (2 : Int))) (
∃ n6 : Int, cell h14 b2 3 = some (.int .i64 n6) ∧
Runs Tryd.prog 8 #[(.int .i64 n6), (.int .i64 (4000 : Int))] h14 fun r12 h20 =>
∃ n7 : Int,
r12 = (.int .i64 n7) ∧
fits .i64 (now_1 + n7) ∧
∃ n8 : Int, cell h20 b2 1 = some (.int .i64 n8) ∧
∃ n9 : Int, cell h20 b2 2 = some (.int .i64 n9) ∧
Runs Tryd.prog 16 #[(.pointer p1), (.int .i64 n8), (.int .i64 n9), (.int .i64 (now_1 + n7))] h20 fun r13 h21 =>
∃ cs4 : List Value,
∃ (s4 : Option Addr) (s4l s4c : Nat),
∃ t7 : Bool,
r13 = (.tuple #[(.agg (cs4).toArray), (.slice s4 s4l s4c), (.bool t7)]) ∧
∀ (b3 : Nat) (h22 : Heap), b3 = h21.size → h22 = h21.push (.cells ([(.int .i64 (0 : Int)), (.int .u32 (0 : Int)), (.int .i64 (0 : Int)), (.int .i64 (0 : Int)), (.slice none 0 0)] : List Value).toArray 35) →
(((cs4)).length = 5 ∧ wrs h22 b3 0 5 ∧ ∀ u ∈ ((cs4) : List Value), u.oneCell' = true) ∧ ∀ h23 : Heap, h23 = setr h22 b3 0 (cs4) →
∃ n10 : Int, cell h23 b2 1 = some (.int .i64 n10) ∧
∃ n11 : Int, cell h23 b2 2 = some (.int .i64 n11) ∧
Runs Tryd.prog 22 #[(.pointer p2), (.int .i64 n10), (.int .i64 n11), (.int .i64 (now_1 + n7))] h23 fun r14 h24 =>
∃ cs5 : List Value,
∃ (s5 : Option Addr) (s5l s5c : Nat),
∃ t8 : Bool,
r14 = (.tuple #[(.agg (cs5).toArray), (.slice s5 s5l s5c), (.bool t8)]) ∧
∀ (b4 : Nat) (h25 : Heap), b4 = h24.size → h25 = h24.push (.cells ([(.int .i64 (0 : Int)), (.int .u32 (0 : Int)), (.int .i64 (0 : Int)), (.int .i64 (0 : Int)), (.slice none 0 0)] : List Value).toArray 35) →
(((cs5)).length = 5 ∧ wrs h25 b4 0 5 ∧ ∀ u ∈ ((cs5) : List Value), u.oneCell' = true) ∧ ∀ h26 : Heap, h26 = setr h25 b4 0 (cs5) →
∃ J6 : Bool → Heap → Prop, (
bcase (!(t7 == t8)) (
J6 true h26) (
∃ cs6 : List Value, row h26 b3 0 5 = some cs6 ∧
∃ cs7 : List Value, row h26 b4 0 5 = some cs7 ∧
Runs Tryd.prog 23 #[(.agg (cs6).toArray), (.agg (cs7).toArray)] h26 fun r15 h27 =>
∃ t9 : Bool,
r15 = (.bool t9) ∧
J6 (!t9) h27)) ∧ ∀ _ : Env,
∀ (x7 : Bool) (h28 : Heap), J6 x7 h28 →
bcase x7 (
Post (.bool false) h28) (
Runs Tryd.prog 21 #[(.slice s4 s4l s4c), (.slice s5 s5l s5c)] h28 fun r16 h29 =>
∃ t10 : Bool,
r16 = (.bool t10) ∧
bcase (!t10) (
Post (.bool false) h29) (
J5 (now_1 + n7) h29))) (
∃ n12 : Int, cell h14 b2 1 = some (.int .i64 n12) ∧
∃ n13 : Int, cell h14 b2 1 = some (.int .i64 n13) ∧
Runs Tryd.prog 15 #[(.pointer p1), (.int .i64 n12)] h14 fun r17 h30 =>
∃ (s6 : Option Addr) (s6l s6c : Nat),
r17 = (.slice s6 s6l s6c) ∧
cell h30 b2 1 = some (.int .i64 n13) ∧
Runs Tryd.prog 24 #[(.pointer p2), (.int .i64 n13)] h30 fun r18 h31 =>
∃ (s7 : Option Addr) (s7l s7c : Nat),
r18 = (.slice s7 s7l s7c) ∧
Runs Tryd.prog 21 #[(.slice s6 s6l s6c), (.slice s7 s7l s7c)] h31 fun r19 h32 =>
∃ t11 : Bool,
r19 = (.bool t11) ∧
bcase (!t11) (
Post (.bool false) h32) (
J5 now_1 h32)))) ∧ ∀ _ : Env,
∀ (now_2 : Int) (h33 : Heap), J5 now_2 h33 →
Runs Tryd.prog 13 #[(.pointer p1)] h33 fun r20 h34 =>
∃ n14 : Int,
r20 = (.int .i64 n14) ∧
Runs Tryd.prog 25 #[(.pointer p2)] h34 fun r21 h35 =>
∃ n15 : Int,
r21 = (.int .i64 n15) ∧
bcase (!decide (n14 = n15)) (
Post (.bool false) h35) (
Runs Tryd.prog 14 #[(.pointer p1)] h35 fun r22 h36 =>
∃ n16 : Int,
r22 = (.int .i64 n16) ∧
Runs Tryd.prog 26 #[(.pointer p2)] h36 fun r23 h37 =>
∃ n17 : Int,
r23 = (.int .i64 n17) ∧
bcase (!decide (n16 = n17)) (
Post (.bool false) h37) (
∃ n18 : Int, cell h37 b2 1 = some (.int .i64 n18) ∧
∃ n19 : Int, cell h37 b2 2 = some (.int .i64 n19) ∧
∃ n20 : Int, cell h37 b2 1 = some (.int .i64 n20) ∧
∃ n21 : Int, cell h37 b2 2 = some (.int .i64 n21) ∧
Runs Tryd.prog 12 #[(.pointer p1), (.int .i64 n18), (.int .i64 n19)] h37 fun r24 h38 =>
∃ t12 : Bool,
r24 = (.bool t12) ∧
cell h38 b2 2 = some (.int .i64 n21) ∧
cell h38 b2 1 = some (.int .i64 n20) ∧
Runs Tryd.prog 27 #[(.pointer p2), (.int .i64 n20), (.int .i64 n21)] h38 fun r25 h39 =>
∃ t13 : Bool,
r25 = (.bool t13) ∧
bcase (!(t12 == t13)) (
Post (.bool false) h39) (
Runs Tryd.prog 13 #[(.pointer p3)] h39 fun r26 h40 =>
∃ n22 : Int,
r26 = (.int .i64 n22) ∧
bcase (!decide (n22 = n1)) (
Post (.bool false) h40) (
fits .i64 (i_1 + (1 : Int)) ∧
I1 now_2 (i_1 + (1 : Int)) h40 ∧ m1 now_2 (i_1 + (1 : Int)) h40 < m1 now_1 i_1 h10)))))) (
Post (.bool t1) h10)))))))) :
    Runs Tryd.prog 6 #[(.int .u32 seed), (.int .i64 packets), (.int .i64 bytes), (.slice l lL lC)] h0 Post :=
  runs_of (args := [(.int .u32 seed), (.int .i64 packets), (.int .i64 bytes), (.slice l lL lC)]) (fun n => ⟨true, false⟩) (fun n => match n with | 0 => [(13, .int .i64), (14, .int .i64)] | _ => []) (fun n => match n with | 36 => some [(13, .int .i64)] | _ => none) (fun n => match n with | 5 => [(6, [(43, .bool)]), (4, [(47, .bool)])] | 6 => [(5, [(56, .bool)])] | 34 => [(9, [(177, .bool)])] | _ => []) Tryd.func6 rfl (by rw [Tryd.ntmps6]; simp) (Eq.mp (by kernel_rfl) H)

theorem vc_muezzinlaw14_PoolApart (l : Option Addr) (lL lC : Nat) (out : Int) (h0 : Heap) (Post : Value → Heap → Prop) (H :
Runs Tryd.prog 7 #[] h0 fun r1 h1 =>
∃ t1 : Bool,
r1 = (.bool t1) ∧
bcase (!t1) (
Post (.bool false) h1) (
bcase (decide ((30 : Int) < ((lL : Nat) : Int))) (
Post (.bool t1) h1) (
Runs Tryd.prog 9 #[(.int .u32 (5 : Int)), (.int .i64 (1073741824 : Int)), (.int .i64 (1073741824 : Int)), (.int .i64 (512 : Int)), (.int .i64 (1048576 : Int))] h1 fun r2 h2 =>
∃ p1 : Option Addr,
∃ v1 : Value,
r2 = (.tuple #[(.pointer p1), v1]) ∧
bcase (isNilAddr p1) (
Post (.bool false) h2) (
∃ t2 : Bool, ifeqH Tryd.prog h2 true (v1) (.nilIface) = some t2 ∧
bcase (!t2) (
Post (.bool false) h2) (
∀ (b1 : Nat) (h3 : Heap), b1 = h2.size → h3 = h2.push (.cells ([(.int .i64 (0 : Int)), (.int .i64 (0 : Int)), (.int .i64 (0 : Int)), (.int .i64 (0 : Int)), (.int .i64 (0 : Int)), (.int .i64 (0 : Int)), (.int .i64 (0 : Int)), (.int .i64 (0 : Int)), (.int .i64 (0 : Int)), (.int .i64 (0 : Int)), (.int .i64 (0 : Int)), (.int .i64 (0 : Int)), (.int .i64 (0 : Int)), (.int .i64 (0 : Int)), (.int .i64 (0 : Int)), (.int .i64 (0 : Int)), (.int .i64 (0 : Int)), (.int .i64 (0 : Int)), (.int .i64 (0 : Int)), (.int .i64 (0 : Int)), (.int .i64 (0 : Int)), (.int .i64 (0 : Int)), (.int .i64 (0 : Int)), (.int .i64 (0 : Int)), (.int .i64 (0 : Int)), (.int .i64 (0 : Int)), (.int .i64 (0 : Int)), (.int .i64 (0 : Int)), (.int .i64 (0 : Int)), (.int .i64 (0 : Int)), (.int .i64 (0 : Int)), (.int .i64 (0 : Int)), (.int .i64 (0 : Int)), (.int .i64 (0 : Int)), (.int .i64 (0 : Int)), (.int .i64 (0 : Int)), (.int .i64 (0 : Int)), (.int .i64 (0 : Int)), (.int .i64 (0 : Int)), (.int .i64 (0 : Int)), (.int .i64 (0 : Int)), (.int .i64 (0 : Int)), (.int .i64 (0 : Int)), (.int .i64 (0 : Int)), (.int .i64 (0 : Int)), (.int .i64 (0 : Int)), (.int .i64 (0 : Int)), (.int .i64 (0 : Int)), (.int .i64 (0 : Int)), (.int .i64 (0 : Int)), (.int .i64 (0 : Int)), (.int .i64 (0 : Int)), (.int .i64 (0 : Int)), (.int .i64 (0 : Int)), (.int .i64 (0 : Int)), (.int .i64 (0 : Int)), (.int .i64 (0 : Int)), (.int .i64 (0 : Int)), (.int .i64 (0 : Int)), (.int .i64 (0 : Int)), (.int .i64 (0 : Int)), (.int .i64 (0 : Int)), (.int .i64 (0 : Int)), (.int .i64 (0 : Int)), (.int .i64 (0 : Int)), (.int .i64 (0 : Int)), (.int .i64 (0 : Int)), (.int .i64 (0 : Int)), (.int .i64 (0 : Int)), (.int .i64 (0 : Int)), (.int .i64 (0 : Int)), (.int .i64 (0 : Int)), (.int .i64 (0 : Int)), (.int .i64 (0 : Int)), (.int .i64 (0 : Int)), (.int .i64 (0 : Int)), (.int .i64 (0 : Int)), (.int .i64 (0 : Int)), (.int .i64 (0 : Int)), (.int .i64 (0 : Int)), (.int .i64 (0 : Int)), (.int .i64 (0 : Int)), (.int .i64 (0 : Int)), (.int .i64 (0 : Int)), (.int .i64 (0 : Int)), (.int .i64 (0 : Int)), (.int .i64 (0 : Int)), (.int .i64 (0 : Int)), (.int .i64 (0 : Int)), (.int .i64 (0 : Int)), (.int .i64 (0 : Int)), (.int .i64 (0 : Int)), (.int .i64 (0 : Int)), (.int .i64 (0 : Int)), (.int .i64 (0 : Int)), (.int .i64 (0 : Int)), (.int .i64 (0 : Int)), (.int .i64 (0 : Int)), (.int .i64 (0 : Int)), (.int .i64 (0 : Int)), (.int .i64 (0 : Int)), (.int .i64 (0 : Int)), (.int .i64 (0 : Int)), (.int .i64 (0 : Int)), (.int .i64 (0 : Int)), (.int .i64 (0 : Int)), (.int .i64 (0 : Int)), (.int .i64 (0 : Int)), (.int .i64 (0 : Int)), (.int .i64 (0 : Int)), (.int .i64 (0 : Int)), (.int .i64 (0 : Int)), (.int .i64 (0 : Int)), (.int .i64 (0 : Int)), (.int .i64 (0 : Int)), (.int .i64 (0 : Int)), (.int .i64 (0 : Int)), (.int .i64 (0 : Int)), (.int .i64 (0 : Int)), (.int .i64 (0 : Int)), (.int .i64 (0 : Int)), (.int .i64 (0 : Int)), (.int .i64 (0 : Int)), (.int .i64 (0 : Int)), (.int .i64 (0 : Int)), (.int .i64 (0 : Int)), (.int .i64 (0 : Int)), (.int .i64 (0 : Int)), (.int .i64 (0 : Int)), (.int .i64 (0 : Int)), (.int .i64 (0 : Int)), (.int .i64 (0 : Int)), (.int .i64 (0 : Int)), (.int .i64 (0 : Int)), (.int .i64 (0 : Int)), (.int .i64 (0 : Int))] : List Value).toArray 47) →
∃ (I1 : Int → Heap → Prop) (m1 : Int → Heap → Nat), I1 (0 : Int) h3 ∧ ∀ _ : Env,
∀ (i_1 : Int) (h4 : Heap), I1 i_1 h4 →
bcase (decide (i_1 < ((lL : Nat) : Int))) (
(0 ≤ i_1 ∧ i_1 < ((lL : Nat) : Int)) ∧
onAddr l fun b2 o1 =>
∃ n1 : Int, cell h4 b2 ((o1 + ((i_1).toNat * 9)) + 1) = some (.int .i64 n1) ∧
Runs Tryd.prog 8 #[(.int .i64 n1), (.int .i64 (16 : Int))] h4 fun r3 h5 =>
∃ n2 : Int,
r3 = (.int .i64 n2) ∧
fits .i64 (n2 + (1 : Int)) ∧
(0 ≤ i_1 ∧ i_1 < ((lL : Nat) : Int)) ∧
onAddr l fun b3 o2 =>
∃ n3 : Int, cell h5 b3 ((o2 + ((i_1).toNat * 9)) + 2) = some (.int .i64 n3) ∧
Runs Tryd.prog 8 #[(.int .i64 n3), (.int .i64 (8 : Int))] h5 fun r4 h6 =>
∃ n4 : Int,
r4 = (.int .i64 n4) ∧
(0 ≤ i_1 ∧ i_1 < ((lL : Nat) : Int)) ∧
onAddr l fun b4 o3 =>
∃ (s1 : Option Addr) (s1l s1c : Nat), cell h6 b4 (((o3 + ((i_1).toNat * 9)) + 4) + 4) = some (.slice s1 s1l s1c) ∧
bcase (decide ((100 : Int) < ((s1l : Nat) : Int))) (
Post (.bool t1) h6) (
fits .i64 ((100 : Int) * (n2 + (1 : Int))) ∧
fits .i64 (((100 : Int) * (n2 + (1 : Int))) + n4) ∧
(0 ≤ i_1 ∧ i_1 < ((lL : Nat) : Int)) ∧
onAddr l fun b5 o4 =>
∃ n5 : Int, cell h6 b5 (((o4 + ((i_1).toNat * 9)) + 4) + 1) = some (.int .u32 n5) ∧
(0 ≤ i_1 ∧ i_1 < ((lL : Nat) : Int)) ∧
onAddr l fun b6 o5 =>
∃ (s2 : Option Addr) (s2l s2c : Nat), cell h6 b6 (((o5 + ((i_1).toNat * 9)) + 4) + 4) = some (.slice s2 s2l s2c) ∧
Runs Tryd.prog 10 #[(.pointer p1), (.int .i64 (n2 + (1 : Int))), (.agg #[(.int .i64 (((100 : Int) * (n2 + (1 : Int))) + n4)), (.int .u32 n5), (.int .i64 n4), (.int .i64 (0 : Int)), (.slice s2 s2l s2c)])] h6 fun r5 h7 =>
∃ (s3 : Option Addr) (s3l s3c : Nat),
∃ v2 : Value,
r5 = (.tuple #[(.slice s3 s3l s3c), v2]) ∧
cell h7 b6 (((o5 + ((i_1).toNat * 9)) + 4) + 4) = some (.slice s2 s2l s2c) ∧
cell h7 b5 (((o4 + ((i_1).toNat * 9)) + 4) + 1) = some (.int .u32 n5) ∧
∃ t3 : Bool, ifeqH Tryd.prog h7 true (v2) (.nilIface) = some t3 ∧
bcase (!t3) (
Post (.bool false) h7) (
bcase (!decide (((s3l : Nat) : Int) = (0 : Int))) (
Post (.bool false) h7) (
(0 ≤ (n2 + (1 : Int)) ∧ (n2 + (1 : Int)) < ((17 : Nat) : Int)) ∧
(0 ≤ n4 ∧ n4 < ((8 : Nat) : Int)) ∧
∃ n6 : Int, cell h7 b1 ((0 + (((n2 + (1 : Int))).toNat * 8)) + (n4).toNat) = some (.int .i64 n6) ∧
fits .i64 (n6 + (1 : Int)) ∧
(0 ≤ (n2 + (1 : Int)) ∧ (n2 + (1 : Int)) < ((17 : Nat) : Int)) ∧
(0 ≤ n4 ∧ n4 < ((8 : Nat) : Int)) ∧
wr h7 b1 ((0 + (((n2 + (1 : Int))).toNat * 8)) + (n4).toNat) ∧ ∀ h8 : Heap, h8 = setc h7 b1 ((0 + (((n2 + (1 : Int))).toNat * 8)) + (n4).toNat) (.int .i64 (n6 + (1 : Int))) →
fits .i64 (i_1 + (1 : Int)) ∧
I1 (i_1 + (1 : Int)) h8 ∧ m1 (i_1 + (1 : Int)) h8 < m1 i_1 h4)))) (
Runs Tryd.prog 8 #[(.int .i64 out), (.int .i64 (16 : Int))] h4 fun r6 h9 =>
∃ n7 : Int,
r6 = (.int .i64 n7) ∧
fits .i64 (n7 + (1 : Int)) ∧
Runs Tryd.prog 15 #[(.pointer p1), (.int .i64 (n7 + (1 : Int)))] h9 fun r7 h10 =>
∃ (s4 : Option Addr) (s4l s4c : Nat),
r7 = (.slice s4 s4l s4c) ∧
∃ (I2 : Int → Int → Heap → Prop) (m2 : Int → Int → Heap → Nat), I2 (0 : Int) (0 : Int) h10 ∧ ∀ _ : Env,
∀ (n_1 : Int) (t_1 : Int) (h11 : Heap), I2 n_1 t_1 h11 →
bcase (decide (t_1 < (8 : Int))) (
(0 ≤ (n7 + (1 : Int)) ∧ (n7 + (1 : Int)) < ((17 : Nat) : Int)) ∧
(0 ≤ t_1 ∧ t_1 < ((8 : Nat) : Int)) ∧
∃ n8 : Int, cell h11 b1 ((0 + (((n7 + (1 : Int))).toNat * 8)) + (t_1).toNat) = some (.int .i64 n8) ∧
fits .i64 (n_1 + n8) ∧
(0 ≤ (n7 + (1 : Int)) ∧ (n7 + (1 : Int)) < ((17 : Nat) : Int)) ∧
(0 ≤ t_1 ∧ t_1 < ((8 : Nat) : Int)) ∧
wr h11 b1 ((0 + (((n7 + (1 : Int))).toNat * 8)) + (t_1).toNat) ∧ ∀ h12 : Heap, h12 = setc h11 b1 ((0 + (((n7 + (1 : Int))).toNat * 8)) + (t_1).toNat) (.int .i64 (0 : Int)) →
fits .i64 (t_1 + (1 : Int)) ∧
I2 (n_1 + n8) (t_1 + (1 : Int)) h12 ∧ m2 (n_1 + n8) (t_1 + (1 : Int)) h12 < m2 n_1 t_1 h11) (
bcase (!decide (((s4l : Nat) : Int) = n_1)) (
Post (.bool false) h11) (
∃ (I3 : Int → Heap → Prop) (m3 : Int → Heap → Nat), I3 (1 : Int) h11 ∧ ∀ _ : Env,
∀ (a_1 : Int) (h13 : Heap), I3 a_1 h13 →
bcase (decide (a_1 ≤ (16 : Int))) (
∃ (I4 : Int → Heap → Prop) (m4 : Int → Heap → Nat), I4 (0 : Int) h13 ∧ ∀ _ : Env,
∀ (t_2 : Int) (h14 : Heap), I4 t_2 h14 →
bcase (decide (t_2 < (8 : Int))) (
∃ (I5 : Heap → Prop) (m5 : Heap → Nat), I5 h14 ∧ ∀ _ : Env,
∀ (h15 : Heap), I5 h15 →
(0 ≤ a_1 ∧ a_1 < ((17 : Nat) : Int)) ∧
(0 ≤ t_2 ∧ t_2 < ((8 : Nat) : Int)) ∧
∃ n9 : Int, cell h15 b1 ((0 + ((a_1).toNat * 8)) + (t_2).toNat) = some (.int .i64 n9) ∧
bcase (decide ((0 : Int) < n9)) (
Runs Tryd.prog 16 #[(.pointer p1), (.int .i64 a_1), (.int .i64 t_2), (.int .i64 (0 : Int))] h15 fun r8 h16 =>
∃ cs1 : List Value,
∃ (s5 : Option Addr) (s5l s5c : Nat),
∃ t4 : Bool,
r8 = (.tuple #[(.agg (cs1).toArray), (.slice s5 s5l s5c), (.bool t4)]) ∧
∀ (b7 : Nat) (h17 : Heap), b7 = h16.size → h17 = h16.push (.cells ([(.int .i64 (0 : Int)), (.int .u32 (0 : Int)), (.int .i64 (0 : Int)), (.int .i64 (0 : Int)), (.slice none 0 0)] : List Value).toArray 35) →
(((cs1)).length = 5 ∧ wrs h17 b7 0 5 ∧ ∀ u ∈ ((cs1) : List Value), u.oneCell' = true) ∧ ∀ h18 : Heap, h18 = setr h17 b7 0 (cs1) →
bcase (!t4) (
Post (.bool false) h18) (
∃ n10 : Int, cell h18 b7 0 = some (.int .i64 n10) ∧
fits .i64 ((100 : Int) * a_1) ∧
fits .i64 (((100 : Int) * a_1) + t_2) ∧
bcase (!decide (n10 = (((100 : Int) * a_1) + t_2))) (
Post (.bool false) h18) (
(0 ≤ a_1 ∧ a_1 < ((17 : Nat) : Int)) ∧
(0 ≤ t_2 ∧ t_2 < ((8 : Nat) : Int)) ∧
∃ n11 : Int, cell h18 b1 ((0 + ((a_1).toNat * 8)) + (t_2).toNat) = some (.int .i64 n11) ∧
fits .i64 (n11 - (1 : Int)) ∧
(0 ≤ a_1 ∧ a_1 < ((17 : Nat) : Int)) ∧
(0 ≤ t_2 ∧ t_2 < ((8 : Nat) : Int)) ∧
wr h18 b1 ((0 + ((a_1).toNat * 8)) + (t_2).toNat) ∧ ∀ h19 : Heap, h19 = setc h18 b1 ((0 + ((a_1).toNat * 8)) + (t_2).toNat) (.int .i64 (n11 - (1 : Int))) →
I5 h19 ∧ m5 h19 < m5 h15))) (
Runs Tryd.prog 16 #[(.pointer p1), (.int .i64 a_1), (.int .i64 t_2), (.int .i64 (0 : Int))] h15 fun r9 h20 =>
∃ cs2 : List Value,
∃ (s6 : Option Addr) (s6l s6c : Nat),
∃ t5 : Bool,
r9 = (.tuple #[(.agg (cs2).toArray), (.slice s6 s6l s6c), (.bool t5)]) ∧
∀ (b8 : Nat) (h21 : Heap), b8 = h20.size → h21 = h20.push (.cells ([(.int .i64 (0 : Int)), (.int .u32 (0 : Int)), (.int .i64 (0 : Int)), (.int .i64 (0 : Int)), (.slice none 0 0)] : List Value).toArray 35) →
(((cs2)).length = 5 ∧ wrs h21 b8 0 5 ∧ ∀ u ∈ ((cs2) : List Value), u.oneCell' = true) ∧ ∀ h22 : Heap, h22 = setr h21 b8 0 (cs2) →
bcase t5 (
Post (.bool false) h22) (
Runs Tryd.prog 12 #[(.pointer p1), (.int .i64 a_1), (.int .i64 t_2)] h22 fun r10 h23 =>
∃ t6 : Bool,
r10 = (.bool t6) ∧
bcase t6 (
Post (.bool false) h23) (
fits .i64 (t_2 + (1 : Int)) ∧
I4 (t_2 + (1 : Int)) h23 ∧ m4 (t_2 + (1 : Int)) h23 < m4 t_2 h14)))) (
fits .i64 (a_1 + (1 : Int)) ∧
I3 (a_1 + (1 : Int)) h14 ∧ m3 (a_1 + (1 : Int)) h14 < m3 a_1 h13)) (
Runs Tryd.prog 10 #[(.pointer p1), (.int .i64 (0 : Int)), (.agg #[(.int .i64 (0 : Int)), (.int .u32 (0 : Int)), (.int .i64 (0 : Int)), (.int .i64 (0 : Int)), (.slice none 0 0)])] h13 fun r11 h24 =>
∃ (s7 : Option Addr) (s7l s7c : Nat),
∃ v3 : Value,
r11 = (.tuple #[(.slice s7 s7l s7c), v3]) ∧
Runs Tryd.prog 10 #[(.pointer p1), (.int .i64 (17 : Int)), (.agg #[(.int .i64 (0 : Int)), (.int .u32 (0 : Int)), (.int .i64 (0 : Int)), (.int .i64 (0 : Int)), (.slice none 0 0)])] h24 fun r12 h25 =>
∃ (s8 : Option Addr) (s8l s8c : Nat),
∃ v4 : Value,
r12 = (.tuple #[(.slice s8 s8l s8c), v4]) ∧
Runs Tryd.prog 10 #[(.pointer p1), (.int .i64 (1 : Int)), (.agg #[(.int .i64 (0 : Int)), (.int .u32 (0 : Int)), (.int .i64 (8 : Int)), (.int .i64 (0 : Int)), (.slice none 0 0)])] h25 fun r13 h26 =>
∃ (s9 : Option Addr) (s9l s9c : Nat),
∃ v5 : Value,
r13 = (.tuple #[(.slice s9 s9l s9c), v5]) ∧
∃ J1 : Bool → Heap → Prop, (
bcase t1 (
Runs Tryd.prog 13 #[(.pointer p1)] h26 fun r14 h27 =>
∃ n12 : Int,
r14 = (.int .i64 n12) ∧
J1 (decide (n12 = (0 : Int))) h27) (
J1 false h26)) ∧ ∀ _ : Env,
∀ (x6 : Bool) (h28 : Heap), J1 x6 h28 →
∃ J2 : Bool → Heap → Prop, (
bcase x6 (
Runs Tryd.prog 17 #[v3, (.int .i64 (103 : Int))] h28 fun r15 h29 =>
∃ t7 : Bool,
r15 = (.bool t7) ∧
J2 t7 h29) (
J2 false h28)) ∧ ∀ _ : Env,
∀ (x7 : Bool) (h30 : Heap), J2 x7 h30 →
∃ J3 : Bool → Heap → Prop, (
bcase x7 (
Runs Tryd.prog 17 #[v4, (.int .i64 (103 : Int))] h30 fun r16 h31 =>
∃ t8 : Bool,
r16 = (.bool t8) ∧
J3 t8 h31) (
J3 false h30)) ∧ ∀ _ : Env,
∀ (x8 : Bool) (h32 : Heap), J3 x8 h32 →
bcase x8 (
Runs Tryd.prog 17 #[v5, (.int .i64 (103 : Int))] h32 fun r17 h33 =>
∃ t9 : Bool,
r17 = (.bool t9) ∧
Post (.bool t9) h33) (
Post (.bool false) h32)))))))))) :
    Runs Tryd.prog 5 #[(.slice l lL lC), (.int .i64 out)] h0 Post :=
  runs_of (args := [(.slice l lL lC), (.int .i64 out)]) (fun n => ⟨true, false⟩) (fun n => match n with | 0 => [(9, .int .i64)] | 2 => [(15, .int .i64), (16, .int .i64)] | 4 => [(17, .int .i64)] | 6 => [(18, .int .i64)] | 8 => [] | _ => []) (fun _ => none) (fun n => match n with | 48 => [(6, [(219, .bool)]), (4, [(223, .bool)]), (4, [(227, .bool)])] | _ => []) Tryd.func5 rfl (by rw [Tryd.ntmps5]; simp) (Eq.mp (by kernel_rfl) H)
end Go.Proofs.YtpcilleldanfmaaDoor

/- The walk of PoolPlays: the program's pool and the document's one are one model; errors are the document's numbers. -/
set_option linter.unusedVariables false
set_option linter.unusedSimpArgs false
set_option maxRecDepth 8000
namespace Go.Proofs.YtpcilleldanfmaaDoor
open Go.Vc
section
variable {P : Po} {p : Pk} {aid tid now : Int} {ads : List Addr} {W : Wd}
theorem putZ_spec (hP : PoOk P) (h0 : 0 ≤ p.at_) (h1 : p.at_ ≤ 1125899906842624) (hl : p.body.length ≤ 1048576) (hm : (P.len : Int) ≤ P.mp) :
    PoOk (P.putZ aid p).1 ∧ Alike P (P.putZ aid p).1 ∧ ((P.putZ aid p).1.len : Int) ≤ (P.putZ aid p).1.mp ∧ (P.putZ aid p).2.length ≤ 600 ∧ ∀ x ∈ (P.putZ aid p).2, x.body.length ≤ 1099511627776 := by
  have hp1 := hP.p1
  unfold Po.putZ
  by_cases ht : thereZ aid p.tid = true
  · rw [if_pos ht]
    obtain ⟨a1, a2, a3, a4, a5⟩ := put_spec hP (pix_lt ht) (p := p) h0 h1 hl (by omega)
    have hlen := a3.length_eq
    rw [List.length_append, List.length_cons, ← Po.len_all, ← Po.len_all] at hlen
    refine ⟨a1, a2, by rw [a2.mp]; exact a4, by omega, fun x hx => ?_⟩
    rcases List.mem_cons.1 (a3.mem_iff.1 (List.mem_append_left _ hx)) with rfl | h
    · omega
    · have := hP.all_len x h; omega
  · rw [if_neg ht]
    exact ⟨hP, Alike.refl _, hm, by simp, fun x hx => by cases hx⟩
theorem takeZ_spec (hP : PoOk P) (n0 : 0 ≤ now) (n1 : now ≤ 1125899906842624) (hm : (P.len : Int) ≤ P.mp) :
    PoOk (P.takeZ aid tid now).1 ∧ Alike P (P.takeZ aid tid now).1 ∧ ((P.takeZ aid tid now).1.len : Int) ≤ (P.takeZ aid tid now).1.mp ∧ (P.takeZ aid tid now).2.1.length ≤ 600 ∧ (∀ x ∈ (P.takeZ aid tid now).2.1, x.body.length ≤ 1099511627776) ∧ ((P.takeZ aid tid now).2.2.getD pk0).body.length ≤ 1099511627776 := by
  have hp1 := hP.p1
  unfold Po.takeZ
  by_cases ht : thereZ aid tid = true
  · rw [if_pos ht]
    have hk := pix_lt ht
    obtain ⟨a1, a2, a3⟩ := take_spec hP hk n0 n1
    obtain ⟨e, w⟩ := hP.qu hk
    have hl := take_law n0 n1 w
    have hc := hl.cnt w.ok
    have hcn := hP.cnt hk
    have hs := (hl.sub w.ok).2
    rw [List.length_append] at hc
    refine ⟨a1, a2, by rw [a2.mp]; omega, ?_, fun x hx => ?_, ?_⟩
    · show ((P.qu (pix aid tid)).take now).2.1.length ≤ 600
      omega
    · have := w.ok.all_len x (hs x (List.mem_append_left _ hx)); omega
    · show (((P.qu (pix aid tid)).take now).2.2.getD pk0).body.length ≤ _
      cases hx : ((P.qu (pix aid tid)).take now).2.2 with
      | none => simp [pk0]
      | some y =>
        have := w.ok.all_len y (hs y (List.mem_append_right _ (by rw [hx]; simp)))
        simp; omega
  · rw [if_neg ht]
    exact ⟨hP, Alike.refl _, hm, by simp, fun x hx => (by cases hx), by simp [pk0]⟩
theorem dropZ_spec (hP : PoOk P) (hm : (P.len : Int) ≤ P.mp) :
    PoOk (P.drop aid).1 ∧ ((P.drop aid).1.len : Int) ≤ (P.drop aid).1.mp ∧ (P.drop aid).2.length ≤ 600 ∧ ∀ x ∈ (P.drop aid).2, x.body.length ≤ 1099511627776 := by
  have hp1 := hP.p1
  obtain ⟨a1, a2, a3⟩ := drop_spec hP aid
  have hlen := a3.length_eq
  rw [List.length_append, ← Po.len_all, ← Po.len_all] at hlen
  refine ⟨a1, by rw [a2.mp]; omega, by omega, fun x hx => ?_⟩
  have := hP.all_len x (a3.mem_iff.1 (List.mem_append_left _ hx)); omega
theorem Snt.range (s : Snt W ads) : wcell W 0 0 = some (erV ads (some 2)) := by
  obtain ⟨a, h1, h2⟩ := s.get (i := 2) (by decide)
  rw [h2]; exact s.v 2 a _ h1 rfl
theorem Snt.rangeP (s : Snt W ads) : ∃ a, wcell W 0 0 = some (ptE a) := by
  obtain ⟨a, h1, h2⟩ := s.get (i := 2) (by decide)
  exact ⟨a, s.v 2 a _ h1 rfl⟩
theorem lt14 : ∀ i, (some 2 : Er) = some i → i < 14 := fun i h => by cases h; decide
set_option maxHeartbeats 4000000
theorem poolPlays_r {h : Heap} {l : List Dp} {la : Option Addr} {cap : Nat} {vs : List Value} (s : Snt (Wd.of h) ads) (seed packets bytes : Int) (hs : src h la (l.length * 9) vs) (hq : Sq (DpV (Wd.of h)) l vs) :
    Runs Tryd.prog 6 #[.int .u32 seed, .int .i64 packets, .int .i64 bytes, .slice la l.length cap] h fun v h' => v = .bool true ∧ Kept h h' := by
  obtain ⟨a, hg⟩ := s.rangeP
  refine vc_muezzinlaw14_PoolPlays _ _ _ _ _ _ _ _ ((first14_c (Me.start h) hg).mono ?_)
  rintro _ h1 ⟨rfl, W1, hle, m⟩
  clear hg a
  refine ⟨_, rfl, bcase_false rfl ((poNew_c m (s.le hle).range seed 50 1000 packets bytes).mono ?_)⟩
  rintro _ h2 ⟨hbad, hok⟩
  clear m
  by_cases ok : 1 ≤ packets ∧ packets ≤ 512 ∧ 1 ≤ bytes ∧ bytes ≤ 1048576
  case neg =>
    obtain ⟨rfl, m⟩ := hbad ok
    have fin : ∀ h', h' = h2 → Runs Tryd.prog 17 #[erV ads (some 2), .int .i64 103] h' fun r3 h6 => ∃ t2 : Bool, r3 = .bool t2 ∧ (Value.bool t2 = .bool true ∧ Kept h h6) := by
      rintro _ rfl
      refine (is_c (s.le hle) m lt14 103).mono ?_
      rintro _ h3 ⟨rfl, m⟩
      exact ⟨_, rfl, rfl, m.kept hle⟩
    refine ⟨_, _, rfl, fun x h' => x = decide (packets < 1 ∨ 512 < packets) ∧ h' = h2, dcase_intro (fun q => ⟨by simp [q], rfl⟩) (fun q => ⟨by simp [q], rfl⟩), fun _ => ?_⟩
    rintro _ h3 ⟨rfl, e3⟩
    refine ⟨fun x h' => x = decide (packets < 1 ∨ 512 < packets ∨ bytes < 1) ∧ h' = h2, dcase_intro (fun q => ⟨by rcases q with q | q <;> simp [q], e3⟩) (fun q => ⟨by simp only [not_or] at q; simp [q.1, q.2], e3⟩), fun _ => ?_⟩
    rintro _ h4 ⟨rfl, e4⟩
    refine dcase_intro (fun _ => ?_) fun q => dcase_intro (fun _ => ?_) fun q2 => absurd ⟨by omega, by omega, by omega, by omega⟩ ok
    · refine ⟨fun x h' => x = true ∧ h' = h2, bcase_true rfl ⟨rfl, e4⟩, fun _ => ?_⟩
      rintro _ h5 ⟨rfl, e5⟩
      exact bcase_true rfl (fin h5 e5)
    · refine ⟨fun x h' => x = true ∧ h' = h2, bcase_true rfl ⟨rfl, e4⟩, fun _ => ?_⟩
      rintro _ h5 ⟨rfl, e5⟩
      exact bcase_true rfl (fin h5 e5)
  obtain ⟨b, L, rfl, hv, m⟩ := hok ok
  obtain ⟨o1, o2, o3, o4⟩ := ok
  clear hbad hok
  refine ⟨_, _, rfl, fun x h' => x = false ∧ h' = h2, dcase_neg (by omega) ⟨by simp; omega, rfl⟩, fun _ => ?_⟩
  rintro _ h2 ⟨rfl, rfl⟩
  refine ⟨fun x h' => x = false ∧ h' = h2, bcase_false rfl ⟨by simp; omega, rfl⟩, fun _ => ?_⟩
  rintro _ h2 ⟨rfl, rfl⟩
  refine bcase_false rfl (dcase_neg (by omega) (bcase_false rfl ⟨true, rfl, bcase_false rfl (dcase_intro (fun _ => ⟨rfl, m.kept hle⟩) fun hl50 => ?_)⟩))
  have hP0 : PoOk (po0 seed 50 1000 packets bytes) := pok0 _ _ _ o1 o2 o3 o4
  have l0 := len0 seed 50 1000 packets bytes
  have m0 : (po0 seed 50 1000 packets bytes).mp = packets := rfl
  refine (prNew_c m seed 50 1000 packets bytes).mono ?_
  rintro _ h9 ⟨br, Lr, rfl, hvr, m⟩
  generalize po0 seed 50 1000 packets bytes = P0 at *
  refine ⟨_, rfl, fun now x h' => ∃ (j : Nat) (W2 : Wd) (L Lr : Grp) (P : Po), x = j ∧ j ≤ l.length ∧ 0 ≤ now ∧ now ≤ 4000 * (j : Int) ∧ (Wd.of h).le W2 ∧ Me W2 h' (L :: Lr :: []) ∧ PoV W2 b P L ∧ PrV W2 br P Lr ∧ PoOk P ∧ (P.len : Int) ≤ P.mp, fun _ x _ => ((l.length : Int) - x).toNat,
    ⟨0, W1, L, Lr, P0, rfl, by omega, by omega, by omega, hle, m.focus 1 rfl, hv, hvr, hP0, by omega⟩, fun _ => ?_⟩
  clear m hv hvr hP0 l0 m0
  rintro now _ h10 ⟨j, W2, L, Lr, P, rfl, hj, n0, n1, hle, m, hv, hvr, hP, hlm⟩
  have kk := m.kept hle
  refine dcase_intro (fun q1 => ?_) fun q1 => ⟨rfl, kk⟩
  obtain ⟨x, hx⟩ : ∃ x, l[j]? = some x := ⟨_, List.getElem?_eq_getElem (by omega)⟩
  obtain ⟨sb, so, pa, pc, rfl, hbt, hrd⟩ := dp_at hs hq hx
  refine ⟨⟨by omega, by omega⟩, _, hrd _ kk, ?_⟩
  intro bD h11 e1 e2
  replace m := m.push e2 e1
  clear e1 e2
  refine ⟨⟨rfl, m.wrsb 0 rfl rfl, by simp [Value.oneCell']⟩, ?_⟩
  intro h12 e3
  replace m := m.setr 0 rfl e3
  clear e3
  obtain ⟨TD, m⟩ : ∃ TD, Me W2 h12 ([(bD, [.int .i64 x.kind, .int .i64 x.a, .int .i64 x.b, .int .i64 x.n, .int .i64 x.p.id, .int .u32 x.p.flow, .int .i64 x.p.tid, .int .i64 x.p.at_, .slice pa x.p.body.length pc], TD)] :: L :: Lr :: []) := ⟨_, m⟩
  refine ⟨_, _, _, m.cell 0 rfl rfl, dcase_intro (fun _ => ⟨rfl, m.kept hle⟩) fun h200 => ?_⟩
  have hp1 := hP.p1
  refine (poClone_c (m.focus 1 rfl) hv hP).mono ?_
  rintro _ h13 ⟨W3, bc, Lc, hle3, rfl, hvc, m⟩
  refine ⟨_, rfl, (poLen_c m hvc hP (by omega)).mono ?_⟩
  rintro _ h14 ⟨rfl, m⟩
  simp only [List.eraseIdx_cons_zero, List.eraseIdx_cons_succ] at m
  replace hv := hv.le hle3
  replace hvr := hvr.le hle3
  have hbt3 := hbt.le (hle.trans hle3)
  have s3 := s.le (hle.trans hle3)
  have hle' := hle.trans hle3
  refine ⟨_, rfl, fun now' h' => ∃ (W4 : Wd) (L Lr : Grp) (P' : Po) (at' : Int), W3.le W4 ∧ 0 ≤ now' ∧ now' ≤ 4000 * ((j : Int) + 1) ∧ Me W4 h' ([(bD, [.int .i64 x.kind, .int .i64 x.a, .int .i64 x.b, .int .i64 x.n, .int .i64 x.p.id, .int .u32 x.p.flow, .int .i64 x.p.tid, .int .i64 at', .slice pa x.p.body.length pc], TD)] :: Lc :: L :: Lr :: []) ∧
    PoV W4 b P' L ∧ PrV W4 br P' Lr ∧ PoOk P' ∧ (P'.len : Int) ≤ P'.mp, ?_, fun _ => ?_⟩
  · replace m := m.focus 2 rfl
    simp only [List.eraseIdx_cons_zero, List.eraseIdx_cons_succ] at m
    refine ⟨_, m.cell 0 rfl rfl, dcase_intro (fun _ => ?_) fun _ => dcase_intro (fun _ => ?_) fun _ => ?_⟩
    · (refine m.store 0 rfl (Nat.le_of_ble_eq_true rfl) ?_; clear m; intro _ m; simp only [List.set_cons_zero, List.set_cons_succ] at m)
      have hpv : PkV W3 ⟨x.p.id, x.p.flow, x.p.tid, now, x.p.body⟩ [.int .i64 x.p.id, .int .u32 x.p.flow, .int .i64 x.p.tid, .int .i64 now, .slice pa x.p.body.length pc] := ⟨pa, pc, rfl, hbt3⟩
      obtain ⟨z1, z2, z3, z4, z5⟩ := putZ_spec (aid := x.a) hP (p := ⟨x.p.id, x.p.flow, x.p.tid, now, x.p.body⟩) n0 (by dsimp only; omega) (by dsimp only; omega) hlm
      refine ⟨_, m.cell 0 rfl rfl, _, m.rowb 0 rfl rfl rfl, (poPut_c (aid := x.a) (m.focus 2 rfl) hv hP (by omega) hpv n0 (by dsimp only; omega) (by dsimp only; omega) s3.range).mono ?_⟩
      rintro _ h16 ⟨oa, oc, vs2, E, W4, L4, rfl, o, hle4, hs4, hv4, m⟩
      simp only [List.eraseIdx_cons_zero, List.eraseIdx_cons_succ] at m
      refine ⟨_, _, _, _, rfl, _, m.cell 2 rfl rfl, _, m.rowb 2 rfl rfl rfl, (prPut_c (aid := x.a) (m.focus 4 rfl) (hvr.le hle4) hP (by omega) (hpv.le hle4) n0 (by dsimp only; omega) (by dsimp only; omega)).mono ?_⟩
      rintro _ h17 ⟨pa2, pc2, vs3, E2, W5, L5, rfl, o2, hle5, hs5, hv5, m⟩
      simp only [List.eraseIdx_cons_zero, List.eraseIdx_cons_succ] at m
      have e5 : (if thereZ x.a (⟨x.p.id, x.p.flow, x.p.tid, now, x.p.body⟩ : Pk).tid = true then Value.nilIface else erV ads (some 2)) = erV ads (if thereZ x.a x.p.tid = true then none else some 2) := by
        by_cases ht : thereZ x.a x.p.tid = true
        · rw [if_pos ht, if_pos ht]; rfl
        · rw [if_neg ht, if_neg ht]
      rw [e5]
      generalize P.putZ x.a ⟨x.p.id, x.p.flow, x.p.tid, now, x.p.body⟩ = res at *
      refine ⟨_, _, _, _, rfl, (samePackets_c (o.src m 2 rfl) ((hs4.mono fun _ _ => PkV.le hle5).mono fun _ _ h => h.le m.leOf) rfl (o2.src m 0 rfl) (hs5.mono fun _ _ h => h.le m.leOf) rfl (by omega) z5).mono ?_⟩
      rintro _ h18 ⟨rfl, k18⟩
      replace m := m.on k18
      refine ⟨_, rfl, bcase_false (by simp) ((is_c (s3.le (hle4.trans hle5)) m (e := if thereZ x.a x.p.tid = true then none else some 2) (fun i hi => by split at hi <;> cases hi; decide) _).mono ?_)⟩
      rintro _ h19 ⟨rfl, m⟩
      refine ⟨_, rfl, bcase_false (by split <;> simp [erC]) ⟨W5, L4, L5, res.1, now, hle4.trans hle5, n0, by omega, ?_, hv4.le hle5, hv5, z1, z3⟩⟩
      refine m.sub ⟨E2 ++ E, ?_⟩
      simp only [List.flatten_cons]
      exact permC fun c h0 hc => by simp only [hc, h0]; omega
    · refine ⟨_, m.cell 0 rfl rfl, (number_c x.n 4000 _ (by decide) (by decide)).ret ⟨_, rfl, ?_⟩⟩
      have u0 := Int.emod_nonneg x.n (show (4000 : Int) ≠ 0 by decide)
      have u1 := Int.emod_lt_of_pos x.n (show (0 : Int) < 4000 by decide)
      generalize x.n % 4000 = u at *
      obtain ⟨z1, z2, z3, z4, z5, z6⟩ := takeZ_spec (aid := x.a) (tid := x.b) (now := now + u) hP (by omega) (by omega) hlm
      refine ⟨by simp only [fits]; omega, _, m.cell 0 rfl rfl, _, m.cell 0 rfl rfl, (poTake_c (aid := x.a) (tid := x.b) (m.focus 2 rfl) hv hP (by omega) (by omega)).mono ?_⟩
      rintro _ h21 ⟨oa, oc, vs2, E, L4, cs, rfl, hcv, o, hs4, hv4, m⟩
      simp only [List.eraseIdx_cons_zero, List.eraseIdx_cons_succ] at m
      refine ⟨_, _, _, _, _, rfl, ?_⟩
      intro b3 h22 f1 f2
      replace m := m.push f2 f1
      have hcl := hcv.len
      refine ⟨⟨hcl, m.wrsb 0 rfl rfl, hcv.one⟩, ?_⟩
      intro h23 f3
      replace m := m.setr 0 rfl f3
      rw [setL_all (by rw [hcl]; rfl)] at m
      simp only [List.set_cons_zero] at m
      refine ⟨_, m.cell 3 rfl rfl, _, m.cell 3 rfl rfl, (prTake_c (aid := x.a) (tid := x.b) (m.focus 5 rfl) hvr hP (by omega) (by omega)).mono ?_⟩
      rintro _ h24 ⟨pa2, pc2, vs3, E2, L5, cs2, rfl, hcv2, o2, hs5, hv5, m⟩
      simp only [List.eraseIdx_cons_zero, List.eraseIdx_cons_succ] at m
      refine ⟨_, _, _, _, _, rfl, ?_⟩
      intro b4 h25 g1 g2
      replace m := m.push g2 g1
      have hcl2 := hcv2.len
      refine ⟨⟨hcl2, m.wrsb 0 rfl rfl, hcv2.one⟩, ?_⟩
      intro h26 g3
      replace m := m.setr 0 rfl g3
      rw [setL_all (by rw [hcl2]; rfl)] at m
      simp only [List.set_cons_zero] at m
      generalize P.takeZ x.a x.b (now + u) = res at *
      have r1 := m.row 3 rfl (o := 0) (n := 5) (us := cs) (by rw [List.drop_zero, ← hcl, List.take_length]) (by rw [hcl]; exact Nat.le_refl _)
      have r2 := m.row 0 rfl (o := 0) (n := 5) (us := cs2) (by rw [List.drop_zero, ← hcl2, List.take_length]) (by rw [hcl2]; exact Nat.le_refl _)
      refine ⟨fun z h' => z = false ∧ Kept h26 h', bcase_false (by simp) ⟨_, r1, _, r2, (samePacket_c (hcv.le m.leOf) (hcv2.le m.leOf) z6).mono ?_⟩, fun _ => ?_⟩
      · rintro _ h27 ⟨rfl, k27⟩
        exact ⟨_, rfl, by simp, k27⟩
      rintro _ h28 ⟨rfl, k28⟩
      replace m := m.on k28
      refine bcase_false rfl ((samePackets_c (o.src m 4 rfl) (hs4.mono fun _ _ h => h.le m.leOf) rfl (o2.src m 1 rfl) (hs5.mono fun _ _ h => h.le m.leOf) rfl (by omega) z5).mono ?_)
      rintro _ h29 ⟨rfl, k29⟩
      replace m := m.on k29
      refine ⟨_, rfl, bcase_false (by simp) ⟨W3, L4, L5, res.1, x.p.at_, Wd.le.refl _, by omega, by omega, ?_, hv4, hv5, z1, z3⟩⟩
      refine m.sub ⟨[(b4, cs2, 35)] ++ (E2 ++ ([(b3, cs, 35)] ++ E)), ?_⟩
      simp only [List.flatten_cons]
      exact permC fun c h0 hc => by simp only [hc, h0]; omega
    · obtain ⟨z1, z3, z4, z5⟩ := dropZ_spec (aid := x.a) hP hlm
      refine ⟨_, m.cell 0 rfl rfl, _, m.cell 0 rfl rfl, (poDrop_c (aid := x.a) (m.focus 2 rfl) hv hP (by omega)).mono ?_⟩
      rintro _ h30 ⟨W4, oa, oc, vs2, E, L4, hle4, rfl, o, hs4, hv4, m⟩
      simp only [List.eraseIdx_cons_zero, List.eraseIdx_cons_succ] at m
      refine ⟨_, _, _, rfl, m.cell 2 rfl rfl, (prDrop_c (aid := x.a) (m.focus 4 rfl) (hvr.le hle4) hP (by omega)).mono ?_⟩
      rintro _ h31 ⟨pa2, pc2, vs3, E2, L5, rfl, o2, hs5, hv5, m⟩
      simp only [List.eraseIdx_cons_zero, List.eraseIdx_cons_succ] at m
      generalize P.drop x.a = res at *
      refine ⟨_, _, _, rfl, (samePackets_c (o.src m 2 rfl) (hs4.mono fun _ _ h => h.le m.leOf) rfl (o2.src m 0 rfl) (hs5.mono fun _ _ h => h.le m.leOf) rfl (by omega) z5).mono ?_⟩
      rintro _ h32 ⟨rfl, k32⟩
      replace m := m.on k32
      refine ⟨_, rfl, bcase_false (by simp) ⟨W4, L4, L5, res.1, x.p.at_, hle4, by omega, by omega, ?_, hv4, hv5, z1, z3⟩⟩
      refine m.sub ⟨E2 ++ E, ?_⟩
      simp only [List.flatten_cons]
      exact permC fun c h0 hc => by simp only [hc, h0]; omega
  clear m hv hvr
  rintro now' h33 ⟨W4, L4, L5, P', at', hle4, n0', n1', m, hv, hvr, hP', hlm'⟩
  have hp1' := hP'.p1
  replace hvc := hvc.le hle4
  replace m := m.focus 2 rfl
  simp only [List.eraseIdx_cons_zero, List.eraseIdx_cons_succ] at m
  refine (poLen_c m hv hP' (by omega)).mono ?_
  rintro _ h34 ⟨rfl, m⟩
  refine ⟨_, rfl, (prLen_c (m.focus 3 rfl) hvr hP' (by omega)).mono ?_⟩
  rintro _ h35 ⟨rfl, m⟩
  simp only [List.eraseIdx_cons_zero, List.eraseIdx_cons_succ] at m
  refine ⟨_, rfl, bcase_false (by simp) ((poBytes_c (m.focus 1 rfl) hv hP' (by omega)).mono ?_)⟩
  rintro _ h36 ⟨rfl, m⟩
  simp only [List.eraseIdx_cons_zero, List.eraseIdx_cons_succ] at m
  refine ⟨_, rfl, (prBytes_c (m.focus 1 rfl) hvr hP' (by omega)).mono ?_⟩
  rintro _ h37 ⟨rfl, rfl⟩
  refine ⟨_, rfl, bcase_false (by simp) ⟨_, m.cell 2 rfl rfl, _, m.cell 2 rfl rfl, _, m.cell 2 rfl rfl, _, m.cell 2 rfl rfl, (poHas_c m hv hP' x.a x.b).mono ?_⟩⟩
  rintro _ h38 ⟨rfl, rfl⟩
  refine ⟨_, rfl, m.cell 2 rfl rfl, m.cell 2 rfl rfl, (prHas_c (m.focus 1 rfl) hvr hP' x.a x.b).mono ?_⟩
  rintro _ h39 ⟨rfl, m⟩
  simp only [List.eraseIdx_cons_zero, List.eraseIdx_cons_succ] at m
  refine ⟨_, rfl, bcase_false (by simp) ((poLen_c (m.focus 3 rfl) hvc hP (by omega)).mono ?_)⟩
  rintro _ h40 ⟨rfl, m⟩
  simp only [List.eraseIdx_cons_zero, List.eraseIdx_cons_succ] at m
  refine ⟨_, rfl, bcase_false (by simp) ⟨by simp only [fits]; omega, ⟨j + 1, W4, L4, L5, P', by omega, by omega, n0', by omega, hle'.trans hle4, ?_, hv, hvr, hP', hlm'⟩, by (try dsimp only); omega⟩⟩
  refine m.sub ⟨Lc ++ [(bD, [.int .i64 x.kind, .int .i64 x.a, .int .i64 x.b, .int .i64 x.n, .int .i64 x.p.id, .int .u32 x.p.flow, .int .i64 x.p.tid, .int .i64 at', .slice pa x.p.body.length pc], TD)], ?_⟩
  simp only [List.flatten_cons]
  exact permC fun c h0 hc => by simp only [hc, h0]; omega
end
theorem walk_PoolPlays (w : World) (hE : ∃ ads, Snt (Wd.of w.heap) ads) (a0 : Int) (w0 : (Lit.int .u32 a0).wf = true) (a1 : Int) (w1 : (Lit.int .i64 a1).wf = true) (a2 : Int) (w2 : (Lit.int .i64 a2).wf = true) (a3 : Option Addr) (len3 cap3 : Nat) (o3 : Opn (.slc (.con (.int .i64) (.con (.int .i64) (.con (.int .i64) (.con (.int .i64) (.con (.con (.int .i64) (.con (.int .u32) (.con (.int .i64) (.con (.int .i64) (.con (.slc (.int .u8)) .nil))))) .nil)))))) (Wd.of w.heap) [.slice a3 len3 cap3]) :
    Calls Tryd.prog 6 #[.int .u32 a0, .int .i64 a1, .int .i64 a2, .slice a3 len3 cap3] w fun e w' => e = .returned (.bool true) ∧ Go.RowKit.Below w.heap.size w w' := by
  obtain ⟨ads, s⟩ := hE
  obtain ⟨l, vs, rfl, h1, h2⟩ := opn_dps o3
  exact calls_of_runs (poolPlays_r s a0 a1 a2 (of_src.1 h1) h2)
end Go.Proofs.YtpcilleldanfmaaDoor

/- What a row's listed variables (api's errors) give a walk: each holds a pointer of its own. -/
set_option linter.unusedVariables false
set_option linter.unusedSimpArgs false
namespace Go.Proofs.YtpcilleldanfmaaDoor
open Go.Vc
theorem star_es : "*" ++ "errors.errorString" = "*errors.errorString" := by decide
theorem rowES (u : TypeId) (h : Tryd.prog.typeName? 3 u = some "*errors.errorString") : u = 156 :=
  typeName_ptr_named (nm := "errors.errorString") (by rw [star_es]; kernel_rfl) (by kernel_rfl) (by decide) u (by rw [star_es]; exact h)
noncomputable def mkE (x : String × List UInt8) : String × DataW Unit := (x.1, .iface "*errors.errorString" (.ptr (.agg [.lit (.string x.2)])))
noncomputable def errTied (l : List (String × List UInt8)) : Bool := l.all fun x => ((Tryd.prog.globalNamed x.1).bind fun g => (Tryd.prog.globals[g]?).map (·.type)) == some 26
theorem cellsOf_es : Tryd.prog.cellsOf 172 = 1 := by kernel_rfl
theorem cellsOf_str : Tryd.prog.cellsOf 9 = 1 := by kernel_rfl
set_option maxRecDepth 100000 in
theorem laid_list {W : World} : ∀ (l : List (String × List UInt8)) (ps : List MemPlace), errTied l = true → DataW.LaidVars Tryd.prog W (l.map mkE) ps → ps.Nodup →
    (∀ b off, MemPlace.cell b off ∈ ps → (∃ c t, W.heap[b]? = some (.cells c t (0, 0))) ∧ ∀ u v, W.cell? ⟨b, off, none⟩ = some (.iface u v) → Value.okWide Tryd.prog W .any 0 u v) →
    ∃ ads : List Addr, ads.length = l.length ∧ ads.Nodup ∧ (∀ (i : Nat) (x : String × List UInt8) (a : Addr) (g : Nat), l[i]? = some x → ads[i]? = some a → Tryd.prog.globalNamed x.1 = some g → cell W.heap g 0 = some (ptE a)) ∧
      ∀ a ∈ ads, (∃ c t, W.heap[a.block]? = some (.cells c t (0, 0))) ∧ MemPlace.cell a.block a.off ∈ ps
  | [], ps, _, _, _, _ => ⟨[], rfl, List.nodup_nil, fun i x a g h => by simp at h, fun a h => by cases h⟩
  | x :: l, ps, ht, hL, hnd, hrows => by
    simp only [errTied, List.all_cons, Bool.and_eq_true, beq_iff_eq] at ht
    obtain ⟨g, t, cs, f, p, q, hg, hgt, hv, hd, hq, e⟩ := hL
    have hg' : Tryd.prog.globalNamed x.1 = some g := hg
    have ht1 := ht.1
    rw [hg', Option.bind_some, hgt] at ht1
    obtain rfl := Option.some.inj ht1
    subst e
    obtain ⟨cl⟩ := cs
    have hcell : ∀ v, cl = [v] → W.cell? ⟨g, 0, none⟩ = some v := fun v e => by
      subst e
      have hv' : W.var? Tryd.prog x.1 = some (⟨[v]⟩ : Array Value) := hv
      have h0 := World.var?_cell hg' hv' 0
      exact h0
    have hgm : ∀ v, cl = [v] → MemPlace.cell g 0 ∈ MemPlace.row ⟨g, 0, none⟩ (⟨cl⟩ : Array Value).size ++ p ++ q := fun v e => by
      subst e
      simp [MemPlace.row]
    obtain ⟨a, s, rfl, hc, hs, hz, rfl⟩ := errorString_of_trod Tryd.underlying26 rowES Tryd.underlying156 Tryd.underlying172 rfl rfl Tryd.underlying9 cellsOf_es cellsOf_str hd
      (fun u v e => (hrows g 0 (hgm _ e)).2 u v (hcell _ e))
    have hc0 := hcell _ rfl
    have hnd2 : q.Nodup := (List.nodup_append.1 hnd).2.1
    obtain ⟨ads, h1, h2, h3, h4⟩ := laid_list l q (by simpa [errTied] using ht.2) hq hnd2 (fun b off hm => hrows b off (List.mem_append_right _ hm))
    have ham : MemPlace.cell a.block a.off ∈ MemPlace.row a 1 := by simp [MemPlace.row]
    have hmem : MemPlace.cell a.block a.off ∈ MemPlace.row ⟨g, 0, none⟩ (⟨[.iface 156 (.pointer (some a))]⟩ : Array Value).size ++ MemPlace.row a 1 ++ q := List.mem_append_left _ (List.mem_append_right _ ham)
    have hno : a ∉ ads := fun hc => (List.nodup_append.1 hnd).2.2 _ (List.mem_append_right _ ham) _ (h4 a hc).2 rfl
    refine ⟨a :: ads, by simp [h1], List.nodup_cons.2 ⟨hno, h2⟩, fun i y b g' hi hb hg2 => ?_, fun b hb => ?_⟩
    · cases i with
      | zero =>
        simp at hi hb
        subst hi hb
        rw [hg'] at hg2; cases hg2
        rw [← cell?_eq]; exact hc0
      | succ i => exact h3 i y b g' (by simpa using hi) (by simpa using hb) hg2
    · rcases List.mem_cons.1 hb with rfl | hb
      · exact ⟨(hrows _ _ hmem).1, hmem⟩
      · exact ⟨(h4 b hb).1, List.mem_append_right _ (h4 b hb).2⟩
/-- All fourteen, listed. -/
theorem snt_of_laid {W : World} {laid : List (String × DataW Unit)} (l : List (String × List UInt8)) (hl : laid = l.map mkE) (hp : ∀ w, laidMetH Tryd.prog laid w = laidMet Tryd.prog laid w) (ht : errTied l = true) (hn : l.map (fun x => Tryd.prog.globalNamed x.1) = errG.map some) (h : laidMetH Tryd.prog laid W) :
    ∃ ads, Snt (Wd.of W.heap) ads := by
  rw [hp] at h
  obtain ⟨ps, h1, h2, h3⟩ := h
  rw [hl] at h1
  obtain ⟨ads, k1, k2, k3, k4⟩ := laid_list l ps ht h1 h2 h3
  have hlen : l.length = 14 := by
    have := congrArg List.length hn
    simpa [errG] using this
  refine ⟨ads, by rw [k1, hlen], k2, fun i a g hi hg => ?_, fun a ha => (k4 a ha).1⟩
  have hi' : i < l.length := by rw [← k1]; exact (List.getElem?_eq_some_iff.1 hi).1
  have e : (l.map (fun x => Tryd.prog.globalNamed x.1))[i]? = (errG.map some)[i]? := by rw [hn]
  rw [List.getElem?_map, List.getElem?_map, hg, List.getElem?_eq_getElem hi'] at e
  exact k3 i _ a g (List.getElem?_eq_getElem hi') hi (by simpa using e)
/-- One, listed. -/
theorem err_of_laid {W : World} {laid : List (String × DataW Unit)} {g : Nat} (x : String × List UInt8) (hl : laid = [mkE x]) (hp : ∀ w, laidMetH Tryd.prog laid w = laidMet Tryd.prog laid w) (ht : errTied [x] = true) (hg : Tryd.prog.globalNamed x.1 = some g) (h : laidMetH Tryd.prog laid W) :
    ∃ a, wcell (Wd.of W.heap) g 0 = some (ptE a) := by
  rw [hp] at h
  obtain ⟨ps, h1, h2, h3⟩ := h
  rw [hl] at h1
  obtain ⟨ads, k1, k2, k3, k4⟩ := laid_list [x] ps ht h1 h2 h3
  match ads, k1 with
  | [a], _ => exact ⟨a, k3 0 x a g rfl rfl hg⟩
end Go.Proofs.YtpcilleldanfmaaDoor
