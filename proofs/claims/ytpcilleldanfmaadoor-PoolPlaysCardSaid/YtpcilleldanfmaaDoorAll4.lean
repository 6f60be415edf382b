/- The texts of this proof, laid together (part 4). -/
import Derived.Test.YtpcilleldanfmaaDoorAll3
import Derived.Test.YtpcilleldanfmaaDoorRows
import Derived.Test.YtpcilleldanfmaaDoorAll1
import Derived.ProofKit
import Derived.OpenShut
import Derived.Deep.Slices
import Derived.Deep.Fields
import Derived.ChangeSame
import Derived.Test.YtpcilleldanfmaaDoorAll2
/- The program's pool of queues: the fattest flow loses its first; Put, Take. -/
set_option linter.unusedVariables false
set_option linter.unusedSimpArgs false
set_option maxRecDepth 8000
namespace Go.Proofs.YtpcilleldanfmaaDoor
open Go.Vc
/-- Lists that hold the same, whatever is counted. -/
theorem permC {α : Type} {a b : List α} (h : ∀ c : List α → Nat, c [] = 0 → (∀ x y, c (x ++ y) = c x + c y) → c a = c b) : a.Perm b := by
  classical
  exact List.perm_iff_count.2 fun x => h (List.count x) rfl fun u v => List.count_append ..
def frP (bs : List Nat) : Option Nat → Option Addr
  | none => none
  | some k => (bs[k]?).map fun b => ⟨b, 0, none⟩
theorem set_same {α : Type} {l : List α} {k : Nat} {x : α} (h : l[k]? = some x) : l.set k x = l := by
  obtain ⟨h1, h2⟩ := List.getElem?_eq_some_iff.1 h
  rw [← h2, List.set_getElem_self]
section
variable {V : Wd → Nat → Qu → Grp → Prop} {W W' : Wd} {h h' h1 : Heap} {G R : List Grp} {L L' E : Grp} {P P' : Po} {q q' : Qu} {qs qs2 : List Qu} {bs bs2 : List Nat} {Ls Ls2 : List Grp} {b b' k n i : Nat} {p : Pk} {cs : List Value} {T : TypeId} {v ev : Value}
/-- One queue, opened, has turned: the pool is shut again. -/
theorem Qs.shut (hq : Qs QuV W P.q bs Ls) (hb : bs[k]? = some b') (hL : Ls[k]? = some E) (hle : W.le W') (hv : QuV W' b' q' L') (m : Me W' h (L' :: (Ls.eraseIdx k).flatten :: [(b, poH P ++ prs bs, T)] :: R)) :
    ∃ L, PoV W' b (P.set k q') L ∧ Me W' h (L :: R) := by
  have h1 := (hq.le fun _ _ _ => QuV.le hle).set hv k
  rw [set_same hb] at h1
  exact PoV.shut (P := P.set k q') h1 (m.unpick k hL)
theorem PoV.mp (hv : PoV W b P L) (m : Me W h (L :: R)) : cell h b 3 = some (.int .i64 P.mp) := by
  (obtain ⟨bs, Ls, T, hq, rfl, mNew⟩ := hv.opn m; replace m := mNew; clear mNew)
  exact m.cell 1 rfl rfl
theorem PoV.mb (hv : PoV W b P L) (m : Me W h (L :: R)) : cell h b 4 = some (.int .i64 P.mb) := by
  (obtain ⟨bs, Ls, T, hq, rfl, mNew⟩ := hv.opn m; replace m := mNew; clear mNew)
  exact m.cell 1 rfl rfl
theorem poShrink_c (m : Me W h (L :: R)) (hv : PoV W b P L) (hP : PoOk P) (hpos : 0 < P.len) : Runs Tryd.prog 31 #[.pointer (some ⟨b, 0, none⟩)] h fun v h' =>
    ∃ W' cs L', W.le W' ∧ v = .agg cs.toArray ∧ PkV W' P.shrink.2 cs ∧ PoV W' b P.shrink.1 L' ∧ Me W' h' (L' :: R) := by
  (obtain ⟨bs, Ls, T, hq, rfl, mNew⟩ := hv.opn m; replace m := mNew; clear mNew)
  refine vc_pool_Pool_shrink _ _ _ ?_
  intro b1 h1 e1 e2
  replace m := m.push e2 e1
  clear e1 e2
  intro b2 h2 e1 e2
  replace m := m.push e2 e1
  clear e1 e2
  intro b3 h3 e1 e2
  replace m := m.push e2 e1
  clear e1 e2
  intro b4 h4 e1 e2
  replace m := m.push e2 e1
  clear e1 e2
  (refine m.store 1 rfl (Nat.le_of_ble_eq_true rfl) ?_; clear m; intro _ m; simp only [List.set_cons_zero, List.set_cons_succ] at m)
  (refine m.store 0 rfl (Nat.le_of_ble_eq_true rfl) ?_; clear m; intro _ m; simp only [List.set_cons_zero, List.set_cons_succ] at m)
  refine (each_c (fun k h' => ∃ s : FatS, fatQ (P.q.drop k) k s = P.fat ∧ Me W h' ([(b4, [.int .i64 s.2.2], 3)] :: [(b3, [.int .i64 s.2.1], 3)] :: [(b2, [.pointer (frP bs s.1)], 60)] :: [(b1, [.int .i64 0, .int .u32 0, .int .i64 0, .int .i64 0, .slice none 0 0], 35)] :: Ls.flatten :: [(b, poH P ++ prs bs, T)] :: R))
    ⟨(none, 0, -1), rfl, m⟩ ?_).mono ?_
  · clear m
    rintro k h1 hk ⟨s, hs, m⟩
    have hkq := (hP.qu hk).1
    have hok := (hP.qu hk).2.ok
    obtain ⟨bk, Lk, e1, e2, hvk, hc⟩ := hq.cellAt hkq m (j := 5) rfl
    refine ⟨_, hc, callv_of (by kernel_rfl) ?_⟩
    have hm := (m.focus 4 rfl).pick k e2
    rw [fatQ_step hkq] at hs
    refine vc_pool_Pool_shrink_1 _ _ _ _ _ _ ((fattest_c hm hvk hok).mono ?_)
    rintro _ h2 ⟨rfl, rfl⟩
    refine ⟨_, _, rfl, (len_c hm hvk).mono ?_⟩
    rintro _ h3 ⟨rfl, rfl⟩
    clear hm
    refine ⟨_, rfl, dcase_intro (fun q1 => ?_) fun q1 => ?_⟩
    · refine ⟨_, m.cell 0 rfl rfl, dcase_intro (fun q2 => ?_) fun q2 => ?_⟩
      · (refine m.store 2 rfl (Nat.le_of_ble_eq_true rfl) ?_; clear m; intro _ m; simp only [List.set_cons_zero, List.set_cons_succ] at m)
        (refine m.store 1 rfl (Nat.le_of_ble_eq_true rfl) ?_; clear m; intro _ m; simp only [List.set_cons_zero, List.set_cons_succ] at m)
        (refine m.store 0 rfl (Nat.le_of_ble_eq_true rfl) ?_; clear m; intro _ m; simp only [List.set_cons_zero, List.set_cons_succ] at m)
        have ef : fatS k (P.qu k) s = (some k, (P.qu k).fattest.1, (P.qu k).fattest.2) := by unfold fatS; rw [if_pos ⟨by omega, q2⟩]
        rw [ef] at hs
        refine ⟨_, hs, ?_⟩
        have e3 : frP bs (some k) = some ⟨bk, 0, none⟩ := by simp [frP, e1]
        rw [e3]
        exact m
      · have ef : fatS k (P.qu k) s = s := by unfold fatS; rw [if_neg (fun hc => q2 hc.2)]
        rw [ef] at hs
        exact ⟨s, hs, m⟩
    · have ef : fatS k (P.qu k) s = s := by unfold fatS; rw [if_neg (fun hc => q1 (by omega))]
      rw [ef] at hs
      exact ⟨s, hs, m⟩
  clear m
  rintro _ h7 ⟨rfl, s, hs, m⟩
  rw [List.drop_of_length_le (by rw [hP.n]; omega)] at hs
  replace hs : s = P.fat := hs
  subst hs
  obtain ⟨k, p, hk, hf, hsh, hd2, _⟩ := shrink_spec hP hpos
  have hkq := (hP.qu hk).1
  have hok := (hP.qu hk).2.ok
  obtain ⟨bk, Lk, e1, e2, hvk, hc⟩ := hq.cellAt hkq m (j := 5) rfl
  have e3 : frP bs (some k) = some ⟨bk, 0, none⟩ := by simp [frP, e1]
  rw [hf] at m
  dsimp only at m
  rw [e3] at m
  refine ⟨_, m.cell 2 rfl rfl, bcase_false rfl ⟨_, m.cell 2 rfl rfl, _, m.cell 1 rfl rfl, ?_⟩⟩
  refine (dropHead_c ((m.focus 4 rfl).pick k e2) hvk hok).mono ?_
  rintro _ h9 ⟨W1, cs, L1, hle, rfl, hcv, hv1, m1⟩
  clear m
  refine ⟨_, _, rfl, ?_⟩
  rw [hd2] at hcv
  simp only [Option.getD_some] at hcv
  obtain ⟨pa, pc, rfl, hbt⟩ := hcv
  simp only [List.eraseIdx_cons_zero, List.eraseIdx_cons_succ] at m1
  intro b5 h10 f1 f2
  replace m1 := m1.push f2 f1
  refine ⟨⟨rfl, m1.wrsb 0 rfl rfl, by simp [Value.oneCell']⟩, ?_⟩
  intro h11 f3
  replace m1 := m1.setr 0 rfl f3
  simp only [setL, List.set_cons_zero, List.set_cons_succ] at m1
  refine ⟨_, m1.rowb 0 rfl rfl rfl, ⟨rfl, m1.wrsb 6 rfl rfl, by simp [Value.oneCell']⟩, ?_⟩
  intro h12 f4
  replace m1 := m1.setr 6 rfl f4
  simp only [setL, List.set_cons_zero, List.set_cons_succ] at m1
  refine ⟨_, m1.rowb 6 rfl rfl rfl, ?_⟩
  replace m1 := ((((m1.drop1).focus 2 rfl).drop1.focus 2 rfl).drop1.focus 2 rfl).drop1.focus 2 rfl
  replace m1 := m1.drop1
  simp only [List.eraseIdx_cons_zero, List.eraseIdx_cons_succ, List.set_cons_zero, List.set_cons_succ] at m1
  obtain ⟨L2, hv2, m2⟩ := hq.shut e1 e2 hle hv1 m1
  rw [hsh]
  exact ⟨W1, _, L2, hle, rfl, ⟨pa, pc, rfl, hbt⟩, hv2, m2⟩
/-- What a put is told. -/
def Po.putZ (P : Po) (aid : Int) (p : Pk) : Po × List Pk := if thereZ aid p.tid = true then P.put (pix aid p.tid) p else (P, [])
def PutJ (W : Wd) (R : List Grp) (b bx : Nat) (xs : List Value) (T : TypeId) (res : Po × List Pk) (n : Nat) (out : Option Addr) (ol oc : Nat) (h' : Heap) : Prop :=
  ∃ (P : Po) (d : List Pk) (vs : List Value) (W2 : Wd) (E L : Grp), shrN n P d = res ∧ P.len ≤ n ∧ PoOk P ∧ P.len + d.length ≤ 1048576 ∧ W.le W2 ∧ ol = d.length ∧ Ow out ol oc 5 vs E ∧ Sq (PkV W2) d vs ∧ PoV W2 b P L ∧ Me W2 h' (L :: [(bx, xs, T)] :: E :: R)
theorem poPut_c {aid : Int} (m : Me W h (L :: R)) (hv : PoV W b P L) (hP : PoOk P) (hl : P.len < 1048576) (hp : PkV W p cs) (h0 : 0 ≤ p.at_) (h1 : p.at_ ≤ 1125899906842624) (hlen : p.body.length ≤ 1048576) (hg : wcell W 0 0 = some ev) :
    Runs Tryd.prog 10 #[.pointer (some ⟨b, 0, none⟩), .int .i64 aid, .agg cs.toArray] h fun v h' => ∃ a c vs E W' L', v = .tuple #[.slice a (P.putZ aid p).2.length c, if thereZ aid p.tid = true then .nilIface else ev] ∧
      Ow a (P.putZ aid p).2.length c 5 vs E ∧ W.le W' ∧ Sq (PkV W') (P.putZ aid p).2 vs ∧ PoV W' b (P.putZ aid p).1 L' ∧ Me W' h' (E :: L' :: R) := by
  have hp0 := hp
  obtain ⟨pa, pc, rfl, hbt⟩ := hp
  refine vc_pool_Pool_Put _ _ _ _ _ ?_
  intro bx h1 e1 e2
  replace m := m.push e2 e1
  clear e1 e2
  refine ⟨_, m.cell 0 rfl rfl, (poolThere_c aid p.tid).mono ?_⟩
  rintro _ h2 ⟨rfl, rfl⟩
  refine ⟨_, rfl, ?_⟩
  by_cases ht : thereZ aid p.tid = true
  case neg =>
    have ht' : thereZ aid p.tid = false := by simpa using ht
    refine bcase_true (by rw [ht']; rfl) ⟨_, m.wcell hg, ?_⟩
    unfold Po.putZ
    rw [if_neg ht, if_neg ht]
    exact ⟨none, 0, [], [], W, L, rfl, Ow.nil, Wd.le.refl _, rfl, hv, m.drop1.nilI⟩
  have hz := thereZ_iff.1 ht
  have hk := pix_lt ht
  refine bcase_false (by rw [ht]; rfl) ⟨by simp only [fits]; omega, _, m.cell 0 rfl rfl, ⟨by omega, by omega⟩, ⟨by omega, by omega⟩, ?_⟩
  replace m := m.focus 1 rfl
  simp only [List.eraseIdx_cons_zero, List.eraseIdx_cons_succ] at m
  unfold Po.putZ
  rw [if_pos ht, if_pos ht]
  have hcnt := hP.cnt hk
  obtain ⟨a1, a2, a3, a4⟩ := put1_spec hP hk (p := p) h0 h1 hlen (by omega)
  have ix : 5 + (aid - 1).toNat * 8 + p.tid.toNat = 5 + pix aid p.tid := by unfold pix; omega
  rw [ix]
  unfold Po.put
  (obtain ⟨bs, Ls, T, hq, rfl, mNew⟩ := hv.opn m; replace m := mNew; clear mNew)
  obtain ⟨bk, Lk, e1, e2, hvk, hc⟩ := hq.cellAt (hP.qu hk).1 m (j := 1) rfl
  refine ⟨_, hc, _, m.rowb 2 rfl rfl rfl, (put_c (m.pick _ e2) hvk (hP.qu hk).2.ok hp0 hlen (by omega)).mono ?_⟩
  rintro _ h3 ⟨rfl, W1, Lk', hle, hvk', m1⟩
  clear m hc
  refine ⟨_, rfl, m1.cell 3 rfl rfl, ?_⟩
  obtain ⟨L1, hv1, m1⟩ := hq.shut e1 e2 hle hvk' m1
  clear hvk hvk' hq e1 e2 hv
  have hv1 : PoV W1 b (P.put1 (pix aid p.tid) p) L1 := hv1
  have hg1 := wcell_le hle hg
  have hbt1 := hbt.le hle
  generalize P.put1 (pix aid p.tid) p = P1 at *
  obtain ⟨T, m1⟩ : ∃ T, Me W1 h3 (L1 :: [(bx, [.int .i64 p.id, .int .u32 p.flow, .int .i64 p.tid, .int .i64 p.at_, .slice pa p.body.length pc], T)] :: R) := ⟨_, m1⟩
  have hJ0 : PutJ W1 R b bx [.int .i64 p.id, .int .u32 p.flow, .int .i64 p.tid, .int .i64 p.at_, .slice pa p.body.length pc] T (shrN P1.len P1 []) P1.len none 0 0 h3 :=
    ⟨P1, [], [], W1, [], L1, rfl, Nat.le_refl _, a1, by simp only [List.length_nil]; omega, Wd.le.refl _, rfl, Ow.nil, rfl, hv1, (m1.nilI.focus 2 rfl).focus 2 rfl⟩
  generalize shrN P1.len P1 [] = res at *
  generalize [Value.int .i64 p.id, .int .u32 p.flow, .int .i64 p.tid, .int .i64 p.at_, .slice pa p.body.length pc] = xs at *
  refine ⟨fun da dl dc h' => ∃ n, PutJ W1 R b bx xs T res n da dl dc h', fun da dl dc h' => lea fun n => PutJ W1 R b bx xs T res n da dl dc h', ⟨_, hJ0⟩, fun _ => ?_⟩
  clear m1 hv1 hJ0 a1 a2 a3 a4 hP
  intro da dl dc h4 hJ
  obtain ⟨n, ⟨P2, d, vsd, W2, Ed, L2, hres, hn, hP2, hbd, hle2, rfl, od, hsd, hv2, m⟩, hnn⟩ := lea_spec hJ
  clear hJ
  refine ⟨fun h' => (P2.mp < P2.len ∨ P2.mb < P2.byt) ∧ Me W2 h' (L2 :: [(bx, xs, T)] :: Ed :: R), ?_, fun _ => ?_⟩
  · refine ⟨_, hv2.mp m, (poLen_c m hv2 hP2 (by omega)).mono ?_⟩
    rintro _ h5 ⟨rfl, m⟩
    refine ⟨_, rfl, hv2.mp m, dcase_intro (fun q1 => ⟨.inl q1, m⟩) fun q1 => ?_⟩
    refine ⟨_, hv2.mb m, (poBytes_c m hv2 hP2 (by omega)).mono ?_⟩
    rintro _ h6 ⟨rfl, m⟩
    refine ⟨_, rfl, hv2.mb m, hv2.mp m, dcase_intro (fun q2 => ⟨.inr q2, m⟩) fun q2 => ?_⟩
    rw [shrN_done (fun hc => hc.elim q1 q2)] at hres
    rw [← hres]
    exact ⟨_, _, vsd, Ed, W2, L2, rfl, od, hle.trans hle2, hsd, hv2, (m.focus 2 rfl).focus 2 rfl |>.drop1 |> fun m => by
      simp only [List.eraseIdx_cons_zero, List.eraseIdx_cons_succ] at m; exact m⟩
  clear m
  rintro h7 ⟨hmore, m⟩
  have hpos := more_pos hP2 hmore
  obtain ⟨n, rfl⟩ : ∃ k, n = k + 1 := ⟨n - 1, by omega⟩
  rw [shrN_more hmore] at hres
  obtain ⟨k, x, _, _, hsh, _, hok3, _, _, hlen3, _⟩ := shrink_spec hP2 hpos
  refine (poShrink_c m hv2 hP2 hpos).mono ?_
  rintro _ h8 ⟨W3, cs, L3, hle3, rfl, hcv, hv3, m⟩
  refine ⟨_, rfl, hcv.len, ?_⟩
  have hcl := hcv.len
  have hone := hcv.one
  refine od.app1 (us := cs ++ []) m 2 rfl (by simp [hcl]) (by simpa using hone) (by omega) (by decide) fun a' c' E' h' m' o' => ?_
  rw [List.append_nil] at o'
  refine lea_next hnn (k := n) ⟨_, _, _, W3, E', L3, hres, by omega, hok3, by rw [List.length_append]; simp only [List.length_singleton]; omega, hle2.trans hle3, by simp, o', (hsd.mono fun _ _ => PkV.le hle3).snoc hcv, hv3, m'⟩ (by omega)
def Po.takeZ (P : Po) (aid tid now : Int) : Po × List Pk × Option Pk := if thereZ aid tid = true then P.take (pix aid tid) now else (P, [], none)
theorem poTake_c {aid tid now : Int} (m : Me W h (L :: R)) (hv : PoV W b P L) (hP : PoOk P) (n0 : 0 ≤ now) (n1 : now ≤ 1125899906842624) :
    Runs Tryd.prog 16 #[.pointer (some ⟨b, 0, none⟩), .int .i64 aid, .int .i64 tid, .int .i64 now] h fun v h' => ∃ a c vs E L' cs, v = .tuple #[.agg cs.toArray, .slice a (P.takeZ aid tid now).2.1.length c, .bool (P.takeZ aid tid now).2.2.isSome] ∧
      PkV W ((P.takeZ aid tid now).2.2.getD pk0) cs ∧ Ow a (P.takeZ aid tid now).2.1.length c 5 vs E ∧ Sq (PkV W) (P.takeZ aid tid now).2.1 vs ∧ PoV W b (P.takeZ aid tid now).1 L' ∧ Me W h' (E :: L' :: R) := by
  refine vc_pool_Pool_Take _ _ _ _ _ _ ?_
  intro bx h1 e1 e2
  replace m := m.push e2 e1
  clear e1 e2
  refine (poolThere_c aid tid).mono ?_
  rintro _ h2 ⟨rfl, rfl⟩
  refine ⟨_, rfl, ?_⟩
  unfold Po.takeZ
  by_cases ht : thereZ aid tid = true
  case neg =>
    have ht' : thereZ aid tid = false := by simpa using ht
    refine bcase_true (by rw [ht']; rfl) ⟨⟨rfl, m.wrsb 0 rfl rfl, by simp [Value.oneCell']⟩, ?_⟩
    intro h3 e3
    replace m := m.setr 0 rfl e3
    rw [if_neg ht]
    exact ⟨_, m.rowb 0 rfl rfl rfl, none, 0, [], [], L, _, rfl, PkV.zero, Ow.nil, rfl, hv, m.drop1.nilI⟩
  have hz := thereZ_iff.1 ht
  have hk := pix_lt ht
  rw [if_pos ht]
  refine bcase_false (by rw [ht]; rfl) ⟨by simp only [fits]; omega, ⟨by omega, by omega⟩, ⟨by omega, by omega⟩, ?_⟩
  have ix : 5 + (aid - 1).toNat * 8 + tid.toNat = 5 + pix aid tid := by unfold pix; omega
  rw [ix]
  replace m := m.focus 1 rfl
  simp only [List.eraseIdx_cons_zero, List.eraseIdx_cons_succ] at m
  (obtain ⟨bs, Ls, T, hq, rfl, mNew⟩ := hv.opn m; replace m := mNew; clear mNew)
  obtain ⟨bk, Lk, e1, e2, hvk, hc⟩ := hq.cellAt (hP.qu hk).1 m (j := 1) rfl
  refine ⟨_, hc, (take_c (m.pick _ e2) hvk (hP.qu hk).2.ok n0 n1).mono ?_⟩
  rintro _ h3 ⟨a, c, vs, E, Lk', cs, rfl, hcv, o, hs, hvk', m1⟩
  clear m
  refine ⟨_, _, _, _, _, rfl, ?_⟩
  obtain ⟨pa, pc, rfl, hbt⟩ := hcv
  refine ⟨⟨rfl, m1.wrsb 4 rfl rfl, by simp [Value.oneCell']⟩, ?_⟩
  intro h4 e3
  replace m1 := m1.setr 4 rfl e3
  refine ⟨_, m1.rowb 4 rfl rfl rfl, ?_⟩
  have m2 : Me W h4 (Lk' :: (Ls.eraseIdx (pix aid tid)).flatten :: [(b, poH P ++ prs bs, T)] :: E :: R) := (m1.free 4 rfl).perm (by
    simp only [List.eraseIdx_cons_zero, List.eraseIdx_cons_succ, List.set_cons_zero, List.set_cons_succ, List.flatten_cons]
    exact permC fun c h0 hc => by simp only [hc, h0]; omega)
  obtain ⟨L2, hv2, m3⟩ := hq.shut (R := E :: R) e1 e2 (Wd.le.refl _) hvk' m2
  exact ⟨_, _, vs, E, L2, _, rfl, ⟨pa, pc, rfl, hbt⟩, o, hs, hv2, m3.focus 1 rfl⟩
end
end Go.Proofs.YtpcilleldanfmaaDoor

/- The program's pool of queues: New, Drop. -/
set_option linter.unusedVariables false
set_option linter.unusedSimpArgs false
set_option maxRecDepth 8000
namespace Go.Proofs.YtpcilleldanfmaaDoor
open Go.Vc
theorem setL_snoc {xs us : List Value} {o : Nat} {v : Value} (h : o + us.length < xs.length) : (setL xs o us).set (o + us.length) v = setL xs o (us ++ [v]) := by
  rw [setL_eq (by omega), setL_eq (by simp; omega), List.set_append_right _ _ (by simp; omega), List.drop_eq_getElem_cons h]
  have e : o + us.length - (xs.take o ++ us).length = 0 := by simp; omega
  rw [e, List.set_cons_zero]
  simp [Nat.add_assoc]
theorem setL_len {xs us : List Value} {o : Nat} (h : o + us.length ≤ xs.length) : (setL xs o us).length = xs.length := by
  rw [setL_eq h]; simp; omega
section
variable {V : Wd → Nat → Qu → Grp → Prop} {W W' : Wd} {h h' h1 : Heap} {G R : List Grp} {L L' E : Grp} {P P' : Po} {q q' : Qu} {qs qs2 : List Qu} {bs bs2 : List Nat} {Ls Ls2 : List Grp} {b b' k n i : Nat} {p : Pk} {cs xs : List Value} {T : TypeId} {v ev : Value}
theorem renew_c {ii : Int} (m : Me W h ([(b, poH P ++ xs, T)] :: R)) (hx : xs.length = 128) (hii : ii = (i : Int)) (hi : i < 16) : Runs Tryd.prog 28 #[.pointer (some ⟨b, 0, none⟩), .int .i64 ii] h fun v h' =>
    ∃ bs Ls, v = .tuple #[] ∧ Qs QuV W (List.replicate 8 P.new) bs Ls ∧ Me W h' (Ls.flatten :: [(b, poH P ++ setL xs (i * 8) (prs bs), T)] :: R) := by
  subst hii
  refine vc_pool_Pool_renew _ _ _ _ ⟨fun x h' => ∃ (t : Nat) (bs : List Nat) (Ls : List Grp), x = t ∧ t ≤ 8 ∧ bs.length = t ∧ Qs QuV W (List.replicate t P.new) bs Ls ∧ Me W h' (Ls.flatten :: [(b, poH P ++ setL xs (i * 8) (prs bs), T)] :: R), fun x _ => (8 - x).toNat,
    ⟨0, [], [], rfl, by omega, rfl, Qs.nil, m.nilI⟩, fun _ => ?_⟩
  clear m
  rintro _ h1 ⟨t, bs, Ls, rfl, ht, hbl, hq, m⟩
  have e0 : ∀ v (j : Nat), (poH P)[j]? = some v → (poH P ++ setL xs (i * 8) (prs bs))[j]? = some v := fun v j hj => by
    rw [List.getElem?_append_left (List.getElem?_eq_some_iff.1 hj).1]; exact hj
  refine dcase_intro (fun q1 => ?_) fun q1 => ?_
  · refine ⟨_, m.cell 1 rfl (e0 _ 0 rfl), _, m.cell 1 rfl (e0 _ 1 rfl), _, m.cell 1 rfl (e0 _ 2 rfl), ⟨by omega, by omega⟩, (new_c m P.seed P.tg P.iv).mono ?_⟩
    rintro _ h2 ⟨b', L, rfl, hv, m⟩
    refine ⟨_, rfl, ⟨by omega, by omega⟩, ?_⟩
    have hsl : (setL xs (i * 8) (prs bs)).length = 128 := by rw [setL_len (by rw [prs_len]; omega)]; exact hx
    refine m.store 2 rfl (by simp only [List.length_append, hsl, poH, List.length_cons, List.length_nil]; omega) fun h3 m => ?_
    rw [show 5 + (i : Int).toNat * 8 + (t : Int).toNat = 5 + (i * 8 + (prs bs).length) by rw [prs_len]; omega, poH_set, setL_snoc (by rw [prs_len]; omega)] at m
    simp only [List.set_cons_zero, List.set_cons_succ] at m
    refine ⟨by simp only [fits]; omega, ⟨t + 1, bs ++ [b'], Ls ++ [L], by omega, by omega, by simp [hbl], ?_, ?_⟩, by (try dsimp only); omega⟩
    · rw [List.replicate_succ']; exact hq.app (Qs.one hv)
    · have e1 : prs (bs ++ [b']) = prs bs ++ [.pointer (some ⟨b', 0, none⟩)] := prs_app
      rw [e1]
      exact m.perm (by simp only [List.flatten_cons, List.flatten_append, List.flatten_nil]; exact permC fun c h0 hc => by simp only [hc, h0]; omega)
  · obtain rfl : t = 8 := by omega
    exact ⟨bs, Ls, rfl, hq, m⟩
theorem poNew_c (m : Me W h R) (hg : wcell W 0 0 = some ev) (seed tg iv mp mb : Int) : Runs Tryd.prog 9 #[.int .u32 seed, .int .i64 tg, .int .i64 iv, .int .i64 mp, .int .i64 mb] h fun v h' =>
    (¬ (1 ≤ mp ∧ mp ≤ 512 ∧ 1 ≤ mb ∧ mb ≤ 1048576) → v = .tuple #[.pointer none, ev] ∧ Me W h' R) ∧
    ((1 ≤ mp ∧ mp ≤ 512 ∧ 1 ≤ mb ∧ mb ≤ 1048576) → ∃ b L, v = .tuple #[.pointer (some ⟨b, 0, none⟩), .nilIface] ∧ PoV W b (po0 seed tg iv mp mb) L ∧ Me W h' (L :: R)) := by
  have he := m.wcell hg
  refine vc_pool_New _ _ _ _ _ _ _ (dcase_intro (fun q => ⟨_, he, fun _ => ⟨rfl, m⟩, fun hc => absurd hc (by omega)⟩) fun q1 => dcase_intro (fun q => ⟨_, he, fun _ => ⟨rfl, m⟩, fun hc => absurd hc (by omega)⟩) fun q2 =>
    dcase_intro (fun q => ⟨_, he, fun _ => ⟨rfl, m⟩, fun hc => absurd hc (by omega)⟩) fun q3 => dcase_intro (fun q => ⟨_, he, fun _ => ⟨rfl, m⟩, fun hc => absurd hc (by omega)⟩) fun q4 => ?_)
  intro b h1 e1 e2
  replace m := m.push e2 e1
  clear e1 e2
  obtain ⟨T, m⟩ : ∃ T, Me W h1 ([(b, poH (po0 seed tg iv mp mb) ++ List.replicate 128 (.pointer none), T)] :: R) := ⟨_, m⟩
  refine ⟨fun x h' => ∃ (i : Nat) (bs : List Nat) (Ls : List Grp), x = i ∧ i ≤ 16 ∧ bs.length = i * 8 ∧ Qs QuV W (List.replicate (i * 8) (po0 seed tg iv mp mb).new) bs Ls ∧ Me W h' (Ls.flatten :: [(b, poH (po0 seed tg iv mp mb) ++ (prs bs ++ List.replicate (128 - i * 8) (Value.pointer none)), T)] :: R), fun x _ => (16 - x).toNat,
    ⟨0, [], [], rfl, by omega, rfl, Qs.nil, m.nilI⟩, fun _ => ?_⟩
  clear m he
  rintro _ h2 ⟨i, bs, Ls, rfl, hi, hbl, hq, m⟩
  refine dcase_intro (fun q => ?_) fun q => ?_
  · have hxl : (prs bs ++ List.replicate (128 - i * 8) (Value.pointer none)).length = 128 := by simp [prs_len, hbl]; omega
    refine (renew_c (m.focus 1 rfl) hxl rfl (by omega)).mono ?_
    rintro _ h3 ⟨bs8, Ls8, rfl, hq8, m⟩
    have h8 : bs8.length = 8 := by rw [hq8.n1]; exact List.length_replicate
    refine ⟨by simp only [fits]; omega, ⟨i + 1, bs ++ bs8, Ls ++ Ls8, by omega, by omega, by rw [List.length_append]; omega, ?_, ?_⟩, by (try dsimp only); omega⟩
    · have e : List.replicate ((i + 1) * 8) (po0 seed tg iv mp mb).new = List.replicate (i * 8) (po0 seed tg iv mp mb).new ++ List.replicate 8 (po0 seed tg iv mp mb).new := by
        rw [List.replicate_append_replicate]; congr 1; omega
      rw [e]; exact hq.app hq8
    · have e : setL (prs bs ++ List.replicate (128 - i * 8) (Value.pointer none)) (i * 8) (prs bs8) = prs (bs ++ bs8) ++ List.replicate (128 - (i + 1) * 8) (Value.pointer none) := by
        rw [setL_eq (by rw [hxl, prs_len, h8]; omega), prs_app]
        have l1 : (prs bs).length = i * 8 := by rw [prs_len, hbl]
        rw [List.take_append_of_le_length (by omega), List.take_of_length_le (by omega), List.append_assoc, List.append_assoc]
        congr 2
        rw [List.drop_append, List.drop_of_length_le (by omega), List.nil_append, List.drop_replicate]
        congr 1
        rw [prs_len, prs_len, hbl, h8]; omega
      rw [e] at m
      exact m.perm (by simp only [List.flatten_cons, List.flatten_append, List.eraseIdx_cons_zero, List.eraseIdx_cons_succ]; exact permC fun c h0 hc => by simp only [hc, h0]; omega)
  · obtain rfl : i = 16 := by omega
    refine ⟨fun hc => absurd ⟨by omega, by omega, by omega, by omega⟩ hc, fun _ => ?_⟩
    simp only [Nat.reduceMul, Nat.sub_self, List.replicate_zero, List.append_nil] at m hq
    obtain ⟨L, hv, m⟩ := PoV.shut (P := po0 seed tg iv mp mb) hq m
    exact ⟨b, L, rfl, hv, m⟩
theorem wipeN_q : ∀ n, i + n ≤ P.q.length → (wipeN P i n).q = P.q.take i ++ (List.replicate n P.new ++ P.q.drop (i + n))
  | 0, h => by simp [wipeN]
  | n + 1, h => by
    show ((wipeN P i n).q).set (i + n) P.new = _
    rw [wipeN_q n (by omega), List.set_append_right _ _ (by simp; omega), List.set_append_right _ _ (by simp; omega)]
    have e : i + n - (P.q.take i).length - (List.replicate n P.new).length = 0 := by simp; omega
    rw [e, List.drop_eq_getElem_cons (by omega), List.set_cons_zero, List.replicate_succ']
    simp [Nat.add_assoc]
theorem poDrop_c {aid : Int} (m : Me W h (L :: R)) (hv : PoV W b P L) (hP : PoOk P) (hl : P.len ≤ 1048576) : Runs Tryd.prog 15 #[.pointer (some ⟨b, 0, none⟩), .int .i64 aid] h fun v h' =>
    ∃ W' a c vs E L', W.le W' ∧ v = .slice a (P.drop aid).2.length c ∧ Ow a (P.drop aid).2.length c 5 vs E ∧ Sq (PkV W') (P.drop aid).2 vs ∧ PoV W' b (P.drop aid).1 L' ∧ Me W' h' (E :: L' :: R) := by
  refine vc_pool_Pool_Drop _ _ _ _ ((poolThere_c aid 0).mono ?_)
  rintro _ h1 ⟨rfl, rfl⟩
  refine ⟨_, rfl, ?_⟩
  have hsp := drop_spec hP aid
  unfold Po.drop at hsp ⊢
  by_cases ht : thereZ aid 0 = true
  case neg =>
    have ht' : thereZ aid 0 = false := by simpa using ht
    rw [if_neg ht]
    exact bcase_true (by rw [ht']; rfl) ⟨W, none, 0, [], [], L, Wd.le.refl _, rfl, Ow.nil, rfl, hv, m.nilI⟩
  rw [if_pos ht] at hsp ⊢
  have hz := thereZ_iff.1 ht
  obtain ⟨i, hi⟩ : ∃ i : Nat, (aid - 1).toNat = i := ⟨_, rfl⟩
  rw [hi] at hsp ⊢
  dsimp only at hsp ⊢
  have hdl : (outN P (i * 8) 8).length ≤ P.len := by
    have := hsp.2.2.length_eq
    rw [List.length_append] at this
    rw [Po.len_all]; omega
  have hol : ∀ t, t ≤ 8 → (outN P (i * 8) t).length ≤ P.len := by
    intro t ht'
    have h2 := (wipeN_spec hP (i * 8) t (by omega)).2.2.1.length_eq
    rw [List.length_append] at h2
    rw [Po.len_all]; omega
  refine bcase_false (by rw [ht]; rfl) ⟨by simp only [fits]; omega, ⟨by omega, by omega⟩, ?_⟩
  (obtain ⟨bs, Ls, T, hq, rfl, mNew⟩ := hv.opn m; replace m := mNew; clear mNew)
  have hbs := hq.n1
  rw [hP.n] at hbs
  have hpl : (poH P ++ prs bs).length = 133 := by rw [List.length_append, prs_len, hbs]; rfl
  refine ⟨_, m.row 1 rfl rfl (by rw [hpl]; omega), ?_⟩
  refine ⟨fun out ol oc x h' => ∃ (t : Nat) (W1 : Wd) (vs : List Value) (E : Grp), x = t ∧ t ≤ 8 ∧ W.le W1 ∧ ol = (outN P (i * 8) t).length ∧ Ow out ol oc 5 vs E ∧ Sq (PkV W1) (outN P (i * 8) t) vs ∧ Me W1 h' (E :: Ls.flatten :: [(b, poH P ++ prs bs, T)] :: R), fun _ _ _ x _ => (8 - x).toNat,
    ⟨0, W, [], [], rfl, by omega, Wd.le.refl _, rfl, Ow.nil, rfl, m.nilI⟩, fun _ => ?_⟩
  clear m
  rintro out _ oc _ h2 ⟨t, W1, vs, E, rfl, ht8, hle, rfl, o, hs, m⟩
  refine dcase_intro (fun q1 => ?_) fun q1 => ?_
  · have hk : i * 8 + t < 128 := by omega
    obtain ⟨bk, Lk, e1, e2, hvk⟩ := hq.v _ _ (hP.qu hk).1
    refine ⟨⟨by omega, by omega⟩, _, ?_, (all_c ((m.focus 1 rfl).pick _ e2) (hvk.le hle) (hP.qu hk).2.ok).mono ?_⟩
    · rw [List.getElem?_take, if_pos (by omega), List.getElem?_drop, show 5 + i * 8 + (t : Int).toNat = 5 + (i * 8 + t) by omega, poH_get]
      exact prs_get e1
    · rintro _ h3 ⟨W2, a, c, vs2, E2, hle2, rfl, o2, hs2, m⟩
      simp only [List.eraseIdx_cons_zero, List.eraseIdx_cons_succ] at m
      have hcnt := hP.cnt hk
      have hnext : outN P (i * 8) (t + 1) = outN P (i * 8) t ++ allL (P.qu (i * 8 + t)).fl := rfl
      have hol2 := hol (t + 1) (by omega)
      rw [hnext, List.length_append] at hol2
      refine ⟨_, _, _, rfl, vs2, ⟨o2.src m 0 rfl, hs2.all fun _ _ => PkV.one⟩, ?_⟩
      refine o.app m 3 rfl o2.len (by omega) (by decide) fun a2 c2 E3 h10 m' o3 => ?_
      clear m
      simp only [List.set_cons_zero, List.set_cons_succ] at m'
      refine ⟨by simp only [fits]; omega, ⟨t + 1, W2, _, E3, by omega, by omega, hle.trans hle2, by rw [hnext, List.length_append], o3, by rw [hnext]; exact (hs.mono fun _ _ => PkV.le hle2).app hs2, ?_⟩, by (try dsimp only); omega⟩
      have m3 := (m'.drop1.focus 2 rfl)
      simp only [List.eraseIdx_cons_zero, List.eraseIdx_cons_succ] at m3
      have m4 := Me.unpick (i * 8 + t) e2 (m3.focus 1 rfl |>.focus 2 rfl |> fun m => (m.perm (G' := Lk :: (Ls.eraseIdx (i * 8 + t)).flatten :: E3 :: [(b, poH P ++ prs bs, T)] :: R) (by
        simp only [List.eraseIdx_cons_zero, List.eraseIdx_cons_succ, List.flatten_cons]
        exact permC fun c h0 hc => by simp only [hc, h0]; omega)))
      rw [set_same e2] at m4
      exact m4.focus 1 rfl
  · obtain rfl : t = 8 := by omega
    refine ⟨by simp only [fits]; omega, (renew_c (i := i) (m.focus 2 rfl) (by rw [prs_len, hbs]) (by omega) (by omega)).mono ?_⟩
    rintro _ h5 ⟨bs8, Ls8, rfl, hq8, m⟩
    have h8 : bs8.length = 8 := by rw [hq8.n1]; exact List.length_replicate
    have hqL := hq.le (W' := W1) fun _ _ _ => QuV.le hle
    have hqn : Qs QuV W1 (wipeN P (i * 8) 8).q (bs.take (i * 8) ++ (bs8 ++ bs.drop (i * 8 + 8))) (Ls.take (i * 8) ++ (Ls8 ++ Ls.drop (i * 8 + 8))) := by
      rw [wipeN_q 8 (by rw [hP.n]; omega)]
      exact (hqL.take _).app (hq8.app (hqL.drop _))
    have eb : setL (prs bs) (i * 8) (prs bs8) = prs (bs.take (i * 8) ++ (bs8 ++ bs.drop (i * 8 + 8))) := by
      rw [setL_eq (by rw [prs_len, prs_len, h8, hbs]; omega), prs_app, prs_app, prs_len, h8]
      simp [prs, List.map_take, List.map_drop]
    rw [eb] at m
    have hH : poH (wipeN P (i * 8) 8) = poH P := by
      have hal := hsp.2.1
      simp only [poH, hal.seed, hal.tg, hal.iv, hal.mp, hal.mb]
    have m2 : Me W1 h5 ((Ls.take (i * 8) ++ (Ls8 ++ Ls.drop (i * 8 + 8))).flatten :: [(b, poH (wipeN P (i * 8) 8) ++ prs (bs.take (i * 8) ++ (bs8 ++ bs.drop (i * 8 + 8))), T)] :: E :: R) := by
      rw [hH]
      refine m.sub ⟨((Ls.drop (i * 8)).take 8).flatten, ?_⟩
      have eL : Ls.flatten = (Ls.take (i * 8)).flatten ++ (((Ls.drop (i * 8)).take 8).flatten ++ (Ls.drop (i * 8 + 8)).flatten) := by
        rw [← List.flatten_append, ← List.flatten_append]
        congr 1
        rw [← List.drop_drop, List.take_append_drop, List.take_append_drop]
      simp only [List.eraseIdx_cons_zero, List.eraseIdx_cons_succ, List.flatten_cons, List.flatten_append]
      rw [eL]
      exact permC fun c h0 hc => by simp only [hc, h0]; omega
    obtain ⟨L2, hv2, m3⟩ := PoV.shut (P := wipeN P (i * 8) 8) hqn m2
    exact ⟨W1, out, oc, vs, E, L2, hle, rfl, o, hs, hv2, m3.focus 1 rfl⟩
end
end Go.Proofs.YtpcilleldanfmaaDoor

/- The conditions for calls of functions of the program, in plain form: written by a program (vcgen) off the elaborated code; each is the reckoner's own, by the kernel. -/
set_option linter.unusedVariables false
set_option maxRecDepth 100000
namespace Go.Proofs.YtpcilleldanfmaaDoor
open Go.Vc
theorem vc_muezzinsee_Is (e : Value) (code : Int) (h0 : Heap) (Post : Value → Heap → Prop) (H :
Runs Tryd.prog 41 #[(.int .i64 code)] h0 fun r1 h1 =>
∃ cs1 : List Value,
r1 = (.agg (cs1).toArray) ∧
Runs Tryd.prog 40 #[e, (.agg (cs1).toArray)] h1 fun r2 h2 =>
∃ t1 : Bool,
r2 = (.bool t1) ∧
Post (.bool t1) h2) :
    Runs Tryd.prog 17 #[e, (.int .i64 code)] h0 Post :=
  runs_of (args := [e, (.int .i64 code)]) (fun n => ⟨true, false⟩) (fun _ => []) (fun _ => none) (fun _ => []) Tryd.func17 rfl (by rw [Tryd.ntmps17]; simp) (Eq.mp (by kernel_rfl) H)

theorem vc_muezzinsee_Same (e : Value) (f : List Value) (h0 : Heap) (Post : Value → Heap → Prop) (H :
∀ (b1 : Nat) (h1 : Heap), b1 = h0.size → h1 = h0.push (.cells (f).toArray 75) →
∃ cs1 : List Value, row h1 b1 0 3 = some cs1 ∧
Runs Tryd.prog 64 #[e] h1 fun r1 h2 =>
∃ cs2 : List Value,
r1 = (.agg (cs2).toArray) ∧
row h2 b1 0 3 = some (cs1) ∧
Runs Tryd.prog 63 #[(.agg (cs2).toArray), (.agg (cs1).toArray)] h2 fun r2 h3 =>
∃ t1 : Bool,
r2 = (.bool t1) ∧
Post (.bool t1) h3) :
    Runs Tryd.prog 40 #[e, (.agg (f).toArray)] h0 Post :=
  runs_of (args := [e, (.agg (f).toArray)]) (fun n => ⟨true, false⟩) (fun _ => []) (fun _ => none) (fun _ => []) Tryd.func40 rfl (by rw [Tryd.ntmps40]; simp) (Eq.mp (by kernel_rfl) H)

theorem vc_muezzinref_Bare (code : Int) (h0 : Heap) (Post : Value → Heap → Prop) (H :
∀ (b1 : Nat) (h1 : Heap), b1 = h0.size → h1 = h0.push (.cells ([(.int .i64 (0 : Int)), (.bool false), (.int .i64 (0 : Int))] : List Value).toArray 75) →
((([(.int .i64 code), (.bool false), (.int .i64 (0 : Int))] : List Value)).length = 3 ∧ wrs h1 b1 0 3 ∧ ∀ u ∈ (([(.int .i64 code), (.bool false), (.int .i64 (0 : Int))] : List Value) : List Value), u.oneCell' = true) ∧ ∀ h2 : Heap, h2 = setr h1 b1 0 ([(.int .i64 code), (.bool false), (.int .i64 (0 : Int))] : List Value) →
∃ cs1 : List Value, row h2 b1 0 3 = some cs1 ∧
Post (.agg (cs1).toArray) h2) :
    Runs Tryd.prog 41 #[(.int .i64 code)] h0 Post :=
  runs_of (args := [(.int .i64 code)]) (fun n => ⟨true, false⟩) (fun _ => []) (fun _ => none) (fun _ => []) Tryd.func41 rfl (by rw [Tryd.ntmps41]; simp) (Eq.mp (by kernel_rfl) H)

theorem vc_muezzinref_None  (h0 : Heap) (Post : Value → Heap → Prop) (H :
∀ (b1 : Nat) (h1 : Heap), b1 = h0.size → h1 = h0.push (.cells ([(.int .i64 (0 : Int)), (.bool false), (.int .i64 (0 : Int))] : List Value).toArray 75) →
((([(.int .i64 (0 : Int)), (.bool false), (.int .i64 (0 : Int))] : List Value)).length = 3 ∧ wrs h1 b1 0 3 ∧ ∀ u ∈ (([(.int .i64 (0 : Int)), (.bool false), (.int .i64 (0 : Int))] : List Value) : List Value), u.oneCell' = true) ∧ ∀ h2 : Heap, h2 = setr h1 b1 0 ([(.int .i64 (0 : Int)), (.bool false), (.int .i64 (0 : Int))] : List Value) →
∃ cs1 : List Value, row h2 b1 0 3 = some cs1 ∧
Post (.agg (cs1).toArray) h2) :
    Runs Tryd.prog 79 #[] h0 Post :=
  runs_of (args := []) (fun n => ⟨true, false⟩) (fun _ => []) (fun _ => none) (fun _ => []) Tryd.func79 rfl (by rw [Tryd.ntmps79]; simp) (Eq.mp (by kernel_rfl) H)

theorem vc_muezzinref_Placed (code : Int) (pos : Int) (h0 : Heap) (Post : Value → Heap → Prop) (H :
∀ (b1 : Nat) (h1 : Heap), b1 = h0.size → h1 = h0.push (.cells ([(.int .i64 (0 : Int)), (.bool false), (.int .i64 (0 : Int))] : List Value).toArray 75) →
bcase (decide (code = (0 : Int))) (
Runs Tryd.prog 79 #[] h1 fun r1 h2 =>
∃ cs1 : List Value,
r1 = (.agg (cs1).toArray) ∧
(((cs1)).length = 3 ∧ wrs h2 b1 0 3 ∧ ∀ u ∈ ((cs1) : List Value), u.oneCell' = true) ∧ ∀ h3 : Heap, h3 = setr h2 b1 0 (cs1) →
∃ cs2 : List Value, row h3 b1 0 3 = some cs2 ∧
Post (.agg (cs2).toArray) h3) (
((([(.int .i64 code), (.bool true), (.int .i64 pos)] : List Value)).length = 3 ∧ wrs h1 b1 0 3 ∧ ∀ u ∈ (([(.int .i64 code), (.bool true), (.int .i64 pos)] : List Value) : List Value), u.oneCell' = true) ∧ ∀ h4 : Heap, h4 = setr h1 b1 0 ([(.int .i64 code), (.bool true), (.int .i64 pos)] : List Value) →
∃ cs3 : List Value, row h4 b1 0 3 = some cs3 ∧
Post (.agg (cs3).toArray) h4)) :
    Runs Tryd.prog 81 #[(.int .i64 code), (.int .i64 pos)] h0 Post :=
  runs_of (args := [(.int .i64 code), (.int .i64 pos)]) (fun n => ⟨true, false⟩) (fun _ => []) (fun _ => none) (fun _ => []) Tryd.func81 rfl (by rw [Tryd.ntmps81]; simp) (Eq.mp (by kernel_rfl) H)

theorem vc_muezzinref_SameFault (a : List Value) (b : List Value) (h0 : Heap) (Post : Value → Heap → Prop) (H :
∀ (b1 : Nat) (h1 : Heap), b1 = h0.size → h1 = h0.push (.cells (a).toArray 75) →
∀ (b2 : Nat) (h2 : Heap), b2 = h1.size → h2 = h1.push (.cells (b).toArray 75) →
∃ n1 : Int, cell h2 b1 0 = some (.int .i64 n1) ∧
∃ n2 : Int, cell h2 b2 0 = some (.int .i64 n2) ∧
bcase (decide (n1 = n2)) (
∃ t1 : Bool, cell h2 b1 1 = some (.bool t1) ∧
∃ t2 : Bool, cell h2 b2 1 = some (.bool t2) ∧
bcase (t1 == t2) (
∃ n3 : Int, cell h2 b1 2 = some (.int .i64 n3) ∧
∃ n4 : Int, cell h2 b2 2 = some (.int .i64 n4) ∧
Post (.bool (decide (n3 = n4))) h2) (
Post (.bool false) h2)) (
Post (.bool false) h2)) :
    Runs Tryd.prog 63 #[(.agg (a).toArray), (.agg (b).toArray)] h0 Post :=
  runs_of (args := [(.agg (a).toArray), (.agg (b).toArray)]) (fun n => ⟨true, false⟩) (fun _ => []) (fun _ => none) (fun _ => []) Tryd.func63 rfl (by rw [Tryd.ntmps63]; simp) (Eq.mp (by kernel_rfl) H)

theorem vc_muezzinsee_Fault (e : Value) (h0 : Heap) (Post : Value → Heap → Prop) (H :
∀ (b1 : Nat) (h1 : Heap), b1 = h0.size → h1 = h0.push (.cells ([(.int .i64 (0 : Int)), (.bool false), (.int .i64 (0 : Int))] : List Value).toArray 75) →
∃ t1 : Bool, ifeqH Tryd.prog h1 true (e) (.nilIface) = some t1 ∧
bcase t1 (
Runs Tryd.prog 79 #[] h1 fun r1 h2 =>
∃ cs1 : List Value,
r1 = (.agg (cs1).toArray) ∧
(((cs1)).length = 3 ∧ wrs h2 b1 0 3 ∧ ∀ u ∈ ((cs1) : List Value), u.oneCell' = true) ∧ ∀ h3 : Heap, h3 = setr h2 b1 0 (cs1) →
∃ cs2 : List Value, row h3 b1 0 3 = some cs2 ∧
Post (.agg (cs2).toArray) h3) (
∃ p1 : Option Addr,
∃ t2 : Bool, asr Tryd.prog 129 (e) = some ((.pointer p1), t2) ∧
bcase (!t2) (
Runs Tryd.prog 80 #[e] h1 fun r2 h4 =>
∃ n1 : Int,
r2 = (.int .i64 n1) ∧
Runs Tryd.prog 41 #[(.int .i64 n1)] h4 fun r3 h5 =>
∃ cs3 : List Value,
r3 = (.agg (cs3).toArray) ∧
(((cs3)).length = 3 ∧ wrs h5 b1 0 3 ∧ ∀ u ∈ ((cs3) : List Value), u.oneCell' = true) ∧ ∀ h6 : Heap, h6 = setr h5 b1 0 (cs3) →
∃ cs4 : List Value, row h6 b1 0 3 = some cs4 ∧
Post (.agg (cs4).toArray) h6) (
bcase (isNilAddr p1) (
Runs Tryd.prog 41 #[(.int .i64 (-1 : Int))] h1 fun r4 h7 =>
∃ cs5 : List Value,
r4 = (.agg (cs5).toArray) ∧
(((cs5)).length = 3 ∧ wrs h7 b1 0 3 ∧ ∀ u ∈ ((cs5) : List Value), u.oneCell' = true) ∧ ∀ h8 : Heap, h8 = setr h7 b1 0 (cs5) →
∃ cs6 : List Value, row h8 b1 0 3 = some cs6 ∧
Post (.agg (cs6).toArray) h8) (
onAddr p1 fun b2 o1 =>
∃ v1 : Value, cell h1 b2 (o1 + 1) = some v1 ∧
∃ t3 : Bool, ifeqH Tryd.prog h1 true (v1) (.nilIface) = some t3 ∧
bcase t3 (
Runs Tryd.prog 41 #[(.int .i64 (-1 : Int))] h1 fun r5 h9 =>
∃ cs7 : List Value,
r5 = (.agg (cs7).toArray) ∧
(((cs7)).length = 3 ∧ wrs h9 b1 0 3 ∧ ∀ u ∈ ((cs7) : List Value), u.oneCell' = true) ∧ ∀ h10 : Heap, h10 = setr h9 b1 0 (cs7) →
∃ cs8 : List Value, row h10 b1 0 3 = some cs8 ∧
Post (.agg (cs8).toArray) h10) (
onAddr p1 fun b3 o2 =>
∃ v2 : Value, cell h1 b3 (o2 + 1) = some v2 ∧
onAddr p1 fun b4 o3 =>
∃ n2 : Int, cell h1 b4 o3 = some (.int .i64 n2) ∧
Runs Tryd.prog 80 #[v2] h1 fun r6 h11 =>
∃ n3 : Int,
r6 = (.int .i64 n3) ∧
cell h11 b4 o3 = some (.int .i64 n2) ∧
Runs Tryd.prog 81 #[(.int .i64 n3), (.int .i64 n2)] h11 fun r7 h12 =>
∃ cs9 : List Value,
r7 = (.agg (cs9).toArray) ∧
(((cs9)).length = 3 ∧ wrs h12 b1 0 3 ∧ ∀ u ∈ ((cs9) : List Value), u.oneCell' = true) ∧ ∀ h13 : Heap, h13 = setr h12 b1 0 (cs9) →
∃ cs10 : List Value, row h13 b1 0 3 = some cs10 ∧
Post (.agg (cs10).toArray) h13))))) :
    Runs Tryd.prog 64 #[e] h0 Post :=
  runs_of (args := [e]) (fun n => ⟨true, false⟩) (fun _ => []) (fun _ => none) (fun _ => []) Tryd.func64 rfl (by rw [Tryd.ntmps64]; simp) (Eq.mp (by kernel_rfl) H)

theorem vc_muezzinsee_sentinel (e : Value) (h0 : Heap) (Post : Value → Heap → Prop) (H :
Runs Tryd.prog 87 #[] h0 fun r1 h1 =>
∃ (s1 : Option Addr) (s1l s1c : Nat),
r1 = (.slice s1 s1l s1c) ∧
∃ (I1 : Int → Heap → Prop) (m1 : Int → Heap → Nat), I1 (0 : Int) h1 ∧ ∀ _ : Env,
∀ (i_1 : Int) (h2 : Heap), I1 i_1 h2 →
bcase (decide (i_1 < ((s1l : Nat) : Int))) (
(0 ≤ i_1 ∧ i_1 < ((s1l : Nat) : Int)) ∧
onAddr s1 fun b1 o1 =>
∃ v1 : Value, cell h2 b1 (o1 + (i_1).toNat) = some v1 ∧
Runs Tryd.prog 88 #[e, v1] h2 fun r2 h3 =>
∃ t1 : Bool,
r2 = (.bool t1) ∧
bcase t1 (
fits .i64 ((101 : Int) + i_1) ∧
Post (.int .i64 ((101 : Int) + i_1)) h3) (
fits .i64 (i_1 + (1 : Int)) ∧
I1 (i_1 + (1 : Int)) h3 ∧ m1 (i_1 + (1 : Int)) h3 < m1 i_1 h2)) (
Post (.int .i64 (-1 : Int)) h2)) :
    Runs Tryd.prog 80 #[e] h0 Post :=
  runs_of (args := [e]) (fun n => ⟨true, false⟩) (fun n => match n with | 0 => [(4, .int .i64)] | _ => []) (fun _ => none) (fun _ => []) Tryd.func80 rfl (by rw [Tryd.ntmps80]; simp) (Eq.mp (by kernel_rfl) H)

theorem vc_muezzinsee_sentinels  (h0 : Heap) (Post : Value → Heap → Prop) (H :
∃ v1 : Value, cell h0 1 0 = some v1 ∧
∃ v2 : Value, cell h0 2 0 = some v2 ∧
∃ v3 : Value, cell h0 0 0 = some v3 ∧
∃ v4 : Value, cell h0 3 0 = some v4 ∧
∃ v5 : Value, cell h0 4 0 = some v5 ∧
∃ v6 : Value, cell h0 5 0 = some v6 ∧
∃ v7 : Value, cell h0 6 0 = some v7 ∧
∃ v8 : Value, cell h0 7 0 = some v8 ∧
∃ v9 : Value, cell h0 8 0 = some v9 ∧
∃ v10 : Value, cell h0 9 0 = some v10 ∧
∃ v11 : Value, cell h0 10 0 = some v11 ∧
∃ v12 : Value, cell h0 11 0 = some v12 ∧
∃ v13 : Value, cell h0 12 0 = some v13 ∧
∃ v14 : Value, cell h0 13 0 = some v14 ∧
partv 1 v1 fun cs1 =>
partv 1 v2 fun cs2 =>
partv 1 v3 fun cs3 =>
partv 1 v4 fun cs4 =>
partv 1 v5 fun cs5 =>
partv 1 v6 fun cs6 =>
partv 1 v7 fun cs7 =>
partv 1 v8 fun cs8 =>
partv 1 v9 fun cs9 =>
partv 1 v10 fun cs10 =>
partv 1 v11 fun cs11 =>
partv 1 v12 fun cs12 =>
partv 1 v13 fun cs13 =>
partv 1 v14 fun cs14 =>
∀ (b1 : Nat) (h1 : Heap), b1 = h0.size → h1 = h0.push (.cells ((cs1 ++ (cs2 ++ (cs3 ++ (cs4 ++ (cs5 ++ (cs6 ++ (cs7 ++ (cs8 ++ (cs9 ++ (cs10 ++ (cs11 ++ (cs12 ++ (cs13 ++ (cs14 ++ []))))))))))))))).toArray 26) →
Post (.slice (some ⟨b1, 0, none⟩) 14 14) h1) :
    Runs Tryd.prog 87 #[] h0 Post :=
  runs_of (args := []) (fun n => ⟨true, false⟩) (fun _ => []) (fun _ => none) (fun _ => []) Tryd.func87 rfl (by rw [Tryd.ntmps87]; simp) (Eq.mp (by kernel_rfl) H)

theorem vc_muezzinsee_Alike (a : Value) (b : Value) (h0 : Heap) (Post : Value → Heap → Prop) (H :
∃ t1 : Bool, ifeqH Tryd.prog h0 true (a) (.nilIface) = some t1 ∧
bcase t1 (
∃ t2 : Bool, ifeqH Tryd.prog h0 true (a) (.nilIface) = some t2 ∧
bcase t2 (
∃ t3 : Bool, ifeqH Tryd.prog h0 true (b) (.nilIface) = some t3 ∧
Post (.bool t3) h0) (
Post (.bool false) h0)) (
∃ t4 : Bool, ifeqH Tryd.prog h0 true (b) (.nilIface) = some t4 ∧
bcase t4 (
∃ t5 : Bool, ifeqH Tryd.prog h0 true (a) (.nilIface) = some t5 ∧
bcase t5 (
∃ t6 : Bool, ifeqH Tryd.prog h0 true (b) (.nilIface) = some t6 ∧
Post (.bool t6) h0) (
Post (.bool false) h0)) (
∃ t7 : Bool, ifeqH Tryd.prog h0 false (a) (b) = some t7 ∧
Post (.bool t7) h0))) :
    Runs Tryd.prog 88 #[a, b] h0 Post :=
  runs_of (args := [a, b]) (fun n => ⟨true, false⟩) (fun _ => []) (fun _ => none) (fun _ => []) Tryd.func88 rfl (by rw [Tryd.ntmps88]; simp) (Eq.mp (by kernel_rfl) H)
end Go.Proofs.YtpcilleldanfmaaDoor

/- Errors: the sentinels of package api in memory; what muezzinsee tells of an error. -/
set_option linter.unusedVariables false
set_option linter.unusedSimpArgs false
namespace Go.Proofs.YtpcilleldanfmaaDoor
open Go.Vc
/-- The variables of api's errors, in order. -/
def errG : List Nat := [1, 2, 0, 3, 4, 5, 6, 7, 8, 9, 10, 11, 12, 13]
def ptE (a : Addr) : Value := .iface 156 (.pointer (some a))
structure Snt (W : Wd) (ads : List Addr) : Prop where
  n : ads.length = 14
  nd : ads.Nodup
  v : ∀ (i : Nat) (a : Addr) (g : Nat), ads[i]? = some a → errG[i]? = some g → wcell W g 0 = some (ptE a)
  pl : ∀ a ∈ ads, ∃ c t, W a.block = some (.cells c t (0, 0))
/-- An error: none, or one of the sentinels. -/
abbrev Er := Option Nat
def erV (ads : List Addr) : Er → Value
  | none => .nilIface
  | some i => match ads[i]? with | some a => ptE a | none => .nilIface
def erC : Er → Int
  | none => 0
  | some i => 101 + i
section
variable {W W' : Wd} {h h' : Heap} {G : List Grp} {ads : List Addr} {a b : Addr} {i j : Nat} {e : Er} {c : Bool}
theorem Snt.le (hl : W.le W') (s : Snt W ads) : Snt W' ads :=
  ⟨s.n, s.nd, fun i a g h1 h2 => wcell_le hl (s.v i a g h1 h2), fun a ha => by obtain ⟨c, t, h⟩ := s.pl a ha; exact ⟨c, t, hl _ _ h⟩⟩
theorem Snt.get (s : Snt W ads) (hi : i < 14) : ∃ a, ads[i]? = some a ∧ erV ads (some i) = ptE a := by
  have hlt : i < ads.length := by rw [s.n]; exact hi
  refine ⟨ads[i], List.getElem?_eq_getElem hlt, ?_⟩
  unfold erV; dsimp only; rw [List.getElem?_eq_getElem hlt]
theorem Snt.plain (s : Snt W ads) (m : Me W h G) (hi : ads[i]? = some a) : plainB h a.block = true := by
  obtain ⟨c, t, e⟩ := s.pl a (List.mem_of_getElem? hi)
  unfold plainB
  rw [m.keep _ _ e]
  rfl
theorem Snt.inj (s : Snt W ads) (hi : ads[i]? = some a) (hj : ads[j]? = some a) : i = j := by
  obtain ⟨h1, e1⟩ := List.getElem?_eq_some_iff.1 hi
  obtain ⟨h2, e2⟩ := List.getElem?_eq_some_iff.1 hj
  have hp := List.pairwise_iff_getElem.1 s.nd
  rcases Nat.lt_trichotomy i j with h | h | h
  · exact absurd (e1.trans e2.symm) (hp i j h1 h2 h)
  · exact h
  · exact absurd (e2.trans e1.symm) (hp j i h2 h1 h)
/-- The variable of a sentinel, read. -/
theorem Snt.var (s : Snt W ads) (m : Me W h G) {g : Nat} (hg : errG[i]? = some g) (hi : i < 14) : cell h g 0 = some (erV ads (some i)) := by
  obtain ⟨a, h1, h2⟩ := s.get hi
  rw [h2]; exact m.wcell (s.v i a g h1 hg)
theorem ifeqH_nilR : ifeqH Tryd.prog h c (ptE a) .nilIface = some false := rfl
theorem ifeqH_nilL : ifeqH Tryd.prog h c .nilIface (ptE a) = some false := rfl
theorem ifeqH_nil : ifeqH Tryd.prog h true .nilIface .nilIface = some true := rfl
theorem ptE_ok : ptrOk Tryd.prog 156 = true := by kernel_rfl
theorem ifeqH_pt : ifeqH Tryd.prog h c (ptE a) (ptE b) = sameA h a b := by
  unfold ifeqH ptE
  simp only [Nat.beq_refl, ptE_ok]
theorem Snt.same (s : Snt W ads) (m : Me W h G) (hi : ads[i]? = some a) (hj : ads[j]? = some b) : ifeqH Tryd.prog h c (ptE a) (ptE b) = some (decide (i = j)) := by
  rw [ifeqH_pt]
  unfold sameA
  by_cases hab : a = b
  · subst hab
    rw [if_pos rfl, s.inj hi hj]
    simp
  · rw [if_neg hab, s.plain m hi, s.plain m hj]
    have : i ≠ j := fun e => by subst e; rw [hi] at hj; exact hab (Option.some.inj hj)
    simp [this]
theorem asr_at : asr Tryd.prog 129 (ptE a) = some (.pointer none, false) := by kernel_rfl
theorem alike_c (s : Snt W ads) (m : Me W h G) (hi : ads[i]? = some a) (hj : ads[j]? = some b) : Runs Tryd.prog 88 #[ptE a, ptE b] h fun v h' => v = .bool (decide (i = j)) ∧ h' = h := by
  refine vc_muezzinsee_Alike _ _ _ _ ⟨_, ifeqH_nilR, bcase_false rfl ⟨_, ifeqH_nilR, bcase_false rfl ⟨_, s.same m hi hj, rfl, rfl⟩⟩⟩
theorem sentinels_c (s : Snt W ads) (m : Me W h G) : Runs Tryd.prog 87 #[] h fun v h' => ∃ b T, v = .slice (some ⟨b, 0, none⟩) 14 14 ∧ Me W h' ([(b, ads.map ptE, T)] :: G) := by
  have hv := fun (i : Nat) (a : Addr) (g : Nat) h1 h2 => m.wcell (s.v i a g h1 h2)
  obtain ⟨a0, a1, a2, a3, a4, a5, a6, a7, a8, a9, a10, a11, a12, a13, rfl⟩ : ∃ a0 a1 a2 a3 a4 a5 a6 a7 a8 a9 a10 a11 a12 a13, ads = [a0, a1, a2, a3, a4, a5, a6, a7, a8, a9, a10, a11, a12, a13] := by
    have hn := s.n
    match ads, hn with
    | [a0, a1, a2, a3, a4, a5, a6, a7, a8, a9, a10, a11, a12, a13], _ => exact ⟨_, _, _, _, _, _, _, _, _, _, _, _, _, _, rfl⟩
  refine vc_muezzinsee_sentinels _ _ ⟨_, hv 0 _ _ rfl rfl, _, hv 1 _ _ rfl rfl, _, hv 2 _ _ rfl rfl, _, hv 3 _ _ rfl rfl, _, hv 4 _ _ rfl rfl, _, hv 5 _ _ rfl rfl, _, hv 6 _ _ rfl rfl, _, hv 7 _ _ rfl rfl, _, hv 8 _ _ rfl rfl, _, hv 9 _ _ rfl rfl, _, hv 10 _ _ rfl rfl, _, hv 11 _ _ rfl rfl, _, hv 12 _ _ rfl rfl, _, hv 13 _ _ rfl rfl, ?_⟩
  intro b1 h1 e1 e2
  exact ⟨b1, _, rfl, m.push e2 e1⟩
theorem sentinel_c (s : Snt W ads) (m : Me W h G) (hi : i < 14) : Runs Tryd.prog 80 #[erV ads (some i)] h fun v h' => v = .int .i64 (101 + (i : Int)) ∧ Me W h' G := by
  obtain ⟨a, ha, e⟩ := s.get hi
  rw [e]
  refine vc_muezzinsee_sentinel _ _ _ ((sentinels_c s m).mono ?_)
  rintro _ h1 ⟨b, T, rfl, m⟩
  refine ⟨_, _, _, rfl, fun x h' => ∃ k : Nat, x = k ∧ k ≤ i ∧ Me W h' ([(b, ads.map ptE, T)] :: G), fun x _ => (14 - x).toNat, ⟨0, rfl, by omega, m⟩, fun _ => ?_⟩
  clear m
  rintro _ h2 ⟨k, rfl, hk, m⟩
  obtain ⟨c, hc, _⟩ := s.get (i := k) (by omega)
  refine dcase_pos (by omega) ⟨⟨by omega, by omega⟩, _, m.cell 0 rfl (v := ptE c) (by simp [hc]), ?_⟩
  refine (alike_c s m ha hc).mono ?_
  rintro _ h3 ⟨rfl, rfl⟩
  refine ⟨_, rfl, dcase_intro (fun q => ?_) fun q => ?_⟩
  · subst q
    exact ⟨by simp only [fits]; omega, rfl, m.drop1⟩
  · exact ⟨by simp only [fits]; omega, ⟨k + 1, by omega, by omega, m⟩, by (try dsimp only); omega⟩
theorem bare_c (m : Me W h G) (n : Int) : Runs Tryd.prog 41 #[.int .i64 n] h fun v h' => v = .agg #[.int .i64 n, .bool false, .int .i64 0] ∧ Me W h' G := by
  refine vc_muezzinref_Bare _ _ _ ?_
  (intro bN hN1 eN1 eN2; replace m := m.push eN2 eN1; clear eN1 eN2)
  refine ⟨⟨rfl, m.wrsb 0 rfl rfl, by simp [Value.oneCell']⟩, ?_⟩
  intro h2 e3
  replace m := m.setr 0 rfl e3
  exact ⟨_, m.rowb 0 rfl rfl rfl, rfl, m.drop1⟩
theorem noneF_c (m : Me W h G) : Runs Tryd.prog 79 #[] h fun v h' => v = .agg #[.int .i64 0, .bool false, .int .i64 0] ∧ Me W h' G := by
  refine vc_muezzinref_None _ _ ?_
  (intro bN hN1 eN1 eN2; replace m := m.push eN2 eN1; clear eN1 eN2)
  refine ⟨⟨rfl, m.wrsb 0 rfl rfl, by simp [Value.oneCell']⟩, ?_⟩
  intro h2 e3
  replace m := m.setr 0 rfl e3
  exact ⟨_, m.rowb 0 rfl rfl rfl, rfl, m.drop1⟩
theorem fault_c (s : Snt W ads) (m : Me W h G) (he : ∀ i, e = some i → i < 14) : Runs Tryd.prog 64 #[erV ads e] h fun v h' => v = .agg #[.int .i64 (erC e), .bool false, .int .i64 0] ∧ Me W h' G := by
  refine vc_muezzinsee_Fault _ _ _ ?_
  (intro bN hN1 eN1 eN2; replace m := m.push eN2 eN1; clear eN1 eN2)
  cases e with
  | none =>
    refine ⟨_, ifeqH_nil, bcase_true rfl ((noneF_c m).mono ?_)⟩
    rintro _ h2 ⟨rfl, m⟩
    refine ⟨[.int .i64 0, .bool false, .int .i64 0], rfl, ⟨rfl, m.wrsb 0 rfl rfl, by simp [Value.oneCell']⟩, ?_⟩
    intro h3 e3
    replace m := m.setr 0 rfl e3
    exact ⟨_, m.rowb 0 rfl rfl rfl, rfl, m.drop1⟩
  | some i =>
    have hi := he i rfl
    obtain ⟨a, ha, e1⟩ := s.get hi
    have hn : ifeqH Tryd.prog hN1 true (erV ads (some i)) .nilIface = some false := by rw [e1]; exact ifeqH_nilR
    refine ⟨_, hn, bcase_false rfl ⟨none, false, by rw [e1]; exact asr_at, bcase_true rfl ((sentinel_c s m hi).mono ?_)⟩⟩
    rintro _ h2 ⟨rfl, m⟩
    refine ⟨_, rfl, (bare_c m _).mono ?_⟩
    rintro _ h3 ⟨rfl, m⟩
    refine ⟨[.int .i64 (101 + (i : Int)), .bool false, .int .i64 0], rfl, ⟨rfl, m.wrsb 0 rfl rfl, by simp [Value.oneCell']⟩, ?_⟩
    intro h4 e3
    replace m := m.setr 0 rfl e3
    exact ⟨_, m.rowb 0 rfl rfl rfl, rfl, m.drop1⟩
theorem sameFault_c (m : Me W h G) (x y : Int) : Runs Tryd.prog 63 #[.agg #[.int .i64 x, .bool false, .int .i64 0], .agg #[.int .i64 y, .bool false, .int .i64 0]] h fun v h' => v = .bool (decide (x = y)) ∧ Me W h' G := by
  refine vc_muezzinref_SameFault [.int .i64 x, .bool false, .int .i64 0] [.int .i64 y, .bool false, .int .i64 0] _ _ ?_
  intro b1 h1 e1 e2 b2 h2 e3 e4
  replace m := (m.push e2 e1).push e4 e3
  refine ⟨_, m.cell 1 rfl rfl, _, m.cell 0 rfl rfl, dcase_intro (fun q => ?_) fun q => ⟨by simp [q], m.drop1.drop1⟩⟩
  refine ⟨_, m.cell 1 rfl rfl, _, m.cell 0 rfl rfl, bcase_true rfl ⟨_, m.cell 1 rfl rfl, _, m.cell 0 rfl rfl, by simp [q], m.drop1.drop1⟩⟩
/-- Is an error this one? -/
theorem is_c (s : Snt W ads) (m : Me W h G) (he : ∀ i, e = some i → i < 14) (n : Int) : Runs Tryd.prog 17 #[erV ads e, .int .i64 n] h fun v h' => v = .bool (decide (erC e = n)) ∧ Me W h' G := by
  refine vc_muezzinsee_Is _ _ _ _ ((bare_c m n).mono ?_)
  rintro _ h1 ⟨rfl, m⟩
  refine ⟨[.int .i64 n, .bool false, .int .i64 0], rfl, vc_muezzinsee_Same _ _ _ _ ?_⟩
  (intro bN hN1 eN1 eN2; replace m := m.push eN2 eN1; clear eN1 eN2)
  refine ⟨_, m.rowb 0 rfl rfl rfl, (fault_c s m he).mono ?_⟩
  rintro _ h2 ⟨rfl, m⟩
  refine ⟨[.int .i64 (erC e), .bool false, .int .i64 0], rfl, m.rowb 0 rfl rfl rfl, (sameFault_c m _ _).mono ?_⟩
  rintro _ h3 ⟨rfl, m⟩
  exact ⟨_, rfl, _, rfl, rfl, m.drop1⟩
end
end Go.Proofs.YtpcilleldanfmaaDoor

/- The conditions for calls of functions of the program, in plain form: written by a program (vcgen) off the elaborated code; each is the reckoner's own, by the kernel. -/
set_option linter.unusedVariables false
set_option maxRecDepth 100000
namespace Go.Proofs.YtpcilleldanfmaaDoor
open Go.Vc
theorem vc_muezzinworld_Number (n : Int) (below : Int) (h0 : Heap) (Post : Value → Heap → Prop) (H :
below ≠ 0 ∧
bcase (decide (((n).tmod below) < (0 : Int))) (
fits .i64 (((n).tmod below) + below) ∧
Post (.int .i64 (((n).tmod below) + below)) h0) (
Post (.int .i64 ((n).tmod below)) h0)) :
    Runs Tryd.prog 8 #[(.int .i64 n), (.int .i64 below)] h0 Post :=
  runs_of (args := [(.int .i64 n), (.int .i64 below)]) (fun n => ⟨!memB n [1, 2], false⟩) (fun _ => []) (fun _ => none) (fun _ => []) Tryd.func8 rfl (by rw [Tryd.ntmps8]; simp) (Eq.mp (by kernel_rfl) H)
end Go.Proofs.YtpcilleldanfmaaDoor

/- The contract of muezzinworld.Number; what a literal of a kind may be. -/
set_option linter.unusedVariables false
namespace Go.Proofs.YtpcilleldanfmaaDoor
open Go.Vc

theorem tmod_cases (n m : Int) (hm : 0 < m) : (n.tmod m < 0 ∧ n.tmod m + m = n % m) ∨ (0 ≤ n.tmod m ∧ n.tmod m = n % m) := by
  have h1 := Int.emod_lt_of_pos n hm
  have h2 := Int.emod_nonneg n (show m ≠ 0 by omega)
  by_cases hn : 0 ≤ n
  · rw [Int.tmod_eq_emod_of_nonneg hn]; omega
  · have := Int.tmod_eq_emod (a := n) (b := m)
    split at this <;> omega
theorem number_c (n m : Int) (h : Heap) (hm : 0 < m) (hm2 : m ≤ 4611686018427387904) :
    Runs Tryd.prog 8 #[.int .i64 n, .int .i64 m] h fun v h' => v = .int .i64 (n % m) ∧ h' = h := by
  have h1 := Int.emod_lt_of_pos n hm
  refine vc_muezzinworld_Number _ _ _ _ ⟨by omega, ?_⟩
  have h0 := Int.emod_nonneg n (show m ≠ 0 by omega)
  rcases tmod_cases n m hm with ⟨h2, h3⟩ | ⟨h2, h3⟩
  · refine dcase_pos h2 ⟨by simp only [fits]; omega, by rw [h3], rfl⟩
  · refine dcase_neg (by omega) ⟨by rw [h3], rfl⟩
theorem wf_u32 {a : Int} (h : (Lit.int .u32 a).wf = true) : 0 ≤ a ∧ a < 4294967296 := by
  simp only [Lit.wf, Bool.and_eq_true, decide_eq_true_eq] at h
  exact ⟨h.1, Int.lt_of_le_of_lt h.2 (by decide)⟩
theorem wf_u64 {a : Int} (h : (Lit.int .u64 a).wf = true) : 0 ≤ a ∧ a < 18446744073709551616 := by
  simp only [Lit.wf, Bool.and_eq_true, decide_eq_true_eq] at h
  exact ⟨h.1, Int.lt_of_le_of_lt h.2 (by decide)⟩
theorem wf_i64 {a : Int} (h : (Lit.int .i64 a).wf = true) : -9223372036854775808 ≤ a ∧ a ≤ 9223372036854775807 := by
  simp only [Lit.wf, Bool.and_eq_true, decide_eq_true_eq] at h
  exact ⟨h.1, h.2⟩
end Go.Proofs.YtpcilleldanfmaaDoor

/- The conditions for calls of functions of the program, in plain form: written by a program (vcgen) off the elaborated code; each is the reckoner's own, by the kernel. -/
set_option linter.unusedVariables false
set_option maxRecDepth 100000
namespace Go.Proofs.YtpcilleldanfmaaDoor
open Go.Vc
theorem vc_muezzinlaw14_first  (h0 : Heap) (Post : Value → Heap → Prop) (H :
Runs Tryd.prog 9 #[(.int .u32 (1 : Int)), (.int .i64 (5 : Int)), (.int .i64 (100 : Int)), (.int .i64 (2 : Int)), (.int .i64 (100 : Int))] h0 fun r1 h1 =>
∃ p1 : Option Addr,
∃ v1 : Value,
r1 = (.tuple #[(.pointer p1), v1]) ∧
∃ J1 : Bool → Heap → Prop, (
bcase (isNilAddr p1) (
J1 true h1) (
∃ t1 : Bool, ifeqH Tryd.prog h1 true (v1) (.nilIface) = some t1 ∧
J1 (!t1) h1)) ∧ ∀ _ : Env,
∀ (x1 : Bool) (h2 : Heap), J1 x1 h2 →
bcase x1 (
Post (.bool false) h2) (
Runs Tryd.prog 12 #[(.pointer p1), (.int .i64 (1 : Int)), (.int .i64 (0 : Int))] h2 fun r2 h3 =>
∃ t2 : Bool,
r2 = (.bool t2) ∧
bcase t2 (
Post (.bool false) h3) (
Runs Tryd.prog 10 #[(.pointer p1), (.int .i64 (1 : Int)), (.agg #[(.int .i64 (3 : Int)), (.int .u32 (0 : Int)), (.int .i64 (0 : Int)), (.int .i64 (0 : Int)), (.slice none 0 0)])] h3 fun r3 h4 =>
∃ (s1 : Option Addr) (s1l s1c : Nat),
∃ v2 : Value,
r3 = (.tuple #[(.slice s1 s1l s1c), v2]) ∧
∃ J2 : Bool → Heap → Prop, (
∃ t3 : Bool, ifeqH Tryd.prog h4 true (v2) (.nilIface) = some t3 ∧
bcase t3 (
J2 (decide (((s1l : Nat) : Int) = (0 : Int))) h4) (
J2 false h4)) ∧ ∀ _ : Env,
∀ (x2 : Bool) (h5 : Heap), J2 x2 h5 →
∃ J3 : Bool → Heap → Prop, (
bcase x2 (
Runs Tryd.prog 13 #[(.pointer p1)] h5 fun r4 h6 =>
∃ n1 : Int,
r4 = (.int .i64 n1) ∧
J3 (decide (n1 = (1 : Int))) h6) (
J3 false h5)) ∧ ∀ _ : Env,
∀ (x3 : Bool) (h7 : Heap), J3 x3 h7 →
bcase x3 (
Runs Tryd.prog 12 #[(.pointer p1), (.int .i64 (1 : Int)), (.int .i64 (0 : Int))] h7 fun r5 h8 =>
∃ t4 : Bool,
r5 = (.bool t4) ∧
Post (.bool t4) h8) (
Post (.bool false) h7)))) :
    Runs Tryd.prog 7 #[] h0 Post :=
  runs_of (args := []) (fun n => ⟨true, false⟩) (fun _ => []) (fun _ => none) (fun n => match n with | 2 => [(6, [(14, .bool)])] | 5 => [(7, [(31, .bool)]), (5, [(36, .bool)])] | _ => []) Tryd.func7 rfl (by rw [Tryd.ntmps7]; simp) (Eq.mp (by kernel_rfl) H)

theorem vc_muezzinlaw14_PoolFattest (n : Int) (aid : Int) (tid : Int) (h0 : Heap) (Post : Value → Heap → Prop) (H :
Runs Tryd.prog 7 #[] h0 fun r1 h1 =>
∃ t1 : Bool,
r1 = (.bool t1) ∧
bcase (!t1) (
Post (.bool false) h1) (
Runs Tryd.prog 8 #[(.int .i64 n), (.int .i64 (12 : Int))] h1 fun r2 h2 =>
∃ n1 : Int,
r2 = (.int .i64 n1) ∧
fits .i64 (n1 + (4 : Int)) ∧
Runs Tryd.prog 8 #[(.int .i64 aid), (.int .i64 (15 : Int))] h2 fun r3 h3 =>
∃ n2 : Int,
r3 = (.int .i64 n2) ∧
fits .i64 (n2 + (2 : Int)) ∧
Runs Tryd.prog 8 #[(.int .i64 tid), (.int .i64 (8 : Int))] h3 fun r4 h4 =>
∃ n3 : Int,
r4 = (.int .i64 n3) ∧
Runs Tryd.prog 9 #[(.int .u32 (3 : Int)), (.int .i64 (50 : Int)), (.int .i64 (1000 : Int)), (.int .i64 (n1 + (4 : Int))), (.int .i64 (1048576 : Int))] h4 fun r5 h5 =>
∃ p1 : Option Addr,
∃ v1 : Value,
r5 = (.tuple #[(.pointer p1), v1]) ∧
bcase (isNilAddr p1) (
Post (.bool false) h5) (
∃ t2 : Bool, ifeqH Tryd.prog h5 true (v1) (.nilIface) = some t2 ∧
bcase (!t2) (
Post (.bool false) h5) (
(0 ≤ (10 : Int) ∧ (10 : Int) ≤ (10 : Int) ∧ ((1 : Nat) : Int) * (10 : Int) ≤ 281474976710656 ∧ (10 : Int) ≤ 9223372036854775807) ∧ ∀ (b1 : Nat) (h6 : Heap), b1 = h5.size → h6 = h5.push (.cells (joinL (List.replicate 10 [(.int .u8 (0 : Int))])).toArray 5) →
Runs Tryd.prog 10 #[(.pointer p1), (.int .i64 (1 : Int)), (.agg #[(.int .i64 (1 : Int)), (.int .u32 (0 : Int)), (.int .i64 (0 : Int)), (.int .i64 (0 : Int)), (.slice (some ⟨b1, 0, none⟩) 10 10)])] h6 fun r6 h7 =>
∃ (s1 : Option Addr) (s1l s1c : Nat),
∃ v2 : Value,
r6 = (.tuple #[(.slice s1 s1l s1c), v2]) ∧
(0 ≤ (20 : Int) ∧ (20 : Int) ≤ (20 : Int) ∧ ((1 : Nat) : Int) * (20 : Int) ≤ 281474976710656 ∧ (20 : Int) ≤ 9223372036854775807) ∧ ∀ (b2 : Nat) (h8 : Heap), b2 = h7.size → h8 = h7.push (.cells (joinL (List.replicate 20 [(.int .u8 (0 : Int))])).toArray 5) →
Runs Tryd.prog 10 #[(.pointer p1), (.int .i64 (n2 + (2 : Int))), (.agg #[(.int .i64 (2 : Int)), (.int .u32 (8 : Int)), (.int .i64 n3), (.int .i64 (0 : Int)), (.slice (some ⟨b2, 0, none⟩) 20 20)])] h8 fun r7 h9 =>
∃ (s2 : Option Addr) (s2l s2c : Nat),
∃ v3 : Value,
r7 = (.tuple #[(.slice s2 s2l s2c), v3]) ∧
∃ (I1 : Int → Heap → Prop) (m1 : Int → Heap → Nat), I1 (3 : Int) h9 ∧ ∀ _ : Env,
∀ (i_1 : Int) (h10 : Heap), I1 i_1 h10 →
fits .i64 ((n1 + (4 : Int)) + (8 : Int)) ∧
bcase (decide (i_1 < ((n1 + (4 : Int)) + (8 : Int)))) (
(0 ≤ (400 : Int) ∧ (400 : Int) ≤ (400 : Int) ∧ ((1 : Nat) : Int) * (400 : Int) ≤ 281474976710656 ∧ (400 : Int) ≤ 9223372036854775807) ∧ ∀ (b3 : Nat) (h11 : Heap), b3 = h10.size → h11 = h10.push (.cells (joinL (List.replicate 400 [(.int .u8 (0 : Int))])).toArray 5) →
Runs Tryd.prog 10 #[(.pointer p1), (.int .i64 (n2 + (2 : Int))), (.agg #[(.int .i64 i_1), (.int .u32 (9 : Int)), (.int .i64 n3), (.int .i64 (0 : Int)), (.slice (some ⟨b3, 0, none⟩) 400 400)])] h11 fun r8 h12 =>
∃ (s3 : Option Addr) (s3l s3c : Nat),
∃ v4 : Value,
r8 = (.tuple #[(.slice s3 s3l s3c), v4]) ∧
∃ t3 : Bool, ifeqH Tryd.prog h12 true (v4) (.nilIface) = some t3 ∧
bcase (!t3) (
bcase t1 (
∃ t4 : Bool, ifeqH Tryd.prog h12 true (v4) (.nilIface) = some t4 ∧
Post (.bool t4) h12) (
Post (.bool false) h12)) (
Runs Tryd.prog 11 #[(.int .u32 (8 : Int)), (.int .u32 (3 : Int))] h12 fun r9 h13 =>
∃ n4 : Int,
r9 = (.int .i64 n4) ∧
Runs Tryd.prog 11 #[(.int .u32 (9 : Int)), (.int .u32 (3 : Int))] h13 fun r10 h14 =>
∃ n5 : Int,
r10 = (.int .i64 n5) ∧
bcase (decide (n4 = n5)) (
bcase t1 (
∃ t5 : Bool, ifeqH Tryd.prog h14 true (v4) (.nilIface) = some t5 ∧
Post (.bool t5) h14) (
Post (.bool false) h14)) (
∃ J1 : Bool → Heap → Prop, (
bcase (decide (i_1 ≤ (n1 + (4 : Int)))) (
J1 (!decide (((s3l : Nat) : Int) = (0 : Int))) h14) (
J1 false h14)) ∧ ∀ _ : Env,
∀ (x2 : Bool) (h15 : Heap), J1 x2 h15 →
bcase x2 (
Post (.bool false) h15) (
bcase (decide ((n1 + (4 : Int)) < i_1)) (
bcase (!decide (((s3l : Nat) : Int) = (1 : Int))) (
Post (.bool false) h15) (
(0 ≤ (0 : Int) ∧ (0 : Int) < ((s3l : Nat) : Int)) ∧
onAddr s3 fun b4 o1 =>
∃ n6 : Int, cell h15 b4 o1 = some (.int .i64 n6) ∧
fits .i64 (i_1 - (n1 + (4 : Int))) ∧
fits .i64 ((i_1 - (n1 + (4 : Int))) + (2 : Int)) ∧
bcase (!decide (n6 = ((i_1 - (n1 + (4 : Int))) + (2 : Int)))) (
Post (.bool false) h15) (
fits .i64 (i_1 + (1 : Int)) ∧
I1 (i_1 + (1 : Int)) h15 ∧ m1 (i_1 + (1 : Int)) h15 < m1 i_1 h10))) (
fits .i64 (i_1 + (1 : Int)) ∧
I1 (i_1 + (1 : Int)) h15 ∧ m1 (i_1 + (1 : Int)) h15 < m1 i_1 h10))))) (
∃ J2 : Bool → Heap → Prop, (
bcase t1 (
Runs Tryd.prog 12 #[(.pointer p1), (.int .i64 (1 : Int)), (.int .i64 (0 : Int))] h10 fun r11 h16 =>
∃ t6 : Bool,
r11 = (.bool t6) ∧
J2 t6 h16) (
J2 false h10)) ∧ ∀ _ : Env,
∀ (x3 : Bool) (h17 : Heap), J2 x3 h17 →
∃ J3 : Bool → Heap → Prop, (
bcase x3 (
Runs Tryd.prog 12 #[(.pointer p1), (.int .i64 (n2 + (2 : Int))), (.int .i64 n3)] h17 fun r12 h18 =>
∃ t7 : Bool,
r12 = (.bool t7) ∧
J3 t7 h18) (
J3 false h17)) ∧ ∀ _ : Env,
∀ (x4 : Bool) (h19 : Heap), J3 x4 h19 →
bcase x4 (
Runs Tryd.prog 13 #[(.pointer p1)] h19 fun r13 h20 =>
∃ n7 : Int,
r13 = (.int .i64 n7) ∧
Post (.bool (decide (n7 = (n1 + (4 : Int))))) h20) (
Post (.bool false) h19)))))) :
    Runs Tryd.prog 3 #[(.int .i64 n), (.int .i64 aid), (.int .i64 tid)] h0 Post :=
  runs_of (args := [(.int .i64 n), (.int .i64 aid), (.int .i64 tid)]) (fun n => ⟨true, false⟩) (fun n => match n with | 0 => [(10, .int .i64)] | _ => []) (fun _ => none) (fun n => match n with | 18 => [(8, [(80, .bool)])] | 20 => [(5, [(106, .bool)]), (6, [(112, .bool)])] | _ => []) Tryd.func3 rfl (by rw [Tryd.ntmps3]; simp) (Eq.mp (by kernel_rfl) H)

theorem vc_muezzinlaw14_PoolLimits (packets : Int) (bytes : Int) (l : Option Addr) (lL lC : Nat) (h0 : Heap) (Post : Value → Heap → Prop) (H :
Runs Tryd.prog 7 #[] h0 fun r1 h1 =>
∃ t1 : Bool,
r1 = (.bool t1) ∧
bcase (!t1) (
Post (.bool false) h1) (
Runs Tryd.prog 8 #[(.int .i64 packets), (.int .i64 (20 : Int))] h1 fun r2 h2 =>
∃ n1 : Int,
r2 = (.int .i64 n1) ∧
fits .i64 (n1 + (1 : Int)) ∧
Runs Tryd.prog 8 #[(.int .i64 bytes), (.int .i64 (2000 : Int))] h2 fun r3 h3 =>
∃ n2 : Int,
r3 = (.int .i64 n2) ∧
fits .i64 (n2 + (1 : Int)) ∧
bcase (decide ((60 : Int) < ((lL : Nat) : Int))) (
Post (.bool t1) h3) (
Runs Tryd.prog 9 #[(.int .u32 (7 : Int)), (.int .i64 (50 : Int)), (.int .i64 (1000 : Int)), (.int .i64 (n1 + (1 : Int))), (.int .i64 (n2 + (1 : Int)))] h3 fun r4 h4 =>
∃ p1 : Option Addr,
∃ v1 : Value,
r4 = (.tuple #[(.pointer p1), v1]) ∧
bcase (isNilAddr p1) (
Post (.bool false) h4) (
∃ t2 : Bool, ifeqH Tryd.prog h4 true (v1) (.nilIface) = some t2 ∧
bcase (!t2) (
Post (.bool false) h4) (
fits .i64 (((lL : Nat) : Int) + (1 : Int)) ∧
(0 ≤ (((lL : Nat) : Int) + (1 : Int)) ∧ (((lL : Nat) : Int) + (1 : Int)) ≤ (((lL : Nat) : Int) + (1 : Int)) ∧ ((1 : Nat) : Int) * (((lL : Nat) : Int) + (1 : Int)) ≤ 281474976710656 ∧ (((lL : Nat) : Int) + (1 : Int)) ≤ 9223372036854775807) ∧ ∀ (b1 : Nat) (h5 : Heap), b1 = h4.size → h5 = h4.push (.cells (joinL (List.replicate ((((lL : Nat) : Int) + (1 : Int))).toNat [(.bool false)])).toArray 4) →
∃ (I1 : Int → Int → Int → Heap → Prop) (m1 : Int → Int → Int → Heap → Nat), I1 (0 : Int) (0 : Int) (0 : Int) h5 ∧ ∀ _ : Env,
∀ (n_1 : Int) (out_1 : Int) (i_1 : Int) (h6 : Heap), I1 n_1 out_1 i_1 h6 →
bcase (decide (i_1 < ((lL : Nat) : Int))) (
(0 ≤ i_1 ∧ i_1 < ((lL : Nat) : Int)) ∧
onAddr l fun b2 o1 =>
∃ (s1 : Option Addr) (s1l s1c : Nat), cell h6 b2 (((o1 + ((i_1).toNat * 9)) + 4) + 4) = some (.slice s1 s1l s1c) ∧
bcase (decide ((300 : Int) < ((s1l : Nat) : Int))) (
Post (.bool t1) h6) (
∃ J1 : Option Addr → Heap → Prop, (
fits .i64 (i_1 + (1 : Int)) ∧
(0 ≤ i_1 ∧ i_1 < ((lL : Nat) : Int)) ∧
onAddr l fun b3 o2 =>
∃ n3 : Int, cell h6 b3 (((o2 + ((i_1).toNat * 9)) + 4) + 1) = some (.int .u32 n3) ∧
(0 ≤ i_1 ∧ i_1 < ((lL : Nat) : Int)) ∧
onAddr l fun b4 o3 =>
∃ n4 : Int, cell h6 b4 ((o3 + ((i_1).toNat * 9)) + 2) = some (.int .i64 n4) ∧
(0 ≤ i_1 ∧ i_1 < ((lL : Nat) : Int)) ∧
onAddr l fun b5 o4 =>
∃ (s2 : Option Addr) (s2l s2c : Nat), cell h6 b5 (((o4 + ((i_1).toNat * 9)) + 4) + 4) = some (.slice s2 s2l s2c) ∧
(
Runs Tryd.prog 8 #[(.int .i64 n4), (.int .i64 (8 : Int))] h6 fun r5 h7 =>
∃ n5 : Int,
r5 = (.int .i64 n5) ∧
cell h7 b5 (((o4 + ((i_1).toNat * 9)) + 4) + 4) = some (.slice s2 s2l s2c) ∧
cell h7 b3 (((o2 + ((i_1).toNat * 9)) + 4) + 1) = some (.int .u32 n3) ∧
∀ (b6 : Nat) (h8 : Heap), b6 = h7.size → h8 = h7.push (.cells ([(.int .i64 (0 : Int)), (.int .u32 (0 : Int)), (.int .i64 (0 : Int)), (.int .i64 (0 : Int)), (.slice none 0 0)] : List Value).toArray 35) →
((([(.int .i64 (i_1 + (1 : Int))), (.int .u32 n3), (.int .i64 n5), (.int .i64 (0 : Int)), (.slice s2 s2l s2c)] : List Value)).length = 5 ∧ wrs h8 b6 0 5 ∧ ∀ u ∈ (([(.int .i64 (i_1 + (1 : Int))), (.int .u32 n3), (.int .i64 n5), (.int .i64 (0 : Int)), (.slice s2 s2l s2c)] : List Value) : List Value), u.oneCell' = true) ∧ ∀ h9 : Heap, h9 = setr h8 b6 0 ([(.int .i64 (i_1 + (1 : Int))), (.int .u32 n3), (.int .i64 n5), (.int .i64 (0 : Int)), (.slice s2 s2l s2c)] : List Value) →
J1 (some ⟨b6, 0, none⟩) h9) ∧
(
∀ (b7 : Nat) (h10 : Heap), b7 = h6.size → h10 = h6.push (.cells ([(.int .i64 (0 : Int)), (.int .u32 (0 : Int)), (.int .i64 (0 : Int)), (.int .i64 (0 : Int)), (.slice none 0 0)] : List Value).toArray 35) →
Runs Tryd.prog 8 #[(.int .i64 n4), (.int .i64 (8 : Int))] h10 fun r6 h11 =>
∃ n6 : Int,
r6 = (.int .i64 n6) ∧
cell h11 b5 (((o4 + ((i_1).toNat * 9)) + 4) + 4) = some (.slice s2 s2l s2c) ∧
cell h11 b3 (((o2 + ((i_1).toNat * 9)) + 4) + 1) = some (.int .u32 n3) ∧
((([(.int .i64 (i_1 + (1 : Int))), (.int .u32 n3), (.int .i64 n6), (.int .i64 (0 : Int)), (.slice s2 s2l s2c)] : List Value)).length = 5 ∧ wrs h11 b7 0 5 ∧ ∀ u ∈ (([(.int .i64 (i_1 + (1 : Int))), (.int .u32 n3), (.int .i64 n6), (.int .i64 (0 : Int)), (.slice s2 s2l s2c)] : List Value) : List Value), u.oneCell' = true) ∧ ∀ h12 : Heap, h12 = setr h11 b7 0 ([(.int .i64 (i_1 + (1 : Int))), (.int .u32 n3), (.int .i64 n6), (.int .i64 (0 : Int)), (.slice s2 s2l s2c)] : List Value) →
J1 (some ⟨b7, 0, none⟩) h12)) ∧ ∀ _ : Env,
∀ (x_1 : Option Addr) (h13 : Heap), J1 x_1 h13 →
(0 ≤ i_1 ∧ i_1 < ((lL : Nat) : Int)) ∧
onAddr l fun b8 o5 =>
∃ n7 : Int, cell h13 b8 ((o5 + ((i_1).toNat * 9)) + 1) = some (.int .i64 n7) ∧
onAddr x_1 fun b9 o6 =>
∃ cs1 : List Value, row h13 b9 o6 5 = some cs1 ∧
Runs Tryd.prog 8 #[(.int .i64 n7), (.int .i64 (16 : Int))] h13 fun r7 h14 =>
∃ n8 : Int,
r7 = (.int .i64 n8) ∧
row h14 b9 o6 5 = some (cs1) ∧
fits .i64 (n8 + (1 : Int)) ∧
Runs Tryd.prog 10 #[(.pointer p1), (.int .i64 (n8 + (1 : Int))), (.agg (cs1).toArray)] h14 fun r8 h15 =>
∃ (s3 : Option Addr) (s3l s3c : Nat),
∃ v2 : Value,
r8 = (.tuple #[(.slice s3 s3l s3c), v2]) ∧
∃ t3 : Bool, ifeqH Tryd.prog h15 true (v2) (.nilIface) = some t3 ∧
bcase (!t3) (
Post (.bool false) h15) (
fits .i64 (n_1 + (1 : Int)) ∧
∃ (I2 : Int → Int → Heap → Prop) (m2 : Int → Int → Heap → Nat), I2 out_1 (0 : Int) h15 ∧ ∀ _ : Env,
∀ (out_2 : Int) (k_1 : Int) (h16 : Heap), I2 out_2 k_1 h16 →
bcase (decide (k_1 < ((s3l : Nat) : Int))) (
∃ J2 : Bool → Heap → Prop, (
(0 ≤ k_1 ∧ k_1 < ((s3l : Nat) : Int)) ∧
onAddr s3 fun b10 o7 =>
∃ n9 : Int, cell h16 b10 (o7 + ((k_1).toNat * 5)) = some (.int .i64 n9) ∧
bcase (decide (n9 < (1 : Int))) (
J2 true h16) (
(0 ≤ k_1 ∧ k_1 < ((s3l : Nat) : Int)) ∧
onAddr s3 fun b11 o8 =>
∃ n10 : Int, cell h16 b11 (o8 + ((k_1).toNat * 5)) = some (.int .i64 n10) ∧
fits .i64 (i_1 + (1 : Int)) ∧
J2 (decide ((i_1 + (1 : Int)) < n10)) h16)) ∧ ∀ _ : Env,
∀ (x7 : Bool) (h17 : Heap), J2 x7 h17 →
bcase x7 (
Post (.bool false) h17) (
(0 ≤ k_1 ∧ k_1 < ((s3l : Nat) : Int)) ∧
onAddr s3 fun b12 o9 =>
∃ n11 : Int, cell h17 b12 (o9 + ((k_1).toNat * 5)) = some (.int .i64 n11) ∧
(0 ≤ n11 ∧ n11 < ((((((lL : Nat) : Int) + (1 : Int))).toNat : Nat) : Int)) ∧
∃ t4 : Bool, cell h17 b1 (0 + (n11).toNat) = some (.bool t4) ∧
bcase t4 (
Post (.bool false) h17) (
(0 ≤ k_1 ∧ k_1 < ((s3l : Nat) : Int)) ∧
onAddr s3 fun b13 o10 =>
∃ n12 : Int, cell h17 b13 (o10 + ((k_1).toNat * 5)) = some (.int .i64 n12) ∧
(0 ≤ n12 ∧ n12 < ((((((lL : Nat) : Int) + (1 : Int))).toNat : Nat) : Int)) ∧
wr h17 b1 (0 + (n12).toNat) ∧ ∀ h18 : Heap, h18 = setc h17 b1 (0 + (n12).toNat) (.bool true) →
fits .i64 (out_2 + (1 : Int)) ∧
fits .i64 (k_1 + (1 : Int)) ∧
I2 (out_2 + (1 : Int)) (k_1 + (1 : Int)) h18 ∧ m2 (out_2 + (1 : Int)) (k_1 + (1 : Int)) h18 < m2 out_2 k_1 h16))) (
∃ J3 : Bool → Heap → Prop, (
Runs Tryd.prog 13 #[(.pointer p1)] h16 fun r9 h19 =>
∃ n13 : Int,
r9 = (.int .i64 n13) ∧
bcase (decide ((n1 + (1 : Int)) < n13)) (
J3 true h19) (
Runs Tryd.prog 14 #[(.pointer p1)] h19 fun r10 h20 =>
∃ n14 : Int,
r10 = (.int .i64 n14) ∧
J3 (decide ((n2 + (1 : Int)) < n14)) h20)) ∧ ∀ _ : Env,
∀ (x8 : Bool) (h21 : Heap), J3 x8 h21 →
bcase x8 (
Post (.bool false) h21) (
Runs Tryd.prog 13 #[(.pointer p1)] h21 fun r11 h22 =>
∃ n15 : Int,
r11 = (.int .i64 n15) ∧
fits .i64 ((n_1 + (1 : Int)) - out_2) ∧
bcase (!decide (n15 = ((n_1 + (1 : Int)) - out_2))) (
Post (.bool false) h22) (
fits .i64 (i_1 + (1 : Int)) ∧
I1 (n_1 + (1 : Int)) out_2 (i_1 + (1 : Int)) h22 ∧ m1 (n_1 + (1 : Int)) out_2 (i_1 + (1 : Int)) h22 < m1 n_1 out_1 i_1 h6)))))) (
∃ (I3 : Int → Int → Heap → Prop) (m3 : Int → Int → Heap → Nat), I3 out_1 (1 : Int) h6 ∧ ∀ _ : Env,
∀ (out_3 : Int) (a_1 : Int) (h23 : Heap), I3 out_3 a_1 h23 →
bcase (decide (a_1 ≤ (16 : Int))) (
Runs Tryd.prog 15 #[(.pointer p1), (.int .i64 a_1)] h23 fun r12 h24 =>
∃ (s4 : Option Addr) (s4l s4c : Nat),
r12 = (.slice s4 s4l s4c) ∧
∃ (I4 : Int → Int → Heap → Prop) (m4 : Int → Int → Heap → Nat), I4 out_3 (0 : Int) h24 ∧ ∀ _ : Env,
∀ (out_4 : Int) (k_2 : Int) (h25 : Heap), I4 out_4 k_2 h25 →
bcase (decide (k_2 < ((s4l : Nat) : Int))) (
∃ J4 : Bool → Heap → Prop, (
(0 ≤ k_2 ∧ k_2 < ((s4l : Nat) : Int)) ∧
onAddr s4 fun b14 o11 =>
∃ n16 : Int, cell h25 b14 (o11 + ((k_2).toNat * 5)) = some (.int .i64 n16) ∧
bcase (decide (n16 < (1 : Int))) (
J4 true h25) (
(0 ≤ k_2 ∧ k_2 < ((s4l : Nat) : Int)) ∧
onAddr s4 fun b15 o12 =>
∃ n17 : Int, cell h25 b15 (o12 + ((k_2).toNat * 5)) = some (.int .i64 n17) ∧
J4 (decide (((lL : Nat) : Int) < n17)) h25)) ∧ ∀ _ : Env,
∀ (x13 : Bool) (h26 : Heap), J4 x13 h26 →
bcase x13 (
Post (.bool false) h26) (
(0 ≤ k_2 ∧ k_2 < ((s4l : Nat) : Int)) ∧
onAddr s4 fun b16 o13 =>
∃ n18 : Int, cell h26 b16 (o13 + ((k_2).toNat * 5)) = some (.int .i64 n18) ∧
(0 ≤ n18 ∧ n18 < ((((((lL : Nat) : Int) + (1 : Int))).toNat : Nat) : Int)) ∧
∃ t5 : Bool, cell h26 b1 (0 + (n18).toNat) = some (.bool t5) ∧
bcase t5 (
Post (.bool false) h26) (
(0 ≤ k_2 ∧ k_2 < ((s4l : Nat) : Int)) ∧
onAddr s4 fun b17 o14 =>
∃ n19 : Int, cell h26 b17 (o14 + ((k_2).toNat * 5)) = some (.int .i64 n19) ∧
(0 ≤ n19 ∧ n19 < ((((((lL : Nat) : Int) + (1 : Int))).toNat : Nat) : Int)) ∧
wr h26 b1 (0 + (n19).toNat) ∧ ∀ h27 : Heap, h27 = setc h26 b1 (0 + (n19).toNat) (.bool true) →
fits .i64 (out_4 + (1 : Int)) ∧
fits .i64 (k_2 + (1 : Int)) ∧
I4 (out_4 + (1 : Int)) (k_2 + (1 : Int)) h27 ∧ m4 (out_4 + (1 : Int)) (k_2 + (1 : Int)) h27 < m4 out_4 k_2 h25))) (
fits .i64 (a_1 + (1 : Int)) ∧
I3 out_4 (a_1 + (1 : Int)) h25 ∧ m3 out_4 (a_1 + (1 : Int)) h25 < m3 out_3 a_1 h23)) (
∃ J5 : Bool → Heap → Prop, (
bcase t1 (
J5 (decide (out_3 = n_1)) h23) (
J5 false h23)) ∧ ∀ _ : Env,
∀ (x14 : Bool) (h28 : Heap), J5 x14 h28 →
∃ J6 : Bool → Heap → Prop, (
bcase x14 (
Runs Tryd.prog 13 #[(.pointer p1)] h28 fun r13 h29 =>
∃ n20 : Int,
r13 = (.int .i64 n20) ∧
J6 (decide (n20 = (0 : Int))) h29) (
J6 false h28)) ∧ ∀ _ : Env,
∀ (x15 : Bool) (h30 : Heap), J6 x15 h30 →
bcase x15 (
Runs Tryd.prog 14 #[(.pointer p1)] h30 fun r14 h31 =>
∃ n21 : Int,
r14 = (.int .i64 n21) ∧
Post (.bool (decide (n21 = (0 : Int)))) h31) (
Post (.bool false) h30)))))))) :
    Runs Tryd.prog 4 #[(.int .i64 packets), (.int .i64 bytes), (.slice l lL lC)] h0 Post :=
  runs_of (args := [(.int .i64 packets), (.int .i64 bytes), (.slice l lL lC)]) (fun n => ⟨true, false⟩) (fun n => match n with | 0 => [(10, .int .i64), (12, .int .i64), (13, .int .i64)] | 2 => [(12, .int .i64), (17, .int .i64)] | 4 => [(12, .int .i64), (18, .int .i64)] | 6 => [(12, .int .i64), (20, .int .i64)] | _ => []) (fun n => match n with | 20 => some [(14, .ptr)] | _ => none) (fun n => match n with | 27 => [(16, [(124, .bool)])] | 31 => [(10, [(153, .bool)])] | 40 => [(16, [(190, .bool)])] | 44 => [(6, [(215, .bool)]), (5, [(220, .bool)])] | _ => []) Tryd.func4 rfl (by rw [Tryd.ntmps4]; simp) (Eq.mp (by kernel_rfl) H)
end Go.Proofs.YtpcilleldanfmaaDoor

/- The chapter's examples (pool) hold. -/
set_option linter.unusedVariables false
set_option linter.unusedSimpArgs false
set_option maxRecDepth 8000
namespace Go.Proofs.YtpcilleldanfmaaDoor
open Go.Vc
section
variable {W : Wd} {h : Heap} {R : List Grp} {a : Addr} {P : Po} {p : Pk} {k : Nat}
theorem ptrnil (b : Nat) : isNilAddr (some (⟨b, 0, none⟩ : Addr)) = false := rfl
theorem put_none (hP : PoOk P) (hk : k < 128) (h0 : p.at_ = 0) (hl : p.body.length ≤ 1048576) (hc : (P.len : Int) + 1 ≤ P.mp) (hb : P.byt + p.body.length ≤ P.mb) : P.put k p = (P.put1 k p, []) ∧ (P.put1 k p).byt = P.byt + p.body.length := by
  have hp1 := hP.p1
  obtain ⟨a1, a2, a3, a4⟩ := put1_spec hP hk (p := p) (by omega) (by omega) hl (by omega)
  have hbt : (P.put1 k p).byt = P.byt + p.body.length := by
    have := bytP_perm a3
    rw [Po.byt_all, Po.byt_all]
    simp only [bytP] at this
    omega
  refine ⟨?_, hbt⟩
  unfold Po.put
  refine shrN_done fun hc => ?_
  rw [a2.mp, a2.mb] at hc
  rcases hc with hc | hc <;> omega
theorem byt0 (seed tg iv mp mb : Int) : (po0 seed tg iv mp mb).byt = 0 := by
  have e := len0 seed tg iv mp mb
  rw [Po.len_all] at e
  rw [Po.byt_all, List.eq_nil_of_length_eq_zero e]
  rfl
theorem put1_cnt (hP : PoOk P) (hk : k < 128) (h0 : p.at_ = 0) (hl : p.body.length ≤ 1048576) (hc : P.len < 1048576) : ((P.put1 k p).qu k).cnt = (P.qu k).cnt + 1 := by
  show ((P.set k ((P.qu k).put p)).qu k).cnt = _
  rw [qu_set hP hk]
  have := hP.cnt hk
  exact ((hP.qu hk).2.ok.put (by omega) (by omega) hl (by omega)).2
theorem first14_c (m : Me W h R) (hg : wcell W 0 0 = some (ptE a)) : Runs Tryd.prog 7 #[] h fun v h' => v = .bool true ∧ ∃ W', W.le W' ∧ Me W' h' R := by
  refine vc_muezzinlaw14_first _ _ ((poNew_c m hg 1 5 100 2 100).mono ?_)
  rintro _ h1 ⟨-, hok⟩
  obtain ⟨b, L, rfl, hv, m⟩ := hok ⟨by decide, by decide, by decide, by decide⟩
  have hP : PoOk (po0 1 5 100 2 100) := pok0 _ _ _ (by decide) (by decide) (by decide) (by decide)
  refine ⟨_, _, rfl, fun x h' => x = false ∧ h' = h1, bcase_false rfl ⟨true, rfl, rfl, rfl⟩, fun _ => ?_⟩
  rintro _ _ ⟨rfl, rfl⟩
  refine bcase_false rfl ((poHas_c m hv hP 1 0).mono ?_)
  rintro _ h2 ⟨rfl, rfl⟩
  have e0 : (thereZ 1 0 && decide (0 < ((po0 1 5 100 2 100).qu (pix 1 0)).cnt)) = false := by rw [po0_qu]; rfl
  rw [e0]
  refine ⟨_, rfl, bcase_false rfl ?_⟩
  have hp : PkV W ⟨3, 0, 0, 0, []⟩ [.int .i64 3, .int .u32 0, .int .i64 0, .int .i64 0, .slice none 0 0] := ⟨none, 0, rfl, Bts.nil⟩
  refine (poPut_c (aid := 1) m hv hP (by rw [len0]; decide) hp (Int.le_refl _) (by decide) (by decide) hg).mono ?_
  rintro _ h3 ⟨oa, oc, vs, E, W1, L1, rfl, o, hle, hs, hv1, m⟩
  obtain ⟨e1, e2⟩ := put_none hP (k := 0) (p := ⟨3, 0, 0, 0, []⟩) (by decide) rfl (by decide) (by rw [len0]; decide) (by rw [byt0]; decide)
  have e3 : (po0 1 5 100 2 100).putZ 1 ⟨3, 0, 0, 0, []⟩ = ((po0 1 5 100 2 100).put1 0 ⟨3, 0, 0, 0, []⟩, []) := e1
  have e4 : (if thereZ 1 (⟨3, 0, 0, 0, []⟩ : Pk).tid = true then Value.nilIface else ptE a) = .nilIface := rfl
  rw [e3] at hv1 ⊢
  rw [e4]
  dsimp only at hv1 ⊢
  obtain ⟨hP1, _, _, hl1⟩ := put1_spec hP (k := 0) (p := ⟨3, 0, 0, 0, []⟩) (by decide) (Int.le_refl _) (by decide) (by decide) (by rw [len0]; decide)
  have hc1 := put1_cnt hP (k := 0) (p := ⟨3, 0, 0, 0, []⟩) (by decide) rfl (by decide) (by rw [len0]; decide)
  rw [len0] at hl1
  rw [po0_qu] at hc1
  replace m := m.drop1
  refine ⟨_, _, _, _, rfl, fun x h' => x = true ∧ h' = h3, ⟨true, rfl, bcase_true rfl ⟨rfl, rfl⟩⟩, fun _ => ?_⟩
  rintro _ _ ⟨rfl, rfl⟩
  refine ⟨fun x h' => x = true ∧ Me W1 h' (L1 :: R), bcase_true rfl ((poLen_c m hv1 hP1 (by omega)).mono ?_), fun _ => ?_⟩
  · rintro _ h4 ⟨rfl, m⟩
    exact ⟨_, rfl, by rw [hl1]; decide, m⟩
  rintro _ h5 ⟨rfl, m⟩
  refine bcase_true rfl ((poHas_c m hv1 hP1 1 0).mono ?_)
  rintro _ h6 ⟨rfl, rfl⟩
  have e5 : (thereZ 1 0 && decide (0 < (((po0 1 5 100 2 100).put1 0 ⟨3, 0, 0, 0, []⟩).qu (pix 1 0)).cnt)) = true := by
    have : pix 1 0 = 0 := by decide
    rw [this, hc1]; rfl
  exact ⟨_, rfl, by rw [e5], W1, hle, m.drop1⟩
end
end Go.Proofs.YtpcilleldanfmaaDoor

/- What a walk is told of arguments that are structs of fields of one cell, and slices of such. -/
set_option linter.unusedVariables false
namespace Go.Vc
open Go.ChangeShapes Go.WideShapes Go.Deep
section
variable {H : Type} {enc : TypeId × Value → H} {P : Program} {w : World} {base : Nat} {spare : Nat → Bool} {held : Bool}
/-- A struct's cells, one by one. -/
theorem fields_of {t : TypeId} {fs : Array Field} {fuel : Nat} {cs : List Value} {x : DataW H × List MemPlace} (hs : P.underlying t = some (.struct fs)) (hone : oneCellFields P fs = true) (hC : P.cellsOf t = fs.size)
    (h : DataW.trod enc P w base spare held fuel t cs = some x) :
    cs.length = fs.size ∧ ∀ (j : Nat) (f : Field), fs[j]? = some f → ∃ (v : Value) (n : Nat) (y : DataW H × List MemPlace), cs[j]? = some v ∧ DataW.trod enc P w base spare held n f.type [v] = some y := by
  obtain ⟨xs, n, _, _, hl, hxs, hf⟩ := DataW.trod_struct hs h
  refine ⟨hl.trans hC, fun j f hj => ?_⟩
  obtain ⟨ho, hk⟩ := hone_of hone j f hj
  have hjl : j < fs.size := (Array.getElem?_eq_some_iff.1 hj).1
  have h1 := hf j f hj
  rw [ho, hk] at h1
  have hjc : j < cs.length := by omega
  have e : (cs.drop j).take 1 = [cs[j]] := by rw [List.drop_eq_getElem_cons hjc]; rfl
  rw [e] at h1
  exact ⟨cs[j], n, _, List.getElem?_eq_getElem hjc, h1.trans (List.getElem?_eq_getElem (by omega))⟩
/-- A struct that comes by value: its cells. -/
theorem struct_of {r : Reach} {b0 : Nat} {t : TypeId} {fs : Array Field} {v : Value} {d : DataW H} {p : List MemPlace} (hs : P.underlying t = some (.struct fs)) (hone : oneCellFields P fs = true) (hC : P.cellsOf t = fs.size)
    (hv : Value.okWide P w r b0 t v) (h : DataW.Trod enc P w base spare held t v d p) :
    ∃ l : List Value, v = .agg l.toArray ∧ l.length = fs.size ∧ ∀ (j : Nat) (f : Field), fs[j]? = some f → ∃ (u : Value) (n : Nat) (y : DataW H × List MemPlace), l[j]? = some u ∧ DataW.trod enc P w base spare held n f.type [u] = some y := by
  obtain ⟨cs, rfl, hsz⟩ := okWide_struct hs hv
  obtain ⟨fuel, hf⟩ := h
  obtain ⟨h1, h2⟩ := fields_of hs hone hC hf
  refine ⟨cs.toList, by simp, by simpa [Value.cells] using h1, fun j f hj => ?_⟩
  obtain ⟨u, n, y, k1, k2⟩ := h2 j f hj
  exact ⟨u, n, y, by simpa [Value.cells] using k1, k2⟩
/-- A slice of structs: each one's cells, where they lie. -/
theorem slice_of {t e : TypeId} {fs : Array Field} {fuel : Nat} {a : Option Addr} {len cap : Nat} {x : DataW H × List MemPlace} (ht : P.underlying t = some (.slice e)) (hs : P.underlying e = some (.struct fs)) (hone : oneCellFields P fs = true)
    (hC : P.cellsOf e = fs.size) (h0 : 0 < fs.size) (h : DataW.trod enc P w base spare held fuel t [.slice a len cap] = some x) :
    len ≤ cap ∧ ∀ i, i < len → ∃ (b o : Nat) (l : List Value), a = some ⟨b, o, none⟩ ∧ row w.heap b (o + i * fs.size) fs.size = some l ∧
      ∀ (j : Nat) (f : Field), fs[j]? = some f → ∃ (u : Value) (n : Nat) (y : DataW H × List MemPlace), l[j]? = some u ∧ DataW.trod enc P w base spare held n f.type [u] = some y := by
  rcases open_slice ht h with ⟨hcs, _⟩ | ⟨a', len', cap', m, n, D, Pl, hcs, hb, hl, hm, hmm, hx, hi⟩
  · simp at hcs
    obtain ⟨rfl, rfl, rfl⟩ := hcs
    exact ⟨Nat.le_refl _, fun i hi => by omega⟩
  · simp at hcs
    obtain ⟨rfl, rfl, rfl⟩ := hcs
    refine ⟨hl, fun i hilt => ?_⟩
    have him : i < m := by rw [hmm]; split <;> omega
    obtain ⟨l, hc, hl'⟩ := hi i him
    obtain ⟨_, k1, k2⟩ := World.cells?_some hc
    obtain ⟨h1, h2⟩ := fields_of hs hone hC hl'
    obtain ⟨b, o, s⟩ := a'
    have hsn : s = none := by
      cases s with
      | none => rfl
      | some s =>
        exfalso
        obtain ⟨l0, hc0, _⟩ := hi 0 (by rw [hmm]; split <;> omega)
        obtain ⟨_, q1, q2⟩ := World.cells?_some hc0
        have hz := q2 0 (by omega)
        have : l0[0]? = some l0[0] := List.getElem?_eq_getElem (by omega)
        rw [this] at hz
        unfold World.cell? at hz
        simp only [Nat.zero_mul, Addr.add, if_true, Option.isSome_some] at hz
        split at hz <;> cases hz
    subst hsn
    refine ⟨b, o, l, rfl, row_of_cells (by omega) fun j v hj => ?_, h2⟩
    have hjl := (List.getElem?_eq_some_iff.1 hj).1
    have := k2 j (by omega)
    rw [hj] at this
    rw [← cell?_eq]
    rw [add_eq, add_eq, hC] at this
    exact this
/-- A slice of elements of one cell: each one's cell. -/
theorem slice_one_of {t e : TypeId} {fuel : Nat} {a : Option Addr} {len cap : Nat} {x : DataW H × List MemPlace} (ht : P.underlying t = some (.slice e)) (hC : P.cellsOf e = 1)
    (h : DataW.trod enc P w base spare held fuel t [.slice a len cap] = some x) :
    len ≤ cap ∧ ∀ i, i < len → ∃ (b o : Nat) (u : Value) (n : Nat) (y : DataW H × List MemPlace), a = some ⟨b, o, none⟩ ∧ cell w.heap b (o + i) = some u ∧ DataW.trod enc P w base spare held n e [u] = some y := by
  rcases open_slice ht h with ⟨hcs, _⟩ | ⟨a', len', cap', m, n, D, Pl, hcs, hb, hl, hm, hmm, hx, hi⟩
  · simp at hcs
    obtain ⟨rfl, rfl, rfl⟩ := hcs
    exact ⟨Nat.le_refl _, fun i hi => by omega⟩
  · simp at hcs
    obtain ⟨rfl, rfl, rfl⟩ := hcs
    refine ⟨hl, fun i hilt => ?_⟩
    have him : i < m := by rw [hmm]; split <;> omega
    obtain ⟨l, hc, hl'⟩ := hi i him
    obtain ⟨_, k1, k2⟩ := World.cells?_some hc
    rw [hC] at k1 k2
    obtain ⟨b, o, s⟩ := a'
    have hsn : s = none := by
      cases s with
      | none => rfl
      | some s =>
        exfalso
        obtain ⟨l0, hc0, _⟩ := hi 0 (by rw [hmm]; split <;> omega)
        obtain ⟨_, q1, q2⟩ := World.cells?_some hc0
        rw [hC] at q1 q2
        have hz := q2 0 (by omega)
        have : l0[0]? = some l0[0] := List.getElem?_eq_getElem (by omega)
        rw [this] at hz
        unfold World.cell? at hz
        simp only [Nat.zero_mul, Addr.add, if_true, Option.isSome_some] at hz
        split at hz <;> cases hz
    subst hsn
    match l, k1 with
    | [u], _ =>
      have := k2 0 (by omega)
      rw [add_eq, add_eq, Nat.mul_one, Nat.add_zero] at this
      exact ⟨b, o, u, n, _, rfl, by rw [← cell?_eq]; exact this, hl'⟩
end
theorem choose_list {X : Type} {R : Nat → X → Prop} : ∀ (n : Nat), (∀ i, i < n → ∃ x, R i x) → ∃ l : List X, l.length = n ∧ ∀ i x, l[i]? = some x → R i x
  | 0, _ => ⟨[], rfl, fun i x h => by simp at h⟩
  | n + 1, h => by
    obtain ⟨l, h1, h2⟩ := choose_list n fun i hi => h i (by omega)
    obtain ⟨x, hx⟩ := h n (by omega)
    refine ⟨l ++ [x], by simp [h1], fun i y hi => ?_⟩
    rcases Nat.lt_or_ge i n with hlt | hge
    · rw [List.getElem?_append_left (by omega)] at hi; exact h2 i y hi
    · have : i = n := by
        have := (List.getElem?_eq_some_iff.1 hi).1; simp at this; omega
      subst this
      rw [List.getElem?_append_right (by omega)] at hi
      simp [h1] at hi
      subst hi; exact hx
end Go.Vc

/- Arguments of plain data, opened by their types: numbers, bools, strings, slices, structs, arrays, at any depth. -/
set_option linter.unusedVariables false
set_option linter.unusedSimpArgs false
namespace Go.Vc
open Go.ChangeShapes Go.WideShapes Go.Deep
inductive Sh1 where
  | int (k : IntKind)
  | bool
  | str
  | slc (e : Sh1)
  | nil
  | con (a b : Sh1)
  | arr (n : Nat) (e : Sh1)
def Sh1.size : Sh1 → Nat
  | .int _ => 1
  | .bool => 1
  | .str => 1
  | .slc _ => 1
  | .nil => 0
  | .con a b => a.size + b.size
  | .arr n e => n * e.size
/-- What cells of such a shape are. -/
def Opn : Sh1 → Wd → List Value → Prop
  | .int k, _, cs => ∃ n, cs = [.int k n] ∧ (Lit.int k n).wf = true
  | .bool, _, cs => ∃ b, cs = [.bool b]
  | .str, _, cs => ∃ s : ByteArray, cs = [.string s] ∧ s.size ≤ maxLen
  | .slc e, W, cs => ∃ (a : Option Addr) (len cap : Nat) (vs : List Value), cs = [.slice a len cap] ∧ len ≤ cap ∧ cap ≤ maxLen ∧ vs.length = len * e.size ∧ wsrc W a (len * e.size) vs ∧ ∀ i, i < len → Opn e W ((vs.drop (i * e.size)).take e.size)
  | .nil, _, cs => cs = []
  | .con a b, W, cs => cs.length = a.size + b.size ∧ Opn a W (cs.take a.size) ∧ Opn b W (cs.drop a.size)
  | .arr n e, W, cs => cs.length = n * e.size ∧ ∀ i, i < n → Opn e W ((cs.drop (i * e.size)).take e.size)
def shpF (f : TypeId → Option Sh1) : List Field → Nat → Option Sh1
  | [], _ => some .nil
  | x :: r, o => match f x.type, shpF f r (o + (match f x.type with | some s => s.size | none => 0)) with
    | some s, some t => match Nat.beq x.offset o with | true => some (.con s t) | false => none
    | _, _ => none
def shp (P : Program) : Nat → TypeId → Option Sh1
  | 0, _ => none
  | n + 1, t =>
    let s : Option Sh1 := match P.underlying t with
      | some (.int k) => some (.int k)
      | some .bool => some .bool
      | some .string => some .str
      | some (.slice e) => (shp P n e).map .slc
      | some (.struct fs) => shpF (shp P n) fs.toList 0
      | some (.array m e) => (shp P n e).map (.arr m)
      | _ => none
    match s with
    | some s => match Nat.beq (P.cellsOf t) s.size with | true => some s | false => none
    | none => none
section
variable {H : Type} {enc : TypeId × Value → H} {P : Program} {w : World} {base : Nat} {spare : Nat → Bool} {held : Bool}
theorem maxLen_pos : 0 ≤ maxLen := Nat.zero_le _
theorem trod_opn : ∀ (n : Nat) {t : TypeId} {s : Sh1} {fuel : Nat} {cs : List Value} {x : DataW H × List MemPlace}, shp P n t = some s → DataW.trod enc P w base spare held fuel t cs = some x → P.cellsOf t = s.size ∧ Opn s (Wd.of w.heap) cs
  | 0, _, _, _, _, _, hs, _ => by cases hs
  | n + 1, t, s, fuel, cs, x, hs, h => by
    simp only [shp] at hs
    split at hs
    · rename_i s' hs'
      split at hs
      · rename_i hc
        cases hs
        have hsz : P.cellsOf t = s.size := Nat.eq_of_beq_eq_true hc
        refine ⟨hsz, ?_⟩
        split at hs'
        · rename_i k hu; cases hs'
          obtain ⟨m, e, _, hw⟩ := DataW.trod_int hu h
          exact ⟨m, e, hw⟩
        · rename_i hu; cases hs'
          obtain ⟨b, e, _⟩ := DataW.trod_bool hu h
          exact ⟨b, e⟩
        · rename_i hu; cases hs'
          obtain ⟨b, e, _, hw⟩ := DataW.trod_string hu h
          exact ⟨b, e, hw⟩
        · rename_i e hu
          cases he : shp P n e with
          | none => rw [he] at hs'; cases hs'
          | some es =>
            rw [he] at hs'; cases hs'
            rcases open_slice hu h with ⟨hcs, _⟩ | ⟨a, len, cap, m, n2, D, Pl, hcs, hb, hl, hm, hmm, hx, hi⟩
            · subst hcs
              exact ⟨none, 0, 0, [], rfl, Nat.le_refl _, maxLen_pos, by simp, rfl, fun i hi => absurd hi (by omega)⟩
            · subst hcs
              have hel : ∀ i, i < len → ∃ l : List Value, l.length = es.size ∧ P.cellsOf e = es.size ∧ Opn es (Wd.of w.heap) l ∧ ∀ j, j < l.length → w.cell? ((a.add (i * es.size)).add j) = l[j]? := fun i hilt => by
                have him : i < m := by rw [hmm]; split <;> omega
                obtain ⟨l, hc, hl'⟩ := hi i him
                obtain ⟨h1, h2⟩ := trod_opn n he hl'
                obtain ⟨_, k1, k2⟩ := World.cells?_some hc
                rw [h1] at k1 k2
                exact ⟨l, k1, h1, h2, fun j hj => k2 j (by omega)⟩
              have hsp : 0 < len → 0 < es.size → a.spot = none := fun h0 h1 => by
                obtain ⟨b, o, s⟩ := a
                cases s with
                | none => rfl
                | some s =>
                  exfalso
                  obtain ⟨l0, k1, _, _, k2⟩ := hel 0 h0
                  have hz := k2 0 (by omega)
                  have : l0[0]? = some (l0[0]'(by omega)) := List.getElem?_eq_getElem (by omega)
                  rw [this] at hz
                  unfold World.cell? at hz
                  simp only [Nat.zero_mul, Addr.add, if_true, Option.isSome_some] at hz
                  split at hz <;> cases hz
              obtain ⟨ls, hll, hls⟩ := choose_list len hel
              have h8 : ∀ c ∈ ls, c.length = es.size := fun c hc => by
                obtain ⟨i, hi⟩ := List.mem_iff_getElem?.1 hc
                exact (hls i c hi).1
              have hfl : ls.flatten.length = len * es.size := by
                rw [← hll]
                clear hls hll hel
                induction ls with
                | nil => simp
                | cons c r ih => simp [h8 c (by simp), ih fun x hx => h8 x (by simp [hx]), Nat.add_mul, Nat.add_comm]
              have hat : ∀ i l, ls[i]? = some l → (ls.flatten.drop (i * es.size)).take es.size = l := by
                intro i l hil
                have : ∀ (ls : List (List Value)) (i : Nat), (∀ c ∈ ls, c.length = es.size) → ls[i]? = some l → (ls.flatten.drop (i * es.size)).take es.size = l := by
                  intro ls
                  induction ls with
                  | nil => intro i _ h; simp at h
                  | cons c r ih =>
                    intro i h8 h
                    cases i with
                    | zero =>
                      simp at h; subst h
                      rw [Nat.zero_mul, List.drop_zero, List.flatten_cons, ← h8 c (by simp), List.take_left]
                    | succ i =>
                      have e1 : (i + 1) * es.size = c.length + i * es.size := by rw [h8 c (by simp), Nat.add_mul]; omega
                      rw [e1, List.flatten_cons, ← List.drop_drop, List.drop_left]
                      exact ih i (fun x hx => h8 x (by simp [hx])) (by simpa using h)
                exact this ls i h8 hil
              refine ⟨some a, len, cap, ls.flatten, rfl, hl, hm, hfl, ?_, fun i hilt => ?_⟩
              · by_cases h0 : len = 0 ∨ es.size = 0
                · have hz : len * es.size = 0 := by rcases h0 with h | h <;> rw [h] <;> simp
                  have hnil : ls.flatten = [] := List.eq_nil_of_length_eq_zero (by omega)
                  rw [hz, hnil]
                  obtain ⟨b, o, s⟩ := a
                  cases s with
                  | none => rfl
                  | some s => exact ⟨rfl, rfl⟩
                · obtain ⟨b, o, s⟩ := a
                  have := hsp (by omega) (by omega)
                  dsimp only at this
                  subst this
                  show wrow _ b o _ = some _
                  rw [of_row]
                  refine row_of_cells hfl fun j v hj => ?_
                  have hjl := (List.getElem?_eq_some_iff.1 hj).1
                  have hz0 : 0 < es.size := by omega
                  have hdiv : j / es.size < len := (Nat.div_lt_iff_lt_mul hz0).2 (by omega)
                  obtain ⟨l, hl⟩ : ∃ l, ls[j / es.size]? = some l := ⟨_, List.getElem?_eq_getElem (by omega)⟩
                  obtain ⟨k1, _, _, k2⟩ := hls _ l hl
                  have hmod : j % es.size < es.size := Nat.mod_lt _ hz0
                  have hk := k2 (j % es.size) (by omega)
                  have hj2 : l[j % es.size]? = some v := by
                    rw [← hat _ l hl, List.getElem?_take_of_lt hmod, List.getElem?_drop, Nat.mul_comm, Nat.div_add_mod]
                    exact hj
                  rw [hj2, add_eq, add_eq] at hk
                  rw [← cell?_eq]
                  rw [show o + j = o + j / es.size * es.size + j % es.size by rw [Nat.mul_comm, Nat.add_assoc, Nat.div_add_mod]]
                  exact hk
              · obtain ⟨l, hl⟩ : ∃ l, ls[i]? = some l := ⟨_, List.getElem?_eq_getElem (by omega)⟩
                rw [hat i l hl]
                exact (hls i l hl).2.2.1
        · rename_i fs hu
          obtain ⟨xs, m, _, _, hlen, hxs, hf⟩ := DataW.trod_struct hu h
          have key : ∀ (l : List Field) (o : Nat) (s : Sh1), shpF (shp P n) l o = some s → (∀ f ∈ l, ∃ y, DataW.trod enc P w base spare held m f.type ((cs.drop f.offset).take (P.cellsOf f.type)) = some y) → cs.length = o + s.size → Opn s (Wd.of w.heap) (cs.drop o) := by
            intro l
            induction l with
            | nil => intro o s hs _ hl; cases hs; exact List.drop_of_length_le (by simp [Sh1.size] at hl; omega)
            | cons f r ih =>
              intro o s hs hall hl
              simp only [shpF] at hs
              cases hft : shp P n f.type with
              | none => rw [hft] at hs; cases hs
              | some s1 =>
                rw [hft] at hs
                cases hr : shpF (shp P n) r (o + s1.size) with
                | none => simp only [hr] at hs; cases hs
                | some s2 =>
                  simp only [hr] at hs
                  split at hs
                  · rename_i ho
                    cases hs
                    have ho : f.offset = o := Nat.eq_of_beq_eq_true ho
                    obtain ⟨y, hy⟩ := hall f (by simp)
                    obtain ⟨g1, g2⟩ := trod_opn n hft hy
                    rw [g1, ho] at g2
                    simp only [Sh1.size] at hl
                    refine ⟨by simp; omega, g2, ?_⟩
                    rw [List.drop_drop]
                    exact ih (o + s1.size) s2 hr (fun f hf => hall f (by simp [hf])) (by omega)
                  · cases hs
          have := key fs.toList 0 s hs' (fun f hf' => by
            obtain ⟨i, hi⟩ := List.mem_iff_getElem?.1 hf'
            have hi2 : fs[i]? = some f := by simpa using hi
            have hil := (Array.getElem?_eq_some_iff.1 hi2).1
            exact ⟨_, (hf i f hi2).trans (List.getElem?_eq_getElem (by omega))⟩) (by rw [hlen, hsz]; omega)
          simpa using this
        · rename_i m e hu
          cases he : shp P n e with
          | none => rw [he] at hs'; cases hs'
          | some es =>
            rw [he] at hs'; cases hs'
            obtain ⟨xs, m2, _, _, hlen, hxs, hf⟩ := DataW.trod_array hu h
            refine ⟨by rw [hlen, hsz]; rfl, fun i hi => ?_⟩
            have h1 := hf i hi
            have h2 : xs[i]? = some (xs[i]'(by omega)) := List.getElem?_eq_getElem (by omega)
            rw [h2] at h1
            obtain ⟨g1, g2⟩ := trod_opn n he h1
            rw [g1] at g2; exact g2
        · cases hs'
      · cases hs
    · cases hs
end
end Go.Vc

/- Numbers, bytes, packets that come in. -/
set_option linter.unusedVariables false
set_option linter.unusedSimpArgs false
namespace Go.Proofs.YtpcilleldanfmaaDoor
open Go.Vc
theorem choose_l {X : Type} {R : Nat → X → Prop} (n : Nat) (h : ∀ i, i < n → ∃ x, R i x) : ∃ l : List X, l.length = n ∧ ∀ i x, l[i]? = some x → R i x := choose_list n h
theorem sq_of {α : Type} {R : α → List Value → Prop} {n : Nat} : ∀ {l : List α} {vs : List Value}, vs.length = l.length * n → (∀ i x, l[i]? = some x → R x ((vs.drop (i * n)).take n)) → Sq R l vs
  | [], vs, hl, _ => List.eq_nil_of_length_eq_zero (by simpa using hl)
  | x :: l, vs, hl, h => by
    refine ⟨vs.take n, vs.drop n, (List.take_append_drop n vs).symm, by simpa using h 0 x rfl, sq_of (n := n) (by rw [List.length_drop, hl, List.length_cons, Nat.add_mul]; omega) fun i y hi => ?_⟩
    have := h (i + 1) y (by simpa using hi)
    rw [show (i + 1) * n = n + i * n by rw [Nat.add_mul]; omega, ← List.drop_drop] at this
    exact this
theorem opn_ints {k : IntKind} {W : Wd} {v : Value} (o : Opn (.slc (.int k)) W [v]) : ∃ (a : Option Addr) (cap : Nat) (l : List Int), v = .slice a l.length cap ∧ l.length ≤ cap ∧ cap ≤ maxLen ∧ wsrc W a l.length (ints k l) ∧ ∀ x ∈ l, (Lit.int k x).wf = true := by
  obtain ⟨a, len, cap, vs, e, h1, h2, h3, h4, h5⟩ := o
  simp only [Sh1.size, Nat.mul_one] at h3 h4 h5
  obtain ⟨l, hl, hx⟩ := choose_l len fun i hi => h5 i hi
  have hv : vs = ints k l := by
    apply List.ext_getElem?
    intro i
    by_cases hi : i < len
    · obtain ⟨x, hx1⟩ : ∃ x, l[i]? = some x := ⟨_, List.getElem?_eq_getElem (by omega)⟩
      have h6 := (hx i x hx1).1
      have h7 : ((vs.drop i).take 1)[0]? = vs[i]? := by rw [List.getElem?_take_of_lt (by decide), List.getElem?_drop]; rfl
      rw [← h7, h6, ints_get hx1]; rfl
    · rw [List.getElem?_eq_none (by omega), List.getElem?_eq_none (by rw [ints_len]; omega)]
  have e1 : v = .slice a len cap := by simpa using e
  subst hl
  exact ⟨a, cap, l, e1, h1, h2, hv ▸ h4, fun x hm => by
    obtain ⟨i, hi⟩ := List.mem_iff_getElem?.1 hm
    exact (hx i x hi).2⟩
abbrev pkS : Sh1 := .con (.int .i64) (.con (.int .u32) (.con (.int .i64) (.con (.int .i64) (.con (.slc (.int .u8)) .nil))))
/-- What the numbers of a packet may be. -/
structure PkW (p : Pk) : Prop where
  id : (Lit.int .i64 p.id).wf = true
  flow : (Lit.int .u32 p.flow).wf = true
  tid : (Lit.int .i64 p.tid).wf = true
  at_ : (Lit.int .i64 p.at_).wf = true
theorem opn_pk {W : Wd} {cs : List Value} (o : Opn pkS W cs) : ∃ p, PkV W p cs ∧ PkW p := by
  obtain ⟨hl, ⟨id, e1, w1⟩, _, ⟨fl, e2, w2⟩, _, ⟨ti, e3, w3⟩, _, ⟨at_, e4, w4⟩, _, ob, _⟩ := o
  match cs, hl with
  | [c0, c1, c2, c3, c4], _ =>
    simp [Sh1.size] at e1 e2 e3 e4 ob
    subst e1 e2 e3 e4
    obtain ⟨a, cap, l, rfl, h1, _, h2, h3⟩ := opn_ints ob
    exact ⟨⟨id, fl, ti, at_, l⟩, ⟨a, cap, rfl, a, cap, rfl, h1, h2⟩, ⟨w1, w2, w3, w4⟩⟩
theorem opn_pks {W : Wd} {a : Option Addr} {len cap : Nat} (o : Opn (.slc pkS) W [.slice a len cap]) : ∃ (l : List Pk) (vs : List Value), l.length = len ∧ len ≤ cap ∧ wsrc W a (len * 5) vs ∧ Sq (PkV W) l vs ∧ ∀ p ∈ l, PkW p := by
  obtain ⟨a', len', cap', vs, e, h1, h2, h3, h4, h5⟩ := o
  cases e
  obtain ⟨l, hl, hx⟩ := choose_l len fun i hi => opn_pk (h5 i hi)
  refine ⟨l, vs, hl, h1, h4, sq_of (by rw [hl]; exact h3) fun i x hi => (hx i x hi).1, fun p hp => ?_⟩
  obtain ⟨i, hi⟩ := List.mem_iff_getElem?.1 hp
  exact (hx i p hi).2
end Go.Proofs.YtpcilleldanfmaaDoor

/- What a pool is told, as it comes in. -/
set_option linter.unusedVariables false
set_option linter.unusedSimpArgs false
namespace Go.Proofs.YtpcilleldanfmaaDoor
open Go.Vc
structure Dp where
  kind : Int
  a : Int
  b : Int
  n : Int
  p : Pk
def DpV (W : Wd) (x : Dp) (cs : List Value) : Prop := ∃ pa pc, cs = [.int .i64 x.kind, .int .i64 x.a, .int .i64 x.b, .int .i64 x.n, .int .i64 x.p.id, .int .u32 x.p.flow, .int .i64 x.p.tid, .int .i64 x.p.at_, .slice pa x.p.body.length pc] ∧ Bts W (.slice pa x.p.body.length pc) x.p.body
theorem DpV.len {W : Wd} {x : Dp} {cs : List Value} (h : DpV W x cs) : cs.length = 9 := by obtain ⟨a, c, rfl, _⟩ := h; rfl
theorem dp_at {l : List Dp} {a : Option Addr} {vs : List Value} {h : Heap} {W : Wd} (hs : src h a (l.length * 9) vs) (hq : Sq (DpV W) l vs) {i : Nat} {x : Dp} (hx : l[i]? = some x) :
    ∃ b o pa pc, a = some ⟨b, o, none⟩ ∧ Bts W (.slice pa x.p.body.length pc) x.p.body ∧ ∀ h', Kept h h' → row h' b (o + i * 9) 9 = some [.int .i64 x.kind, .int .i64 x.a, .int .i64 x.b, .int .i64 x.n, .int .i64 x.p.id, .int .u32 x.p.flow, .int .i64 x.p.tid, .int .i64 x.p.at_, .slice pa x.p.body.length pc] := by
  obtain ⟨cs, hcv, hrow, hrl⟩ := hq.get (fun _ _ => DpV.len) hx
  obtain ⟨pa, pc, rfl, hbt⟩ := hcv
  obtain ⟨b, o, e, hr⟩ := src_part (k := i * 9) (n := 9) hs hrl (by decide) hrow
  refine ⟨b, o, pa, pc, e, hbt, fun h' kk => ?_⟩
  obtain ⟨b', o', e', hr'⟩ := src_part (k := i * 9) (n := 9) (kk.src hs) hrl (by decide) hrow
  rw [e] at e'; cases e'
  exact hr'
theorem opn_dp {W : Wd} {cs : List Value} (o : Opn (.con (.int .i64) (.con (.int .i64) (.con (.int .i64) (.con (.int .i64) (.con pkS .nil))))) W cs) : ∃ x, DpV W x cs := by
  obtain ⟨hl, ⟨kd, e1, _⟩, _, ⟨a, e2, _⟩, _, ⟨b, e3, _⟩, _, ⟨n, e4, _⟩, _, op, _⟩ := o
  match cs, hl with
  | [c0, c1, c2, c3, c4, c5, c6, c7, c8], _ =>
    obtain ⟨p, ⟨pa, pc, e5, hb⟩, _⟩ := opn_pk op
    simp [Sh1.size, pkS] at e1 e2 e3 e4 e5
    obtain ⟨rfl, rfl, rfl, rfl, rfl⟩ := e5
    subst e1 e2 e3 e4
    exact ⟨⟨kd, a, b, n, p⟩, pa, pc, rfl, hb⟩
theorem opn_dps {W : Wd} {a : Option Addr} {len cap : Nat} (o : Opn (.slc (.con (.int .i64) (.con (.int .i64) (.con (.int .i64) (.con (.int .i64) (.con pkS .nil)))))) W [.slice a len cap]) : ∃ (l : List Dp) (vs : List Value), l.length = len ∧ wsrc W a (len * 9) vs ∧ Sq (DpV W) l vs := by
  obtain ⟨a', len', cap', vs, e, h1, h2, h3, h4, h5⟩ := o
  cases e
  obtain ⟨l, hl, hx⟩ := choose_l len fun i hi => opn_dp (h5 i hi)
  exact ⟨l, vs, hl, h4, sq_of (by rw [hl]; exact h3) fun i x hi => hx i x hi⟩
def bools (l : List Bool) : List Value := l.map Value.bool
theorem bools_get {l : List Bool} {i : Nat} {x : Bool} (h : l[i]? = some x) : (bools l)[i]? = some (.bool x) := by simp [bools, h]
theorem bools_set {l : List Bool} {i : Nat} {x : Bool} : (bools l).set i (.bool x) = bools (l.set i x) := by simp [bools, List.map_set]
theorem bools_len {l : List Bool} : (bools l).length = l.length := by simp [bools]
end Go.Proofs.YtpcilleldanfmaaDoor

/- The program's pool of queues: Clone. -/
set_option linter.unusedVariables false
set_option linter.unusedSimpArgs false
set_option maxRecDepth 8000
namespace Go.Proofs.YtpcilleldanfmaaDoor
open Go.Vc
section
variable {W W' : Wd} {h h' h1 : Heap} {G R : List Grp} {L L' E : Grp} {P P' : Po} {bs bs2 : List Nat} {Ls Ls2 : List Grp} {b b' k n i : Nat} {T : TypeId}
/-- A copy under way: so many queues are done. -/
def CloJ (W : Wd) (R : List Grp) (P : Po) (b b1 : Nat) (bs : List Nat) (Ls : List Grp) (T T1 : TypeId) (k : Nat) (h' : Heap) : Prop :=
  ∃ (W1 : Wd) (bs1 : List Nat) (Ls1 : List Grp), bs1.length = k ∧ W.le W1 ∧ Qs QuV W1 (P.q.take k) bs1 Ls1 ∧ Me W1 h' (Ls1.flatten :: [(b1, poH P ++ prs (bs1 ++ bs.drop k), T1)] :: Ls.flatten :: [(b, poH P ++ prs bs, T)] :: R)
theorem poH_one : ∀ u ∈ poH P ++ prs bs, u.oneCell' = true := by
  intro u hu
  rcases List.mem_append.1 hu with hu | hu
  · simp [poH] at hu
    rcases hu with rfl | rfl | rfl | rfl | rfl <;> rfl
  · obtain ⟨b, _, rfl⟩ := List.mem_map.1 hu
    rfl
theorem poClone_c (m : Me W h (L :: R)) (hv : PoV W b P L) (hP : PoOk P) : Runs Tryd.prog 19 #[.pointer (some ⟨b, 0, none⟩)] h fun v h' =>
    ∃ W' b' L', W.le W' ∧ v = .pointer (some ⟨b', 0, none⟩) ∧ PoV W' b' P L' ∧ Me W' h' (L' :: L :: R) := by
  (obtain ⟨bs, Ls, T, hq, rfl, mNew⟩ := hv.opn m; replace m := mNew; clear mNew)
  have hbs := hq.n1
  rw [hP.n] at hbs
  have hpl : (poH P ++ prs bs).length = 133 := by rw [List.length_append, prs_len, hbs]; rfl
  refine vc_pool_Pool_Clone _ _ _ ⟨_, m.row 1 rfl (us := poH P ++ prs bs) (by rw [List.drop_zero, ← hpl, List.take_length]) (by rw [hpl]; exact Nat.le_refl _), ?_⟩
  intro b1 h1 e1 e2
  replace m := m.push e2 e1
  clear e1 e2
  refine ⟨⟨hpl, m.wrs 0 rfl (by decide), poH_one⟩, ?_⟩
  intro h2 e3
  replace m := m.setr 0 rfl e3
  clear e3
  rw [setL_all (by rw [hpl]; rfl)] at m
  simp only [List.set_cons_zero] at m
  obtain ⟨T1, m⟩ : ∃ T1, Me W h2 ([(b1, poH P ++ prs bs, T1)] :: Ls.flatten :: [(b, poH P ++ prs bs, T)] :: R) := ⟨_, m⟩
  refine ⟨fun x h' => ∃ i : Nat, x = i ∧ i ≤ 16 ∧ CloJ W R P b b1 bs Ls T T1 (i * 8) h', fun x _ => (16 - x).toNat, ⟨0, rfl, by omega, W, [], [], rfl, Wd.le.refl _, Qs.nil, m.nilI⟩, fun _ => ?_⟩
  clear m
  rintro _ h3 ⟨i, rfl, hi, hj⟩
  refine dcase_intro (fun q => ?_) fun q => ?_
  · refine ⟨fun x h' => ∃ t : Nat, x = t ∧ t ≤ 8 ∧ CloJ W R P b b1 bs Ls T T1 (i * 8 + t) h', fun x _ => (8 - x).toNat, ⟨0, rfl, by omega, hj⟩, fun _ => ?_⟩
    clear hj
    rintro _ h4 ⟨t, rfl, ht, W1, bs1, Ls1, hbl, hle, hq1, m⟩
    refine dcase_intro (fun q2 => ?_) fun q2 => ?_
    · have hk : i * 8 + t < 128 := by omega
      obtain ⟨bk, Lk, e1, e2, hvk, hc⟩ := (hq.le fun _ _ _ => QuV.le hle).cellAt (hP.qu hk).1 m (j := 3) rfl
      have ix : 5 + (i : Int).toNat * 8 + (t : Int).toNat = 5 + (i * 8 + t) := by omega
      rw [ix]
      refine ⟨⟨by omega, by omega⟩, ⟨by omega, by omega⟩, _, hc, ⟨by omega, by omega⟩, (clone_c ((m.focus 2 rfl).pick _ e2) hvk (hP.qu hk).2.ok).mono ?_⟩
      rintro _ h5 ⟨W2, b', L', hle2, rfl, hv', m2⟩
      clear m
      simp only [List.eraseIdx_cons_zero, List.eraseIdx_cons_succ] at m2
      have m3 : Me W2 h5 (Lk :: (Ls.eraseIdx (i * 8 + t)).flatten :: (Ls1 ++ [L']).flatten :: [(b1, poH P ++ prs (bs1 ++ bs.drop (i * 8 + t)), T1)] :: [(b, poH P ++ prs bs, T)] :: R) := m2.perm (by
        simp only [List.flatten_cons, List.flatten_append, List.flatten_nil]
        exact permC fun c h0 hc => by simp only [hc, h0]; omega)
      have m4 := Me.unpick (i * 8 + t) e2 m3
      rw [set_same e2] at m4
      clear m2 m3
      refine ⟨_, rfl, ⟨by omega, by omega⟩, ?_⟩
      have hlt : i * 8 + t < bs.length := by omega
      refine m4.store 2 rfl (by rw [List.length_append, prs_len, List.length_append, List.length_drop]; simp only [poH, List.length_cons, List.length_nil]; omega) fun h6 m => ?_
      rw [poH_set, prs_set, List.set_append_right _ _ (by omega), hbl, Nat.sub_self, List.drop_eq_getElem_cons hlt, List.set_cons_zero] at m
      simp only [List.set_cons_zero, List.set_cons_succ] at m
      refine ⟨by simp only [fits]; omega, ⟨t + 1, by omega, by omega, W2, bs1 ++ [b'], Ls1 ++ [L'], by simp [hbl]; omega, hle.trans hle2, ?_, ?_⟩, by (try dsimp only); omega⟩
      · rw [show i * 8 + (t + 1) = i * 8 + t + 1 by omega, List.take_add_one, (hP.qu hk).1]
        exact (hq1.le fun _ _ _ => QuV.le hle2).app (Qs.one hv')
      · rw [show i * 8 + (t + 1) = i * 8 + t + 1 by omega, List.append_assoc, List.singleton_append]
        exact m.perm (by simp only [List.flatten_cons, List.flatten_append, List.flatten_nil]; exact permC fun c h0 hc => by simp only [hc, h0]; omega)
    · obtain rfl : t = 8 := by omega
      exact ⟨by simp only [fits]; omega, ⟨i + 1, by omega, by omega, by rw [show (i + 1) * 8 = i * 8 + 8 by omega]; exact ⟨W1, bs1, Ls1, hbl, hle, hq1, m⟩⟩, by (try dsimp only); omega⟩
  · obtain rfl : i = 16 := by omega
    obtain ⟨W1, bs1, Ls1, hbl, hle, hq1, m⟩ := hj
    rw [List.drop_of_length_le (by omega), List.append_nil] at m
    rw [List.take_of_length_le (by rw [hP.n]; omega)] at hq1
    refine ⟨W1, b1, Ls1.flatten ++ [(b1, poH P ++ prs bs1, T1)], hle, rfl, ⟨bs1, Ls1, T1, hq1, rfl⟩, m.perm ?_⟩
    simp only [List.flatten_cons]
    exact permC fun c h0 hc => by simp only [hc, h0]; omega
end
end Go.Proofs.YtpcilleldanfmaaDoor

/- The conditions for calls of functions of the program, in plain form: written by a program (vcgen) off the elaborated code; each is the reckoner's own, by the kernel. -/
set_option linter.unusedVariables false
set_option maxRecDepth 100000
namespace Go.Proofs.YtpcilleldanfmaaDoor
open Go.Vc
theorem vc_muezzinref8_NewQueue (seed : Int) (target : Int) (interval : Int) (h0 : Heap) (Post : Value → Heap → Prop) (H :
∀ (b1 : Nat) (h1 : Heap), b1 = h0.size → h1 = h0.push (.cells ([(.int .u32 seed), (.int .i64 target), (.int .i64 interval), (.slice none 0 0), (.int .i64 (0 : Int)), (.int .i64 (0 : Int)), (.int .i64 (0 : Int)), (.int .u32 (0 : Int)), (.int .u32 (0 : Int)), (.bool false), (.slice none 0 0), (.int .i64 (0 : Int)), (.int .i64 (0 : Int)), (.int .i64 (0 : Int)), (.int .u32 (0 : Int)), (.int .u32 (0 : Int)), (.bool false), (.slice none 0 0), (.int .i64 (0 : Int)), (.int .i64 (0 : Int)), (.int .i64 (0 : Int)), (.int .u32 (0 : Int)), (.int .u32 (0 : Int)), (.bool false), (.slice none 0 0), (.int .i64 (0 : Int)), (.int .i64 (0 : Int)), (.int .i64 (0 : Int)), (.int .u32 (0 : Int)), (.int .u32 (0 : Int)), (.bool false), (.slice none 0 0), (.int .i64 (0 : Int)), (.int .i64 (0 : Int)), (.int .i64 (0 : Int)), (.int .u32 (0 : Int)), (.int .u32 (0 : Int)), (.bool false), (.slice none 0 0), (.int .i64 (0 : Int)), (.int .i64 (0 : Int)), (.int .i64 (0 : Int)), (.int .u32 (0 : Int)), (.int .u32 (0 : Int)), (.bool false), (.slice none 0 0), (.int .i64 (0 : Int)), (.int .i64 (0 : Int)), (.int .i64 (0 : Int)), (.int .u32 (0 : Int)), (.int .u32 (0 : Int)), (.bool false), (.slice none 0 0), (.int .i64 (0 : Int)), (.int .i64 (0 : Int)), (.int .i64 (0 : Int)), (.int .u32 (0 : Int)), (.int .u32 (0 : Int)), (.bool false), (.slice none 0 0), (.int .i64 (0 : Int)), (.int .i64 (0 : Int)), (.int .i64 (0 : Int)), (.int .u32 (0 : Int)), (.int .u32 (0 : Int)), (.bool false), (.slice none 0 0), (.int .i64 (0 : Int)), (.int .i64 (0 : Int)), (.int .i64 (0 : Int)), (.int .u32 (0 : Int)), (.int .u32 (0 : Int)), (.bool false), (.slice none 0 0), (.int .i64 (0 : Int)), (.int .i64 (0 : Int)), (.int .i64 (0 : Int)), (.int .u32 (0 : Int)), (.int .u32 (0 : Int)), (.bool false), (.slice none 0 0), (.int .i64 (0 : Int)), (.int .i64 (0 : Int)), (.int .i64 (0 : Int)), (.int .u32 (0 : Int)), (.int .u32 (0 : Int)), (.bool false), (.slice none 0 0), (.int .i64 (0 : Int)), (.int .i64 (0 : Int)), (.int .i64 (0 : Int)), (.int .u32 (0 : Int)), (.int .u32 (0 : Int)), (.bool false), (.slice none 0 0), (.int .i64 (0 : Int)), (.int .i64 (0 : Int)), (.int .i64 (0 : Int)), (.int .u32 (0 : Int)), (.int .u32 (0 : Int)), (.bool false), (.slice none 0 0), (.int .i64 (0 : Int)), (.int .i64 (0 : Int)), (.int .i64 (0 : Int)), (.int .u32 (0 : Int)), (.int .u32 (0 : Int)), (.bool false), (.slice none 0 0), (.int .i64 (0 : Int)), (.int .i64 (0 : Int)), (.int .i64 (0 : Int)), (.int .u32 (0 : Int)), (.int .u32 (0 : Int)), (.bool false), (.slice none 0 0), (.slice none 0 0)] : List Value).toArray 114) →
Post (.pointer (some ⟨b1, 0, none⟩)) h1) :
    Runs Tryd.prog 42 #[(.int .u32 seed), (.int .i64 target), (.int .i64 interval)] h0 Post :=
  runs_of (args := [(.int .u32 seed), (.int .i64 target), (.int .i64 interval)]) (fun n => ⟨true, false⟩) (fun _ => []) (fun _ => none) (fun _ => []) Tryd.func42 rfl (by rw [Tryd.ntmps42]; simp) (Eq.mp (by kernel_rfl) H)

theorem vc_muezzinref8_items (l : Option Addr) (lL lC : Nat) (h0 : Heap) (Post : Value → Heap → Prop) (H :
∃ (I1 : Option Addr → Nat → Nat → Int → Heap → Prop) (m1 : Option Addr → Nat → Nat → Int → Heap → Nat), I1 none 0 0 (0 : Int) h0 ∧ ∀ _ : Env,
∀ (out_1 : Option Addr) (out_1l out_1c : Nat) (i_1 : Int) (h1 : Heap), I1 out_1 out_1l out_1c i_1 h1 →
bcase (decide (i_1 < ((lL : Nat) : Int))) (
(0 ≤ i_1 ∧ i_1 < ((lL : Nat) : Int)) ∧
onAddr l fun b1 o1 =>
∃ n1 : Int, cell h1 b1 ((o1 + ((i_1).toNat * 5)) + 3) = some (.int .i64 n1) ∧
(0 ≤ i_1 ∧ i_1 < ((lL : Nat) : Int)) ∧
onAddr l fun b2 o2 =>
∃ (s1 : Option Addr) (s1l s1c : Nat), cell h1 b2 ((o2 + ((i_1).toNat * 5)) + 4) = some (.slice s1 s1l s1c) ∧
([(.int .i64 n1), (.int .i64 ((s1l : Nat) : Int))] : List Value).length = 2 ∧
∀ (b3 : Nat) (h2 : Heap), b3 = h1.size → h2 = h1.push (.cells ([(.int .i64 n1), (.int .i64 ((s1l : Nat) : Int))] : List Value).toArray 125) →
∃ news1 : List Value, (row h2 b3 0 2 = some news1 ∧ ∀ u ∈ news1, u.oneCell' = true) ∧
appK h2 out_1 out_1l out_1c 1 2 125 16 news1 fun (a1 : Option Addr) (cap1 : Nat) (h3 : Heap) =>
cell h3 b2 ((o2 + ((i_1).toNat * 5)) + 4) = some (.slice s1 s1l s1c) ∧
cell h3 b1 ((o1 + ((i_1).toNat * 5)) + 3) = some (.int .i64 n1) ∧
fits .i64 (i_1 + (1 : Int)) ∧
I1 a1 (out_1l + 1) cap1 (i_1 + (1 : Int)) h3 ∧ m1 a1 (out_1l + 1) cap1 (i_1 + (1 : Int)) h3 < m1 out_1 out_1l out_1c i_1 h1) (
Post (.slice out_1 out_1l out_1c) h1)) :
    Runs Tryd.prog 73 #[(.slice l lL lC)] h0 Post :=
  runs_of (args := [(.slice l lL lC)]) (fun n => ⟨true, false⟩) (fun n => match n with | 0 => [(3, .slice), (4, .int .i64)] | _ => []) (fun _ => none) (fun _ => []) Tryd.func73 rfl (by rw [Tryd.ntmps73]; simp) (Eq.mp (by kernel_rfl) H)

theorem vc_muezzinref8_flow_bytes (f : Option Addr) (h0 : Heap) (Post : Value → Heap → Prop) (H :
∃ (I1 : Int → Int → Heap → Prop) (m1 : Int → Int → Heap → Nat), I1 (0 : Int) (0 : Int) h0 ∧ ∀ _ : Env,
∀ (n_1 : Int) (i_1 : Int) (h1 : Heap), I1 n_1 i_1 h1 →
onAddr f fun b1 o1 =>
∃ (s1 : Option Addr) (s1l s1c : Nat), cell h1 b1 o1 = some (.slice s1 s1l s1c) ∧
bcase (decide (i_1 < ((s1l : Nat) : Int))) (
onAddr f fun b2 o2 =>
∃ (s2 : Option Addr) (s2l s2c : Nat), cell h1 b2 o2 = some (.slice s2 s2l s2c) ∧
(0 ≤ i_1 ∧ i_1 < ((s2l : Nat) : Int)) ∧
onAddr s2 fun b3 o3 =>
∃ (s3 : Option Addr) (s3l s3c : Nat), cell h1 b3 ((o3 + ((i_1).toNat * 5)) + 4) = some (.slice s3 s3l s3c) ∧
fits .i64 (n_1 + ((s3l : Nat) : Int)) ∧
fits .i64 (i_1 + (1 : Int)) ∧
I1 (n_1 + ((s3l : Nat) : Int)) (i_1 + (1 : Int)) h1 ∧ m1 (n_1 + ((s3l : Nat) : Int)) (i_1 + (1 : Int)) h1 < m1 n_1 i_1 h1) (
Post (.int .i64 n_1) h1)) :
    Runs Tryd.prog 68 #[(.pointer f)] h0 Post :=
  runs_of (args := [(.pointer f)]) (fun n => ⟨true, false⟩) (fun n => match n with | 0 => [(3, .int .i64), (4, .int .i64)] | _ => []) (fun _ => none) (fun _ => []) Tryd.func68 rfl (by rw [Tryd.ntmps68]; simp) (Eq.mp (by kernel_rfl) H)

theorem vc_muezzinref8_Queue_Put (q : Nat) (p : List Value) (h0 : Heap) (Post : Value → Heap → Prop) (H :
∀ (b1 : Nat) (h1 : Heap), b1 = h0.size → h1 = h0.push (.cells (p).toArray 35) →
∃ n1 : Int, cell h1 b1 1 = some (.int .u32 n1) ∧
∃ n2 : Int, cell h1 q 0 = some (.int .u32 n2) ∧
Runs Tryd.prog 11 #[(.int .u32 n1), (.int .u32 n2)] h1 fun r1 h2 =>
∃ n3 : Int,
r1 = (.int .i64 n3) ∧
(0 ≤ n3 ∧ n3 < ((16 : Nat) : Int)) ∧
∃ (s1 : Option Addr) (s1l s1c : Nat), cell h2 q (3 + ((n3).toNat * 7)) = some (.slice s1 s1l s1c) ∧
∃ cs1 : List Value, row h2 b1 0 5 = some cs1 ∧
Runs Tryd.prog 66 #[(.agg (cs1).toArray)] h2 fun r2 h3 =>
∃ cs2 : List Value,
r2 = (.agg (cs2).toArray) ∧
cell h3 q (3 + ((n3).toNat * 7)) = some (.slice s1 s1l s1c) ∧
(cs2).length = 5 ∧
∀ (b2 : Nat) (h4 : Heap), b2 = h3.size → h4 = h3.push (.cells (((cs2) ++ [])).toArray 35) →
∃ news1 : List Value, (row h4 b2 0 5 = some news1 ∧ ∀ u ∈ news1, u.oneCell' = true) ∧
appK h4 s1 s1l s1c 1 5 35 56 news1 fun (a1 : Option Addr) (cap1 : Nat) (h5 : Heap) =>
wr h5 q (3 + ((n3).toNat * 7)) ∧ ∀ h6 : Heap, h6 = setc h5 q (3 + ((n3).toNat * 7)) (.slice a1 (s1l + 1) cap1) →
∃ (s2 : Option Addr) (s2l s2c : Nat), cell h6 q 115 = some (.slice s2 s2l s2c) ∧
Runs Tryd.prog 67 #[(.slice s2 s2l s2c), (.int .i64 n3)] h6 fun r3 h7 =>
∃ t1 : Bool,
r3 = (.bool t1) ∧
bcase (!t1) (
∃ (s3 : Option Addr) (s3l s3c : Nat), cell h7 q 116 = some (.slice s3 s3l s3c) ∧
Runs Tryd.prog 67 #[(.slice s3 s3l s3c), (.int .i64 n3)] h7 fun r4 h8 =>
∃ t2 : Bool,
r4 = (.bool t2) ∧
bcase (!t2) (
wr h8 q ((3 + ((n3).toNat * 7)) + 1) ∧ ∀ h9 : Heap, h9 = setc h8 q ((3 + ((n3).toNat * 7)) + 1) (.int .i64 (300 : Int)) →
∃ (s4 : Option Addr) (s4l s4c : Nat), cell h9 q 115 = some (.slice s4 s4l s4c) ∧
∀ (b3 : Nat) (h10 : Heap), b3 = h9.size → h10 = h9.push (.cells ([(.int .i64 n3)] : List Value).toArray 3) →
∃ news2 : List Value, (row h10 b3 0 1 = some news2 ∧ ∀ u ∈ news2, u.oneCell' = true) ∧
appK h10 s4 s4l s4c 1 1 3 8 news2 fun (a2 : Option Addr) (cap2 : Nat) (h11 : Heap) =>
wr h11 q 115 ∧ ∀ h12 : Heap, h12 = setc h11 q 115 (.slice a2 (s4l + 1) cap2) →
Post (.int .i64 n3) h12) (
Post (.int .i64 n3) h8)) (
Post (.int .i64 n3) h7)) :
    Runs Tryd.prog 45 #[(.pointer (some ⟨q, 0, none⟩)), (.agg (p).toArray)] h0 Post :=
  runs_of (args := [(.pointer (some ⟨q, 0, none⟩)), (.agg (p).toArray)]) (fun n => ⟨true, false⟩) (fun _ => []) (fun _ => none) (fun _ => []) Tryd.func45 rfl (by rw [Tryd.ntmps45]; simp) (Eq.mp (by kernel_rfl) H)

theorem vc_muezzinref8_Queue_Take (q : Nat) (now : Int) (h0 : Heap) (Post : Value → Heap → Prop) (H :
∀ (b1 : Nat) (h1 : Heap), b1 = h0.size → h1 = h0.push (.cells ([(.int .i64 (0 : Int)), (.int .u32 (0 : Int)), (.int .i64 (0 : Int)), (.int .i64 (0 : Int)), (.slice none 0 0)] : List Value).toArray 35) →
∃ (I1 : Option Addr → Nat → Nat → Heap → Prop) (m1 : Option Addr → Nat → Nat → Heap → Nat), I1 none 0 0 h1 ∧ ∀ _ : Env,
∀ (dropped_1 : Option Addr) (dropped_1l dropped_1c : Nat) (h2 : Heap), I1 dropped_1 dropped_1l dropped_1c h2 →
∃ (s1 : Option Addr) (s1l s1c : Nat), cell h2 q 115 = some (.slice s1 s1l s1c) ∧
∃ (s2 : Option Addr) (s2l s2c : Nat), cell h2 q 116 = some (.slice s2 s2l s2c) ∧
fits .i64 (((s1l : Nat) : Int) + ((s2l : Nat) : Int)) ∧
bcase (decide ((0 : Int) < (((s1l : Nat) : Int) + ((s2l : Nat) : Int)))) (
∃ (s3 : Option Addr) (s3l s3c : Nat), cell h2 q 115 = some (.slice s3 s3l s3c) ∧
∃ J1 : Int → Heap → Prop, (
bcase (decide ((0 : Int) < ((s3l : Nat) : Int))) (
∃ (s4 : Option Addr) (s4l s4c : Nat), cell h2 q 115 = some (.slice s4 s4l s4c) ∧
(0 ≤ (0 : Int) ∧ (0 : Int) < ((s4l : Nat) : Int)) ∧
onAddr s4 fun b2 o1 =>
∃ n1 : Int, cell h2 b2 o1 = some (.int .i64 n1) ∧
J1 n1 h2) (
∃ (s5 : Option Addr) (s5l s5c : Nat), cell h2 q 116 = some (.slice s5 s5l s5c) ∧
(0 ≤ (0 : Int) ∧ (0 : Int) < ((s5l : Nat) : Int)) ∧
onAddr s5 fun b3 o2 =>
∃ n2 : Int, cell h2 b3 o2 = some (.int .i64 n2) ∧
J1 n2 h2)) ∧ ∀ _ : Env,
∀ (b_1 : Int) (h3 : Heap), J1 b_1 h3 →
(0 ≤ b_1 ∧ b_1 < ((16 : Nat) : Int)) ∧
∃ n3 : Int, cell h3 q ((3 + ((b_1).toNat * 7)) + 1) = some (.int .i64 n3) ∧
bcase (decide (n3 ≤ (0 : Int))) (
∃ n4 : Int, cell h3 q ((3 + ((b_1).toNat * 7)) + 1) = some (.int .i64 n4) ∧
fits .i64 (n4 + (300 : Int)) ∧
wr h3 q ((3 + ((b_1).toNat * 7)) + 1) ∧ ∀ h4 : Heap, h4 = setc h3 q ((3 + ((b_1).toNat * 7)) + 1) (.int .i64 (n4 + (300 : Int))) →
∃ (s6 : Option Addr) (s6l s6c : Nat), cell h4 q 115 = some (.slice s6 s6l s6c) ∧
Runs Tryd.prog 71 #[(.slice s6 s6l s6c), (.int .i64 b_1)] h4 fun r1 h5 =>
∃ (s7 : Option Addr) (s7l s7c : Nat),
r1 = (.slice s7 s7l s7c) ∧
wr h5 q 115 ∧ ∀ h6 : Heap, h6 = setc h5 q 115 (.slice s7 s7l s7c) →
∃ (s8 : Option Addr) (s8l s8c : Nat), cell h6 q 116 = some (.slice s8 s8l s8c) ∧
Runs Tryd.prog 71 #[(.slice s8 s8l s8c), (.int .i64 b_1)] h6 fun r2 h7 =>
∃ (s9 : Option Addr) (s9l s9c : Nat),
r2 = (.slice s9 s9l s9c) ∧
∀ (b4 : Nat) (h8 : Heap), b4 = h7.size → h8 = h7.push (.cells ([(.int .i64 b_1)] : List Value).toArray 3) →
∃ news1 : List Value, (row h8 b4 0 1 = some news1 ∧ ∀ u ∈ news1, u.oneCell' = true) ∧
appK h8 s9 s9l s9c 1 1 3 8 news1 fun (a1 : Option Addr) (cap1 : Nat) (h9 : Heap) =>
wr h9 q 116 ∧ ∀ h10 : Heap, h10 = setc h9 q 116 (.slice a1 (s9l + 1) cap1) →
I1 dropped_1 dropped_1l dropped_1c h10 ∧ m1 dropped_1 dropped_1l dropped_1c h10 < m1 dropped_1 dropped_1l dropped_1c h2) (
∃ J2 : Option Addr → Int → Bool → Heap → Prop, (
∃ cs1 : List Value, row h3 q ((3 + ((b_1).toNat * 7)) + 2) 5 = some cs1 ∧
∃ n5 : Int, cell h3 q 1 = some (.int .i64 n5) ∧
∃ n6 : Int, cell h3 q 2 = some (.int .i64 n6) ∧
∃ (s10 : Option Addr) (s10l s10c : Nat), cell h3 q (3 + ((b_1).toNat * 7)) = some (.slice s10 s10l s10c) ∧
(
Runs Tryd.prog 68 #[(.pointer (some ⟨q, (3 + ((b_1).toNat * 7)), none⟩))] h3 fun r3 h11 =>
∃ n7 : Int,
r3 = (.int .i64 n7) ∧
cell h11 q (3 + ((b_1).toNat * 7)) = some (.slice s10 s10l s10c) ∧
cell h11 q 2 = some (.int .i64 n6) ∧
cell h11 q 1 = some (.int .i64 n5) ∧
row h11 q ((3 + ((b_1).toNat * 7)) + 2) 5 = some (cs1) ∧
(
Runs Tryd.prog 73 #[(.slice s10 s10l s10c)] h11 fun r4 h12 =>
∃ (s11 : Option Addr) (s11l s11c : Nat),
r4 = (.slice s11 s11l s11c) ∧
cell h12 q 2 = some (.int .i64 n6) ∧
cell h12 q 1 = some (.int .i64 n5) ∧
row h12 q ((3 + ((b_1).toNat * 7)) + 2) 5 = some (cs1) ∧
(
Runs Tryd.prog 72 #[(.agg (cs1).toArray), (.int .i64 now), (.int .i64 n5), (.int .i64 n6), (.int .i64 n7), (.slice s11 s11l s11c)] h12 fun r5 h13 =>
∃ cs2 : List Value,
∃ n8 : Int,
∃ t1 : Bool,
r5 = (.tuple #[(.agg (cs2).toArray), (.int .i64 n8), (.bool t1)]) ∧
∀ (b5 : Nat) (h14 : Heap), b5 = h13.size → h14 = h13.push (.cells ([(.int .i64 (0 : Int)), (.int .i64 (0 : Int)), (.int .u32 (0 : Int)), (.int .u32 (0 : Int)), (.bool false)] : List Value).toArray 109) →
(((cs2)).length = 5 ∧ wrs h14 b5 0 5 ∧ ∀ u ∈ ((cs2) : List Value), u.oneCell' = true) ∧ ∀ h15 : Heap, h15 = setr h14 b5 0 (cs2) →
J2 (some ⟨b5, 0, none⟩) n8 t1 h15) ∧
(
∀ (b6 : Nat) (h16 : Heap), b6 = h12.size → h16 = h12.push (.cells ([(.int .i64 (0 : Int)), (.int .i64 (0 : Int)), (.int .u32 (0 : Int)), (.int .u32 (0 : Int)), (.bool false)] : List Value).toArray 109) →
Runs Tryd.prog 72 #[(.agg (cs1).toArray), (.int .i64 now), (.int .i64 n5), (.int .i64 n6), (.int .i64 n7), (.slice s11 s11l s11c)] h16 fun r6 h17 =>
∃ cs3 : List Value,
∃ n9 : Int,
∃ t2 : Bool,
r6 = (.tuple #[(.agg (cs3).toArray), (.int .i64 n9), (.bool t2)]) ∧
(((cs3)).length = 5 ∧ wrs h17 b6 0 5 ∧ ∀ u ∈ ((cs3) : List Value), u.oneCell' = true) ∧ ∀ h18 : Heap, h18 = setr h17 b6 0 (cs3) →
J2 (some ⟨b6, 0, none⟩) n9 t2 h18)) ∧
(
∀ (b7 : Nat) (h19 : Heap), b7 = h11.size → h19 = h11.push (.cells ([(.int .i64 (0 : Int)), (.int .i64 (0 : Int)), (.int .u32 (0 : Int)), (.int .u32 (0 : Int)), (.bool false)] : List Value).toArray 109) →
Runs Tryd.prog 73 #[(.slice s10 s10l s10c)] h19 fun r7 h20 =>
∃ (s12 : Option Addr) (s12l s12c : Nat),
r7 = (.slice s12 s12l s12c) ∧
cell h20 q 2 = some (.int .i64 n6) ∧
cell h20 q 1 = some (.int .i64 n5) ∧
row h20 q ((3 + ((b_1).toNat * 7)) + 2) 5 = some (cs1) ∧
Runs Tryd.prog 72 #[(.agg (cs1).toArray), (.int .i64 now), (.int .i64 n5), (.int .i64 n6), (.int .i64 n7), (.slice s12 s12l s12c)] h20 fun r8 h21 =>
∃ cs4 : List Value,
∃ n10 : Int,
∃ t3 : Bool,
r8 = (.tuple #[(.agg (cs4).toArray), (.int .i64 n10), (.bool t3)]) ∧
(((cs4)).length = 5 ∧ wrs h21 b7 0 5 ∧ ∀ u ∈ ((cs4) : List Value), u.oneCell' = true) ∧ ∀ h22 : Heap, h22 = setr h21 b7 0 (cs4) →
J2 (some ⟨b7, 0, none⟩) n10 t3 h22)) ∧
(
∀ (b8 : Nat) (h23 : Heap), b8 = h3.size → h23 = h3.push (.cells ([(.int .i64 (0 : Int)), (.int .i64 (0 : Int)), (.int .u32 (0 : Int)), (.int .u32 (0 : Int)), (.bool false)] : List Value).toArray 109) →
Runs Tryd.prog 68 #[(.pointer (some ⟨q, (3 + ((b_1).toNat * 7)), none⟩))] h23 fun r9 h24 =>
∃ n11 : Int,
r9 = (.int .i64 n11) ∧
cell h24 q (3 + ((b_1).toNat * 7)) = some (.slice s10 s10l s10c) ∧
cell h24 q 2 = some (.int .i64 n6) ∧
cell h24 q 1 = some (.int .i64 n5) ∧
row h24 q ((3 + ((b_1).toNat * 7)) + 2) 5 = some (cs1) ∧
Runs Tryd.prog 73 #[(.slice s10 s10l s10c)] h24 fun r10 h25 =>
∃ (s13 : Option Addr) (s13l s13c : Nat),
r10 = (.slice s13 s13l s13c) ∧
cell h25 q 2 = some (.int .i64 n6) ∧
cell h25 q 1 = some (.int .i64 n5) ∧
row h25 q ((3 + ((b_1).toNat * 7)) + 2) 5 = some (cs1) ∧
Runs Tryd.prog 72 #[(.agg (cs1).toArray), (.int .i64 now), (.int .i64 n5), (.int .i64 n6), (.int .i64 n11), (.slice s13 s13l s13c)] h25 fun r11 h26 =>
∃ cs5 : List Value,
∃ n12 : Int,
∃ t4 : Bool,
r11 = (.tuple #[(.agg (cs5).toArray), (.int .i64 n12), (.bool t4)]) ∧
(((cs5)).length = 5 ∧ wrs h26 b8 0 5 ∧ ∀ u ∈ ((cs5) : List Value), u.oneCell' = true) ∧ ∀ h27 : Heap, h27 = setr h26 b8 0 (cs5) →
J2 (some ⟨b8, 0, none⟩) n12 t4 h27)) ∧ ∀ _ : Env,
∀ (c_1 : Option Addr) (n_1 : Int) (is_1 : Bool) (h28 : Heap), J2 c_1 n_1 is_1 h28 →
onAddr c_1 fun b9 o3 =>
∃ cs6 : List Value, row h28 b9 o3 5 = some cs6 ∧
(((cs6)).length = 5 ∧ wrs h28 q ((3 + ((b_1).toNat * 7)) + 2) 5 ∧ ∀ u ∈ ((cs6) : List Value), u.oneCell' = true) ∧ ∀ h29 : Heap, h29 = setr h28 q ((3 + ((b_1).toNat * 7)) + 2) (cs6) →
∃ (I2 : Option Addr → Nat → Nat → Int → Heap → Prop) (m2 : Option Addr → Nat → Nat → Int → Heap → Nat), I2 dropped_1 dropped_1l dropped_1c (0 : Int) h29 ∧ ∀ _ : Env,
∀ (dropped_2 : Option Addr) (dropped_2l dropped_2c : Nat) (i_1 : Int) (h30 : Heap), I2 dropped_2 dropped_2l dropped_2c i_1 h30 →
bcase (decide (i_1 < n_1)) (
∃ (s14 : Option Addr) (s14l s14c : Nat), cell h30 q (3 + ((b_1).toNat * 7)) = some (.slice s14 s14l s14c) ∧
(0 ≤ i_1 ∧ i_1 < ((s14l : Nat) : Int)) ∧
onAddr s14 fun b10 o4 =>
∃ cs7 : List Value, row h30 b10 (o4 + ((i_1).toNat * 5)) 5 = some cs7 ∧
(cs7).length = 5 ∧
∀ (b11 : Nat) (h31 : Heap), b11 = h30.size → h31 = h30.push (.cells (((cs7) ++ [])).toArray 35) →
∃ news2 : List Value, (row h31 b11 0 5 = some news2 ∧ ∀ u ∈ news2, u.oneCell' = true) ∧
appK h31 dropped_2 dropped_2l dropped_2c 1 5 35 56 news2 fun (a2 : Option Addr) (cap2 : Nat) (h32 : Heap) =>
fits .i64 (i_1 + (1 : Int)) ∧
I2 a2 (dropped_2l + 1) cap2 (i_1 + (1 : Int)) h32 ∧ m2 a2 (dropped_2l + 1) cap2 (i_1 + (1 : Int)) h32 < m2 dropped_2 dropped_2l dropped_2c i_1 h30) (
∃ (s15 : Option Addr) (s15l s15c : Nat), cell h30 q (3 + ((b_1).toNat * 7)) = some (.slice s15 s15l s15c) ∧
(0 ≤ n_1 ∧ n_1 ≤ ((s15l : Nat) : Int)) ∧
Runs Tryd.prog 70 #[(.slice (slcAddr s15 (n_1).toNat s15c ((n_1).toNat * 5)) (s15l - (n_1).toNat) (s15c - (n_1).toNat))] h30 fun r12 h33 =>
∃ (s16 : Option Addr) (s16l s16c : Nat),
r12 = (.slice s16 s16l s16c) ∧
wr h33 q (3 + ((b_1).toNat * 7)) ∧ ∀ h34 : Heap, h34 = setc h33 q (3 + ((b_1).toNat * 7)) (.slice s16 s16l s16c) →
bcase (!is_1) (
∃ J3 : Bool → Heap → Prop, (
bcase (decide ((0 : Int) < ((s3l : Nat) : Int))) (
∃ (s17 : Option Addr) (s17l s17c : Nat), cell h34 q 116 = some (.slice s17 s17l s17c) ∧
J3 (decide ((0 : Int) < ((s17l : Nat) : Int))) h34) (
J3 false h34)) ∧ ∀ _ : Env,
∀ (again_1 : Bool) (h35 : Heap), J3 again_1 h35 →
∃ (s18 : Option Addr) (s18l s18c : Nat), cell h35 q 115 = some (.slice s18 s18l s18c) ∧
Runs Tryd.prog 71 #[(.slice s18 s18l s18c), (.int .i64 b_1)] h35 fun r13 h36 =>
∃ (s19 : Option Addr) (s19l s19c : Nat),
r13 = (.slice s19 s19l s19c) ∧
wr h36 q 115 ∧ ∀ h37 : Heap, h37 = setc h36 q 115 (.slice s19 s19l s19c) →
∃ (s20 : Option Addr) (s20l s20c : Nat), cell h37 q 116 = some (.slice s20 s20l s20c) ∧
Runs Tryd.prog 71 #[(.slice s20 s20l s20c), (.int .i64 b_1)] h37 fun r14 h38 =>
∃ (s21 : Option Addr) (s21l s21c : Nat),
r14 = (.slice s21 s21l s21c) ∧
wr h38 q 116 ∧ ∀ h39 : Heap, h39 = setc h38 q 116 (.slice s21 s21l s21c) →
bcase again_1 (
∃ (s22 : Option Addr) (s22l s22c : Nat), cell h39 q 116 = some (.slice s22 s22l s22c) ∧
∀ (b12 : Nat) (h40 : Heap), b12 = h39.size → h40 = h39.push (.cells ([(.int .i64 b_1)] : List Value).toArray 3) →
∃ news3 : List Value, (row h40 b12 0 1 = some news3 ∧ ∀ u ∈ news3, u.oneCell' = true) ∧
appK h40 s22 s22l s22c 1 1 3 8 news3 fun (a3 : Option Addr) (cap3 : Nat) (h41 : Heap) =>
wr h41 q 116 ∧ ∀ h42 : Heap, h42 = setc h41 q 116 (.slice a3 (s22l + 1) cap3) →
I1 dropped_2 dropped_2l dropped_2c h42 ∧ m1 dropped_2 dropped_2l dropped_2c h42 < m1 dropped_1 dropped_1l dropped_1c h2) (
I1 dropped_2 dropped_2l dropped_2c h39 ∧ m1 dropped_2 dropped_2l dropped_2c h39 < m1 dropped_1 dropped_1l dropped_1c h2)) (
∃ (s23 : Option Addr) (s23l s23c : Nat), cell h34 q (3 + ((b_1).toNat * 7)) = some (.slice s23 s23l s23c) ∧
(0 ≤ (0 : Int) ∧ (0 : Int) < ((s23l : Nat) : Int)) ∧
onAddr s23 fun b13 o5 =>
∃ cs8 : List Value, row h34 b13 o5 5 = some cs8 ∧
∀ (b14 : Nat) (h43 : Heap), b14 = h34.size → h43 = h34.push (.cells ([(.int .i64 (0 : Int)), (.int .u32 (0 : Int)), (.int .i64 (0 : Int)), (.int .i64 (0 : Int)), (.slice none 0 0)] : List Value).toArray 35) →
(((cs8)).length = 5 ∧ wrs h43 b14 0 5 ∧ ∀ u ∈ ((cs8) : List Value), u.oneCell' = true) ∧ ∀ h44 : Heap, h44 = setr h43 b14 0 (cs8) →
∃ (s24 : Option Addr) (s24l s24c : Nat), cell h44 q (3 + ((b_1).toNat * 7)) = some (.slice s24 s24l s24c) ∧
(0 ≤ (1 : Int) ∧ (1 : Int) ≤ ((s24l : Nat) : Int)) ∧
Runs Tryd.prog 70 #[(.slice (slcAddr s24 1 s24c 5) (s24l - 1) (s24c - 1))] h44 fun r15 h45 =>
∃ (s25 : Option Addr) (s25l s25c : Nat),
r15 = (.slice s25 s25l s25c) ∧
wr h45 q (3 + ((b_1).toNat * 7)) ∧ ∀ h46 : Heap, h46 = setc h45 q (3 + ((b_1).toNat * 7)) (.slice s25 s25l s25c) →
∃ n13 : Int, cell h46 q ((3 + ((b_1).toNat * 7)) + 1) = some (.int .i64 n13) ∧
∃ (s26 : Option Addr) (s26l s26c : Nat), cell h46 b14 4 = some (.slice s26 s26l s26c) ∧
fits .i64 (n13 - ((s26l : Nat) : Int)) ∧
wr h46 q ((3 + ((b_1).toNat * 7)) + 1) ∧ ∀ h47 : Heap, h47 = setc h46 q ((3 + ((b_1).toNat * 7)) + 1) (.int .i64 (n13 - ((s26l : Nat) : Int))) →
∃ cs9 : List Value, row h47 b14 0 5 = some cs9 ∧
(((cs9)).length = 5 ∧ wrs h47 b1 0 5 ∧ ∀ u ∈ ((cs9) : List Value), u.oneCell' = true) ∧ ∀ h48 : Heap, h48 = setr h47 b1 0 (cs9) →
∃ cs10 : List Value, row h48 b1 0 5 = some cs10 ∧
Post (.tuple #[(.agg (cs10).toArray), (.slice dropped_2 dropped_2l dropped_2c), (.bool true)]) h48)))) (
((([(.int .i64 (0 : Int)), (.int .u32 (0 : Int)), (.int .i64 (0 : Int)), (.int .i64 (0 : Int)), (.slice none 0 0)] : List Value)).length = 5 ∧ wrs h2 b1 0 5 ∧ ∀ u ∈ (([(.int .i64 (0 : Int)), (.int .u32 (0 : Int)), (.int .i64 (0 : Int)), (.int .i64 (0 : Int)), (.slice none 0 0)] : List Value) : List Value), u.oneCell' = true) ∧ ∀ h49 : Heap, h49 = setr h2 b1 0 ([(.int .i64 (0 : Int)), (.int .u32 (0 : Int)), (.int .i64 (0 : Int)), (.int .i64 (0 : Int)), (.slice none 0 0)] : List Value) →
∃ cs11 : List Value, row h49 b1 0 5 = some cs11 ∧
Post (.tuple #[(.agg (cs11).toArray), (.slice dropped_1 dropped_1l dropped_1c), (.bool false)]) h49)) :
    Runs Tryd.prog 49 #[(.pointer (some ⟨q, 0, none⟩)), (.int .i64 now)] h0 Post :=
  runs_of (args := [(.pointer (some ⟨q, 0, none⟩)), (.int .i64 now)]) (fun n => ⟨true, false⟩) (fun n => match n with | 0 => [(7, .slice)] | 2 => [(7, .slice), (14, .int .i64)] | _ => []) (fun n => match n with | 8 => some [(9, .int .i64)] | 14 => some [(11, .ptr), (12, .int .i64), (13, .bool)] | 22 => some [(15, .bool)] | _ => none) (fun _ => []) Tryd.func49 rfl (by rw [Tryd.ntmps49]; simp) (Eq.mp (by kernel_rfl) H)

theorem vc_muezzinref8_Queue_Head (q : Nat) (b : Int) (h0 : Heap) (Post : Value → Heap → Prop) (H :
∀ (b1 : Nat) (h1 : Heap), b1 = h0.size → h1 = h0.push (.cells ([(.int .i64 (0 : Int)), (.int .u32 (0 : Int)), (.int .i64 (0 : Int)), (.int .i64 (0 : Int)), (.slice none 0 0)] : List Value).toArray 35) →
bcase (decide (b < (0 : Int))) (
((([(.int .i64 (0 : Int)), (.int .u32 (0 : Int)), (.int .i64 (0 : Int)), (.int .i64 (0 : Int)), (.slice none 0 0)] : List Value)).length = 5 ∧ wrs h1 b1 0 5 ∧ ∀ u ∈ (([(.int .i64 (0 : Int)), (.int .u32 (0 : Int)), (.int .i64 (0 : Int)), (.int .i64 (0 : Int)), (.slice none 0 0)] : List Value) : List Value), u.oneCell' = true) ∧ ∀ h2 : Heap, h2 = setr h1 b1 0 ([(.int .i64 (0 : Int)), (.int .u32 (0 : Int)), (.int .i64 (0 : Int)), (.int .i64 (0 : Int)), (.slice none 0 0)] : List Value) →
∃ cs1 : List Value, row h2 b1 0 5 = some cs1 ∧
Post (.tuple #[(.agg (cs1).toArray), (.bool false)]) h2) (
bcase (decide ((16 : Int) ≤ b)) (
((([(.int .i64 (0 : Int)), (.int .u32 (0 : Int)), (.int .i64 (0 : Int)), (.int .i64 (0 : Int)), (.slice none 0 0)] : List Value)).length = 5 ∧ wrs h1 b1 0 5 ∧ ∀ u ∈ (([(.int .i64 (0 : Int)), (.int .u32 (0 : Int)), (.int .i64 (0 : Int)), (.int .i64 (0 : Int)), (.slice none 0 0)] : List Value) : List Value), u.oneCell' = true) ∧ ∀ h3 : Heap, h3 = setr h1 b1 0 ([(.int .i64 (0 : Int)), (.int .u32 (0 : Int)), (.int .i64 (0 : Int)), (.int .i64 (0 : Int)), (.slice none 0 0)] : List Value) →
∃ cs2 : List Value, row h3 b1 0 5 = some cs2 ∧
Post (.tuple #[(.agg (cs2).toArray), (.bool false)]) h3) (
(0 ≤ b ∧ b < ((16 : Nat) : Int)) ∧
∃ (s1 : Option Addr) (s1l s1c : Nat), cell h1 q (3 + ((b).toNat * 7)) = some (.slice s1 s1l s1c) ∧
bcase (decide (((s1l : Nat) : Int) = (0 : Int))) (
((([(.int .i64 (0 : Int)), (.int .u32 (0 : Int)), (.int .i64 (0 : Int)), (.int .i64 (0 : Int)), (.slice none 0 0)] : List Value)).length = 5 ∧ wrs h1 b1 0 5 ∧ ∀ u ∈ (([(.int .i64 (0 : Int)), (.int .u32 (0 : Int)), (.int .i64 (0 : Int)), (.int .i64 (0 : Int)), (.slice none 0 0)] : List Value) : List Value), u.oneCell' = true) ∧ ∀ h4 : Heap, h4 = setr h1 b1 0 ([(.int .i64 (0 : Int)), (.int .u32 (0 : Int)), (.int .i64 (0 : Int)), (.int .i64 (0 : Int)), (.slice none 0 0)] : List Value) →
∃ cs3 : List Value, row h4 b1 0 5 = some cs3 ∧
Post (.tuple #[(.agg (cs3).toArray), (.bool false)]) h4) (
(0 ≤ b ∧ b < ((16 : Nat) : Int)) ∧
∃ (s2 : Option Addr) (s2l s2c : Nat), cell h1 q (3 + ((b).toNat * 7)) = some (.slice s2 s2l s2c) ∧
(0 ≤ (0 : Int) ∧ (0 : Int) < ((s2l : Nat) : Int)) ∧
onAddr s2 fun b2 o1 =>
∃ cs4 : List Value, row h1 b2 o1 5 = some cs4 ∧
Runs Tryd.prog 66 #[(.agg (cs4).toArray)] h1 fun r1 h5 =>
∃ cs5 : List Value,
r1 = (.agg (cs5).toArray) ∧
(((cs5)).length = 5 ∧ wrs h5 b1 0 5 ∧ ∀ u ∈ ((cs5) : List Value), u.oneCell' = true) ∧ ∀ h6 : Heap, h6 = setr h5 b1 0 (cs5) →
∃ cs6 : List Value, row h6 b1 0 5 = some cs6 ∧
Post (.tuple #[(.agg (cs6).toArray), (.bool true)]) h6)))) :
    Runs Tryd.prog 69 #[(.pointer (some ⟨q, 0, none⟩)), (.int .i64 b)] h0 Post :=
  runs_of (args := [(.pointer (some ⟨q, 0, none⟩)), (.int .i64 b)]) (fun n => ⟨true, false⟩) (fun _ => []) (fun _ => none) (fun _ => []) Tryd.func69 rfl (by rw [Tryd.ntmps69]; simp) (Eq.mp (by kernel_rfl) H)

theorem vc_muezzinref8_Queue_DropHead (q : Nat) (b : Int) (h0 : Heap) (Post : Value → Heap → Prop) (H :
∀ (b1 : Nat) (h1 : Heap), b1 = h0.size → h1 = h0.push (.cells ([(.int .i64 (0 : Int)), (.int .u32 (0 : Int)), (.int .i64 (0 : Int)), (.int .i64 (0 : Int)), (.slice none 0 0)] : List Value).toArray 35) →
Runs Tryd.prog 69 #[(.pointer (some ⟨q, 0, none⟩)), (.int .i64 b)] h1 fun r1 h2 =>
∃ cs1 : List Value,
∃ t1 : Bool,
r1 = (.tuple #[(.agg (cs1).toArray), (.bool t1)]) ∧
∀ (b2 : Nat) (h3 : Heap), b2 = h2.size → h3 = h2.push (.cells ([(.int .i64 (0 : Int)), (.int .u32 (0 : Int)), (.int .i64 (0 : Int)), (.int .i64 (0 : Int)), (.slice none 0 0)] : List Value).toArray 35) →
(((cs1)).length = 5 ∧ wrs h3 b2 0 5 ∧ ∀ u ∈ ((cs1) : List Value), u.oneCell' = true) ∧ ∀ h4 : Heap, h4 = setr h3 b2 0 (cs1) →
bcase t1 (
(0 ≤ b ∧ b < ((16 : Nat) : Int)) ∧
∃ (s1 : Option Addr) (s1l s1c : Nat), cell h4 q (3 + ((b).toNat * 7)) = some (.slice s1 s1l s1c) ∧
(0 ≤ (1 : Int) ∧ (1 : Int) ≤ ((s1l : Nat) : Int)) ∧
Runs Tryd.prog 70 #[(.slice (slcAddr s1 1 s1c 5) (s1l - 1) (s1c - 1))] h4 fun r2 h5 =>
∃ (s2 : Option Addr) (s2l s2c : Nat),
r2 = (.slice s2 s2l s2c) ∧
cell h5 q (3 + ((b).toNat * 7)) = some (.slice s1 s1l s1c) ∧
(0 ≤ b ∧ b < ((16 : Nat) : Int)) ∧
wr h5 q (3 + ((b).toNat * 7)) ∧ ∀ h6 : Heap, h6 = setc h5 q (3 + ((b).toNat * 7)) (.slice s2 s2l s2c) →
∃ cs2 : List Value, row h6 b2 0 5 = some cs2 ∧
(((cs2)).length = 5 ∧ wrs h6 b1 0 5 ∧ ∀ u ∈ ((cs2) : List Value), u.oneCell' = true) ∧ ∀ h7 : Heap, h7 = setr h6 b1 0 (cs2) →
∃ cs3 : List Value, row h7 b1 0 5 = some cs3 ∧
Post (.tuple #[(.agg (cs3).toArray), (.bool t1)]) h7) (
∃ cs4 : List Value, row h4 b2 0 5 = some cs4 ∧
(((cs4)).length = 5 ∧ wrs h4 b1 0 5 ∧ ∀ u ∈ ((cs4) : List Value), u.oneCell' = true) ∧ ∀ h8 : Heap, h8 = setr h4 b1 0 (cs4) →
∃ cs5 : List Value, row h8 b1 0 5 = some cs5 ∧
Post (.tuple #[(.agg (cs5).toArray), (.bool t1)]) h8)) :
    Runs Tryd.prog 48 #[(.pointer (some ⟨q, 0, none⟩)), (.int .i64 b)] h0 Post :=
  runs_of (args := [(.pointer (some ⟨q, 0, none⟩)), (.int .i64 b)]) (fun n => ⟨true, false⟩) (fun _ => []) (fun _ => none) (fun _ => []) Tryd.func48 rfl (by rw [Tryd.ntmps48]; simp) (Eq.mp (by kernel_rfl) H)

theorem vc_muezzinref8_Queue_Fattest (q : Nat) (h0 : Heap) (Post : Value → Heap → Prop) (H :
∃ (I1 : Int → Int → Int → Heap → Prop) (m1 : Int → Int → Int → Heap → Nat), I1 (0 : Int) (-1 : Int) (0 : Int) h0 ∧ ∀ _ : Env,
∀ (best_1 : Int) (most_1 : Int) (b_1 : Int) (h1 : Heap), I1 best_1 most_1 b_1 h1 →
bcase (decide (b_1 < (16 : Int))) (
(0 ≤ b_1 ∧ b_1 < ((16 : Nat) : Int)) ∧
∃ (s1 : Option Addr) (s1l s1c : Nat), cell h1 q (3 + ((b_1).toNat * 7)) = some (.slice s1 s1l s1c) ∧
bcase (decide ((0 : Int) < ((s1l : Nat) : Int))) (
(0 ≤ b_1 ∧ b_1 < ((16 : Nat) : Int)) ∧
Runs Tryd.prog 68 #[(.pointer (some ⟨q, (3 + ((b_1).toNat * 7)), none⟩))] h1 fun r1 h2 =>
∃ n1 : Int,
r1 = (.int .i64 n1) ∧
bcase (decide (most_1 < n1)) (
(0 ≤ b_1 ∧ b_1 < ((16 : Nat) : Int)) ∧
Runs Tryd.prog 68 #[(.pointer (some ⟨q, (3 + ((b_1).toNat * 7)), none⟩))] h2 fun r2 h3 =>
∃ n2 : Int,
r2 = (.int .i64 n2) ∧
fits .i64 (b_1 + (1 : Int)) ∧
I1 b_1 n2 (b_1 + (1 : Int)) h3 ∧ m1 b_1 n2 (b_1 + (1 : Int)) h3 < m1 best_1 most_1 b_1 h1) (
fits .i64 (b_1 + (1 : Int)) ∧
I1 best_1 most_1 (b_1 + (1 : Int)) h2 ∧ m1 best_1 most_1 (b_1 + (1 : Int)) h2 < m1 best_1 most_1 b_1 h1)) (
fits .i64 (b_1 + (1 : Int)) ∧
I1 best_1 most_1 (b_1 + (1 : Int)) h1 ∧ m1 best_1 most_1 (b_1 + (1 : Int)) h1 < m1 best_1 most_1 b_1 h1)) (
Post (.tuple #[(.int .i64 best_1), (.int .i64 (max most_1 (0 : Int)))]) h1)) :
    Runs Tryd.prog 46 #[(.pointer (some ⟨q, 0, none⟩))] h0 Post :=
  runs_of (args := [(.pointer (some ⟨q, 0, none⟩))]) (fun n => ⟨true, false⟩) (fun n => match n with | 0 => [(4, .int .i64), (5, .int .i64), (6, .int .i64)] | _ => []) (fun _ => none) (fun _ => []) Tryd.func46 rfl (by rw [Tryd.ntmps46]; simp) (Eq.mp (by kernel_rfl) H)

theorem vc_muezzinref8_Queue_Len (q : Nat) (h0 : Heap) (Post : Value → Heap → Prop) (H :
Runs Tryd.prog 51 #[(.pointer (some ⟨q, 0, none⟩))] h0 fun r1 h1 =>
∃ (s1 : Option Addr) (s1l s1c : Nat),
r1 = (.slice s1 s1l s1c) ∧
Post (.int .i64 ((s1l : Nat) : Int)) h1) :
    Runs Tryd.prog 47 #[(.pointer (some ⟨q, 0, none⟩))] h0 Post :=
  runs_of (args := [(.pointer (some ⟨q, 0, none⟩))]) (fun n => ⟨true, false⟩) (fun _ => []) (fun _ => none) (fun _ => []) Tryd.func47 rfl (by rw [Tryd.ntmps47]; simp) (Eq.mp (by kernel_rfl) H)

theorem vc_muezzinref8_Queue_Bytes (q : Nat) (h0 : Heap) (Post : Value → Heap → Prop) (H :
∃ (I1 : Int → Int → Heap → Prop) (m1 : Int → Int → Heap → Nat), I1 (0 : Int) (0 : Int) h0 ∧ ∀ _ : Env,
∀ (n_1 : Int) (b_1 : Int) (h1 : Heap), I1 n_1 b_1 h1 →
bcase (decide (b_1 < (16 : Int))) (
(0 ≤ b_1 ∧ b_1 < ((16 : Nat) : Int)) ∧
Runs Tryd.prog 68 #[(.pointer (some ⟨q, (3 + ((b_1).toNat * 7)), none⟩))] h1 fun r1 h2 =>
∃ n1 : Int,
r1 = (.int .i64 n1) ∧
fits .i64 (n_1 + n1) ∧
fits .i64 (b_1 + (1 : Int)) ∧
I1 (n_1 + n1) (b_1 + (1 : Int)) h2 ∧ m1 (n_1 + n1) (b_1 + (1 : Int)) h2 < m1 n_1 b_1 h1) (
Post (.int .i64 n_1) h1)) :
    Runs Tryd.prog 52 #[(.pointer (some ⟨q, 0, none⟩))] h0 Post :=
  runs_of (args := [(.pointer (some ⟨q, 0, none⟩))]) (fun n => ⟨true, false⟩) (fun n => match n with | 0 => [(3, .int .i64), (4, .int .i64)] | _ => []) (fun _ => none) (fun _ => []) Tryd.func52 rfl (by rw [Tryd.ntmps52]; simp) (Eq.mp (by kernel_rfl) H)

theorem vc_muezzinref8_Queue_All (q : Nat) (h0 : Heap) (Post : Value → Heap → Prop) (H :
∃ (I1 : Option Addr → Nat → Nat → Int → Heap → Prop) (m1 : Option Addr → Nat → Nat → Int → Heap → Nat), I1 none 0 0 (0 : Int) h0 ∧ ∀ _ : Env,
∀ (out_1 : Option Addr) (out_1l out_1c : Nat) (b_1 : Int) (h1 : Heap), I1 out_1 out_1l out_1c b_1 h1 →
bcase (decide (b_1 < (16 : Int))) (
(0 ≤ b_1 ∧ b_1 < ((16 : Nat) : Int)) ∧
∃ (s1 : Option Addr) (s1l s1c : Nat), cell h1 q (3 + ((b_1).toNat * 7)) = some (.slice s1 s1l s1c) ∧
∃ news1 : List Value, (src h1 s1 (s1l * 5) news1 ∧ ∀ u ∈ news1, u.oneCell' = true) ∧
appK h1 out_1 out_1l out_1c s1l 5 35 56 news1 fun (a1 : Option Addr) (cap1 : Nat) (h2 : Heap) =>
fits .i64 (b_1 + (1 : Int)) ∧
I1 a1 (out_1l + s1l) cap1 (b_1 + (1 : Int)) h2 ∧ m1 a1 (out_1l + s1l) cap1 (b_1 + (1 : Int)) h2 < m1 out_1 out_1l out_1c b_1 h1) (
Runs Tryd.prog 70 #[(.slice out_1 out_1l out_1c)] h1 fun r1 h3 =>
∃ (s2 : Option Addr) (s2l s2c : Nat),
r1 = (.slice s2 s2l s2c) ∧
Post (.slice s2 s2l s2c) h3)) :
    Runs Tryd.prog 51 #[(.pointer (some ⟨q, 0, none⟩))] h0 Post :=
  runs_of (args := [(.pointer (some ⟨q, 0, none⟩))]) (fun n => ⟨true, false⟩) (fun n => match n with | 0 => [(3, .slice), (4, .int .i64)] | _ => []) (fun _ => none) (fun _ => []) Tryd.func51 rfl (by rw [Tryd.ntmps51]; simp) (Eq.mp (by kernel_rfl) H)
end Go.Proofs.YtpcilleldanfmaaDoor

/- The document's queue of flows (muezzinref8): how it lies in memory; the contracts of its functions, over the same model. -/
set_option linter.unusedVariables false
set_option linter.unusedSimpArgs false
namespace Go.Proofs.YtpcilleldanfmaaDoor
open Go.Vc
def FlR (W : Wd) (f : Fl) (cs : List Value) (E : Grp) : Prop :=
  ∃ a c vs, cs = .slice a f.l.length c :: .int .i64 f.deficit :: cV f.c ∧ Ow a f.l.length c 5 vs E ∧ Sq (PkV W) f.l vs
structure QrC (W : Wd) (q : Qu) (css : List (List Value)) (Es : List Grp) : Prop where
  n1 : css.length = 16
  n2 : Es.length = 16
  f : ∀ (k : Nat) (f : Fl), q.fl[k]? = some f → ∃ (cs : List Value) (E : Grp), css[k]? = some cs ∧ Es[k]? = some E ∧ FlR W f cs E
  n8 : ∀ c ∈ css, c.length = 7
def r2 (q : Qu) (fa : Option Addr) (fc : Nat) (ea : Option Addr) (ec : Nat) : List Value := [.slice fa q.fresh.length fc, .slice ea q.elder.length ec]
def QrV (W : Wd) (b : Nat) (q : Qu) (L : Grp) : Prop :=
  ∃ (css : List (List Value)) (Es : List Grp) (fa : Option Addr) (fc : Nat) (ea : Option Addr) (ec : Nat) (Ef Ee : Grp) (T : TypeId), QrC W q css Es ∧ Ow fa q.fresh.length fc 1 (ints .i64 q.fresh) Ef ∧ Ow ea q.elder.length ec 1 (ints .i64 q.elder) Ee ∧
    L = [(b, ck (q3 q) css (r2 q fa fc ea ec), T)] ++ (Ef ++ (Ee ++ Es.flatten))
section
variable {W W' : Wd} {h h' : Heap} {G R : List Grp} {L E E0 Ef Ee : Grp} {B : Grp} {Es : List Grp} {css : List (List Value)} {q : Qu} {f g : Fl} {k : Int} {b n : Nat} {cs : List Value} {p : Pk} {r l : List Pk} {vs : List Value} {a : Option Addr}
theorem FlR.le (hl : W.le W') (hf : FlR W f cs E) : FlR W' f cs E := by
  obtain ⟨a, c, vs, h1, h2, h3⟩ := hf; exact ⟨a, c, vs, h1, h2, h3.mono fun _ _ h => h.le hl⟩
theorem QrC.le (hl : W.le W') (hc : QrC W q css Es) : QrC W' q css Es :=
  ⟨hc.n1, hc.n2, fun k f h => by obtain ⟨cs, E, h1, h2, h3⟩ := hc.f k f h; exact ⟨cs, E, h1, h2, h3.le hl⟩, hc.n8⟩
theorem QrV.le (hl : W.le W') (hv : QrV W b q L) : QrV W' b q L := by
  obtain ⟨css, Es, fa, fc, ea, ec, Ef, Ee, T, hc, of, oe, e⟩ := hv
  exact ⟨css, Es, fa, fc, ea, ec, Ef, Ee, T, hc.le hl, of, oe, e⟩
theorem QrC.opn (hc : QrC W q css Es) (hq : QOk q) (k0 : 0 ≤ k) (k1 : k < 16) :
    ∃ a c vs E, Es[k.toNat]? = some E ∧ css = css.set k.toNat (.slice a (q.flow k).l.length c :: .int .i64 (q.flow k).deficit :: cV (q.flow k).c) ∧
      Ow a (q.flow k).l.length c 5 vs E ∧ Sq (PkV W) (q.flow k).l vs ∧ k.toNat < css.length := by
  obtain ⟨cs, E, h1, h2, a, c, vs, rfl, h3, h4⟩ := hc.f _ _ (hq.flow k0 k1).1
  have hlt := (List.getElem?_eq_some_iff.1 h1).1
  refine ⟨a, c, vs, E, h2, ?_, h3, h4, hlt⟩
  apply List.ext_getElem?
  intro i
  rw [List.getElem?_set]
  split
  · rename_i e; subst e; exact h1
  · rfl
theorem QrC.cls (hc : QrC W q css Es) (hq : QOk q) (hk : k.toNat < css.length) (hg : FlR W g cs E) (hl : cs.length = 7) : QrC W (q.setF k g) (css.set k.toNat cs) (Es.set k.toNat E) := by
  have h1 := hc.n1
  have h2 := hc.n2
  refine ⟨by simp [h1], by simp [h2], fun j f hj => ?_, ckn hc.n8 hl⟩
  simp only [Qu.setF] at hj
  rw [List.getElem?_set] at hj
  rw [List.getElem?_set, List.getElem?_set]
  by_cases e : k.toNat = j
  · subst e
    rw [if_pos rfl, if_pos (by rw [hq.len]; omega)] at hj
    cases hj
    rw [if_pos rfl, if_pos rfl, if_pos hk, if_pos (by omega)]
    exact ⟨cs, E, rfl, rfl, hg⟩
  · rw [if_neg e] at hj
    rw [if_neg e, if_neg e]
    exact hc.f j f hj
theorem shutR {q' : Qu} {fa ea : Option Addr} {fc ec : Nat} {post : List Value} {T : TypeId} (hc : QrC W q css Es) (hq : QOk q) (hk : k.toNat < css.length) (hE : Es[k.toNat]? = some E0) (hg : FlR W g cs E) (hl : cs.length = 7)
    (of : Ow fa q'.fresh.length fc 1 (ints .i64 q'.fresh) Ef) (oe : Ow ea q'.elder.length ec 1 (ints .i64 q'.elder) Ee) (h3 : q3 q' = q3 q) (hfl : q'.fl = q.fl.set k.toNat g)
    (m : Me W h ([(b, ck (q3 q) (css.set k.toNat cs) post, T)] :: E :: Ef :: Ee :: (Es.eraseIdx k.toNat).flatten :: R)) (hpost : post = r2 q' fa fc ea ec) : ∃ L', QrV W b q' L' ∧ Me W h (L' :: R) := by
  have h1 := hc.cls hq hk hg hl
  have h2 : QrC W q' (css.set k.toNat cs) (Es.set k.toNat E) := ⟨h1.n1, h1.n2, by rw [hfl]; exact h1.f, h1.n8⟩
  refine ⟨_, ⟨_, _, fa, fc, ea, ec, Ef, Ee, T, h2, of, oe, rfl⟩, ?_⟩
  have := m.closeQ hE
  rw [hpost] at this
  rw [h3]; exact this
theorem r2_is {l : List Value} {q' : Qu} {fa ea : Option Addr} {fc ec n n2 : Nat} (h : l = [.slice fa n fc, .slice ea n2 ec]) (h1 : n = q'.fresh.length) (h2 : n2 = q'.elder.length) : l = r2 q' fa fc ea ec := by
  subst h1 h2 h; rfl
theorem QrV.flowL (hv : QrV W b q L) (m : Me W h (L :: R)) (hq : QOk q) (k0 : 0 ≤ k) (k1 : k < 16) : ∃ a c vs, cell h b (3 + k.toNat * 7) = some (.slice a (q.flow k).l.length c) ∧ src h a ((q.flow k).l.length * 5) vs ∧ Sq (PkV W) (q.flow k).l vs := by
  obtain ⟨css, Es, fa, fc, ea, ec, Ef, Ee, T, hc, of, oe, rfl⟩ := hv
  obtain ⟨a, c, vs, E, hE, hcs, o, hs, hk⟩ := hc.opn hq k0 k1
  have hn := hc.n8
  replace m := m.openQ hE
  rw [hcs] at m
  exact ⟨a, c, vs, m.fget 0 rfl hn hk rfl 0 rfl rfl, o.src m 1 rfl, hs⟩
theorem newr_c (m : Me W h R) (seed tg iv : Int) : Runs Tryd.prog 42 #[.int .u32 seed, .int .i64 tg, .int .i64 iv] h fun v h' => ∃ b L, v = .pointer (some ⟨b, 0, none⟩) ∧ QrV W b (qu0 seed tg iv) L ∧ Me W h' (L :: R) := by
  refine vc_muezzinref8_NewQueue _ _ _ _ _ ?_
  intro b h1 e1 e2
  replace m := m.push e2 e1
  have hc : QrC W (qu0 seed tg iv) (List.replicate 16 (.slice none 0 0 :: .int .i64 0 :: cV cs0)) (List.replicate 16 []) := by
    refine ⟨rfl, rfl, fun k f hf => ?_, fun c hc => by rw [List.mem_replicate] at hc; rw [hc.2]; rfl⟩
    simp only [qu0, List.getElem?_replicate] at hf ⊢
    split at hf
    · rename_i hk; cases hf
      rw [if_pos hk]
      exact ⟨_, _, rfl, by rw [if_pos hk], none, 0, [], rfl, Ow.nil, rfl⟩
    · cases hf
  exact ⟨b, _, rfl, ⟨_, _, none, 0, none, 0, [], [], _, hc, Ow.nil, Ow.nil, rfl⟩, m⟩
/-- A packet's copy. -/
theorem packet_o (hp : PkV (Wd.of h) p cs) (hl : p.body.length ≤ 1099511627776) :
    Runs Tryd.prog 66 #[.agg cs.toArray] h fun v h' => ∃ a c E, v = .agg #[.int .i64 p.id, .int .u32 p.flow, .int .i64 p.tid, .int .i64 p.at_, .slice a p.body.length c] ∧ Me (Wd.of h) h' [E] ∧ Ow a p.body.length c 1 (ints .u8 p.body) E := by
  obtain ⟨a, c, rfl, hbp⟩ := hp
  refine vc_muezzinref_Packet _ _ _ ?_
  intro b1 h1 e1 e2 b2 h2 e3 e4
  have m := ((Me.start h).push e2 e1).push e4 e3
  clear e1 e2 e3 e4
  have k := m.kept (Wd.le.refl _)
  obtain ⟨ha, hla⟩ := (hbp.le k.le).src
  refine ⟨_, _, _, m.cell 1 rfl rfl, (bytes_c ha hla hl).mono ?_⟩
  rintro _ h3 ⟨a', c', E, rfl, mk, o⟩
  replace m := m.beside mk
  refine ⟨_, _, _, rfl, m.wrb 2 rfl rfl, ?_⟩
  intro h4 e1
  replace m := m.setc 2 rfl e1
  refine ⟨_, m.rowb 2 rfl rfl rfl, ⟨rfl, m.wrsb 1 rfl rfl, by simp [Value.oneCell']⟩, ?_⟩
  intro h5 e2
  replace m := m.setr 1 rfl e2
  exact ⟨_, m.rowb 1 rfl rfl rfl, a', c', E, rfl, (m.free 1 rfl).free 1 rfl, o⟩
theorem packet_m (m : Me W h G) (hp : PkV W p cs) (hl : p.body.length ≤ 1099511627776) :
    Runs Tryd.prog 66 #[.agg cs.toArray] h fun v h' => ∃ W' ds, W.le W' ∧ v = .agg ds.toArray ∧ PkV W' p ds ∧ Me W' h' G := by
  refine (packet_o (hp.le m.leOf) hl).mono ?_
  rintro _ h1 ⟨a, c, E, rfl, mk, o⟩
  obtain ⟨W', hle, hE, m'⟩ := (m.beside mk).give
  exact ⟨W', _, hle, rfl, ⟨a, c, rfl, o.bts rfl hE⟩, m'⟩
theorem bytP_take {x : Pk} {j : Nat} (hx : l[j]? = some x) : bytP (l.take (j + 1)) = bytP (l.take j) + x.body.length := by
  rw [← take_snoc hx, bytP_app]; simp [bytP]
theorem bytP_take_le (l : List Pk) (j : Nat) : bytP (l.take j) ≤ bytP l := by
  have h1 := bytP_app (l.take j) (l.drop j)
  rw [List.take_append_drop] at h1
  have := bytP_nn (l.drop j); omega
theorem fbytes_c {o c : Nat} (hcl : cell h b o = some (.slice a l.length c)) (hs : src h a (l.length * 5) vs) (hq : Sq (PkV W) l vs) (hl : l.length ≤ 1099511627776) (hb : bytP l ≤ 4611686018427387904) :
    Runs Tryd.prog 68 #[.pointer (some ⟨b, o, none⟩)] h fun v h' => v = .int .i64 (bytP l) ∧ h' = h := by
  refine vc_muezzinref8_flow_bytes _ _ _ ?_
  refine ⟨fun n x h' => h' = h ∧ ∃ j : Nat, x = j ∧ j ≤ l.length ∧ n = bytP (l.take j), fun _ x _ => ((l.length : Int) - x).toNat, ⟨rfl, 0, rfl, by omega, rfl⟩, fun _ => ?_⟩
  rintro _ _ h1 ⟨rfl, j, rfl, hj, rfl⟩
  refine ⟨_, _, _, hcl, dcase_intro (fun q1 => ⟨_, _, _, hcl, ⟨by omega, by omega⟩, ?_⟩) fun q1 => ⟨?_, rfl⟩⟩
  · obtain ⟨x, hx⟩ : ∃ x, l[j]? = some x := ⟨_, List.getElem?_eq_getElem (by omega)⟩
    obtain ⟨cs, hcv, hrow, hrl⟩ := hq.get (fun _ _ => PkV.len) hx
    obtain ⟨pa, pc, rfl, hbt⟩ := hcv
    obtain ⟨sb, so, rfl, hr⟩ := src_part (k := j * 5) (n := 5) hs hrl (by decide) hrow
    have h4 := (row_iff.1 hr).2 4 _ rfl
    have e := bytP_take hx
    have e2 := bytP_take_le l (j + 1)
    have e3 := bytP_nn (l.take j)
    exact ⟨_, _, _, h4, by simp only [fits]; omega, by simp only [fits]; omega, ⟨rfl, j + 1, by omega, by omega, by omega⟩, by (try dsimp only); omega⟩
  · obtain rfl : j = l.length := by omega
    rw [List.take_length]
theorem items_c {c : Nat} (hs : src h a (l.length * 5) vs) (hq : Sq (PkV W) l vs) (hl : l.length ≤ 1099511627776) :
    Runs Tryd.prog 73 #[.slice a l.length c] h (Made h l.length 2 (flatI (itemsP l))) := by
  refine vc_muezzinref8_items _ _ _ _ _ ?_
  refine ⟨fun ia il ic x h' => ∃ (j : Nat) (E : Grp), x = j ∧ j ≤ l.length ∧ il = j ∧ Ow ia il ic 2 (flatI (itemsP (l.take j))) E ∧ Me (Wd.of h) h' [E], fun _ _ _ x _ => ((l.length : Int) - x).toNat,
    ⟨0, [], rfl, by omega, rfl, Ow.nil, (Me.start h).nilI⟩, fun _ => ?_⟩
  rintro ia il ic _ h1 ⟨j, E, rfl, hj, hil, o, m⟩
  subst il
  refine dcase_intro (fun q1 => ?_) fun q1 => ?_
  · obtain ⟨x, hx⟩ : ∃ x, l[j]? = some x := ⟨_, List.getElem?_eq_getElem (by omega)⟩
    obtain ⟨cs, hcv, hrow, hrl⟩ := hq.get (fun _ _ => PkV.len) hx
    obtain ⟨pa, pc, rfl, hbt⟩ := hcv
    have kk := m.kept (Wd.le.refl _)
    obtain ⟨sb, so, e9, hr⟩ := src_part (k := j * 5) (n := 5) (kk.src hs) hrl (by decide) hrow
    have h4 := (row_iff.1 hr).2 4 _ rfl
    have h3 := (row_iff.1 hr).2 3 _ rfl
    have hs0 := hs
    subst e9
    refine ⟨⟨by omega, by omega⟩, _, h3, ⟨by omega, by omega⟩, _, _, _, h4, rfl, ?_⟩
    refine o.app1 m 0 rfl rfl (by simp [Value.oneCell']) (by omega) (by decide) fun a2 c2 E2 h6 m' o2 => ?_
    simp only [List.set_cons_zero, List.set_cons_succ] at m'
    have k2 := m'.kept (Wd.le.refl _)
    obtain ⟨sb2, so2, e8, hr2⟩ := src_part (k := j * 5) (n := 5) (k2.src hs0) hrl (by decide) hrow
    cases e8
    refine ⟨(row_iff.1 hr2).2 4 _ rfl, (row_iff.1 hr2).2 3 _ rfl, by simp only [fits]; omega, ⟨j + 1, E2, by omega, by omega, rfl, ?_, m'⟩, by (try dsimp only); omega⟩
    rw [← take_snoc hx]
    simp only [itemsP, List.map_append, flatI_append] at o2 ⊢
    exact o2
  · obtain rfl : j = l.length := by omega
    rw [List.take_length] at o
    exact ⟨_, _, E, rfl, m, o⟩
theorem headr_c (m : Me W h (L :: R)) (hv : QrV W b q L) (hq : QOk q) : Runs Tryd.prog 69 #[.pointer (some ⟨b, 0, none⟩), .int .i64 k] h fun v h' =>
    ∃ W' cs, W.le W' ∧ v = .tuple #[.agg cs.toArray, .bool (q.head k).isSome] ∧ PkV W' ((q.head k).getD pk0) cs ∧ Me W' h' (L :: R) := by
  refine vc_muezzinref8_Queue_Head _ _ _ _ ?_
  (intro bN hN1 eN1 eN2; replace m := m.push eN2 eN1; clear eN1 eN2)
  have none : q.head k = none → ∀ {h : Heap} {G : List Grp} {T : TypeId}, Me W h ([(bN, [.int .i64 0, .int .u32 0, .int .i64 0, .int .i64 0, .slice none 0 0], T)] :: L :: R) →
      ((([(.int .i64 (0 : Int)), (.int .u32 (0 : Int)), (.int .i64 (0 : Int)), (.int .i64 (0 : Int)), (.slice none 0 0)] : List Value)).length = 5 ∧ wrs h bN 0 5 ∧ ∀ u ∈ (([(.int .i64 (0 : Int)), (.int .u32 (0 : Int)), (.int .i64 (0 : Int)), (.int .i64 (0 : Int)), (.slice none 0 0)] : List Value) : List Value), u.oneCell' = true) ∧
      ∀ h3 : Heap, h3 = setr h bN 0 ([(.int .i64 (0 : Int)), (.int .u32 (0 : Int)), (.int .i64 (0 : Int)), (.int .i64 (0 : Int)), (.slice none 0 0)] : List Value) → ∃ cs2 : List Value, row h3 bN 0 5 = some cs2 ∧
      ∃ W' cs, W.le W' ∧ Value.tuple #[(.agg (cs2).toArray), (.bool false)] = .tuple #[.agg cs.toArray, .bool (q.head k).isSome] ∧ PkV W' ((q.head k).getD pk0) cs ∧ Me W' h3 (L :: R) := fun e {h G T} m => by
    refine ⟨⟨rfl, m.wrsb 0 rfl rfl, by simp [Value.oneCell']⟩, fun h3 e3 => ?_⟩
    replace m := m.setr 0 rfl e3
    rw [e]
    exact ⟨_, m.rowb 0 rfl rfl rfl, W, _, Wd.le.refl _, rfl, PkV.zero, m.drop1⟩
  refine dcase_intro (fun q1 => none (by unfold Qu.head; rw [if_neg (by omega)]) (G := []) m) fun q1 => dcase_intro (fun q2 => none (by unfold Qu.head; rw [if_neg (by omega)]) (G := []) m) fun q2 => ?_
  have k0 : 0 ≤ k := by omega
  have k1 : k < 16 := by omega
  have hh : q.head k = (q.flow k).l.head? := by unfold Qu.head; rw [if_pos ⟨k0, k1⟩]
  have mq := m.focus 1 rfl
  obtain ⟨a, c, vs, hcl, hsrc, hs⟩ := hv.flowL mq hq k0 k1
  refine ⟨⟨by omega, by omega⟩, _, _, _, hcl, ?_⟩
  refine dcase_intro (fun q3 => none (by rw [hh, List.eq_nil_of_length_eq_zero (l := (q.flow k).l) (by omega)]; rfl) (G := []) m) fun q3 => ?_
  clear none
  obtain ⟨p, r, hp⟩ := List.exists_cons_of_ne_nil (l := (q.flow k).l) (by rintro e; rw [e] at q3; simp at q3)
  obtain ⟨cs, hcv, hrow, hrl⟩ := hs.get (fun _ _ => PkV.len) (i := 0) (x := p) (by rw [hp]; rfl)
  rw [Nat.zero_mul] at hrow hrl
  obtain ⟨sb, so, rfl, hr⟩ := src_part (k := 0) (n := 5) hsrc (by omega) (by decide) hrow
  have hle := ((hq.flow k0 k1).2.p p (by rw [hp]; simp)).2.2
  refine ⟨⟨by omega, by omega⟩, _, _, _, hcl, ⟨by omega, by rw [hp]; simp⟩, _, hr, (packet_m m hcv (by omega)).mono ?_⟩
  rintro _ h5 ⟨W', ds, hle, rfl, hds, m⟩
  obtain ⟨pa, pc, rfl, hbt⟩ := hds
  refine ⟨_, rfl, ⟨rfl, m.wrsb 0 rfl rfl, by simp [Value.oneCell']⟩, ?_⟩
  intro h6 e3
  replace m := m.setr 0 rfl e3
  rw [hh, hp]
  exact ⟨_, m.rowb 0 rfl rfl rfl, W', _, hle, rfl, ⟨pa, pc, rfl, hbt⟩, m.drop1⟩
end
end Go.Proofs.YtpcilleldanfmaaDoor

/- The document's queue: Put, DropHead, Fattest, Bytes, All, Len; what Take wants. -/
set_option linter.unusedVariables false
set_option linter.unusedSimpArgs false
namespace Go.Proofs.YtpcilleldanfmaaDoor
open Go.Vc
section
variable {W W' : Wd} {h h' : Heap} {G R : List Grp} {L E E0 Ef Ee : Grp} {B : Grp} {Es : List Grp} {css : List (List Value)} {q : Qu} {f g : Fl} {k d : Int} {b n : Nat} {cs : List Value} {p : Pk} {r l : List Pk} {vs : List Value} {a : Option Addr}
theorem QrV.elim (hv : QrV W b q L) (m : Me W h (L :: R)) : ∃ (css : List (List Value)) (Es : List Grp) (fa : Option Addr) (fc : Nat) (ea : Option Addr) (ec : Nat) (Ef Ee : Grp) (T : TypeId), QrC W q css Es ∧ Ow fa q.fresh.length fc 1 (ints .i64 q.fresh) Ef ∧ Ow ea q.elder.length ec 1 (ints .i64 q.elder) Ee ∧
    Me W h ([(b, ck (q3 q) css (r2 q fa fc ea ec), T)] :: Ef :: Ee :: Es.flatten :: R) := by
  obtain ⟨css, Es, fa, fc, ea, ec, Ef, Ee, T, hc, of, oe, rfl⟩ := hv
  exact ⟨css, Es, fa, fc, ea, ec, Ef, Ee, T, hc, of, oe, m.perm (by simp)⟩
theorem shutR0 {q' : Qu} {fa ea : Option Addr} {fc ec : Nat} {post : List Value} {T : TypeId} (hc : QrC W q css Es) (of : Ow fa q'.fresh.length fc 1 (ints .i64 q'.fresh) Ef) (oe : Ow ea q'.elder.length ec 1 (ints .i64 q'.elder) Ee)
    (h3 : q3 q' = q3 q) (hfl : q'.fl = q.fl) (m : Me W h ([(b, ck (q3 q) css post, T)] :: Ef :: Ee :: Es.flatten :: R)) (hpost : post = r2 q' fa fc ea ec) : ∃ L', QrV W b q' L' ∧ Me W h (L' :: R) := by
  refine ⟨_, ⟨css, Es, fa, fc, ea, ec, Ef, Ee, T, ⟨hc.n1, hc.n2, by rw [hfl]; exact hc.f, hc.n8⟩, of, oe, rfl⟩, ?_⟩
  rw [h3, ← hpost]
  exact m.perm (by simp)
theorem QrV.deficit (hv : QrV W b q L) (m : Me W h (L :: R)) (hq : QOk q) (k0 : 0 ≤ k) (k1 : k < 16) : cell h b (3 + k.toNat * 7 + 1) = some (.int .i64 (q.flow k).deficit) := by
  (obtain ⟨css, Es, fa, fc, ea, ec, Ef, Ee, T, hc, of, oe, rfl⟩ := hv; obtain ⟨a, c, vs, E, hE, hcs, o, hs, hk⟩ := hc.opn hq k0 k1; have hn := hc.n8; have hN := hc.n1; have hcnt := hq.cnt; obtain ⟨hb1, hb0⟩ := hq.bd; have ecn : q.cnt = cntL q.fl := rfl; have ebn : q.byt = bytL q.fl := rfl; have hfb := bytL_ge (hq.flow k0 k1).1; have hfc := cntL_ge (hq.flow k0 k1).1; have hfn := bytP_nn (q.flow k).l; replace m := m.openQ hE; rw [hcs] at m)
  exact m.fget 0 rfl hn hk rfl 1 rfl rfl
theorem QrV.flowK (hv : QrV W b q L) (hq : QOk q) (k0 : 0 ≤ k) (k1 : k < 16) : ∃ a c vs, Sq (PkV W) (q.flow k).l vs ∧ ∀ {W1 : Wd} {h1 : Heap} {R1 : List Grp}, Me W1 h1 (L :: R1) →
    cell h1 b (3 + k.toNat * 7) = some (.slice a (q.flow k).l.length c) ∧ src h1 a ((q.flow k).l.length * 5) vs := by
  obtain ⟨css, Es, fa, fc, ea, ec, Ef, Ee, T, hc, of, oe, rfl⟩ := hv
  obtain ⟨a, c, vs, E, hE, hcs, o, hs, hk⟩ := hc.opn hq k0 k1
  have hn := hc.n8
  refine ⟨a, c, vs, hs, fun m => ?_⟩
  replace m := m.openQ hE
  rw [hcs] at m
  exact ⟨m.fget 0 rfl hn hk rfl 0 rfl rfl, o.src m 1 rfl⟩
theorem QrV.codel (hv : QrV W b q L) (m : Me W h (L :: R)) (hq : QOk q) (k0 : 0 ≤ k) (k1 : k < 16) : row h b (3 + k.toNat * 7 + 2) 5 = some (cV (q.flow k).c) := by
  (obtain ⟨css, Es, fa, fc, ea, ec, Ef, Ee, T, hc, of, oe, rfl⟩ := hv; obtain ⟨a, c, vs, E, hE, hcs, o, hs, hk⟩ := hc.opn hq k0 k1; have hn := hc.n8; have hN := hc.n1; have hcnt := hq.cnt; obtain ⟨hb1, hb0⟩ := hq.bd; have ecn : q.cnt = cntL q.fl := rfl; have ebn : q.byt = bytL q.fl := rfl; have hfb := bytL_ge (hq.flow k0 k1).1; have hfc := cntL_ge (hq.flow k0 k1).1; have hfn := bytP_nn (q.flow k).l; replace m := m.openQ hE; rw [hcs] at m)
  exact m.frow 0 rfl hn hk rfl 2 rfl rfl rfl
theorem QrV.tg (hv : QrV W b q L) (m : Me W h (L :: R)) : cell h b 1 = some (.int .i64 q.tg) ∧ cell h b 2 = some (.int .i64 q.iv) ∧ cell h b 0 = some (.int .u32 q.seed) := by
  obtain ⟨css, Es, fa, fc, ea, ec, Ef, Ee, T, hc, of, oe, m⟩ := hv.elim m
  exact ⟨m.hget 0 rfl (Nat.le_of_ble_eq_true rfl) rfl, m.hget 0 rfl (Nat.le_of_ble_eq_true rfl) rfl, m.hget 0 rfl (Nat.le_of_ble_eq_true rfl) rfl⟩
theorem QrV.setD (hv : QrV W b q L) (m : Me W h (L :: R)) (hq : QOk q) (k0 : 0 ≤ k) (k1 : k < 16) {Q : Heap → Prop} (x : ∀ h1 L', QrV W b (q.setF k ((q.flow k).setD d)) L' → Me W h1 (L' :: R) → Q h1) :
    wr h b (3 + k.toNat * 7 + 1) ∧ ∀ h1, h1 = setc h b (3 + k.toNat * 7 + 1) (.int .i64 d) → Q h1 := by
  (obtain ⟨css, Es, fa, fc, ea, ec, Ef, Ee, T, hc, of, oe, rfl⟩ := hv; obtain ⟨a, c, vs, E, hE, hcs, o, hs, hk⟩ := hc.opn hq k0 k1; have hn := hc.n8; have hN := hc.n1; have hcnt := hq.cnt; obtain ⟨hb1, hb0⟩ := hq.bd; have ecn : q.cnt = cntL q.fl := rfl; have ebn : q.byt = bytL q.fl := rfl; have hfb := bytL_ge (hq.flow k0 k1).1; have hfc := cntL_ge (hq.flow k0 k1).1; have hfn := bytP_nn (q.flow k).l; replace m := m.openQ hE; rw [hcs] at m)
  refine m.fset 0 rfl hn hk rfl 1 rfl rfl fun h1 m' => ?_
  obtain ⟨L', hv', m2⟩ := shutR (q' := q.setF k ((q.flow k).setD d)) (g := (q.flow k).setD d) hc hq hk hE (E := E) ⟨a, c, vs, rfl, o, hs⟩ rfl of oe rfl rfl m' (r2_is rfl rfl rfl)
  exact x _ _ hv' m2
theorem QrV.fresh (hv : QrV W b q L) (m : Me W h (L :: R)) : ∃ a c, cell h b 115 = some (.slice a q.fresh.length c) ∧ src h a q.fresh.length (ints .i64 q.fresh) := by
  obtain ⟨css, Es, fa, fc, ea, ec, Ef, Ee, T, hc, of, oe, m⟩ := hv.elim m
  exact ⟨fa, fc, m.pget 0 rfl hc.n8 hc.n1 0 rfl rfl, of.src1 m 1 rfl⟩
theorem QrV.elder (hv : QrV W b q L) (m : Me W h (L :: R)) : ∃ a c, cell h b 116 = some (.slice a q.elder.length c) ∧ src h a q.elder.length (ints .i64 q.elder) := by
  obtain ⟨css, Es, fa, fc, ea, ec, Ef, Ee, T, hc, of, oe, m⟩ := hv.elim m
  exact ⟨ea, ec, m.pget 0 rfl hc.n8 hc.n1 1 rfl rfl, oe.src1 m 2 rfl⟩
def Qu.setFr (q : Qu) (l : List Int) : Qu := { q with fresh := l }
def Qu.setEl (q : Qu) (l : List Int) : Qu := { q with elder := l }
theorem QrV.setFresh {xs : List Int} {c : Nat} (hv : QrV W b q L) (m : Me W h (L :: E :: R)) (hn : n = xs.length) (o : Ow a n c 1 (ints .i64 xs) E) {Q : Heap → Prop} (x : ∀ h1 L', QrV W b (q.setFr xs) L' → Me W h1 (L' :: R) → Q h1) :
    wr h b 115 ∧ ∀ h1, h1 = setc h b 115 (.slice a n c) → Q h1 := by
  subst hn
  obtain ⟨css, Es, fa, fc, ea, ec, Ef, Ee, T, hc, of, oe, m⟩ := hv.elim m
  refine m.pset 0 rfl hc.n8 hc.n1 0 rfl (Nat.le_of_ble_eq_true rfl) fun h1 m' => ?_
  obtain ⟨L', hv', m2⟩ := shutR0 (q' := q.setFr xs) hc (Ef := E) o oe rfl rfl (((((m'.free 1 rfl).focus 3 rfl)).focus 1 rfl)) (r2_is rfl rfl rfl)
  exact x _ _ hv' m2
theorem QrV.setElder {xs : List Int} {c : Nat} (hv : QrV W b q L) (m : Me W h (L :: E :: R)) (hn : n = xs.length) (o : Ow a n c 1 (ints .i64 xs) E) {Q : Heap → Prop} (x : ∀ h1 L', QrV W b (q.setEl xs) L' → Me W h1 (L' :: R) → Q h1) :
    wr h b 116 ∧ ∀ h1, h1 = setc h b 116 (.slice a n c) → Q h1 := by
  subst hn
  obtain ⟨css, Es, fa, fc, ea, ec, Ef, Ee, T, hc, of, oe, m⟩ := hv.elim m
  refine m.pset 0 rfl hc.n8 hc.n1 1 rfl (Nat.le_of_ble_eq_true rfl) fun h1 m' => ?_
  obtain ⟨L', hv', m2⟩ := shutR0 (q' := q.setEl xs) hc (Ee := E) of o rfl rfl ((((m'.free 2 rfl).focus 3 rfl).focus 2 rfl).focus 2 rfl) (r2_is rfl rfl rfl)
  exact x _ _ hv' m2
theorem QrV.pushE (hv : QrV W b q L) (m : Me W h (L :: R)) (hl : q.elder.length ≤ 1048576) {Q : Heap → Prop} (x : ∀ h1 L', QrV W b (q.addE k) L' → Me W h1 (L' :: R) → Q h1) {e : TypeId} :
    ∃ (s : Option Addr) (sl sc : Nat), cell h b 116 = some (.slice s sl sc) ∧ ∀ (b3 : Nat) (h6 : Heap), b3 = h.size → h6 = h.push (.cells ([(.int .i64 k)] : List Value).toArray e) →
      ∃ news1 : List Value, (row h6 b3 0 1 = some news1 ∧ ∀ u ∈ news1, u.oneCell' = true) ∧ appK h6 s sl sc 1 1 e 8 news1 fun (a1 : Option Addr) (cap1 : Nat) (h7 : Heap) => wr h7 b 116 ∧ ∀ h8 : Heap, h8 = setc h7 b 116 (.slice a1 (sl + 1) cap1) → Q h8 := by
  obtain ⟨css, Es, fa, fc, ea, ec, Ef, Ee, T, hc, of, oe, m⟩ := hv.elim m
  refine ⟨_, _, _, m.pget 0 rfl hc.n8 hc.n1 1 rfl rfl, ?_⟩
  refine oe.app1 m 2 rfl rfl (by simp [Value.oneCell']) (by omega) (by decide) fun a' c' E' h' m' o' => ?_
  refine m'.pset 0 rfl hc.n8 hc.n1 1 rfl (Nat.le_of_ble_eq_true rfl) fun h1 m2 => ?_
  have o2 : Ow a' (q.elder ++ [k]).length c' 1 (ints .i64 (q.elder ++ [k])) E' := by rw [ints_app]; show Ow a' _ c' 1 (ints .i64 q.elder ++ [.int .i64 k]) E'; simpa using o'
  obtain ⟨L', hv', m3⟩ := shutR0 (q' := q.addE k) hc of o2 rfl rfl m2 (r2_is rfl rfl (by simp [Qu.addE]))
  exact x _ _ hv' m3
theorem QrV.pushF (hv : QrV W b q L) (m : Me W h (L :: R)) (hl : q.fresh.length ≤ 1048576) {Q : Heap → Prop} (x : ∀ h1 L', QrV W b (q.addF k) L' → Me W h1 (L' :: R) → Q h1) {e : TypeId} :
    ∃ (s : Option Addr) (sl sc : Nat), cell h b 115 = some (.slice s sl sc) ∧ ∀ (b3 : Nat) (h6 : Heap), b3 = h.size → h6 = h.push (.cells ([(.int .i64 k)] : List Value).toArray e) →
      ∃ news1 : List Value, (row h6 b3 0 1 = some news1 ∧ ∀ u ∈ news1, u.oneCell' = true) ∧ appK h6 s sl sc 1 1 e 8 news1 fun (a1 : Option Addr) (cap1 : Nat) (h7 : Heap) => wr h7 b 115 ∧ ∀ h8 : Heap, h8 = setc h7 b 115 (.slice a1 (sl + 1) cap1) → Q h8 := by
  obtain ⟨css, Es, fa, fc, ea, ec, Ef, Ee, T, hc, of, oe, m⟩ := hv.elim m
  refine ⟨_, _, _, m.pget 0 rfl hc.n8 hc.n1 0 rfl rfl, ?_⟩
  refine of.app1 m 1 rfl rfl (by simp [Value.oneCell']) (by omega) (by decide) fun a' c' E' h' m' o' => ?_
  refine m'.pset 0 rfl hc.n8 hc.n1 0 rfl (Nat.le_of_ble_eq_true rfl) fun h1 m2 => ?_
  have o2 : Ow a' (q.fresh ++ [k]).length c' 1 (ints .i64 (q.fresh ++ [k])) E' := by rw [ints_app]; show Ow a' _ c' 1 (ints .i64 q.fresh ++ [.int .i64 k]) E'; simpa using o'
  obtain ⟨L', hv', m3⟩ := shutR0 (q' := q.addF k) hc o2 oe rfl rfl m2 (r2_is rfl (by simp [Qu.addF]) rfl)
  exact x _ _ hv' m3
theorem QrV.setC {c' : CSt} (hv : QrV W b q L) (m : Me W h (L :: R)) (hq : QOk q) (k0 : 0 ≤ k) (k1 : k < 16) : wrs h b (3 + k.toNat * 7 + 2) 5 ∧ ∀ h1, h1 = setr h b (3 + k.toNat * 7 + 2) (cV c') → ∃ L', QrV W b (q.setF k ⟨(q.flow k).l, (q.flow k).deficit, c'.rest⟩) L' ∧ Me W h1 (L' :: R) := by
  (obtain ⟨css, Es, fa, fc, ea, ec, Ef, Ee, T, hc, of, oe, rfl⟩ := hv; obtain ⟨a, c, vs, E, hE, hcs, o, hs, hk⟩ := hc.opn hq k0 k1; have hn := hc.n8; have hN := hc.n1; have hcnt := hq.cnt; obtain ⟨hb1, hb0⟩ := hq.bd; have ecn : q.cnt = cntL q.fl := rfl; have ebn : q.byt = bytL q.fl := rfl; have hfb := bytL_ge (hq.flow k0 k1).1; have hfc := cntL_ge (hq.flow k0 k1).1; have hfn := bytP_nn (q.flow k).l; replace m := m.openQ hE; rw [hcs] at m)
  refine ⟨m.fwrs 0 rfl hn hk rfl 2 rfl rfl, fun h1 e3 => ?_⟩
  replace m := m.fsetr 0 rfl hn hk rfl 2 rfl (Nat.le_of_ble_eq_true rfl) e3
  simp only [List.set_cons_zero, List.set_cons_succ] at m
  exact shutR (q' := q.setF k ⟨(q.flow k).l, (q.flow k).deficit, c'.rest⟩) (g := ⟨(q.flow k).l, (q.flow k).deficit, c'.rest⟩) hc hq hk hE (E := E) ⟨a, c, _, rfl, o, hs⟩ rfl of oe rfl rfl m (r2_is rfl rfl rfl)
/-- What Del makes of the lists: the one whose turn it is, is out. -/
theorem del_head {x : Int} {r : List Int} (h : x ∉ r) : delZ x (x :: r) = r := by
  unfold delZ
  rw [List.filter_cons, if_neg (by simp)]
  exact List.filter_eq_self.2 fun y hy => by simp; rintro rfl; exact h hy
theorem del_not {x : Int} {r : List Int} (h : x ∉ r) : delZ x r = r := List.filter_eq_self.2 fun y hy => by simp; rintro rfl; exact h hy
theorem del_pop (hq : QOk q) (ht : q.turn = some k) : (q.setFr (delZ k q.fresh)).setEl (delZ k q.elder) = q.popT := by
  have hnd := hq.nd
  unfold Qu.turn at ht
  unfold Qu.popT
  cases hf : q.fresh with
  | nil =>
    rw [hf] at ht hnd
    cases he : q.elder with
    | nil => rw [he] at ht; cases ht
    | cons x r =>
      rw [he] at ht hnd
      simp at ht; subst ht
      rw [if_pos rfl, del_head (by simpa using (List.nodup_cons.1 hnd).1)]
      rfl
  | cons x r =>
    rw [hf] at ht hnd
    simp at ht; subst ht
    have h1 := (List.nodup_cons.1 hnd).1
    simp at h1
    rw [if_neg (by simp), del_head h1.1, del_not h1.2]
    rfl
/-- A flow without its first ones: a copy of the others. -/
theorem QrV.cut {j : Nat} (hv : QrV W b q L) (m : Me W h (L :: R)) (hq : QOk q) (k0 : 0 ≤ k) (k1 : k < 16) (hj : j ≤ (q.flow k).l.length) : ∃ a c, cell h b (3 + k.toNat * 7) = some (.slice a (q.flow k).l.length c) ∧
    Runs Tryd.prog 70 #[.slice (slcAddr a j c (j * 5)) ((q.flow k).l.length - j) (c - j)] h fun v h5 => ∃ a' c', v = .slice a' ((q.flow k).l.length - j) c' ∧ cell h5 b (3 + k.toNat * 7) = some (.slice a (q.flow k).l.length c) ∧
      ∀ (Q : Heap → Prop), (∀ h6 L', QrV W b (q.setF k ((q.flow k).setL ((q.flow k).l.drop j))) L' → Me W h6 (L' :: R) → Q h6) →
        wr h5 b (3 + k.toNat * 7) ∧ ∀ h6, h6 = setc h5 b (3 + k.toNat * 7) (.slice a' ((q.flow k).l.length - j) c') → Q h6 := by
  (obtain ⟨css, Es, fa, fc, ea, ec, Ef, Ee, T, hc, of, oe, rfl⟩ := hv; obtain ⟨a, c, vs, E, hE, hcs, o, hs, hk⟩ := hc.opn hq k0 k1; have hn := hc.n8; have hN := hc.n1; have hcnt := hq.cnt; obtain ⟨hb1, hb0⟩ := hq.bd; have ecn : q.cnt = cntL q.fl := rfl; have ebn : q.byt = bytL q.fl := rfl; have hfb := bytL_ge (hq.flow k0 k1).1; have hfc := cntL_ge (hq.flow k0 k1).1; have hfn := bytP_nn (q.flow k).l; replace m := m.openQ hE; rw [hcs] at m)
  refine ⟨a, c, m.fget 0 rfl hn hk rfl 0 rfl rfl, ?_⟩
  have ot := o.tail j hj
  have hst := hs.drop (fun _ _ => PkV.len) j
  refine (packets_c (ot.src m 1 rfl) ot.len (hst.all fun _ _ => PkV.one) (by omega)).mono ?_
  rintro _ h4 ⟨a', c', E', rfl, mk, o'⟩
  replace m := m.beside mk
  simp only [List.cons_append, List.nil_append] at m
  refine ⟨a', c', rfl, m.fget 1 rfl hn hk rfl 0 rfl rfl, fun Q x => m.fset 1 rfl hn hk rfl 0 rfl rfl fun h6 m' => ?_⟩
  simp only [List.set_cons_zero, List.set_cons_succ] at m'
  have m2 := (m'.free 2 rfl).focus 1 rfl
  obtain ⟨L', hv', m3⟩ := shutR (q' := q.setF k ((q.flow k).setL ((q.flow k).l.drop j))) (g := (q.flow k).setL ((q.flow k).l.drop j)) hc hq hk hE (E := E') ⟨a', c', _, by simp, by simpa using o', by simpa using hst⟩ rfl of oe rfl rfl m2 (r2_is rfl rfl rfl)
  exact x _ _ hv' m3
theorem dropHeadr_c (m : Me W h (L :: R)) (hv : QrV W b q L) (hq : QOk q) : Runs Tryd.prog 48 #[.pointer (some ⟨b, 0, none⟩), .int .i64 k] h fun v h' =>
    ∃ W' cs L', W.le W' ∧ v = .tuple #[.agg cs.toArray, .bool (q.dropHead k).2.isSome] ∧ PkV W' ((q.dropHead k).2.getD pk0) cs ∧ QrV W' b (q.dropHead k).1 L' ∧ Me W' h' (L' :: R) := by
  refine vc_muezzinref8_Queue_DropHead _ _ _ _ ?_
  (intro bN hN1 eN1 eN2; replace m := m.push eN2 eN1; clear eN1 eN2)
  refine (headr_c (m.focus 1 rfl) hv hq).mono ?_
  rintro _ h2 ⟨W', cs, hle, rfl, hcv, m⟩
  refine ⟨_, _, rfl, ?_⟩
  intro b2 h3 e1 e2
  replace m := m.push e2 e1
  clear e1 e2
  obtain ⟨pa, pc, rfl, hbt⟩ := hcv
  refine ⟨⟨rfl, m.wrsb 0 rfl rfl, by simp [Value.oneCell']⟩, ?_⟩
  intro h4 e3
  replace m := m.setr 0 rfl e3
  clear e3
  simp only [List.eraseIdx_cons_zero, List.eraseIdx_cons_succ, List.set_cons_zero] at m
  cases hh : q.head k with
  | none =>
    have e : q.dropHead k = (q, none) := by unfold Qu.dropHead; rw [hh]
    rw [e]
    rw [hh] at m hbt
    refine bcase_false rfl ⟨_, m.rowb 0 rfl rfl rfl, ⟨rfl, m.wrsb 2 rfl rfl, by simp [setL, Value.oneCell']⟩, fun h5 e3 => ?_⟩
    replace m := m.setr 2 rfl e3
    exact ⟨_, m.rowb 2 rfl rfl rfl, W', _, L, hle, rfl, ⟨pa, pc, rfl, hbt⟩, hv.le hle, (m.free 0 rfl).free 1 rfl⟩
  | some p =>
    have hk : 0 ≤ k ∧ k < 16 := by
      unfold Qu.head at hh
      by_cases hk : 0 ≤ k ∧ k < 16
      · exact hk
      · rw [if_neg hk] at hh; cases hh
    obtain ⟨k0, k1⟩ := hk
    have hp : (q.flow k).l = p :: (q.flow k).l.tail := by
      unfold Qu.head at hh
      rw [if_pos ⟨k0, k1⟩] at hh
      cases he : (q.flow k).l with
      | nil => rw [he] at hh; cases hh
      | cons x r => rw [he] at hh; simp at hh; subst hh; rfl
    have e : q.dropHead k = (q.setF k ((q.flow k).setL (q.flow k).l.tail), some p) := by unfold Qu.dropHead; rw [hh]
    have hl1 : 1 ≤ (q.flow k).l.length := by rw [hp]; simp
    rw [e]
    rw [hh] at m hbt
    obtain ⟨sa, sc, hc1, hrun⟩ := (hv.le hle).cut (j := 1) (m.focus 1 rfl) hq k0 k1 hl1
    refine bcase_true rfl ⟨⟨k0, by omega⟩, _, _, _, hc1, ⟨by omega, by omega⟩, hrun.mono ?_⟩
    rintro _ h5 ⟨a', c', rfl, hc5, hset⟩
    refine ⟨_, _, _, rfl, hc5, ⟨k0, by omega⟩, hset _ fun h6 L' hv' m => ?_⟩
    simp only [List.eraseIdx_cons_zero, List.eraseIdx_cons_succ] at m
    refine ⟨_, m.rowb 1 rfl rfl rfl, ⟨rfl, m.wrsb 2 rfl rfl, by simp [setL, Value.oneCell']⟩, fun h7 e3 => ?_⟩
    replace m := m.setr 2 rfl e3
    rw [show (q.flow k).l.drop 1 = (q.flow k).l.tail by simp] at hv'
    exact ⟨_, m.rowb 2 rfl rfl rfl, W', _, L', hle, rfl, ⟨pa, pc, rfl, hbt⟩, hv', (m.free 1 rfl).free 1 rfl⟩
end
end Go.Proofs.YtpcilleldanfmaaDoor

/- The document's queue: Fattest, Bytes, All, Len, Put. -/
set_option linter.unusedVariables false
set_option linter.unusedSimpArgs false
namespace Go.Proofs.YtpcilleldanfmaaDoor
open Go.Vc
section
variable {W W' : Wd} {h h' : Heap} {G R : List Grp} {L E E0 Ef Ee : Grp} {B : Grp} {Es : List Grp} {css : List (List Value)} {q : Qu} {f g : Fl} {k d : Int} {b n : Nat} {cs : List Value} {p : Pk} {r l : List Pk} {vs : List Value} {a : Option Addr}
theorem QrV.fbytes (hv : QrV W b q L) (m : Me W h (L :: R)) (hq : QOk q) (k0 : 0 ≤ k) (k1 : k < 16) :
    Runs Tryd.prog 68 #[.pointer (some ⟨b, 3 + k.toNat * 7, none⟩)] h fun v h' => v = .int .i64 (bytP (q.flow k).l) ∧ h' = h := by
  obtain ⟨a, c, vs, hcl, hsrc, hs⟩ := hv.flowL m hq k0 k1
  have hfb := bytL_ge (hq.flow k0 k1).1
  have hfc := cntL_ge (hq.flow k0 k1).1
  have hcnt := hq.cnt
  have ecn : q.cnt = cntL q.fl := rfl
  have ebn : q.byt = bytL q.fl := rfl
  obtain ⟨hb1, hb0⟩ := hq.bd
  exact fbytes_c hcl hsrc hs (by omega) (by omega)
theorem fattestr_c (m : Me W h (L :: R)) (hv : QrV W b q L) (hq : QOk q) : Runs Tryd.prog 46 #[.pointer (some ⟨b, 0, none⟩)] h fun v h' => v = .tuple #[.int .i64 q.fattest.1, .int .i64 q.fattest.2] ∧ h' = h := by
  refine vc_muezzinref8_Queue_Fattest _ _ _ ?_
  refine ⟨fun best most x h' => h' = h ∧ ∃ k : Nat, x = k ∧ k ≤ 16 ∧ fatN (q.fl.drop k) k (best, most) = fatN q.fl 0 (0, -1), fun _ _ x _ => (16 - x).toNat, ⟨rfl, 0, rfl, by omega, rfl⟩, fun _ => ?_⟩
  rintro best most _ h1 ⟨rfl, k, rfl, hk, hf⟩
  refine dcase_intro (fun q1 => ?_) fun q1 => ?_
  · have hk1 : k < 16 := by omega
    have hfl := flow_at hq hk1
    rw [fatN_cons hfl] at hf
    obtain ⟨a, c, vs, hcl, hsrc, hs⟩ := hv.flowL m hq (k := (k : Int)) (by omega) (by omega)
    have hb := hv.fbytes m hq (k := (k : Int)) (by omega) (by omega)
    have next : ∀ s, s = (if (q.flow (k : Int)).l ≠ [] ∧ most < bytP (q.flow (k : Int)).l then ((k : Int), bytP (q.flow (k : Int)).l) else (best, most)) → fatN (q.fl.drop (k + 1)) ((k : Int) + 1) s = fatN q.fl 0 (0, -1) := fun s e => by rw [e]; exact hf
    refine ⟨⟨by omega, by omega⟩, _, _, _, hcl, dcase_intro (fun q2 => ⟨⟨by omega, by omega⟩, hb.ret ⟨_, rfl, dcase_intro (fun q3 => ⟨⟨by omega, by omega⟩, hb.ret ⟨_, rfl, ?_⟩⟩) fun q3 => ?_⟩⟩) fun q2 => ?_⟩
    · refine ⟨by simp only [fits]; omega, ⟨rfl, k + 1, by omega, by omega, next _ ?_⟩, by dsimp only; omega⟩
      rw [if_pos ⟨fun e => by rw [e] at q2; simp at q2, q3⟩]
    · refine ⟨by simp only [fits]; omega, ⟨rfl, k + 1, by omega, by omega, next _ ?_⟩, by dsimp only; omega⟩
      rw [if_neg (fun hc => q3 hc.2)]
    · refine ⟨by simp only [fits]; omega, ⟨rfl, k + 1, by omega, by omega, next _ ?_⟩, by dsimp only; omega⟩
      rw [if_neg (fun hc => q2 (by have := List.length_pos_iff.2 hc.1; omega))]
  · obtain rfl : k = 16 := by omega
    rw [List.drop_of_length_le (by rw [hq.len]; omega)] at hf
    refine ⟨?_, rfl⟩
    unfold Qu.fattest
    rw [← hf]
    rfl
theorem bytL_appR : ∀ (a b : List Fl), bytL (a ++ b) = bytL a + bytL b
  | [], b => by simp [bytL]
  | x :: r, b => by simp only [List.cons_append, bytL, bytL_appR r b]; omega
theorem bytesr_c (m : Me W h (L :: R)) (hv : QrV W b q L) (hq : QOk q) : Runs Tryd.prog 52 #[.pointer (some ⟨b, 0, none⟩)] h fun v h' => v = .int .i64 q.byt ∧ h' = h := by
  obtain ⟨hb1, hb0⟩ := hq.bd
  have ebn : q.byt = bytL q.fl := rfl
  refine vc_muezzinref8_Queue_Bytes _ _ _ ?_
  refine ⟨fun n x h' => h' = h ∧ ∃ j : Nat, x = j ∧ j ≤ 16 ∧ n = bytL (q.fl.take j), fun _ x _ => (16 - x).toNat, ⟨rfl, 0, rfl, by omega, rfl⟩, fun _ => ?_⟩
  rintro _ _ h1 ⟨rfl, j, rfl, hj, rfl⟩
  refine dcase_intro (fun q1 => ?_) fun q1 => ?_
  · have hj1 : j < 16 := by omega
    have hfl := flow_at hq hj1
    have e : bytL (q.fl.take (j + 1)) = bytL (q.fl.take j) + bytP (q.flow (j : Int)).l := by
      rw [List.take_add_one, hfl, bytL_appR]; simp [bytL]
    have e2 : bytL (q.fl.take (j + 1)) ≤ bytL q.fl := by
      have := bytL_appR (q.fl.take (j + 1)) (q.fl.drop (j + 1))
      rw [List.take_append_drop] at this
      have := bytL_nn (q.fl.drop (j + 1)); omega
    have e3 := bytL_nn (q.fl.take (j + 1))
    exact ⟨⟨by omega, by omega⟩, (hv.fbytes m hq (k := (j : Int)) (by omega) (by omega)).ret ⟨_, rfl, by simp only [fits]; omega, by simp only [fits]; omega, ⟨rfl, j + 1, by omega, by omega, by omega⟩, by (try dsimp only); omega⟩⟩
  · obtain rfl : j = 16 := by omega
    have e : q.fl.take 16 = q.fl := List.take_of_length_le (by rw [hq.len]; omega)
    rw [e]; exact ⟨rfl, rfl⟩
theorem allr_c (m : Me W h (L :: R)) (hv : QrV W b q L) (hq : QOk q) : Runs Tryd.prog 51 #[.pointer (some ⟨b, 0, none⟩)] h fun v h' =>
    ∃ a c vs E, v = .slice a (allL q.fl).length c ∧ Ow a (allL q.fl).length c 5 vs E ∧ Sq (PkV W) (allL q.fl) vs ∧ Me W h' (E :: L :: R) := by
  have hcnt := hq.cnt
  have ecn : q.cnt = cntL q.fl := rfl
  have hall := allL_len q.fl
  refine vc_muezzinref8_Queue_All _ _ _ ?_
  refine ⟨fun oa ol oc x h' => ∃ (j : Nat) (vs : List Value) (E : Grp), x = j ∧ j ≤ 16 ∧ ol = (allL (q.fl.take j)).length ∧ Ow oa ol oc 5 vs E ∧ Sq (PkV W) (allL (q.fl.take j)) vs ∧ Me W h' (E :: L :: R), fun _ _ _ x _ => (16 - x).toNat,
    ⟨0, [], [], rfl, by omega, rfl, Ow.nil, rfl, m.nilI⟩, fun _ => ?_⟩
  clear m
  rintro oa ol oc _ h1 ⟨j, vs, E, rfl, hj, hol, o, hs, m⟩
  subst ol
  refine dcase_intro (fun q1 => ?_) fun q1 => ?_
  · have hj1 : j < 16 := by omega
    have hfl := flow_at hq hj1
    have hbd := allL_bd hfl
    obtain ⟨a, c, vf, hcl, hsrc, hsf⟩ := hv.flowL (m.focus 1 rfl) hq (k := (j : Int)) (by omega) (by omega)
    refine ⟨⟨by omega, by omega⟩, _, _, _, hcl, vf, ⟨hsrc, hsf.all fun _ _ => PkV.one⟩, ?_⟩
    refine o.app m 0 rfl (hsf.len fun _ _ => PkV.len) (by omega) (by decide) fun a2 c2 E2 h6 m' o2 => ?_
    have e : allL (q.fl.take (j + 1)) = allL (q.fl.take j) ++ (q.flow (j : Int)).l := allL_take hfl
    refine ⟨by simp only [fits]; omega, ⟨j + 1, _, E2, by omega, by omega, by rw [e, List.length_append], ?_, by rw [e]; exact hs.app hsf, m'⟩, by (try dsimp only); omega⟩
    exact o2
  · obtain rfl : j = 16 := by omega
    have e : q.fl.take 16 = q.fl := List.take_of_length_le (by rw [hq.len]; omega)
    rw [e] at o hs ⊢
    refine (packets_c (o.src m 0 rfl) o.len (hs.all fun _ _ => PkV.one) (by omega)).mono ?_
    rintro _ h5 ⟨a', c', E', rfl, mk, o'⟩
    exact ⟨_, _, _, rfl, a', c', vs, E', rfl, o', hs, (m.beside mk).free 1 rfl⟩
theorem lenr_c (m : Me W h (L :: R)) (hv : QrV W b q L) (hq : QOk q) : Runs Tryd.prog 47 #[.pointer (some ⟨b, 0, none⟩)] h fun v h' => v = .int .i64 q.cnt ∧ Me W h' (L :: R) := by
  refine vc_muezzinref8_Queue_Len _ _ _ ((allr_c m hv hq).mono ?_)
  rintro _ h1 ⟨a, c, vs, E, rfl, o, hs, m⟩
  exact ⟨_, _, _, rfl, by rw [allL_len]; rfl, m.drop1⟩
theorem putr_c (m : Me W h (L :: R)) (hv : QrV W b q L) (hq : QOk q) (hp : PkV (Wd.of h) p cs) (hlen : p.body.length ≤ 1048576) (hroom : q.cnt < 1048576) :
    Runs Tryd.prog 45 #[.pointer (some ⟨b, 0, none⟩), .agg cs.toArray] h fun v h' => v = .int .i64 (bucketZ p.flow q.seed) ∧ ∃ W' L', W.le W' ∧ QrV W' b (q.put p) L' ∧ Me W' h' (L' :: R) := by
  obtain ⟨k0, k1⟩ := bucketZ_bd p.flow q.seed
  obtain ⟨k, hk9⟩ : ∃ k, k = bucketZ p.flow q.seed := ⟨_, rfl⟩
  rw [← hk9] at k0 k1
  have hv0 := hv
  have hsd := (hv.tg m).2.2
  (obtain ⟨css, Es, fa, fc, ea, ec, Ef, Ee, T, hc, of, oe, rfl⟩ := hv; obtain ⟨a, c, vs, E, hE, hcs, o, hs, hk⟩ := hc.opn hq k0 k1; have hn := hc.n8; have hN := hc.n1; have hcnt := hq.cnt; obtain ⟨hb1, hb0⟩ := hq.bd; have ecn : q.cnt = cntL q.fl := rfl; have ebn : q.byt = bytL q.fl := rfl; have hfb := bytL_ge (hq.flow k0 k1).1; have hfc := cntL_ge (hq.flow k0 k1).1; have hfn := bytP_nn (q.flow k).l; replace m := m.openQ hE; rw [hcs] at m)
  obtain ⟨pa, pc, rfl, hbt⟩ := hp
  refine vc_muezzinref8_Queue_Put _ _ _ _ ?_
  intro bN hN1 eN1 eN2
  have kk := ((Me.start h).push eN2 eN1).kept (Wd.le.refl _)
  replace m := m.push eN2 eN1
  clear eN1 eN2
  refine ⟨_, m.cell 0 rfl rfl, ?_⟩
  refine ⟨_, m.hget 1 rfl (Nat.le_of_ble_eq_true rfl) rfl, ?_⟩
  refine (refbucket_c _ _ _).ret ⟨_, rfl, ?_⟩
  rw [← hk9]
  refine ⟨⟨k0, by omega⟩, ?_⟩
  refine ⟨_, _, _, m.fget 1 rfl hn hk rfl 0 rfl rfl, ?_⟩
  refine ⟨_, m.rowb 0 rfl rfl rfl, ?_⟩
  refine (packet_o (p := p) ⟨pa, pc, rfl, hbt.le kk.le⟩ (by omega)).mono ?_
  rintro _ h3 ⟨a', c', E', rfl, mk, o'⟩
  replace m := m.beside mk
  simp only [List.cons_append, List.nil_append] at m
  obtain ⟨W', hle, hgE, m'⟩ := m.give
  have hbt' := o'.bts rfl hgE
  clear m mk
  have m := m'
  clear m'
  refine ⟨_, rfl, m.fget 1 rfl hn hk rfl 0 rfl rfl, rfl, ?_⟩
  refine o.app1 m 2 rfl rfl (by simp [Value.oneCell']) (by omega) (by decide) fun a2 c2 E2 h6 m' o2 => ?_
  clear m
  have m := m'
  clear m'
  simp only [List.set_cons_zero, List.set_cons_succ] at m
  (refine m.fset 1 rfl hn hk rfl 0 rfl rfl ?_; clear m; intro _ m; simp only [List.set_cons_zero, List.set_cons_succ] at m)
  rename_i h10
  have hcx := hc.le hle
  have hs2 : Sq (PkV W') ((q.flow k).l ++ [p]) (vs ++ [.int .i64 p.id, .int .u32 p.flow, .int .i64 p.tid, .int .i64 p.at_, .slice a' p.body.length c']) := (hs.mono fun _ _ h => h.le hle).snoc ⟨a', c', rfl, hbt'⟩
  have e6 : ((q.flow k).l ++ [p]).length = (q.flow k).l.length + 1 := by simp
  rw [← e6] at m o2
  refine ⟨_, _, _, m.pget 1 rfl (ckn hn rfl) (List.length_set.trans hN) 0 rfl rfl, ?_⟩
  have hls := hq.lens
  refine (has_c (of.src1 m 3 rfl) rfl (by omega)).ret ⟨_, rfl, ?_⟩
  have fin : (k ∈ q.fresh ∨ k ∈ q.elder) → ∃ W' L', W.le W' ∧ QrV W' b (q.put p) L' ∧ Me W' h10 (L' :: R) := fun hin => by
    have eput : q.put p = q.setF k ((q.flow k).setL ((q.flow k).l ++ [p])) := by unfold Qu.put; rw [← hk9]; exact if_pos hin
    rw [eput]
    obtain ⟨L', h1, h2⟩ := shutR (q' := q.setF k ((q.flow k).setL ((q.flow k).l ++ [p]))) (g := (q.flow k).setL ((q.flow k).l ++ [p])) hcx hq hk hE (E := E2) ⟨a2, c2, _, rfl, o2, hs2⟩ rfl of oe rfl rfl m.drop1 (r2_is rfl rfl rfl)
    exact ⟨W', L', hle, h1, h2⟩
  refine bcase_intro (fun q1 => ?_) (fun q1 => ⟨rfl, fin (.inl (by simpa using q1))⟩)
  refine ⟨_, _, _, m.pget 1 rfl (ckn hn rfl) (List.length_set.trans hN) 1 rfl rfl, ?_⟩
  refine (has_c (oe.src1 m 4 rfl) rfl (by omega)).ret ⟨_, rfl, ?_⟩
  refine bcase_intro (fun q2 => ?_) (fun q2 => ⟨rfl, fin (.inr (by simpa using q2))⟩)
  clear fin
  (refine m.fset 1 rfl hn hk rfl 1 rfl rfl ?_; clear m; intro _ m; simp only [List.set_cons_zero, List.set_cons_succ] at m)
  refine ⟨_, _, _, m.pget 1 rfl (ckn hn rfl) (List.length_set.trans hN) 0 rfl rfl, ?_⟩
  refine of.app1 m 3 rfl rfl (by simp [Value.oneCell']) (by omega) (by decide) fun a3 c3 E3 h15 m' o3 => ?_
  clear m
  have m := m'
  clear m'
  simp only [List.set_cons_zero, List.set_cons_succ] at m
  (refine m.pset 1 rfl (ckn hn rfl) (List.length_set.trans hN) 0 rfl (Nat.le_of_ble_eq_true rfl) ?_; clear m; intro _ m; simp only [List.set_cons_zero, List.set_cons_succ] at m)
  refine ⟨rfl, ?_⟩
  have eput : q.put p = (q.setF k (((q.flow k).setL ((q.flow k).l ++ [p])).setD 300)).addF k := by
    unfold Qu.put; rw [← hk9]; exact if_neg (by rintro (h | h); exact absurd h (by simpa using q1); exact absurd h (by simpa using q2))
  rw [eput]
  have o4 : Ow a3 (q.fresh ++ [k]).length c3 1 (ints .i64 (q.fresh ++ [k])) E3 := by rw [ints_app]; show Ow a3 _ c3 1 (ints .i64 q.fresh ++ [.int .i64 k]) E3; simpa using o3
  obtain ⟨L', h1, h2⟩ := shutR (q' := (q.setF k (((q.flow k).setL ((q.flow k).l ++ [p])).setD 300)).addF k) (g := ((q.flow k).setL ((q.flow k).l ++ [p])).setD 300) hcx hq hk hE (E := E2) ⟨a2, c2, _, rfl, o2, hs2⟩ rfl o4 oe rfl rfl m.drop1
    (r2_is rfl (by show _ = (q.fresh ++ [k]).length; simp) rfl)
  exact ⟨W', L', hle, h1, h2⟩
end
end Go.Proofs.YtpcilleldanfmaaDoor

/- The document's queue: Take. -/
set_option linter.unusedVariables false
set_option linter.unusedSimpArgs false
namespace Go.Proofs.YtpcilleldanfmaaDoor
open Go.Vc
def TakeR (W : Wd) (R : List Grp) (b b1 : Nat) (now : Int) (res : Qu × List Pk × Option Pk) (n : Nat) (da : Option Addr) (dl dc : Nat) (h' : Heap) : Prop :=
  ∃ (q : Qu) (d : List Pk) (vs : List Value) (E L : Grp) (T : TypeId), takeN now n q d = res ∧ q.meas < n ∧ QOk q ∧ dl = d.length ∧ d.length + q.cnt ≤ 1048576 ∧ Ow da dl dc 5 vs E ∧ Sq (PkV W) d vs ∧ QrV W b q L ∧
    Me W h' (L :: [(b1, [.int .i64 0, .int .u32 0, .int .i64 0, .int .i64 0, .slice none 0 0], T)] :: E :: R)
set_option maxHeartbeats 1000000
section
variable {W W' : Wd} {h h' : Heap} {G R : List Grp} {L E E0 Ef Ee : Grp} {B : Grp} {Es : List Grp} {css : List (List Value)} {q : Qu} {f g : Fl} {k d : Int} {b n : Nat} {cs : List Value} {p : Pk} {r l : List Pk} {vs : List Value} {a : Option Addr}
theorem taker_c {now : Int} {q0 : Qu} (m : Me W h (L :: R)) (hv : QrV W b q0 L) (hq : QOk q0) (n0 : 0 ≤ now) (n1 : now ≤ 1125899906842624) :
    Runs Tryd.prog 49 #[.pointer (some ⟨b, 0, none⟩), .int .i64 now] h fun v h' => ∃ a c vs E L' cs, v = .tuple #[.agg cs.toArray, .slice a (q0.take now).2.1.length c, .bool (q0.take now).2.2.isSome] ∧
      PkV W ((q0.take now).2.2.getD pk0) cs ∧ Ow a (q0.take now).2.1.length c 5 vs E ∧ Sq (PkV W) (q0.take now).2.1 vs ∧ QrV W b (q0.take now).1 L' ∧ Me W h' (E :: L' :: R) := by
  refine vc_muezzinref8_Queue_Take _ _ _ _ ?_
  (intro bN hN1 eN1 eN2; replace m := m.push eN2 eN1; clear eN1 eN2)
  have hJ0 : TakeR W R b bN now (q0.take now) (q0.meas + 1) none 0 0 hN1 := ⟨q0, [], [], [], L, _, rfl, by omega, hq, rfl, by simpa using hq.cnt, Ow.nil, rfl, hv, (m.nilI.focus 1 rfl).focus 2 rfl⟩
  generalize q0.take now = res at *
  refine ⟨fun da dl dc h' => ∃ n, TakeR W R b bN now res n da dl dc h', fun da dl dc h' => lea fun n => TakeR W R b bN now res n da dl dc h', ⟨_, hJ0⟩, fun _ => ?_⟩
  clear m hv hq hJ0
  intro da dl dc h2 hJ
  obtain ⟨n, ⟨q, d, vsd, Ed, L, T, htk, hms, hq, hdl, hsum, od, hsd, hv, m⟩, hn⟩ := lea_spec hJ
  subst dl
  obtain ⟨n, rfl⟩ : ∃ k, n = k + 1 := ⟨n - 1, by omega⟩
  clear hJ
  have hls := hq.lens
  obtain ⟨fa, fc, hfr, hfs⟩ := hv.fresh m
  obtain ⟨ea, ec, hel, hes⟩ := hv.elder m
  refine ⟨_, _, _, hfr, _, _, _, hel, by simp only [fits]; omega, ?_⟩
  refine dcase_intro (fun q1 => ?_) fun q1 => ?_
  rotate_left
  · have hf : q.fresh = [] := List.eq_nil_of_length_eq_zero (by omega)
    have he : q.elder = [] := List.eq_nil_of_length_eq_zero (by omega)
    refine ⟨⟨rfl, m.wrsb 1 rfl rfl, by simp [Value.oneCell']⟩, ?_⟩
    intro h3 e3
    replace m := m.setr 1 rfl e3
    refine ⟨_, m.rowb 1 rfl rfl rfl, ?_⟩
    rw [takeN_none (by unfold Qu.turn; rw [hf, he]; rfl)] at htk
    rw [← htk]
    exact ⟨_, _, _, Ed, L, _, rfl, PkV.zero, od, hsd, hv, (m.free 1 rfl).focus 1 rfl⟩
  refine ⟨_, _, _, hfr, fun x h' => h' = h2 ∧ q.turn = some x, ?_, fun _ => ?_⟩
  · refine dcase_intro (fun q2 => ?_) fun q2 => ?_
    · obtain ⟨k, re, hke⟩ := List.exists_cons_of_ne_nil (l := q.fresh) (by rintro e; rw [e] at q2; simp at q2)
      obtain ⟨sb, so, rfl, hr⟩ := src_cell (k := 0) (v := .int .i64 k) hfs (by rw [hke]; rfl)
      exact ⟨_, _, _, hfr, ⟨by omega, by omega⟩, k, hr, rfl, by unfold Qu.turn; rw [hke]⟩
    · have hf : q.fresh = [] := List.eq_nil_of_length_eq_zero (by omega)
      obtain ⟨k, re, hke⟩ := List.exists_cons_of_ne_nil (l := q.elder) (by rintro e; rw [e, hf] at q1; simp at q1)
      obtain ⟨sb, so, rfl, hr⟩ := src_cell (k := 0) (v := .int .i64 k) hes (by rw [hke]; rfl)
      exact ⟨_, _, _, hel, ⟨by omega, by omega⟩, k, hr, rfl, by unfold Qu.turn; rw [hf, hke]; rfl⟩
  clear q1
  rintro k h3 ⟨rfl, ht⟩
  obtain ⟨k0, k1⟩ := hq.b k (turn_mem ht)
  have hfo := (hq.flow k0 k1).2
  have hfcn := hq.fcnt k0 k1
  have hd0 := hfo.d0
  have hd1 := hfo.d1
  refine ⟨⟨k0, by omega⟩, _, hv.deficit m hq k0 k1, dcase_intro (fun hd => ?_) fun hd => ?_⟩
  · refine ⟨_, hv.deficit m hq k0 k1, by simp only [fits]; omega, hv.setD m hq k0 k1 fun h4 L1 hv1 m1 => ?_⟩
    have hok1 := hq.setF k0 k1 (setD_ok hfo (d := (q.flow k).deficit + 300) (by omega) (by omega)) (by simp)
    obtain ⟨fa1, fc1, hfr1, hfs1⟩ := hv1.fresh m1
    refine ⟨_, _, _, hfr1, (del_c hfs1 rfl (by show q.fresh.length ≤ _; omega)).mono ?_⟩
    rintro _ h5 ⟨a2, c2, E2, rfl, mk, o2⟩
    replace m1 := (m1.beside mk).focus 1 rfl
    clear mk
    refine ⟨_, _, _, rfl, hv1.setFresh m1 rfl o2 fun h6 L2 hv2 m2 => ?_⟩
    obtain ⟨ea2, ec2, hel2, hes2⟩ := hv2.elder m2
    refine ⟨_, _, _, hel2, (del_c hes2 rfl (by show q.elder.length ≤ _; omega)).mono ?_⟩
    rintro _ h7 ⟨a3, c3, E3, rfl, mk, o3⟩
    replace m2 := m2.beside mk
    clear mk
    refine ⟨_, _, _, rfl, ?_⟩
    have hdl3 : (delZ k q.elder).length ≤ q.elder.length := List.length_filter_le _ _
    refine o3.app1 m2 0 rfl rfl (by simp [Value.oneCell']) (by show ((delZ k q.elder).length + 1) * 8 ≤ _; omega) (by decide) fun a4 c4 E4 h9 m' o4 => ?_
    replace m' := m'.focus 1 rfl
    have o5 : Ow a4 ((delZ k q.elder).length + 1) c4 1 (ints .i64 (delZ k q.elder ++ [k])) E4 := by rw [ints_app]; exact o4
    refine hv2.setElder m' (by simp) o5 fun h10 L3 hv3 m3 => ?_
    have e := del_pop (q := q.setF k ((q.flow k).setD ((q.flow k).deficit + 300))) hok1 ht
    have e2 : (((q.setF k ((q.flow k).setD ((q.flow k).deficit + 300))).setFr (delZ k q.fresh)).setEl (delZ k q.elder ++ [k])) = ((q.setF k ((q.flow k).setD ((q.flow k).deficit + 300))).popT).addE k := by rw [← e]; rfl
    have hv4 : QrV W b (((q.setF k ((q.flow k).setD ((q.flow k).deficit + 300))).popT).addE k) L3 := by rw [← e2]; exact hv3
    rw [takeN_turn ht hd] at htk
    have hnot := popT_not hok1 (k := k) ht
    exact lea_next hn (k := n) ⟨_, d, vsd, Ed, L3, T, htk, by have := meas_turn hq ht hd; omega, (hok1.popT).addE hnot k0 k1, rfl, by rw [addE_cnt, popT_cnt, setD_cnt hq k0 k1]; exact hsum, od, hsd, hv4, m3⟩ (by omega)
  · obtain ⟨hE5, hI, hbd, hpos, his⟩ := pull_facts (tg := q.tg) (iv := q.iv) hfo (by omega) n0 n1
    obtain ⟨sa, sc, vsf, hsf, hfk⟩ := hv.flowK hq k0 k1
    have hil : (itemsP (q.flow k).l).length = (q.flow k).l.length := by simp [itemsP]
    refine ⟨fun x j is h' => ∃ (bc : Nat) (Tc : TypeId), x = some ⟨bc, 0, none⟩ ∧ j = ((runP q.tg q.iv now (q.flow k)).1.pos : Nat) ∧ is = (runP q.tg q.iv now (q.flow k)).2 ∧
      Me W h' ([(bc, cV (runP q.tg q.iv now (q.flow k)).1, Tc)] :: L :: [(bN, [.int .i64 0, .int .u32 0, .int .i64 0, .int .i64 0, .slice none 0 0], T)] :: Ed :: R), ?_, fun _ => ?_⟩
    · have cells : ∀ {h1 : Heap} {R1 : List Grp}, Me W h1 (L :: R1) → row h1 b (3 + k.toNat * 7 + 2) 5 = some (cV (q.flow k).c) ∧ cell h1 b 1 = some (.int .i64 q.tg) ∧ cell h1 b 2 = some (.int .i64 q.iv) ∧ cell h1 b (3 + k.toNat * 7) = some (.slice sa (q.flow k).l.length sc) ∧ src h1 sa ((q.flow k).l.length * 5) vsf := fun m =>
        ⟨hv.codel m hq k0 k1, (hv.tg m).1, (hv.tg m).2.1, (hfk m).1, (hfk m).2⟩
      obtain ⟨x1, x2, x3, x4, x5⟩ := cells m
      refine ⟨_, x1, _, x2, _, x3, _, _, _, x4, ?_, ?_⟩
      · refine (hv.fbytes m hq k0 k1).ret ⟨_, rfl, x4, x3, x2, x1, ?_, ?_⟩
        · refine (items_c x5 hsf (by omega)).mono ?_
          rintro _ h12 ⟨ia, ic, Ei, rfl, mk, oi⟩
          replace m := m.beside mk
          obtain ⟨y1, y2, y3, y4, y5⟩ := cells (m.focus 1 rfl)
          refine ⟨_, _, _, rfl, y3, y2, y1, ?_, ?_⟩
          · have p1 := refpull_c (cap := ic) (c := (q.flow k).c) hE5 (itm_of (oi.src m 0 rfl)) hI
            rw [hil] at p1
            refine p1.mono ?_
            rintro _ h13 ⟨rfl, kk⟩
            replace m := m.on kk
            refine ⟨_, _, _, rfl, ?_⟩
            intro b5 h14 e1 e2
            replace m := m.push e2 e1
            refine ⟨⟨rfl, m.wrsb 0 rfl rfl, by simp [cV, Value.oneCell']⟩, ?_⟩
            intro h15 e3
            replace m := m.setr 0 rfl e3
            exact ⟨_, _, rfl, rfl, rfl, m.free 1 rfl⟩
          · intro b6 h16 e1 e2
            replace m := m.push e2 e1
            have p1 := refpull_c (cap := ic) (c := (q.flow k).c) hE5 (itm_of (oi.src m 1 rfl)) hI
            rw [hil] at p1
            refine p1.mono ?_
            rintro _ h13 ⟨rfl, kk⟩
            replace m := m.on kk
            refine ⟨_, _, _, rfl, ?_⟩
            refine ⟨⟨rfl, m.wrsb 0 rfl rfl, by simp [cV, Value.oneCell']⟩, ?_⟩
            intro h15 e3
            replace m := m.setr 0 rfl e3
            exact ⟨_, _, rfl, rfl, rfl, m.free 1 rfl⟩
        · intro b7 h19 e1 e2
          replace m := m.push e2 e1
          obtain ⟨z1, z2, z3, z4, z5⟩ := cells (m.focus 1 rfl)
          refine (items_c z5 hsf (by omega)).mono ?_
          rintro _ h12 ⟨ia, ic, Ei, rfl, mk, oi⟩
          replace m := m.beside mk
          obtain ⟨y1, y2, y3, y4, y5⟩ := cells (m.focus 2 rfl)
          refine ⟨_, _, _, rfl, y3, y2, y1, ?_⟩
          have p1 := refpull_c (cap := ic) (c := (q.flow k).c) hE5 (itm_of (oi.src m 0 rfl)) hI
          rw [hil] at p1
          refine p1.mono ?_
          rintro _ h13 ⟨rfl, kk⟩
          replace m := m.on kk
          refine ⟨_, _, _, rfl, ?_⟩
          refine ⟨⟨rfl, m.wrsb 1 rfl rfl, by simp [cV, Value.oneCell']⟩, ?_⟩
          intro h15 e3
          replace m := m.setr 1 rfl e3
          exact ⟨_, _, rfl, rfl, rfl, m.free 0 rfl⟩
      · intro b8 h23 e1 e2
        replace m := m.push e2 e1
        have mf := m.focus 1 rfl
        obtain ⟨z1, z2, z3, z4, z5⟩ := cells mf
        refine (hv.fbytes mf hq k0 k1).ret ⟨_, rfl, z4, z3, z2, z1, ?_⟩
        refine (items_c z5 hsf (by omega)).mono ?_
        rintro _ h12 ⟨ia, ic, Ei, rfl, mk, oi⟩
        replace m := m.beside mk
        obtain ⟨y1, y2, y3, y4, y5⟩ := cells (m.focus 2 rfl)
        refine ⟨_, _, _, rfl, y3, y2, y1, ?_⟩
        have p1 := refpull_c (cap := ic) (c := (q.flow k).c) hE5 (itm_of (oi.src m 0 rfl)) hI
        rw [hil] at p1
        refine p1.mono ?_
        rintro _ h13 ⟨rfl, kk⟩
        replace m := m.on kk
        refine ⟨_, _, _, rfl, ?_⟩
        refine ⟨⟨rfl, m.wrsb 1 rfl rfl, by simp [cV, Value.oneCell']⟩, ?_⟩
        intro h15 e3
        replace m := m.setr 1 rfl e3
        exact ⟨_, _, rfl, rfl, rfl, m.free 0 rfl⟩
    clear m
    rintro _ _ _ h28 ⟨bc, Tc, rfl, rfl, rfl, m⟩
    have hrow : Go.Vc.row h28 bc 0 5 = some (cV (runP q.tg q.iv now (q.flow k)).1) := m.rowb 0 rfl rfl rfl
    replace m := m.drop1
    obtain ⟨hws, hsetc⟩ := hv.setC (c' := (runP q.tg q.iv now (q.flow k)).1) m hq k0 k1
    refine ⟨_, hrow, ⟨rfl, hws, by simp [cV, Value.oneCell']⟩, ?_⟩
    intro h29 e3
    obtain ⟨L1, hv1, m1⟩ := hsetc _ e3
    clear hrow hws hsetc e3 m
    have m := m1
    clear m1
    have hok2 := hq.setF k0 k1 (pullF_ok (tg := q.tg) (iv := q.iv) hfo hfcn n0 n1) (by simp [pullF])
    have hisd := isF_drop (tg := q.tg) (iv := q.iv) hfo hfcn n0 n1
    have hgd : (pullF q.tg q.iv now (q.flow k)).deficit = (q.flow k).deficit := rfl
    have hokc : QOk (q.setF k ⟨(q.flow k).l, (q.flow k).deficit, (runP q.tg q.iv now (q.flow k)).1.rest⟩) := hq.setF k0 k1 ⟨(pullF_ok (tg := q.tg) (iv := q.iv) hfo hfcn n0 n1).c, hfo.p, hfo.d0, hfo.d1⟩ (by simp)
    have hcnt2 : (dropF q.tg q.iv now (q.flow k)).length + (q.setF k (pullF q.tg q.iv now (q.flow k))).cnt ≤ q.cnt := by
      have c3 := cntL_set (g := pullF q.tg q.iv now (q.flow k)) (hq.flow k0 k1).1
      have c1 := setF_cnt q k (pullF q.tg q.iv now (q.flow k))
      have e : q.cnt = cntL q.fl := rfl
      simp only [pullF, List.length_drop] at c3
      simp only [dropF, List.length_take]
      simp only [pullF] at c1
      simp only [pullF]
      omega
    have hflc := flow_setF (g := ⟨(q.flow k).l, (q.flow k).deficit, (runP q.tg q.iv now (q.flow k)).1.rest⟩) hq k0 k1
    obtain ⟨sb, sc2, vsf2, hsf2, hfk2⟩ := hv1.flowK hokc k0 k1
    have hcut := fun (h1 : Heap) (R1 : List Grp) (m : Me W h1 (L1 :: R1)) => hv1.cut (j := (runP q.tg q.iv now (q.flow k)).1.pos) m hokc k0 k1 (by rw [hflc]; exact hpos)
    rw [hflc] at hsf2 hfk2 hcut
    dsimp only at hsf2 hfk2 hcut
    simp only [setF_setF] at hcut
    have hpull : (⟨(q.flow k).l, (q.flow k).deficit, (runP q.tg q.iv now (q.flow k)).1.rest⟩ : Fl).setL ((q.flow k).l.drop (runP q.tg q.iv now (q.flow k)).1.pos) = pullF q.tg q.iv now (q.flow k) := rfl
    have hdrop : dropF q.tg q.iv now (q.flow k) = (q.flow k).l.take (runP q.tg q.iv now (q.flow k)).1.pos := rfl
    have hisF : isF q.tg q.iv now (q.flow k) = (runP q.tg q.iv now (q.flow k)).2 := rfl
    rw [hpull] at hcut
    generalize hρ : (runP q.tg q.iv now (q.flow k)).1.pos = pos at *
    refine ⟨fun da dl dc x h' => ∃ (j : Nat) (vs' : List Value) (E' : Grp), x = j ∧ j ≤ pos ∧ dl = (d ++ (q.flow k).l.take j).length ∧ Ow da dl dc 5 vs' E' ∧ Sq (PkV W) (d ++ (q.flow k).l.take j) vs' ∧
      Me W h' (L1 :: [(bN, [.int .i64 0, .int .u32 0, .int .i64 0, .int .i64 0, .slice none 0 0], T)] :: E' :: R), fun _ _ _ x _ => ((pos : Int) - x).toNat,
      ⟨0, vsd, Ed, rfl, by omega, by simp, od, by simpa using hsd, m⟩, fun _ => ?_⟩
    clear m od hsd
    rintro da dl dc2 _ h30 ⟨j, vs', E', rfl, hj, hdl, od, hsd, m⟩
    subst hdl
    refine dcase_intro (fun q2 => ?_) fun q2 => ?_
    · obtain ⟨x, hx⟩ : ∃ x, (q.flow k).l[j]? = some x := ⟨_, List.getElem?_eq_getElem (by omega)⟩
      obtain ⟨cs, hcv, hrow, hrl⟩ := hsf2.get (fun _ _ => PkV.len) hx
      obtain ⟨x4, x5⟩ := hfk2 m
      obtain ⟨sb3, so3, rfl, hr⟩ := src_part (k := j * 5) (n := 5) x5 hrl (by decide) hrow
      have hcl : cs.length = 5 := hcv.len
      have hdlen : (d ++ (q.flow k).l.take j).length = d.length + j := by rw [List.length_append, List.length_take]; omega
      have hfc9 := cntL_ge (hq.flow k0 k1).1
      have ecn : q.cnt = cntL q.fl := rfl
      refine ⟨_, _, _, x4, ⟨by omega, by omega⟩, _, hr, hcl, ?_⟩
      refine od.app1 m 2 rfl (by simpa using hcl) (by simpa using hcv.one) (by omega) (by decide) fun a2 c2 E2 h6 m' o2 => ?_
      simp only [List.append_nil, List.set_cons_zero, List.set_cons_succ] at o2 m'
      refine ⟨by simp only [fits]; omega, ⟨j + 1, _, E2, by omega, by omega, ?_, o2, ?_, m'⟩, by (try dsimp only); omega⟩
      · rw [← take_snoc hx]; simp; omega
      · rw [← take_snoc hx, ← List.append_assoc]; exact hsd.snoc hcv
    · obtain rfl : pos = j := by omega
      rw [← hdrop] at od hsd ⊢
      obtain ⟨s9, c9, hc9, hrun⟩ := hcut _ _ m
      refine ⟨_, _, _, hc9, ⟨by omega, by omega⟩, hrun.mono ?_⟩
      rintro _ h33 ⟨a', c', rfl, hc33, hset⟩
      refine ⟨_, _, _, rfl, hset _ fun h34 L2 hv2 m2 => ?_⟩
      clear hset hrun hcut m
      rw [← hisF]
      refine bcase_intro (fun hisf => ?_) fun hist => ?_
      · have hmv := meas_empty hq ht hd hgd
        have hisf : isF q.tg q.iv now (q.flow k) = false := by simpa using hisf
        refine ⟨fun x h' => h' = h34 ∧ x = decide (q.fresh ≠ [] ∧ q.elder ≠ []), ?_, fun _ => ?_⟩
        · obtain ⟨ea2, ec2, hel2, hes2⟩ := hv2.elder m2
          refine dcase_intro (fun q3 => ⟨_, _, _, hel2, rfl, ?_⟩) fun q3 => ⟨rfl, ?_⟩
          · have hf : q.fresh ≠ [] := by rintro e; rw [e] at q3; simp at q3
            by_cases he : q.elder = []
            · rw [show (q.setF k (pullF q.tg q.iv now (q.flow k))).elder = [] from he]; simp [he]
            · have : 0 < q.elder.length := List.length_pos_iff.2 he
              show decide (0 < ((q.elder.length : Nat) : Int)) = _
              simp [hf, he, this]
          · have hf : q.fresh = [] := List.eq_nil_of_length_eq_zero (by omega)
            simp [hf]
        rintro _ h35 ⟨rfl, rfl⟩
        obtain ⟨fa2, fc2, hfr2, hfs2⟩ := hv2.fresh m2
        refine ⟨_, _, _, hfr2, (del_c hfs2 rfl (by show q.fresh.length ≤ _; omega)).mono ?_⟩
        rintro _ h36 ⟨a5, c5, E5, rfl, mk, o5⟩
        replace m2 := (m2.beside mk).focus 1 rfl
        clear mk
        refine ⟨_, _, _, rfl, hv2.setFresh m2 rfl o5 fun h37 L3 hv3 m3 => ?_⟩
        obtain ⟨ea3, ec3, hel3, hes3⟩ := hv3.elder m3
        refine ⟨_, _, _, hel3, (del_c hes3 rfl (by show q.elder.length ≤ _; omega)).mono ?_⟩
        rintro _ h38 ⟨a6, c6, E6, rfl, mk, o6⟩
        replace m3 := (m3.beside mk).focus 1 rfl
        clear mk
        refine ⟨_, _, _, rfl, hv3.setElder m3 rfl o6 fun h39 L4 hv4 m4 => ?_⟩
        have e := del_pop (q := q.setF k (pullF q.tg q.iv now (q.flow k))) hok2 ht
        have hv5 : QrV W b ((q.setF k (pullF q.tg q.iv now (q.flow k))).popT) L4 := by rw [← e]; exact hv4
        refine bcase_intro (fun hag => ?_) fun hag => ?_
        · have hag : q.fresh ≠ [] ∧ q.elder ≠ [] := by simpa using hag
          refine hv5.pushE m4 (by have := (hok2.popT).lens; omega) fun h42 L5 hv6 m5 => ?_
          rw [takeN_move ht hd hisf hag] at htk
          have hnot := popT_not hok2 (k := k) ht
          exact lea_next hn (k := n) ⟨_, _, _, E', L5, T, htk, by have := hmv.2 hag.1; omega, (hok2.popT).addE hnot k0 k1, rfl, by rw [addE_cnt, popT_cnt, List.length_append]; omega, od, hsd, hv6, m5⟩ (by omega)
        · have hag : ¬ (q.fresh ≠ [] ∧ q.elder ≠ []) := by simpa using hag
          rw [takeN_gone ht hd hisf hag] at htk
          exact lea_next hn (k := n) ⟨_, _, _, E', L4, T, htk, by have := hmv.1; omega, hok2.popT, rfl, by rw [popT_cnt, List.length_append]; omega, od, hsd, hv5, m4⟩ (by omega)
      · have hist : isF q.tg q.iv now (q.flow k) = true := by simpa using hist
        obtain ⟨p, r, hp⟩ := hisd.1 hist
        have hfl2 := flow_setF (g := pullF q.tg q.iv now (q.flow k)) hq k0 k1
        obtain ⟨s8, c8, vs8, hs8, hfk8⟩ := hv2.flowK hok2 k0 k1
        have hcut8 := fun (h1 : Heap) (R1 : List Grp) (m : Me W h1 (L2 :: R1)) => hv2.cut (j := 1) m hok2 k0 k1 (by rw [hfl2, hp]; simp)
        rw [hfl2, hp] at hs8 hfk8
        simp only [hfl2, hp, setF_setF, List.drop_succ_cons, List.drop_zero] at hcut8
        obtain ⟨x4, x5⟩ := hfk8 m2
        obtain ⟨cs, hcv, hrow, hrl⟩ := hs8.get (fun _ _ => PkV.len) (i := 0) (x := p) rfl
        rw [Nat.zero_mul] at hrow hrl
        obtain ⟨sb3, so3, rfl, hr⟩ := src_part (k := 0) (n := 5) x5 (by omega) (by decide) hrow
        obtain ⟨pa, pc, rfl, hbt⟩ := hcv
        refine ⟨_, _, _, x4, ⟨by omega, by simp⟩, _, hr, ?_⟩
        intro b14 h43 e1 e2
        replace m2 := m2.push e2 e1
        clear e1 e2
        refine ⟨⟨rfl, m2.wrsb 0 rfl rfl, by simp [Value.oneCell']⟩, ?_⟩
        intro h44 e3
        replace m2 := (m2.setr 0 rfl e3).focus 1 rfl
        clear e3
        simp only [List.set_cons_zero, List.eraseIdx_cons_zero, List.eraseIdx_cons_succ, setL] at m2
        obtain ⟨s7, c7, hc7, hrun7⟩ := hcut8 _ _ m2
        refine ⟨_, _, _, hc7, ⟨by omega, by simp; omega⟩, hrun7.mono ?_⟩
        rintro _ h45 ⟨a7, c7', rfl, hc45, hset⟩
        refine ⟨_, _, _, rfl, hset _ fun h46 L3 hv3 m3 => ?_⟩
        clear hset hrun7 hcut8 m2
        have hfl3 := flow_setF (g := (pullF q.tg q.iv now (q.flow k)).setL r) hq k0 k1
        have hple : p.body.length ≤ 1048576 := (hfo.p p (List.mem_of_mem_drop (by unfold pullF at hp; dsimp only at hp; rw [hp]; simp))).2.2
        have hok3 : QOk (q.setF k ((pullF q.tg q.iv now (q.flow k)).setL r)) := hq.setF k0 k1 ⟨(pullF_ok (tg := q.tg) (iv := q.iv) hfo hfcn n0 n1).c, fun x hx => (pullF_ok (tg := q.tg) (iv := q.iv) hfo hfcn n0 n1).p x (by rw [hp]; simp at hx; simp [hx]), hfo.d0, hfo.d1⟩ (by
          have : (pullF q.tg q.iv now (q.flow k)).l.length ≤ (q.flow k).l.length := by simp [pullF]
          rw [hp] at this; simp at this ⊢; omega)
        have hdf := hv3.deficit m3 hok3 k0 k1
        rw [hfl3] at hdf
        refine ⟨_, hdf, _, _, _, m3.cell 1 rfl rfl, by simp only [fits, setL_d]; omega, ?_⟩
        refine hv3.setD m3 hok3 k0 k1 fun h47 L4 hv4 m4 => ?_
        rw [hfl3, setF_setF] at hv4
        refine ⟨_, m4.rowb 1 rfl rfl rfl, ⟨rfl, m4.wrsb 2 rfl rfl, by simp [Value.oneCell']⟩, ?_⟩
        intro h48 e3
        replace m4 := m4.setr 2 rfl e3
        refine ⟨_, m4.rowb 2 rfl rfl rfl, ?_⟩
        rw [takeN_some ht hd hist hp] at htk
        rw [← htk]
        exact ⟨_, _, _, E', L4, _, rfl, ⟨pa, pc, rfl, hbt⟩, od, hsd, hv4, (((m4.free 1 rfl).free 1 rfl).focus 1 rfl)⟩
end
end Go.Proofs.YtpcilleldanfmaaDoor

/- The document's pool of queues: where it lies; NewPool, Len, Bytes, Has, Take. -/
set_option linter.unusedVariables false
set_option linter.unusedSimpArgs false
set_option maxRecDepth 8000
namespace Go.Proofs.YtpcilleldanfmaaDoor
open Go.Vc
def padR (P : Po) : List Qu := List.replicate 8 P.new ++ P.q
def PrV (W : Wd) (b : Nat) (P : Po) (L : Grp) : Prop := ∃ (bs : List Nat) (Ls : List Grp) (T : TypeId), Qs QrV W (padR P) bs Ls ∧ L = Ls.flatten ++ [(b, poH P ++ prs bs, T)]
section
variable {V : Wd → Nat → Qu → Grp → Prop} {W W' : Wd} {h h' h1 : Heap} {G R : List Grp} {L L' E : Grp} {P P' : Po} {q q' : Qu} {qs : List Qu} {bs bs2 : List Nat} {Ls Ls2 : List Grp} {b b' bk k n i : Nat} {p : Pk} {cs : List Value} {T : TypeId} {v : Value}
theorem padR_get : (padR P)[8 + k]? = P.q[k]? := by
  unfold padR
  rw [List.getElem?_append_right (by simp)]
  simp
theorem padR_set : (padR P).set (8 + k) q = padR (P.set k q) := by
  unfold padR
  rw [List.set_append_right _ _ (by simp)]
  simp [Po.set, Po.new]
theorem padR_len (hP : PoOk P) : (padR P).length = 136 := by simp [padR, hP.n]
theorem PrV.opn (hv : PrV W b P L) (m : Me W h (L :: R)) : ∃ (bs : List Nat) (Ls : List Grp) (T : TypeId), Qs QrV W (padR P) bs Ls ∧ L = Ls.flatten ++ [(b, poH P ++ prs bs, T)] ∧ Me W h (Ls.flatten :: [(b, poH P ++ prs bs, T)] :: R) := by
  obtain ⟨bs, Ls, T, hq, rfl⟩ := hv
  exact ⟨bs, Ls, T, hq, rfl, m.split⟩
theorem PrV.shut (hq : Qs QrV W (padR P) bs Ls) (m : Me W h (Ls.flatten :: [(b, poH P ++ prs bs, T)] :: R)) : ∃ L, PrV W b P L ∧ Me W h (L :: R) := ⟨_, ⟨bs, Ls, T, hq, rfl⟩, m.join⟩
theorem PrV.le (hl : W.le W') (hv : PrV W b P L) : PrV W' b P L := by
  obtain ⟨bs, Ls, T, hq, rfl⟩ := hv
  exact ⟨bs, Ls, T, hq.le fun _ _ _ => QrV.le hl, rfl⟩
theorem PrV.mp (hv : PrV W b P L) (m : Me W h (L :: R)) : cell h b 3 = some (.int .i64 P.mp) := by
  (obtain ⟨bs, Ls, T, hq, rfl, mNew⟩ := hv.opn m; replace m := mNew; clear mNew)
  exact m.cell 1 rfl rfl
theorem PrV.mb (hv : PrV W b P L) (m : Me W h (L :: R)) : cell h b 4 = some (.int .i64 P.mb) := by
  (obtain ⟨bs, Ls, T, hq, rfl, mNew⟩ := hv.opn m; replace m := mNew; clear mNew)
  exact m.cell 1 rfl rfl
theorem Qs.cellR {j : Nat} (hq : Qs QrV W (padR P) bs Ls) (hk : P.q[k]? = some q) (m : Me W h G) (hj : G[j]? = some [(b, poH P ++ prs bs, T)]) : ∃ bk Lk, bs[8 + k]? = some bk ∧ Ls[8 + k]? = some Lk ∧ QrV W bk q Lk ∧ cell h b (5 + (8 + k)) = some (.pointer (some ⟨bk, 0, none⟩)) := by
  obtain ⟨bk, Lk, h1, h2, h3⟩ := hq.v (8 + k) q (by rw [padR_get]; exact hk)
  exact ⟨bk, Lk, h1, h2, h3, m.cell j hj (by rw [poH_get]; exact prs_get h1)⟩
theorem Qs.shutR (hq : Qs QrV W (padR P) bs Ls) (hb : bs[8 + k]? = some b') (hL : Ls[8 + k]? = some E) (hle : W.le W') (hv : QrV W' b' q' L') (m : Me W' h (L' :: (Ls.eraseIdx (8 + k)).flatten :: [(b, poH P ++ prs bs, T)] :: R)) :
    ∃ L, PrV W' b (P.set k q') L ∧ Me W' h (L :: R) := by
  have h1 := (hq.le fun _ _ _ => QrV.le hle).set hv (8 + k)
  rw [set_same hb, padR_set] at h1
  exact PrV.shut (P := P.set k q') h1 (m.unpick (8 + k) hL)
/-- One queue was looked into, all is as it was. -/
theorem Me.unlook {k : Nat} (hL : Ls[k]? = some E) (m : Me W h (E :: (Ls.eraseIdx k).flatten :: R)) : Me W h (Ls.flatten :: R) := by
  have := m.unpick k hL
  rwa [set_same hL] at this
theorem rThere_c (aid tid : Int) : Runs Tryd.prog 44 #[.int .i64 aid, .int .i64 tid] h fun v h' => v = .bool (thereZ aid tid) ∧ h' = h := by
  have no : ¬ (1 ≤ aid ∧ aid ≤ 16 ∧ 0 ≤ tid ∧ tid < 8) → Value.bool false = .bool (thereZ aid tid) := fun h => by
    have : thereZ aid tid = false := by simpa [thereZ] using h
    rw [this]
  refine vc_muezzinref8_there _ _ _ _ (dcase_intro (fun q1 => dcase_intro (fun q2 => dcase_intro (fun q3 => ⟨?_, rfl⟩) fun q => ⟨no fun h => q h.2.2.1, rfl⟩) fun q => ⟨no fun h => q h.2.1, rfl⟩) fun q => ⟨no fun h => q h.1, rfl⟩)
  have : thereZ aid tid = decide (tid < 8) := by simp [thereZ, q1, q2, q3]
  rw [this]
theorem prNew_c (m : Me W h R) (seed tg iv mp mb : Int) : Runs Tryd.prog 18 #[.int .u32 seed, .int .i64 tg, .int .i64 iv, .int .i64 mp, .int .i64 mb] h fun v h' =>
    ∃ b L, v = .pointer (some ⟨b, 0, none⟩) ∧ PrV W b (po0 seed tg iv mp mb) L ∧ Me W h' (L :: R) := by
  refine vc_muezzinref8_NewPool _ _ _ _ _ _ _ ?_
  intro b h1 e1 e2
  replace m := m.push e2 e1
  clear e1 e2
  obtain ⟨T, m⟩ : ∃ T, Me W h1 ([(b, poH (po0 seed tg iv mp mb) ++ List.replicate 136 (.pointer none), T)] :: R) := ⟨_, m⟩
  refine ⟨fun x h' => ∃ (i : Nat) (bs : List Nat) (Ls : List Grp), x = i ∧ i ≤ 17 ∧ bs.length = i * 8 ∧ Qs QrV W (List.replicate (i * 8) (po0 seed tg iv mp mb).new) bs Ls ∧ Me W h' (Ls.flatten :: [(b, poH (po0 seed tg iv mp mb) ++ (prs bs ++ List.replicate (136 - i * 8) (Value.pointer none)), T)] :: R), fun x _ => (17 - x).toNat,
    ⟨0, [], [], rfl, by omega, rfl, Qs.nil, m.nilI⟩, fun _ => ?_⟩
  clear m
  rintro _ h2 ⟨i, bs, Ls, rfl, hi, hbl, hq, m⟩
  refine dcase_intro (fun q => ?_) fun q => ?_
  · refine ⟨fun x h' => ∃ (t : Nat) (bs : List Nat) (Ls : List Grp), x = t ∧ t ≤ 8 ∧ bs.length = i * 8 + t ∧ Qs QrV W (List.replicate (i * 8 + t) (po0 seed tg iv mp mb).new) bs Ls ∧ Me W h' (Ls.flatten :: [(b, poH (po0 seed tg iv mp mb) ++ (prs bs ++ List.replicate (136 - (i * 8 + t)) (Value.pointer none)), T)] :: R), fun x _ => (8 - x).toNat,
      ⟨0, bs, Ls, rfl, by omega, hbl, hq, m⟩, fun _ => ?_⟩
    clear m hq hbl
    rintro _ h3 ⟨t, bs, Ls, rfl, ht, hbl, hq, m⟩
    refine dcase_intro (fun q2 => ?_) fun q2 => ?_
    · refine ⟨⟨by omega, by omega⟩, (newr_c m seed tg iv).mono ?_⟩
      rintro _ h4 ⟨b', L', rfl, hv', m⟩
      refine ⟨_, rfl, ⟨by omega, by omega⟩, ?_⟩
      refine m.store 2 rfl (by simp only [List.length_append, prs_len, hbl, poH, List.length_cons, List.length_nil, List.length_replicate]; omega) fun h5 m => ?_
      have ix : 5 + (i : Int).toNat * 8 + (t : Int).toNat = 5 + (i * 8 + t) := by omega
      obtain ⟨r, hr⟩ : ∃ r, 136 - (i * 8 + t) = r + 1 := ⟨136 - (i * 8 + t) - 1, by omega⟩
      rw [ix, poH_set, List.set_append_right _ _ (by rw [prs_len]; omega), prs_len, hbl, Nat.sub_self, hr, List.replicate_succ, List.set_cons_zero] at m
      simp only [List.set_cons_zero, List.set_cons_succ] at m
      refine ⟨by simp only [fits]; omega, ⟨t + 1, bs ++ [b'], Ls ++ [L'], by omega, by omega, by simp [hbl]; omega, ?_, ?_⟩, by (try dsimp only); omega⟩
      · rw [show i * 8 + (t + 1) = i * 8 + t + 1 by omega, List.replicate_succ']
        exact hq.app (Qs.one hv')
      · rw [show 136 - (i * 8 + (t + 1)) = r by omega, prs_app, List.append_assoc, show prs [b'] = [.pointer (some ⟨b', 0, none⟩)] from rfl, List.singleton_append]
        exact m.perm (by simp only [List.flatten_cons, List.flatten_append, List.flatten_nil]; exact permC fun c h0 hc => by simp only [hc, h0]; omega)
    · obtain rfl : t = 8 := by omega
      exact ⟨by simp only [fits]; omega, ⟨i + 1, bs, Ls, by omega, by omega, by omega, by rw [show (i + 1) * 8 = i * 8 + 8 by omega]; exact hq, by rw [show (i + 1) * 8 = i * 8 + 8 by omega]; exact m⟩, by (try dsimp only); omega⟩
  · obtain rfl : i = 17 := by omega
    simp only [Nat.reduceMul, Nat.sub_self, List.replicate_zero, List.append_nil] at m hq
    have e : padR (po0 seed tg iv mp mb) = List.replicate 136 (po0 seed tg iv mp mb).new := by
      unfold padR po0 Po.new
      dsimp only
      rw [List.replicate_append_replicate]
    obtain ⟨L, hv, m⟩ := PrV.shut (P := po0 seed tg iv mp mb) (by rw [e]; exact hq) m
    exact ⟨b, L, rfl, hv, m⟩
theorem prLen_c (m : Me W h (L :: R)) (hv : PrV W b P L) (hP : PoOk P) (hl : P.len ≤ 1048576) : Runs Tryd.prog 25 #[.pointer (some ⟨b, 0, none⟩)] h fun v h' => v = .int .i64 (P.len : Int) ∧ Me W h' (L :: R) := by
  (obtain ⟨bs, Ls, T, hq, rfl, mNew⟩ := hv.opn m; replace m := mNew; clear mNew)
  have hlen : P.len = cntQ P.q := rfl
  refine vc_muezzinref8_Pool_Len _ _ _ ⟨fun x a h' => ∃ i : Nat, a = i + 1 ∧ i ≤ 16 ∧ x = cntQ (P.q.take (i * 8)) ∧ Me W h' (Ls.flatten :: [(b, poH P ++ prs bs, T)] :: R), fun _ a _ => (17 - a).toNat, ⟨0, by omega, by omega, by simp [cntQ], m⟩, fun _ => ?_⟩
  clear m
  rintro _ _ h1 ⟨i, rfl, hi, rfl, m⟩
  refine dcase_intro (fun q => ?_) fun q => ?_
  · refine ⟨fun x a h' => ∃ t : Nat, a = t ∧ t ≤ 8 ∧ x = cntQ (P.q.take (i * 8 + t)) ∧ Me W h' (Ls.flatten :: [(b, poH P ++ prs bs, T)] :: R), fun _ a _ => (8 - a).toNat, ⟨0, rfl, by omega, rfl, m⟩, fun _ => ?_⟩
    clear m
    rintro _ _ h2 ⟨t, rfl, ht, rfl, m⟩
    refine dcase_intro (fun q2 => ?_) fun q2 => ?_
    · have hk : i * 8 + t < 128 := by omega
      obtain ⟨bk, Lk, e1, e2, hvk, hc⟩ := hq.cellR (hP.qu hk).1 m (j := 1) rfl
      have ix : 5 + ((i : Int) + 1).toNat * 8 + (t : Int).toNat = 5 + (8 + (i * 8 + t)) := by omega
      rw [ix]
      have hle := cntQ_take_le P.q (i * 8 + t + 1)
      have hst := cntQ_take (hP.qu hk).1
      refine ⟨⟨by omega, by omega⟩, ⟨by omega, by omega⟩, _, hc, (lenr_c (m.pick _ e2) hvk (hP.qu hk).2.ok).mono ?_⟩
      rintro _ h3 ⟨rfl, m⟩
      exact ⟨_, rfl, by simp only [fits]; omega, by simp only [fits]; omega, ⟨t + 1, by omega, by omega, by rw [show i * 8 + (t + 1) = i * 8 + t + 1 by omega]; omega, Me.unlook e2 m⟩, by (try dsimp only); omega⟩
    · obtain rfl : t = 8 := by omega
      exact ⟨by simp only [fits]; omega, ⟨i + 1, by omega, by omega, by rw [show (i + 1) * 8 = i * 8 + 8 by omega], m⟩, by (try dsimp only); omega⟩
  · obtain rfl : i = 16 := by omega
    rw [List.take_of_length_le (by rw [hP.n]; omega)]
    exact ⟨by rw [hlen], m.join⟩
theorem prBytes_c (m : Me W h (L :: R)) (hv : PrV W b P L) (hP : PoOk P) (hl : P.len ≤ 1048576) : Runs Tryd.prog 26 #[.pointer (some ⟨b, 0, none⟩)] h fun v h' => v = .int .i64 P.byt ∧ h' = h := by
  (obtain ⟨bs, Ls, T, hq, rfl, mNew⟩ := hv.opn m; replace m := mNew; clear mNew)
  have hbl := hP.byt_le
  have hlen : P.byt = bytQ P.q := rfl
  refine vc_muezzinref8_Pool_Bytes _ _ _ ⟨fun x a h' => ∃ i : Nat, a = i + 1 ∧ i ≤ 16 ∧ x = bytQ (P.q.take (i * 8)) ∧ h' = h, fun _ a _ => (17 - a).toNat, ⟨0, by omega, by omega, by simp [bytQ], rfl⟩, fun _ => ?_⟩
  rintro _ _ h1 ⟨i, rfl, hi, rfl, rfl⟩
  refine dcase_intro (fun q => ?_) fun q => ?_
  · refine ⟨fun x a h' => ∃ t : Nat, a = t ∧ t ≤ 8 ∧ x = bytQ (P.q.take (i * 8 + t)) ∧ h' = h1, fun _ a _ => (8 - a).toNat, ⟨0, rfl, by omega, rfl, rfl⟩, fun _ => ?_⟩
    rintro _ _ h2 ⟨t, rfl, ht, rfl, rfl⟩
    refine dcase_intro (fun q2 => ?_) fun q2 => ?_
    · have hk : i * 8 + t < 128 := by omega
      obtain ⟨bk, Lk, e1, e2, hvk, hc⟩ := hq.cellR (hP.qu hk).1 m (j := 1) rfl
      have ix : 5 + ((i : Int) + 1).toNat * 8 + (t : Int).toNat = 5 + (8 + (i * 8 + t)) := by omega
      rw [ix]
      have hle := bytQ_take_le P.q (i * 8 + t + 1)
      have hnn := bytQ_nn (P.q.take (i * 8 + t + 1))
      have hst := bytQ_take (hP.qu hk).1
      refine ⟨⟨by omega, by omega⟩, ⟨by omega, by omega⟩, _, hc, (bytesr_c (m.pick _ e2) hvk (hP.qu hk).2.ok).mono ?_⟩
      rintro _ h3 ⟨rfl, rfl⟩
      exact ⟨_, rfl, by simp only [fits]; omega, by simp only [fits]; omega, ⟨t + 1, by omega, by omega, by rw [show i * 8 + (t + 1) = i * 8 + t + 1 by omega]; omega, rfl⟩, by (try dsimp only); omega⟩
    · obtain rfl : t = 8 := by omega
      exact ⟨by simp only [fits]; omega, ⟨i + 1, by omega, by omega, by rw [show (i + 1) * 8 = i * 8 + 8 by omega], rfl⟩, by (try dsimp only); omega⟩
  · obtain rfl : i = 16 := by omega
    rw [List.take_of_length_le (by rw [hP.n]; omega)]
    exact ⟨by rw [hlen], rfl⟩
theorem prHas_c (m : Me W h (L :: R)) (hv : PrV W b P L) (hP : PoOk P) (aid tid : Int) : Runs Tryd.prog 27 #[.pointer (some ⟨b, 0, none⟩), .int .i64 aid, .int .i64 tid] h fun v h' =>
    v = .bool (thereZ aid tid && decide (0 < (P.qu (pix aid tid)).cnt)) ∧ Me W h' (L :: R) := by
  have m0 := m
  (obtain ⟨bs, Ls, T, hq, rfl, mNew⟩ := hv.opn m; replace m := mNew; clear mNew)
  refine vc_muezzinref8_Pool_Has _ _ _ _ _ ((rThere_c aid tid).mono ?_)
  rintro _ h1 ⟨rfl, rfl⟩
  refine ⟨_, rfl, bcase_intro (fun ht => ?_) fun ht => ⟨by rw [ht]; rfl, m0⟩⟩
  have hz := thereZ_iff.1 ht
  obtain ⟨bk, Lk, e1, e2, hvk, hc⟩ := hq.cellR (hP.qu (pix_lt ht)).1 m (j := 1) rfl
  refine ⟨⟨by omega, by omega⟩, ⟨by omega, by omega⟩, _, ?_, (lenr_c (m.pick _ e2) hvk (hP.qu (pix_lt ht)).2.ok).mono ?_⟩
  · rw [show 5 + aid.toNat * 8 + tid.toNat = 5 + (8 + pix aid tid) by unfold pix; omega]; exact hc
  · rintro _ h2 ⟨rfl, m⟩
    refine ⟨_, rfl, ?_, (Me.unlook e2 m).join⟩
    rw [ht]
    simp
theorem prTake_c {aid tid now : Int} (m : Me W h (L :: R)) (hv : PrV W b P L) (hP : PoOk P) (n0 : 0 ≤ now) (n1 : now ≤ 1125899906842624) :
    Runs Tryd.prog 22 #[.pointer (some ⟨b, 0, none⟩), .int .i64 aid, .int .i64 tid, .int .i64 now] h fun v h' => ∃ a c vs E L' cs, v = .tuple #[.agg cs.toArray, .slice a (P.takeZ aid tid now).2.1.length c, .bool (P.takeZ aid tid now).2.2.isSome] ∧
      PkV W ((P.takeZ aid tid now).2.2.getD pk0) cs ∧ Ow a (P.takeZ aid tid now).2.1.length c 5 vs E ∧ Sq (PkV W) (P.takeZ aid tid now).2.1 vs ∧ PrV W b (P.takeZ aid tid now).1 L' ∧ Me W h' (E :: L' :: R) := by
  refine vc_muezzinref8_Pool_Take _ _ _ _ _ _ ?_
  intro bx h1 e1 e2
  replace m := m.push e2 e1
  clear e1 e2
  refine (rThere_c aid tid).mono ?_
  rintro _ h2 ⟨rfl, rfl⟩
  refine ⟨_, rfl, ?_⟩
  unfold Po.takeZ
  by_cases ht : thereZ aid tid = true
  case neg =>
    have ht' : thereZ aid tid = false := by simpa using ht
    refine bcase_true (by rw [ht']; rfl) ⟨⟨rfl, m.wrsb 0 rfl rfl, by simp [Value.oneCell']⟩, ?_⟩
    intro h3 e3
    replace m := m.setr 0 rfl e3
    rw [if_neg ht]
    exact ⟨_, m.rowb 0 rfl rfl rfl, none, 0, [], [], L, _, rfl, PkV.zero, Ow.nil, rfl, hv, m.drop1.nilI⟩
  have hz := thereZ_iff.1 ht
  have hk := pix_lt ht
  rw [if_pos ht]
  refine bcase_false (by rw [ht]; rfl) ⟨⟨by omega, by omega⟩, ⟨by omega, by omega⟩, ?_⟩
  have ix : 5 + aid.toNat * 8 + tid.toNat = 5 + (8 + pix aid tid) := by unfold pix; omega
  rw [ix]
  replace m := m.focus 1 rfl
  simp only [List.eraseIdx_cons_zero, List.eraseIdx_cons_succ] at m
  (obtain ⟨bs, Ls, T, hq, rfl, mNew⟩ := hv.opn m; replace m := mNew; clear mNew)
  obtain ⟨bk, Lk, e1, e2, hvk, hc⟩ := hq.cellR (hP.qu hk).1 m (j := 1) rfl
  refine ⟨_, hc, (taker_c (m.pick _ e2) hvk (hP.qu hk).2.ok n0 n1).mono ?_⟩
  rintro _ h3 ⟨a, c, vs, E, Lk', cs, rfl, hcv, o, hs, hvk', m1⟩
  clear m
  refine ⟨_, _, _, _, _, rfl, ?_⟩
  obtain ⟨pa, pc, rfl, hbt⟩ := hcv
  refine ⟨⟨rfl, m1.wrsb 4 rfl rfl, by simp [Value.oneCell']⟩, ?_⟩
  intro h4 e3
  replace m1 := m1.setr 4 rfl e3
  refine ⟨_, m1.rowb 4 rfl rfl rfl, ?_⟩
  have m2 : Me W h4 (Lk' :: (Ls.eraseIdx (8 + pix aid tid)).flatten :: [(b, poH P ++ prs bs, T)] :: E :: R) := (m1.free 4 rfl).perm (by
    simp only [List.eraseIdx_cons_zero, List.eraseIdx_cons_succ, List.set_cons_zero, List.set_cons_succ, List.flatten_cons]
    exact permC fun c h0 hc => by simp only [hc, h0]; omega)
  obtain ⟨L2, hv2, m3⟩ := hq.shutR (R := E :: R) e1 e2 (Wd.le.refl _) hvk' m2
  exact ⟨_, _, vs, E, L2, _, rfl, ⟨pa, pc, rfl, hbt⟩, o, hs, hv2, m3.focus 1 rfl⟩
end
end Go.Proofs.YtpcilleldanfmaaDoor
