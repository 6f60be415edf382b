/- The program's pool of queues: the fattest flow loses its first; Put, Take. -/
import Derived.Test.YtpcilleldanfmaaDoorPool
set_option linter.unusedVariables false
set_option linter.unusedSimpArgs false
set_option maxRecDepth 8000
namespace Go.Proofs.YtpcilleldanfmaaDoor
open Go.Vc
/-- Lists that hold the same, whatever is counted. -/
theorem permC {α : Type} {a b : List α} (h : ∀ c : List α → Nat, c [] = 0 → (∀ x y, c (x ++ y) = c x + c y) → c a = c b) : a.Perm b := by
  classical
  exact List.perm_iff_count.2 fun x => h (List.count x) rfl fun u v => List.count_append ..
def frP (bs : List Nat) : Option Nat → Option Addr
  | none => none
  | some k => (bs[k]?).map fun b => ⟨b, 0, none⟩
theorem set_same {α : Type} {l : List α} {k : Nat} {x : α} (h : l[k]? = some x) : l.set k x = l := by
  obtain ⟨h1, h2⟩ := List.getElem?_eq_some_iff.1 h
  rw [← h2, List.set_getElem_self]
section
variable {V : Wd → Nat → Qu → Grp → Prop} {W W' : Wd} {h h' h1 : Heap} {G R : List Grp} {L L' E : Grp} {P P' : Po} {q q' : Qu} {qs qs2 : List Qu} {bs bs2 : List Nat} {Ls Ls2 : List Grp} {b b' k n i : Nat} {p : Pk} {cs : List Value} {T : TypeId} {v ev : Value}
/-- One queue, opened, has turned: the pool is shut again. -/
theorem Qs.shut (hq : Qs QuV W P.q bs Ls) (hb : bs[k]? = some b') (hL : Ls[k]? = some E) (hle : W.le W') (hv : QuV W' b' q' L') (m : Me W' h (L' :: (Ls.eraseIdx k).flatten :: [(b, poH P ++ prs bs, T)] :: R)) :
    ∃ L, PoV W' b (P.set k q') L ∧ Me W' h (L :: R) := by
  have h1 := (hq.le fun _ _ _ => QuV.le hle).set hv k
  rw [set_same hb] at h1
  exact PoV.shut (P := P.set k q') h1 (m.unpick k hL)
theorem PoV.mp (hv : PoV W b P L) (m : Me W h (L :: R)) : cell h b 3 = some (.int .i64 P.mp) := by
  (obtain ⟨bs, Ls, T, hq, rfl, mNew⟩ := hv.opn m; replace m := mNew; clear mNew)
  exact m.cell 1 rfl rfl
theorem PoV.mb (hv : PoV W b P L) (m : Me W h (L :: R)) : cell h b 4 = some (.int .i64 P.mb) := by
  (obtain ⟨bs, Ls, T, hq, rfl, mNew⟩ := hv.opn m; replace m := mNew; clear mNew)
  exact m.cell 1 rfl rfl
theorem poShrink_c (m : Me W h (L :: R)) (hv : PoV W b P L) (hP : PoOk P) (hpos : 0 < P.len) : Runs Tryd.prog 31 #[.pointer (some ⟨b, 0, none⟩)] h fun v h' =>
    ∃ W' cs L', W.le W' ∧ v = .agg cs.toArray ∧ PkV W' P.shrink.2 cs ∧ PoV W' b P.shrink.1 L' ∧ Me W' h' (L' :: R) := by
  (obtain ⟨bs, Ls, T, hq, rfl, mNew⟩ := hv.opn m; replace m := mNew; clear mNew)
  refine vc_pool_Pool_shrink _ _ _ ?_
  intro b1 h1 e1 e2
  replace m := m.push e2 e1
  clear e1 e2
  intro b2 h2 e1 e2
  replace m := m.push e2 e1
  clear e1 e2
  intro b3 h3 e1 e2
  replace m := m.push e2 e1
  clear e1 e2
  intro b4 h4 e1 e2
  replace m := m.push e2 e1
  clear e1 e2
  (refine m.store 1 rfl (Nat.le_of_ble_eq_true rfl) ?_; clear m; intro _ m; simp only [List.set_cons_zero, List.set_cons_succ] at m)
  (refine m.store 0 rfl (Nat.le_of_ble_eq_true rfl) ?_; clear m; intro _ m; simp only [List.set_cons_zero, List.set_cons_succ] at m)
  refine (each_c (fun k h' => ∃ s : FatS, fatQ (P.q.drop k) k s = P.fat ∧ Me W h' ([(b4, [.int .i64 s.2.2], 3)] :: [(b3, [.int .i64 s.2.1], 3)] :: [(b2, [.pointer (frP bs s.1)], 60)] :: [(b1, [.int .i64 0, .int .u32 0, .int .i64 0, .int .i64 0, .slice none 0 0], 35)] :: Ls.flatten :: [(b, poH P ++ prs bs, T)] :: R))
    ⟨(none, 0, -1), rfl, m⟩ ?_).mono ?_
  · clear m
    rintro k h1 hk ⟨s, hs, m⟩
    have hkq := (hP.qu hk).1
    have hok := (hP.qu hk).2.ok
    obtain ⟨bk, Lk, e1, e2, hvk, hc⟩ := hq.cellAt hkq m (j := 5) rfl
    refine ⟨_, hc, callv_of (by kernel_rfl) ?_⟩
    have hm := (m.focus 4 rfl).pick k e2
    rw [fatQ_step hkq] at hs
    refine vc_pool_Pool_shrink_1 _ _ _ _ _ _ ((fattest_c hm hvk hok).mono ?_)
    rintro _ h2 ⟨rfl, rfl⟩
    refine ⟨_, _, rfl, (len_c hm hvk).mono ?_⟩
    rintro _ h3 ⟨rfl, rfl⟩
    clear hm
    refine ⟨_, rfl, dcase_intro (fun q1 => ?_) fun q1 => ?_⟩
    · refine ⟨_, m.cell 0 rfl rfl, dcase_intro (fun q2 => ?_) fun q2 => ?_⟩
      · (refine m.store 2 rfl (Nat.le_of_ble_eq_true rfl) ?_; clear m; intro _ m; simp only [List.set_cons_zero, List.set_cons_succ] at m)
        (refine m.store 1 rfl (Nat.le_of_ble_eq_true rfl) ?_; clear m; intro _ m; simp only [List.set_cons_zero, List.set_cons_succ] at m)
        (refine m.store 0 rfl (Nat.le_of_ble_eq_true rfl) ?_; clear m; intro _ m; simp only [List.set_cons_zero, List.set_cons_succ] at m)
        have ef : fatS k (P.qu k) s = (some k, (P.qu k).fattest.1, (P.qu k).fattest.2) := by unfold fatS; rw [if_pos ⟨by omega, q2⟩]
        rw [ef] at hs
        refine ⟨_, hs, ?_⟩
        have e3 : frP bs (some k) = some ⟨bk, 0, none⟩ := by simp [frP, e1]
        rw [e3]
        exact m
      · have ef : fatS k (P.qu k) s = s := by unfold fatS; rw [if_neg (fun hc => q2 hc.2)]
        rw [ef] at hs
        exact ⟨s, hs, m⟩
    · have ef : fatS k (P.qu k) s = s := by unfold fatS; rw [if_neg (fun hc => q1 (by omega))]
      rw [ef] at hs
      exact ⟨s, hs, m⟩
  clear m
  rintro _ h7 ⟨rfl, s, hs, m⟩
  rw [List.drop_of_length_le (by rw [hP.n]; omega)] at hs
  replace hs : s = P.fat := hs
  subst hs
  obtain ⟨k, p, hk, hf, hsh, hd2, _⟩ := shrink_spec hP hpos
  have hkq := (hP.qu hk).1
  have hok := (hP.qu hk).2.ok
  obtain ⟨bk, Lk, e1, e2, hvk, hc⟩ := hq.cellAt hkq m (j := 5) rfl
  have e3 : frP bs (some k) = some ⟨bk, 0, none⟩ := by simp [frP, e1]
  rw [hf] at m
  dsimp only at m
  rw [e3] at m
  refine ⟨_, m.cell 2 rfl rfl, bcase_false rfl ⟨_, m.cell 2 rfl rfl, _, m.cell 1 rfl rfl, ?_⟩⟩
  refine (dropHead_c ((m.focus 4 rfl).pick k e2) hvk hok).mono ?_
  rintro _ h9 ⟨W1, cs, L1, hle, rfl, hcv, hv1, m1⟩
  clear m
  refine ⟨_, _, rfl, ?_⟩
  rw [hd2] at hcv
  simp only [Option.getD_some] at hcv
  obtain ⟨pa, pc, rfl, hbt⟩ := hcv
  simp only [List.eraseIdx_cons_zero, List.eraseIdx_cons_succ] at m1
  intro b5 h10 f1 f2
  replace m1 := m1.push f2 f1
  refine ⟨⟨rfl, m1.wrsb 0 rfl rfl, by simp [Value.oneCell']⟩, ?_⟩
  intro h11 f3
  replace m1 := m1.setr 0 rfl f3
  simp only [setL, List.set_cons_zero, List.set_cons_succ] at m1
  refine ⟨_, m1.rowb 0 rfl rfl rfl, ⟨rfl, m1.wrsb 6 rfl rfl, by simp [Value.oneCell']⟩, ?_⟩
  intro h12 f4
  replace m1 := m1.setr 6 rfl f4
  simp only [setL, List.set_cons_zero, List.set_cons_succ] at m1
  refine ⟨_, m1.rowb 6 rfl rfl rfl, ?_⟩
  replace m1 := ((((m1.drop1).focus 2 rfl).drop1.focus 2 rfl).drop1.focus 2 rfl).drop1.focus 2 rfl
  replace m1 := m1.drop1
  simp only [List.eraseIdx_cons_zero, List.eraseIdx_cons_succ, List.set_cons_zero, List.set_cons_succ] at m1
  obtain ⟨L2, hv2, m2⟩ := hq.shut e1 e2 hle hv1 m1
  rw [hsh]
  exact ⟨W1, _, L2, hle, rfl, ⟨pa, pc, rfl, hbt⟩, hv2, m2⟩
/-- What a put is told. -/
def Po.putZ (P : Po) (aid : Int) (p : Pk) : Po × List Pk := if thereZ aid p.tid = true then P.put (pix aid p.tid) p else (P, [])
def PutJ (W : Wd) (R : List Grp) (b bx : Nat) (xs : List Value) (T : TypeId) (res : Po × List Pk) (n : Nat) (out : Option Addr) (ol oc : Nat) (h' : Heap) : Prop :=
  ∃ (P : Po) (d : List Pk) (vs : List Value) (W2 : Wd) (E L : Grp), shrN n P d = res ∧ P.len ≤ n ∧ PoOk P ∧ P.len + d.length ≤ 1048576 ∧ W.le W2 ∧ ol = d.length ∧ Ow out ol oc 5 vs E ∧ Sq (PkV W2) d vs ∧ PoV W2 b P L ∧ Me W2 h' (L :: [(bx, xs, T)] :: E :: R)
theorem poPut_c {aid : Int} (m : Me W h (L :: R)) (hv : PoV W b P L) (hP : PoOk P) (hl : P.len < 1048576) (hp : PkV W p cs) (h0 : 0 ≤ p.at_) (h1 : p.at_ ≤ 1125899906842624) (hlen : p.body.length ≤ 1048576) (hg : wcell W 0 0 = some ev) :
    Runs Tryd.prog 10 #[.pointer (some ⟨b, 0, none⟩), .int .i64 aid, .agg cs.toArray] h fun v h' => ∃ a c vs E W' L', v = .tuple #[.slice a (P.putZ aid p).2.length c, if thereZ aid p.tid = true then .nilIface else ev] ∧
      Ow a (P.putZ aid p).2.length c 5 vs E ∧ W.le W' ∧ Sq (PkV W') (P.putZ aid p).2 vs ∧ PoV W' b (P.putZ aid p).1 L' ∧ Me W' h' (E :: L' :: R) := by
  have hp0 := hp
  obtain ⟨pa, pc, rfl, hbt⟩ := hp
  refine vc_pool_Pool_Put _ _ _ _ _ ?_
  intro bx h1 e1 e2
  replace m := m.push e2 e1
  clear e1 e2
  refine ⟨_, m.cell 0 rfl rfl, (poolThere_c aid p.tid).mono ?_⟩
  rintro _ h2 ⟨rfl, rfl⟩
  refine ⟨_, rfl, ?_⟩
  by_cases ht : thereZ aid p.tid = true
  case neg =>
    have ht' : thereZ aid p.tid = false := by simpa using ht
    refine bcase_true (by rw [ht']; rfl) ⟨_, m.wcell hg, ?_⟩
    unfold Po.putZ
    rw [if_neg ht, if_neg ht]
    exact ⟨none, 0, [], [], W, L, rfl, Ow.nil, Wd.le.refl _, rfl, hv, m.drop1.nilI⟩
  have hz := thereZ_iff.1 ht
  have hk := pix_lt ht
  refine bcase_false (by rw [ht]; rfl) ⟨by simp only [fits]; omega, _, m.cell 0 rfl rfl, ⟨by omega, by omega⟩, ⟨by omega, by omega⟩, ?_⟩
  replace m := m.focus 1 rfl
  simp only [List.eraseIdx_cons_zero, List.eraseIdx_cons_succ] at m
  unfold Po.putZ
  rw [if_pos ht, if_pos ht]
  have hcnt := hP.cnt hk
  obtain ⟨a1, a2, a3, a4⟩ := put1_spec hP hk (p := p) h0 h1 hlen (by omega)
  have ix : 5 + (aid - 1).toNat * 8 + p.tid.toNat = 5 + pix aid p.tid := by unfold pix; omega
  rw [ix]
  unfold Po.put
  (obtain ⟨bs, Ls, T, hq, rfl, mNew⟩ := hv.opn m; replace m := mNew; clear mNew)
  obtain ⟨bk, Lk, e1, e2, hvk, hc⟩ := hq.cellAt (hP.qu hk).1 m (j := 1) rfl
  refine ⟨_, hc, _, m.rowb 2 rfl rfl rfl, (put_c (m.pick _ e2) hvk (hP.qu hk).2.ok hp0 hlen (by omega)).mono ?_⟩
  rintro _ h3 ⟨rfl, W1, Lk', hle, hvk', m1⟩
  clear m hc
  refine ⟨_, rfl, m1.cell 3 rfl rfl, ?_⟩
  obtain ⟨L1, hv1, m1⟩ := hq.shut e1 e2 hle hvk' m1
  clear hvk hvk' hq e1 e2 hv
  have hv1 : PoV W1 b (P.put1 (pix aid p.tid) p) L1 := hv1
  have hg1 := wcell_le hle hg
  have hbt1 := hbt.le hle
  generalize P.put1 (pix aid p.tid) p = P1 at *
  obtain ⟨T, m1⟩ : ∃ T, Me W1 h3 (L1 :: [(bx, [.int .i64 p.id, .int .u32 p.flow, .int .i64 p.tid, .int .i64 p.at_, .slice pa p.body.length pc], T)] :: R) := ⟨_, m1⟩
  have hJ0 : PutJ W1 R b bx [.int .i64 p.id, .int .u32 p.flow, .int .i64 p.tid, .int .i64 p.at_, .slice pa p.body.length pc] T (shrN P1.len P1 []) P1.len none 0 0 h3 :=
    ⟨P1, [], [], W1, [], L1, rfl, Nat.le_refl _, a1, by simp only [List.length_nil]; omega, Wd.le.refl _, rfl, Ow.nil, rfl, hv1, (m1.nilI.focus 2 rfl).focus 2 rfl⟩
  generalize shrN P1.len P1 [] = res at *
  generalize [Value.int .i64 p.id, .int .u32 p.flow, .int .i64 p.tid, .int .i64 p.at_, .slice pa p.body.length pc] = xs at *
  refine ⟨fun da dl dc h' => ∃ n, PutJ W1 R b bx xs T res n da dl dc h', fun da dl dc h' => lea fun n => PutJ W1 R b bx xs T res n da dl dc h', ⟨_, hJ0⟩, fun _ => ?_⟩
  clear m1 hv1 hJ0 a1 a2 a3 a4 hP
  intro da dl dc h4 hJ
  obtain ⟨n, ⟨P2, d, vsd, W2, Ed, L2, hres, hn, hP2, hbd, hle2, rfl, od, hsd, hv2, m⟩, hnn⟩ := lea_spec hJ
  clear hJ
  refine ⟨fun h' => (P2.mp < P2.len ∨ P2.mb < P2.byt) ∧ Me W2 h' (L2 :: [(bx, xs, T)] :: Ed :: R), ?_, fun _ => ?_⟩
  · refine ⟨_, hv2.mp m, (poLen_c m hv2 hP2 (by omega)).mono ?_⟩
    rintro _ h5 ⟨rfl, m⟩
    refine ⟨_, rfl, hv2.mp m, dcase_intro (fun q1 => ⟨.inl q1, m⟩) fun q1 => ?_⟩
    refine ⟨_, hv2.mb m, (poBytes_c m hv2 hP2 (by omega)).mono ?_⟩
    rintro _ h6 ⟨rfl, m⟩
    refine ⟨_, rfl, hv2.mb m, hv2.mp m, dcase_intro (fun q2 => ⟨.inr q2, m⟩) fun q2 => ?_⟩
    rw [shrN_done (fun hc => hc.elim q1 q2)] at hres
    rw [← hres]
    exact ⟨_, _, vsd, Ed, W2, L2, rfl, od, hle.trans hle2, hsd, hv2, (m.focus 2 rfl).focus 2 rfl |>.drop1 |> fun m => by
      simp only [List.eraseIdx_cons_zero, List.eraseIdx_cons_succ] at m; exact m⟩
  clear m
  rintro h7 ⟨hmore, m⟩
  have hpos := more_pos hP2 hmore
  obtain ⟨n, rfl⟩ : ∃ k, n = k + 1 := ⟨n - 1, by omega⟩
  rw [shrN_more hmore] at hres
  obtain ⟨k, x, _, _, hsh, _, hok3, _, _, hlen3, _⟩ := shrink_spec hP2 hpos
  refine (poShrink_c m hv2 hP2 hpos).mono ?_
  rintro _ h8 ⟨W3, cs, L3, hle3, rfl, hcv, hv3, m⟩
  refine ⟨_, rfl, hcv.len, ?_⟩
  have hcl := hcv.len
  have hone := hcv.one
  refine od.app1 (us := cs ++ []) m 2 rfl (by simp [hcl]) (by simpa using hone) (by omega) (by decide) fun a' c' E' h' m' o' => ?_
  rw [List.append_nil] at o'
  refine lea_next hnn (k := n) ⟨_, _, _, W3, E', L3, hres, by omega, hok3, by rw [List.length_append]; simp only [List.length_singleton]; omega, hle2.trans hle3, by simp, o', (hsd.mono fun _ _ => PkV.le hle3).snoc hcv, hv3, m'⟩ (by omega)
def Po.takeZ (P : Po) (aid tid now : Int) : Po × List Pk × Option Pk := if thereZ aid tid = true then P.take (pix aid tid) now else (P, [], none)
theorem poTake_c {aid tid now : Int} (m : Me W h (L :: R)) (hv : PoV W b P L) (hP : PoOk P) (n0 : 0 ≤ now) (n1 : now ≤ 1125899906842624) :
    Runs Tryd.prog 16 #[.pointer (some ⟨b, 0, none⟩), .int .i64 aid, .int .i64 tid, .int .i64 now] h fun v h' => ∃ a c vs E L' cs, v = .tuple #[.agg cs.toArray, .slice a (P.takeZ aid tid now).2.1.length c, .bool (P.takeZ aid tid now).2.2.isSome] ∧
      PkV W ((P.takeZ aid tid now).2.2.getD pk0) cs ∧ Ow a (P.takeZ aid tid now).2.1.length c 5 vs E ∧ Sq (PkV W) (P.takeZ aid tid now).2.1 vs ∧ PoV W b (P.takeZ aid tid now).1 L' ∧ Me W h' (E :: L' :: R) := by
  refine vc_pool_Pool_Take _ _ _ _ _ _ ?_
  intro bx h1 e1 e2
  replace m := m.push e2 e1
  clear e1 e2
  refine (poolThere_c aid tid).mono ?_
  rintro _ h2 ⟨rfl, rfl⟩
  refine ⟨_, rfl, ?_⟩
  unfold Po.takeZ
  by_cases ht : thereZ aid tid = true
  case neg =>
    have ht' : thereZ aid tid = false := by simpa using ht
    refine bcase_true (by rw [ht']; rfl) ⟨⟨rfl, m.wrsb 0 rfl rfl, by simp [Value.oneCell']⟩, ?_⟩
    intro h3 e3
    replace m := m.setr 0 rfl e3
    rw [if_neg ht]
    exact ⟨_, m.rowb 0 rfl rfl rfl, none, 0, [], [], L, _, rfl, PkV.zero, Ow.nil, rfl, hv, m.drop1.nilI⟩
  have hz := thereZ_iff.1 ht
  have hk := pix_lt ht
  rw [if_pos ht]
  refine bcase_false (by rw [ht]; rfl) ⟨by simp only [fits]; omega, ⟨by omega, by omega⟩, ⟨by omega, by omega⟩, ?_⟩
  have ix : 5 + (aid - 1).toNat * 8 + tid.toNat = 5 + pix aid tid := by unfold pix; omega
  rw [ix]
  replace m := m.focus 1 rfl
  simp only [List.eraseIdx_cons_zero, List.eraseIdx_cons_succ] at m
  (obtain ⟨bs, Ls, T, hq, rfl, mNew⟩ := hv.opn m; replace m := mNew; clear mNew)
  obtain ⟨bk, Lk, e1, e2, hvk, hc⟩ := hq.cellAt (hP.qu hk).1 m (j := 1) rfl
  refine ⟨_, hc, (take_c (m.pick _ e2) hvk (hP.qu hk).2.ok n0 n1).mono ?_⟩
  rintro _ h3 ⟨a, c, vs, E, Lk', cs, rfl, hcv, o, hs, hvk', m1⟩
  clear m
  refine ⟨_, _, _, _, _, rfl, ?_⟩
  obtain ⟨pa, pc, rfl, hbt⟩ := hcv
  refine ⟨⟨rfl, m1.wrsb 4 rfl rfl, by simp [Value.oneCell']⟩, ?_⟩
  intro h4 e3
  replace m1 := m1.setr 4 rfl e3
  refine ⟨_, m1.rowb 4 rfl rfl rfl, ?_⟩
  have m2 : Me W h4 (Lk' :: (Ls.eraseIdx (pix aid tid)).flatten :: [(b, poH P ++ prs bs, T)] :: E :: R) := (m1.free 4 rfl).perm (by
    simp only [List.eraseIdx_cons_zero, List.eraseIdx_cons_succ, List.set_cons_zero, List.set_cons_succ, List.flatten_cons]
    exact permC fun c h0 hc => by simp only [hc, h0]; omega)
  obtain ⟨L2, hv2, m3⟩ := hq.shut (R := E :: R) e1 e2 (Wd.le.refl _) hvk' m2
  exact ⟨_, _, vs, E, L2, _, rfl, ⟨pa, pc, rfl, hbt⟩, o, hs, hv2, m3.focus 1 rfl⟩
end
end Go.Proofs.YtpcilleldanfmaaDoor
