/- Package sched: contracts of Del, Active, Charge, Time over the model. -/
import Derived.Test.YthnmgpmgfhilhaaDoorSched2
set_option linter.unusedVariables false
set_option linter.unusedSimpArgs false
set_option maxRecDepth 8000
namespace Go.Proofs.YthnmgpmgfhilhaaDoor
open Go.Vc
section
variable {W : Wd} {h h' : Heap} {R : List Grp} {G : List Grp} {b bt n i j k : Nat} {st : List (Option En)} {l l' : List En} {e e' : En} {L Lt : Grp} {Is : List Grp} {T : TypeId} {S : Sts} {K : Value → Heap → Prop} {Q : Heap → Prop} {a w air : Int} {ads : List Addr} {er : Er} {s : St}
theorem TuV.cellAt (m : Me W h (L :: R)) (hv : TuV bt l L) (hj : j < l.length) {o : Nat} {v : Value} (hc : (eCells (gt l j) j)[o]? = some v) : cell h (gt l j).b o = some v := by
  obtain ⟨a, c, E, T', o', m⟩ := hv.opn m
  have m2 := (m.focus 2 rfl).pick j (blks_get hj)
  rw [Nat.zero_add] at m2
  exact m2.cell 0 rfl hc
theorem erase_set {α : Type} {x : α} : ∀ {l : List α} {j : Nat}, (l.set j x).eraseIdx j = l.eraseIdx j
  | [], j => rfl
  | y :: r, 0 => rfl
  | y :: r, j + 1 => by simp only [List.set_cons_succ, List.eraseIdx_cons_succ]; rw [erase_set]
/-- A station's slot gets another value: its own block's cells. -/
theorem slot_set {o : Option En} (hk : k < st.length) : (sptrs st ++ [ptrB bt]).set k (optP o) = sptrs (st.set k o) ++ [ptrB bt] := by
  rw [List.set_append_left _ _ (by rw [sptrs_len]; exact hk)]
  unfold sptrs; rw [List.map_set]
theorem aid_set {o : Option En} (ha : ∀ (k : Nat) (e : En), st[k]? = some (some e) → e.aid = (k : Int) + 1) (hk : k < st.length) (ho : ∀ e, o = some e → e.aid = (k : Int) + 1) : ∀ (i : Nat) (e : En), (st.set k o)[i]? = some (some e) → e.aid = (i : Int) + 1 := fun i x hx => by
  rw [get_set hk] at hx
  split at hx
  · rename_i q; subst q; exact ho _ (Option.some.inj hx)
  · exact ha _ _ hx
theorem iv_set {o : Option En} {g : Grp} (hiv : ∀ (k : Nat) (o : Option En), st[k]? = some o → ∃ g, Is[k]? = some g ∧ IsV o g) (hk : k < st.length) (hI : k < Is.length) (ho : IsV o g) : ∀ (i : Nat) (o' : Option En), (st.set k o)[i]? = some o' → ∃ g', (Is.set k g)[i]? = some g' ∧ IsV o' g' := fun i x hx => by
  rw [get_set hk] at hx
  rw [get_set hI]
  split at hx
  · rename_i q; subst q; cases hx
    exact ⟨_, if_pos rfl, ho⟩
  · rename_i q; rw [if_neg q]; exact hiv _ _ hx
theorem ofE_on (h : e.on = true) : ofE (some e) = [e] := if_pos h
theorem ofE_off (h : e.on = false) : ofE (some e) = [] := by unfold ofE; dsimp only; rw [h]; rfl
theorem Sc.isv (s : Sc W h b st bt T l Lt Is R) (hk : st[k]? = some (some e)) (ho : e.on = true) : Is[k]? = some [] := by
  obtain ⟨g, hg, hi⟩ := s.iv _ _ hk
  unfold IsV at hi; dsimp only at hi
  rw [if_pos ho] at hi
  rw [hg, hi]
theorem Sc.idle (s : Sc W h b st bt T l Lt Is R) (hk : st[k]? = some (some e)) (ho : e.on = false) : ∃ p, Is[k]? = some (eBlk e p) := by
  obtain ⟨g, hg, hi⟩ := s.iv _ _ hk
  unfold IsV at hi; dsimp only at hi
  rw [if_neg (by simp [ho])] at hi
  obtain ⟨p, rfl⟩ := hi
  exact ⟨p, hg⟩
theorem Sc.turn (s : Sc W h b st bt T l Lt Is R) (hk : st[k]? = some (some e)) (ho : e.on = true) : ∃ j, j < l.length ∧ gt l j = e := by
  have hm : e ∈ l := s.pm.mem_iff.2 (acts_mem.2 ⟨k, hk, ho⟩)
  obtain ⟨j, hj⟩ := List.getElem?_of_mem hm
  exact ⟨j, (List.getElem?_eq_some_iff.1 hj).1, gt_of hj⟩
theorem gone_perm (pm : l.Perm (acts st)) (hk : st[k]? = some (some e)) (ho : e.on = true) (hj : j < l.length) (hg : gt l j = e) {o : Option En} (hoff : ofE o = []) : (l.eraseIdx j).Perm (acts (st.set k o)) := by
  have p1 := erase_perm hj
  rw [hg] at p1
  have p2 := acts_set (o' := o) hk
  rw [ofE_on ho, hoff, List.append_nil] at p2
  exact (p1.trans (pm.trans (p2.symm.trans (List.perm_append_singleton e _)))).cons_inv
theorem del_c (m : Me W h (L :: R)) (hv : ScV b S L) (eg : EG W ads (delS S a).2) : Runs Tryd.prog 19 #[ptrB b, .int .i64 a] h fun v h' =>
    ∃ L', v = erV ads (delS S a).2 ∧ ScV b (delS S a).1 L' ∧ Me W h' (L' :: R) := by
  obtain ⟨st, bt, T, l, Lt, Is, rfl, hh, s⟩ := hv.opn m
  refine vc_sched_Sched_Del _ _ _ _ ((of_c s a).mono ?_)
  rintro _ _ ⟨rfl, rfl⟩
  unfold delS at eg ⊢
  rw [getE_strip s.ln] at eg ⊢
  cases hx : getE st a with
  | none =>
    rw [hx] at eg
    exact ⟨_, rfl, bcase_true rfl ⟨_, m.wcell (eg 6 rfl), L, rfl, hv, m⟩⟩
  | some e =>
    refine ⟨_, rfl, bcase_false rfl ?_⟩
    obtain ⟨hta, hk⟩ := getE_some hx
    have hkl := (List.getElem?_eq_some_iff.1 hk).1
    have e0 : 0 + (a - 1).toNat = kA a := by unfold kA; omega
    have hln := s.len
    rw [e0]
    obtain ⟨p, hc, -, hp⟩ := s.ent hk
    refine ⟨_, hc 3 _ rfl, ?_⟩
    cases ho : e.on with
    | true =>
      obtain ⟨j, rfl, hj, hg⟩ := hp ho
      refine bcase_true rfl ⟨_, s.cellT, _, hc 4 _ rfl, (remove_c s.m s.v hh hj (by omega)).mono ?_⟩
      rintro _ h2 ⟨l', L', p, pm, hh', hv', m2⟩
      refine ⟨_, rfl, m2.cell 3 rfl (sptrs_bt s.ln), by simp only [fits]; omega, ⟨by omega, by omega⟩, ?_⟩
      refine m2.store 3 rfl (by rw [List.length_append, sptrs_len]; omega) fun h3 m3 => ?_
      simp only [List.set_cons_succ, List.set_cons_zero] at m3
      rw [show (Value.pointer none) = optP none from rfl, slot_set hkl] at m3
      have sc : Sc W h3 b (st.set (kA a) none) bt T l' L' (Is.set (kA a) []) R := by
        refine ⟨(m3.free 1 rfl).perm ?_, hv', by rw [List.length_set]; exact s.ln, by rw [List.length_set]; exact s.il, iv_set s.iv hkl (by rw [s.il]; omega) rfl, aid_set s.aid hkl (fun _ c => by cases c), pm.trans (gone_perm s.pm hk ho hj hg rfl)⟩
        have p := flat_rep (A := []) (s.isv hk ho)
        rw [List.append_nil, List.append_nil] at p
        exact ((p.symm.append_right _).append_left _)
      obtain ⟨L2, hv2, m'⟩ := sc.shut hh'
      rw [List.map_set] at hv2
      exact ⟨L2, rfl, hv2, m'⟩
    | false =>
      obtain ⟨p, hI⟩ := s.idle hk ho
      refine bcase_false rfl ⟨by simp only [fits]; omega, ⟨by omega, by omega⟩, ?_⟩
      refine s.m.store 2 rfl (by rw [List.length_append, sptrs_len]; omega) fun h3 m3 => ?_
      simp only [List.set_cons_succ, List.set_cons_zero] at m3
      rw [show (Value.pointer none) = optP none from rfl, slot_set hkl] at m3
      have sc : Sc W h3 b (st.set (kA a) none) bt T l Lt (Is.set (kA a) []) R := by
        refine ⟨m3.sub ⟨eBlk e p, ?_⟩, s.v, by rw [List.length_set]; exact s.ln, by rw [List.length_set]; exact s.il, iv_set s.iv hkl (by rw [s.il]; omega) rfl, aid_set s.aid hkl (fun _ c => by cases c), ?_⟩
        · have p := flat_rep (A := []) hI
          rw [List.append_nil] at p
          classical
          refine List.perm_iff_count.2 fun x => ?_
          have := p.count_eq x
          simp only [List.flatten_cons, List.count_append] at this ⊢
          omega
        · have p2 := acts_set (o' := none) hk
          rw [ofE_off ho, show ofE none = [] from rfl, List.append_nil, List.append_nil] at p2
          exact s.pm.trans p2.symm
      obtain ⟨L2, hv2, m'⟩ := sc.shut hh
      rw [List.map_set] at hv2
      exact ⟨L2, rfl, hv2, m'⟩
theorem Sc.least (s : Sc W h b st bt T l Lt Is R) (hh : HOk l.length l) : leastL (st.map strip) = if l.length = 0 then none else some (gt l 0).t := by
  have hin : ∀ x, x ∈ l → ∃ n : Nat, (st.map strip)[n]? = some (some ⟨x.w, x.t, x.on⟩) ∧ x.on = true := fun x hx => by
    obtain ⟨n, hn, ho⟩ := acts_mem.1 (s.pm.mem_iff.1 hx)
    exact ⟨n, strip_of hn, ho⟩
  rcases least_spec (S := st.map strip) with ⟨h1, h2⟩ | ⟨m, h1, ⟨k, x, h3, h4, h5⟩, h6⟩
  · rw [h1]
    by_cases hl : l.length = 0
    · rw [if_pos hl]
    · have hm : gt l 0 ∈ l := List.mem_of_getElem? (get_gt (by omega))
      obtain ⟨n, hn, ho⟩ := hin _ hm
      have := h2 n _ hn
      rw [show (⟨(gt l 0).w, (gt l 0).t, (gt l 0).on⟩ : St).on = (gt l 0).on from rfl, ho] at this
      cases this
  · rw [h1]
    obtain ⟨e, he, rfl⟩ := strip_get h3
    have hm : e ∈ l := s.pm.mem_iff.2 (acts_mem.2 ⟨k, he, h4⟩)
    obtain ⟨j, hj⟩ := List.getElem?_of_mem hm
    have hjl := (List.getElem?_eq_some_iff.1 hj).1
    rw [if_neg (by omega)]
    have hhd := hh.head j hjl
    rw [gt_of hj] at hhd
    obtain ⟨n, hn, ho⟩ := hin _ (List.mem_of_getElem? (get_gt (l := l) (k := 0) (by omega)))
    have := h6 n _ hn ho
    simp only [En.lt] at hhd
    dsimp only at *
    congr 1
    omega
/-- An idle one's block, taken out. -/
theorem Sc.lift (s : Sc W h b st bt T l Lt Is R) (hk : st[k]? = some (some e)) (ho : e.on = false) : ∃ p, Me W h (eBlk e p :: Lt :: (Is.set k []).flatten :: [(b, sptrs st ++ [ptrB bt], T)] :: R) := by
  obtain ⟨p, hI⟩ := s.idle hk ho
  refine ⟨p, s.m.perm ?_⟩
  have p := flat_rep (A := []) hI
  rw [List.append_nil] at p
  classical
  refine List.perm_iff_count.2 fun x => ?_
  have := p.count_eq x
  simp only [List.flatten_cons, List.count_append] at this ⊢
  omega
/-- One that is idle gets active, and into the turns. -/
theorem Sc.wake (s : Sc W h b st bt T l Lt Is R) (hk : st[k]? = some (some e)) (ho : e.on = false) (hh : HOk l.length l) :
    wr h e.b 3 ∧ ∀ h1, h1 = setc h e.b 3 (.bool true) → cell h1 b 16 = some (ptrB bt) ∧ Runs Tryd.prog 33 #[tuI bt, .iface 60 (ptrB e.b)] h1 fun v h2 =>
      ∃ L', ScV b ((st.map strip).set k (some ⟨e.w, e.t, true⟩)) L' ∧ Me W h2 (L' :: R) := by
  obtain ⟨p, m⟩ := s.lift hk ho
  have hkl := (List.getElem?_eq_some_iff.1 hk).1
  have hln := s.len
  refine m.store 0 rfl (by simp [eCells]) fun h1 m1 => ?_
  simp only [List.set_cons_zero] at m1
  replace m1 : Me W h1 (eBlk { e with on := true } p :: Lt :: (Is.set k []).flatten :: [(b, sptrs st ++ [ptrB bt], T)] :: R) := m1
  refine ⟨m1.cell 3 rfl (sptrs_bt s.ln), ?_⟩
  have m2 := m1.focus 1 rfl
  simp only [List.eraseIdx_cons_succ, List.eraseIdx_cons_zero] at m2
  refine (push_c (e := { e with on := true }) m2 s.v hh (by omega)).mono ?_
  rintro _ h2 ⟨l', L', rfl, pm, hh', hv', m3⟩
  have e1 : sptrs (st.set k (some { e with on := true })) = sptrs st := sptrs_set (o := none) hk rfl
  have sc : Sc W h2 b (st.set k (some { e with on := true })) bt T l' L' (Is.set k []) R := by
    refine ⟨by rw [e1]; exact m3, hv', by rw [List.length_set]; exact s.ln, by rw [List.length_set]; exact s.il, iv_set s.iv hkl (by rw [s.il]; rw [s.ln] at hkl; exact hkl) (by unfold IsV; dsimp only; rw [if_pos rfl]), aid_set s.aid hkl (fun x c => by cases c; exact s.aid _ e hk), ?_⟩
    have p2 := acts_set (o' := some { e with on := true }) hk
    rw [ofE_off ho, ofE_on (e := { e with on := true }) rfl, List.append_nil] at p2
    exact pm.trans ((s.pm.append_right _).trans p2.symm)
  obtain ⟨L2, hv2, m'⟩ := sc.shut hh'
  rw [List.map_set] at hv2
  exact ⟨L2, hv2, m'⟩
/-- One that is active gets idle, and out of the turns. -/
theorem Sc.doze (s : Sc W h b st bt T l Lt Is R) (hk : st[k]? = some (some e)) (ho : e.on = true) (hh : HOk l.length l) :
    wr h e.b 3 ∧ ∀ h1, h1 = setc h e.b 3 (.bool false) → cell h1 b 16 = some (ptrB bt) ∧ ∃ n : Int, cell h1 e.b 4 = some (.int .i64 n) ∧ Runs Tryd.prog 34 #[tuI bt, .int .i64 n] h1 fun v h2 =>
      cell h2 b 16 = some (ptrB bt) ∧ ∃ L', ScV b ((st.map strip).set k (some ⟨e.w, e.t, false⟩)) L' ∧ Me W h2 (L' :: R) := by
  obtain ⟨j, hj, hg⟩ := s.turn hk ho
  have hkl := (List.getElem?_eq_some_iff.1 hk).1
  have hln := s.len
  have key := TuV.store (Q := fun h1 => cell h1 b 16 = some (ptrB bt) ∧ ∃ n : Int, cell h1 e.b 4 = some (.int .i64 n) ∧ Runs Tryd.prog 34 #[tuI bt, .int .i64 n] h1 fun v h2 =>
      cell h2 b 16 = some (ptrB bt) ∧ ∃ L', ScV b ((st.map strip).set k (some ⟨e.w, e.t, false⟩)) L' ∧ Me W h2 (L' :: R)) (e' := { e with on := false }) (o := 3) (v := .bool false) s.m s.v hj (by rw [hg]) (by rw [hg]) (by rw [hg]; rfl) (by decide) fun h1 L1 hv1 m1 => by
    have hge : gt (l.set j { e with on := false }) j = { e with on := false } := gt_of (List.getElem?_set_self hj)
    have hjl : j < (l.set j { e with on := false }).length := by rw [List.length_set]; exact hj
    refine ⟨m1.cell 2 rfl (sptrs_bt s.ln), (j : Int), ?_, ?_⟩
    · have := hv1.cellAt m1 hjl (o := 4) (v := .int .i64 (j : Int)) rfl
      rw [hge] at this
      exact this
    · refine (remove_c m1 hv1 (by rw [List.length_set]; exact HOk.same hh hj (by rw [hg]) (by rw [hg])) hjl (by rw [List.length_set]; omega)).mono ?_
      rintro _ h2 ⟨l', L', p, pm, hh', hv', m2⟩
      rw [hge] at m2
      rw [erase_set] at pm
      refine ⟨m2.cell 3 rfl (sptrs_bt s.ln), ?_⟩
      have e1 : sptrs (st.set k (some { e with on := false })) = sptrs st := sptrs_set (o := none) hk rfl
      have sc : Sc W h2 b (st.set k (some { e with on := false })) bt T l' L' (Is.set k (eBlk { e with on := false } p)) R := by
        refine ⟨m2.perm ?_, hv', by rw [List.length_set]; exact s.ln, by rw [List.length_set]; exact s.il, iv_set s.iv hkl (by rw [s.il]; rw [s.ln] at hkl; exact hkl) (by unfold IsV; dsimp only; rw [if_neg (by simp)]; exact ⟨p, rfl⟩), aid_set s.aid hkl (fun x c => by cases c; exact s.aid _ e hk), pm.trans (gone_perm s.pm hk ho hj hg (ofE_off rfl))⟩
        rw [e1]
        have p := flat_rep (A := eBlk { e with on := false } p) (s.isv hk ho)
        rw [List.append_nil] at p
        classical
        refine List.perm_iff_count.2 fun x => ?_
        have := p.count_eq x
        simp only [List.flatten_cons, List.count_append] at this ⊢
        omega
      obtain ⟨L2, hv2, m'⟩ := sc.shut hh'
      rw [List.map_set] at hv2
      exact ⟨L2, hv2, m'⟩
  rw [hg] at key
  exact key
theorem active_c {on : Bool} (m : Me W h (L :: R)) (hv : ScV b S L) (eg : EG W ads (activeS S a on).2) : Runs Tryd.prog 12 #[ptrB b, .int .i64 a, .bool on] h fun v h' =>
    ∃ L', v = erV ads (activeS S a on).2 ∧ ScV b (activeS S a on).1 L' ∧ Me W h' (L' :: R) := by
  obtain ⟨st, bt, T, l, Lt, Is, rfl, hh, s⟩ := hv.opn m
  refine vc_sched_Sched_Active _ _ _ _ _ ((of_c s a).mono ?_)
  rintro _ _ ⟨rfl, rfl⟩
  unfold activeS at eg ⊢
  rw [getE_strip s.ln] at eg ⊢
  cases hx : getE st a with
  | none =>
    rw [hx] at eg
    exact ⟨_, rfl, bcase_true rfl ⟨_, m.wcell (eg 6 rfl), L, rfl, hv, m⟩⟩
  | some e =>
    refine ⟨_, rfl, bcase_false rfl ?_⟩
    obtain ⟨hta, hk⟩ := getE_some hx
    have hln := s.len
    obtain ⟨p, hc, -, hp⟩ := s.ent hk
    dsimp only [strip, Option.map]
    cases on with
    | true =>
      refine bcase_true rfl ⟨_, hc 3 _ rfl, ?_⟩
      cases ho : e.on with
      | true => exact bcase_false rfl (bcase_false rfl ⟨L, rfl, hv, m⟩)
      | false =>
        rw [if_pos ⟨rfl, rfl⟩]
        refine bcase_true rfl ⟨_, s.cellT, (len_c s.m s.v).mono ?_⟩
        rintro _ _ ⟨rfl, rfl⟩
        have hls := s.least hh
        refine ⟨_, rfl, dcase_intro (fun q => ?_) fun q => ?_⟩
        · rw [if_neg (by omega)] at hls
          obtain ⟨ta, tc, E, TT, o', m2⟩ := s.v.opn s.m
          obtain ⟨ab, ao, rfl, hci⟩ := src_cell (o'.src1 m2 1 rfl) (eptrs_get (k := 0) (by omega))
          refine ⟨_, hc 2 _ rfl, _, s.cellT, _, _, _, m2.cell 0 rfl rfl, ⟨by omega, by omega⟩, _, hci, _, s.v.cellAt s.m (j := 0) (by omega) rfl, ?_⟩
          refine s.put (e' := { e with t := max e.t (gt l 0).t }) hk (o := 2) (v := .int .i64 (max e.t (gt l 0).t)) rfl rfl rfl rfl (fun p => rfl) (by decide) fun h3 l1 Lt1 Is1 s1 g1 g2 => ?_
          obtain rfl := g1 ho
          have hkl := (List.getElem?_eq_some_iff.1 hk).1
          have hk1 : (st.set (kA a) (some { e with t := max e.t (gt l1 0).t }))[kA a]? = some (some { e with t := max e.t (gt l1 0).t }) := List.getElem?_set_self hkl
          obtain ⟨w1, w2⟩ := s1.wake hk1 ho hh
          refine ⟨w1, fun h4 e4 => ?_⟩
          obtain ⟨w3, w4⟩ := w2 h4 e4
          refine ⟨_, w3, w4.mono ?_⟩
          rintro _ h5 ⟨L', hv', m'⟩
          rw [List.map_set, List.set_set] at hv'
          unfold comesT
          rw [hls]
          exact ⟨L', rfl, hv', m'⟩
        · rw [if_pos (by omega)] at hls
          obtain ⟨w1, w2⟩ := s.wake hk ho hh
          refine ⟨w1, fun h4 e4 => ?_⟩
          obtain ⟨w3, w4⟩ := w2 h4 e4
          refine ⟨_, w3, w4.mono ?_⟩
          rintro _ h5 ⟨L', hv', m'⟩
          unfold comesT
          rw [hls]
          exact ⟨L', rfl, hv', m'⟩
    | false =>
      refine bcase_false rfl (bcase_true rfl ⟨_, hc 3 _ rfl, ?_⟩)
      cases ho : e.on with
      | false => exact bcase_false rfl ⟨L, rfl, hv, m⟩
      | true =>
        obtain ⟨w1, w2⟩ := s.doze hk ho hh
        refine bcase_true rfl ⟨w1, fun h4 e4 => ?_⟩
        obtain ⟨w3, n, w4, w5⟩ := w2 h4 e4
        refine ⟨_, w3, _, w4, w5.mono ?_⟩
        rintro _ h5 ⟨w6, L', hv', m'⟩
        exact ⟨_, rfl, w6, L', rfl, hv', m'⟩
theorem charge_c (m : Me W h (L :: R)) (hv : ScV b S L) (ok : SOk S) (eg : EG W ads (chargeS S a air).2) : Runs Tryd.prog 14 #[ptrB b, .int .i64 a, .int .i64 air] h fun v h' =>
    ∃ L', v = erV ads (chargeS S a air).2 ∧ ScV b (chargeS S a air).1 L' ∧ Me W h' (L' :: R) := by
  obtain ⟨st, bt, T, l, Lt, Is, rfl, hh, s⟩ := hv.opn m
  refine vc_sched_Sched_Charge _ _ _ _ _ ((of_c s a).mono ?_)
  rintro _ _ ⟨rfl, rfl⟩
  unfold chargeS at eg ⊢
  have hok : ∀ x, getS (st.map strip) a = some x → 1 ≤ x.w ∧ x.w ≤ 100 ∧ 0 ≤ x.t ∧ x.t ≤ 1152921504606846976 := fun x hx => ok.get hx
  rw [getE_strip s.ln] at eg hok ⊢
  cases hx : getE st a with
  | none =>
    rw [hx] at eg
    exact ⟨_, rfl, bcase_true rfl ⟨_, m.wcell (eg 6 rfl), L, rfl, hv, m⟩⟩
  | some e =>
    rw [hx] at eg hok
    refine ⟨_, rfl, bcase_false rfl ?_⟩
    obtain ⟨hta, hk⟩ := getE_some hx
    have hkl := (List.getElem?_eq_some_iff.1 hk).1
    have hln := s.len
    obtain ⟨p, hc, -, hp⟩ := s.ent hk
    dsimp only [strip, Option.map] at eg hok ⊢
    obtain ⟨o1, o2, o3, o4⟩ := hok _ rfl
    dsimp only at o1 o2 o3 o4
    by_cases h0 : 0 ≤ air ∧ air ≤ 1099511627776
    case neg =>
      rw [if_neg h0] at eg ⊢
      refine dcase_intro (fun _ => ⟨_, m.wcell (eg 2 rfl), L, rfl, hv, m⟩) fun q => dcase_intro (fun _ => ⟨_, m.wcell (eg 2 rfl), L, rfl, hv, m⟩) fun q2 => absurd ⟨by omega, by omega⟩ h0
    rw [if_pos h0]
    obtain ⟨h0, h1'⟩ := h0
    have hd0 : 0 ≤ 10000 * air / e.w := Int.ediv_nonneg (by omega) (by omega)
    have hd1 : 10000 * air / e.w ≤ 10000 * air := Int.ediv_le_self _ (by omega)
    refine dcase_neg (by omega) (dcase_neg (by omega) ⟨_, hc 2 _ rfl, by simp only [fits]; omega, _, hc 1 _ rfl, ⟨by omega, by omega, by simp only [fits]; omega⟩, by simp only [fits]; omega, ?_⟩)
    refine s.put (e' := { e with t := min (e.t + 10000 * air / e.w) 1152921504606846976 }) hk (o := 2) (v := .int .i64 (min (e.t + 10000 * air / e.w) 1152921504606846976)) rfl rfl rfl rfl (fun p => rfl) (by decide) fun h3 l1 Lt1 Is1 s1 g1 g2 => ?_
    have hk1 : (st.set (kA a) (some { e with t := min (e.t + 10000 * air / e.w) 1152921504606846976 }))[kA a]? = some (some { e with t := min (e.t + 10000 * air / e.w) 1152921504606846976 }) := List.getElem?_set_self hkl
    obtain ⟨p1, hc1, -, hp1⟩ := s1.ent hk1
    refine ⟨_, hc1 3 _ rfl, ?_⟩
    cases ho : e.on with
    | false =>
      refine bcase_false (by simp [ho]) ?_
      obtain rfl := g1 ho
      obtain ⟨L', hv', m'⟩ := s1.shut hh
      rw [List.map_set] at hv'
      rw [show strip (some { e with t := min (e.t + 10000 * air / e.w) 1152921504606846976 }) = some ⟨e.w, chargeT ⟨e.w, e.t, e.on⟩ air, e.on⟩ from rfl, ho] at hv'
      exact ⟨L', rfl, hv', m'⟩
    | true =>
      refine bcase_true (by simp [ho]) ?_
      obtain ⟨j, hj, hg, rfl⟩ := g2 ho
      have hge : gt (l.set j { e with t := min (e.t + 10000 * air / e.w) 1152921504606846976 }) j = { e with t := min (e.t + 10000 * air / e.w) 1152921504606846976 } := gt_of (List.getElem?_set_self hj)
      have hjl : j < (l.set j { e with t := min (e.t + 10000 * air / e.w) 1152921504606846976 }).length := by rw [List.length_set]; exact hj
      have hpl := s1.v.cellAt s1.m hjl (o := 4) (v := .int .i64 (j : Int)) rfl
      rw [hge] at hpl
      refine ⟨_, s1.cellT, _, hpl, (fix_c s1.m s1.v (by rw [List.length_set]; exact HOk.chg hh hj) hjl (by rw [List.length_set]; omega)).mono ?_⟩
      rintro _ h4 ⟨l', L', pm, hh', hv', m4⟩
      have sc : Sc W h4 b (st.set (kA a) (some { e with t := min (e.t + 10000 * air / e.w) 1152921504606846976 })) bt T l' L' Is1 R := ⟨m4, hv', s1.ln, s1.il, s1.iv, s1.aid, pm.trans s1.pm⟩
      refine ⟨sc.cellT, ?_⟩
      obtain ⟨L2, hv2, m'⟩ := sc.shut hh'
      rw [List.map_set] at hv2
      rw [show strip (some { e with t := min (e.t + 10000 * air / e.w) 1152921504606846976 }) = some ⟨e.w, chargeT ⟨e.w, e.t, e.on⟩ air, e.on⟩ from rfl, ho] at hv2
      exact ⟨L2, rfl, hv2, m'⟩
theorem time_c (m : Me W h (L :: R)) (hv : ScV b S L) (a : Int) : Runs Tryd.prog 15 #[ptrB b, .int .i64 a] h fun v h' =>
    (v = match getS S a with | some x => .tuple #[.int .i64 x.t, .bool true] | none => .tuple #[.int .i64 0, .bool false]) ∧ h' = h := by
  obtain ⟨st, bt, T, l, Lt, Is, rfl, hh, s⟩ := hv.opn m
  refine vc_sched_Sched_Time _ _ _ _ ((of_c s a).mono ?_)
  rintro _ _ ⟨rfl, rfl⟩
  rw [getE_strip s.ln]
  cases hx : getE st a with
  | none => exact ⟨_, rfl, bcase_true rfl ⟨rfl, rfl⟩⟩
  | some e =>
    obtain ⟨hta, hk⟩ := getE_some hx
    obtain ⟨p, hc, -, hp⟩ := s.ent hk
    exact ⟨_, rfl, bcase_false rfl ⟨_, hc 2 _ rfl, rfl, rfl⟩⟩
end
end Go.Proofs.YthnmgpmgfhilhaaDoor
