/- Package sched: contracts of Add, Del, Weigh, Active, Charge, Time, New over the model. -/
import Derived.Test.YthnmgpmgfhilhaaDoorSched
set_option linter.unusedVariables false
set_option linter.unusedSimpArgs false
set_option maxRecDepth 8000
namespace Go.Proofs.YthnmgpmgfhilhaaDoor
open Go.Vc
/-- The variable of an error that may be answered. -/
def EG (W : Wd) (ads : List Addr) (e : Er) : Prop := ∀ i, e = some i → wcell W (errG.getD i 0) 0 = some (erV ads (some i))
def getE (st : List (Option En)) (a : Int) : Option En := if thereA a = true then (st[kA a]?).getD none else none
section
variable {W : Wd} {h h' : Heap} {R : List Grp} {G : List Grp} {b bt n i j k : Nat} {st : List (Option En)} {l l' : List En} {e e' : En} {L Lt : Grp} {Is : List Grp} {T : TypeId} {S : Sts} {K : Value → Heap → Prop} {Q : Heap → Prop} {a w air : Int} {ads : List Addr} {er : Er} {s : St}
theorem Snt.eg (s : Snt W ads) (he : ∀ i, er = some i → i < 14) : EG W ads er := fun i h => by
  have hi := he i h
  obtain ⟨a, h1, h2⟩ := s.get hi
  have hl : i < errG.length := by unfold errG; simpa using hi
  rw [h2]
  exact s.v i a _ h1 (by rw [List.getElem?_eq_getElem hl, List.getD_eq_getElem?_getD, List.getElem?_eq_getElem hl]; rfl)
theorem EG.none : EG W ads none := fun i h => by cases h
theorem schThere_c (a : Int) : Runs Tryd.prog 29 #[.int .i64 a] h fun v h' => v = .bool (thereA a) ∧ h' = h := by
  refine vc_sched_there _ _ _ (dcase_intro (fun q => ⟨?_, rfl⟩) fun q => ⟨?_, rfl⟩)
  · unfold thereA; simp [q]
  · unfold thereA; simp [q]
theorem schFair_c (a : Int) : Runs Tryd.prog 30 #[.int .i64 a] h fun v h' => v = .bool (fairW a) ∧ h' = h := by
  refine vc_sched_fair _ _ _ (dcase_intro (fun q => ⟨?_, rfl⟩) fun q => ⟨?_, rfl⟩)
  · unfold fairW; simp [q]
  · unfold fairW; simp [q]
theorem getE_strip (hn : st.length = 16) : getS (st.map strip) a = strip (getE st a) := by
  unfold getS getE
  by_cases h : thereA a = true
  · rw [if_pos h, if_pos h, List.getElem?_map]
    cases st[kA a]? with
    | none => rfl
    | some o => rfl
  · rw [if_neg h, if_neg h]; rfl
theorem getE_some (h : getE st a = some e) : (1 ≤ a ∧ a ≤ 16) ∧ st[kA a]? = some (some e) := by
  unfold getE at h
  by_cases ht : thereA a = true
  · rw [if_pos ht] at h
    refine ⟨there_iff.1 ht, ?_⟩
    cases hx : st[kA a]? with
    | none => rw [hx] at h; cases h
    | some o => rw [hx] at h; simp at h; rw [h]
  · rw [if_neg ht] at h; cases h
theorem getE_none (h : getE st a = none) (hn : st.length = 16) (h1 : 1 ≤ a) (h2 : a ≤ 16) : st[kA a]? = some none := by
  unfold getE at h
  rw [if_pos (there_iff.2 ⟨h1, h2⟩)] at h
  have hl : kA a < st.length := by unfold kA; omega
  rw [List.getElem?_eq_getElem hl] at h ⊢
  simp at h; rw [h]
theorem of_c (s : Sc W h b st bt T l Lt Is R) (a : Int) : Runs Tryd.prog 31 #[ptrB b, .int .i64 a] h fun v h' => v = optP (getE st a) ∧ h' = h := by
  refine vc_sched_Sched_of _ _ _ _ ((schThere_c a).mono ?_)
  rintro _ _ ⟨rfl, rfl⟩
  refine ⟨_, rfl, ?_⟩
  by_cases ht : thereA a = true
  · have h1 := there_iff.1 ht
    refine bcase_false (by simp [ht]) ?_
    have hl : kA a < st.length := by unfold kA; rw [s.ln]; omega
    have hc := s.cellS (List.getElem?_eq_getElem hl)
    have e0 : 0 + (a - 1).toNat = kA a := by unfold kA; omega
    have e1 : getE st a = st[kA a] := by unfold getE; rw [if_pos ht, List.getElem?_eq_getElem hl]; rfl
    refine ⟨by simp only [fits]; omega, ⟨by omega, by omega⟩, ?_⟩
    rw [e0, e1]
    cases hx : st[kA a] with
    | none => rw [hx] at hc; exact ⟨_, hc, rfl, rfl⟩
    | some e => rw [hx] at hc; exact ⟨_, hc, rfl, rfl⟩
  · refine bcase_true (by simp [ht]) ⟨?_, rfl⟩
    unfold getE; rw [if_neg ht]; rfl
theorem new_c (m : Me W h R) : Runs Tryd.prog 10 #[] h fun v h' => ∃ b L, v = ptrB b ∧ ScV b sts0 L ∧ Me W h' (L :: R) := by
  refine vc_sched_New _ _ ?_
  intro b1 h1 e1 e2
  replace m := m.push e2 e1
  clear e1 e2
  intro b2 h2 e1 e2
  replace m := m.push e2 e1
  clear e1 e2
  generalize eT : (63 : TypeId) = TS at m
  generalize eT2 : (59 : TypeId) = TT at m
  refine ⟨b2, _, rfl, ⟨List.replicate 16 none, b1, TS, [], [(b1, [.slice none 0 0], TT)], List.replicate 16 [], rfl, fun k a b => ?_, ⟨none, 0, [], TT, Ow.nil, by simp [blks]⟩, rfl, rfl, fun k o hk => ?_, fun k e hk => ?_, .refl _, rfl⟩, m.perm ?_⟩
  · simp at b
  · rw [List.getElem?_replicate] at hk
    split at hk
    · rename_i q; cases hk; exact ⟨[], by rw [List.getElem?_replicate, if_pos q], rfl⟩
    · cases hk
  · rw [List.getElem?_replicate] at hk
    split at hk <;> cases hk
  · simp [sptrs, optP, ptrB]
    exact List.Perm.swap _ _ _
theorem add_c (m : Me W h (L :: R)) (hv : ScV b S L) (eg : EG W ads (addS S a w).2) : Runs Tryd.prog 11 #[ptrB b, .int .i64 a, .int .i64 w] h fun v h' =>
    ∃ L', v = erV ads (addS S a w).2 ∧ ScV b (addS S a w).1 L' ∧ Me W h' (L' :: R) := by
  refine vc_sched_Sched_Add _ _ _ _ _ ((schThere_c a).mono ?_)
  rintro _ _ ⟨rfl, rfl⟩
  refine ⟨_, rfl, ?_⟩
  unfold addS at eg ⊢
  by_cases ht : thereA a = true
  case neg =>
    have hn : ¬ (thereA a = true ∧ fairW w = true) := fun q => ht q.1
    rw [if_neg hn] at eg ⊢
    exact bcase_true (by simp [ht]) ⟨_, m.wcell (eg 2 rfl), L, rfl, hv, m⟩
  refine bcase_false (by simp [ht]) ((schFair_c w).mono ?_)
  rintro _ _ ⟨rfl, rfl⟩
  refine ⟨_, rfl, ?_⟩
  by_cases hf : fairW w = true
  case neg =>
    have hn : ¬ (thereA a = true ∧ fairW w = true) := fun q => hf q.2
    rw [if_neg hn] at eg ⊢
    exact bcase_true (by simp [hf]) ⟨_, m.wcell (eg 2 rfl), L, rfl, hv, m⟩
  refine bcase_false (by simp [hf]) ?_
  rw [if_pos ⟨ht, hf⟩] at eg ⊢
  have hta := there_iff.1 ht
  obtain ⟨st, bt, T, l, Lt, Is, rfl, hh, s⟩ := hv.opn m
  refine (of_c s a).mono ?_
  rintro _ _ ⟨rfl, rfl⟩
  rw [getE_strip s.ln] at eg ⊢
  cases hx : getE st a with
  | some e =>
    rw [hx] at eg
    exact ⟨_, rfl, bcase_true rfl ⟨_, m.wcell (eg 7 rfl), L, rfl, hv, m⟩⟩
  | none =>
    refine ⟨_, rfl, bcase_false rfl ⟨by simp only [fits]; omega, ?_⟩⟩
    have hk := getE_none hx s.ln hta.1 hta.2
    have hkl := (List.getElem?_eq_some_iff.1 hk).1
    intro b1 h4 e1 e2
    have m4 := s.m.push e2 e1
    clear e1 e2
    have e0 : 0 + (a - 1).toNat = kA a := by unfold kA; omega
    rw [e0]
    refine ⟨⟨by omega, by omega⟩, m4.store 3 rfl (by rw [List.length_append, sptrs_len, s.ln]; unfold kA; omega) fun h5 m5 => ?_⟩
    simp only [List.set_cons_succ, List.set_cons_zero] at m5
    generalize eT : (67 : TypeId) = TO at m5
    obtain ⟨g, hg, hi⟩ := s.iv _ _ hk
    have hi : g = [] := hi
    subst hi
    have hgl := (List.getElem?_eq_some_iff.1 hg).1
    have sc : Sc W h5 b (st.set (kA a) (some ⟨b1, a, w, 0, false, TO⟩)) bt T l Lt (Is.set (kA a) (eBlk ⟨b1, a, w, 0, false, TO⟩ 0)) R := by
      refine ⟨m5.perm ?_, s.v, by rw [List.length_set]; exact s.ln, by rw [List.length_set]; exact s.il, fun i x hx => ?_, fun i x hx => ?_, ?_⟩
      · have p := flat_rep (A := eBlk ⟨b1, a, w, 0, false, TO⟩ 0) hg
        rw [List.append_nil] at p
        have e1 : (sptrs st ++ [ptrB bt]).set (kA a) (.pointer (some ⟨b1, 0, none⟩)) = sptrs (st.set (kA a) (some ⟨b1, a, w, 0, false, TO⟩)) ++ [ptrB bt] := by
          rw [List.set_append_left _ _ (by rw [sptrs_len]; exact hkl)]
          unfold sptrs; rw [List.map_set]; rfl
        rw [e1]
        classical
        refine List.perm_iff_count.2 fun x => ?_
        have := p.count_eq x
        simp only [List.flatten_cons, List.count_append, eBlk, eCells] at this ⊢
        omega
      · rw [get_set hkl] at hx
        rw [get_set hgl]
        split at hx
        · rename_i q; subst q; cases hx
          exact ⟨_, if_pos rfl, ⟨0, rfl⟩⟩
        · rename_i q; rw [if_neg q]; exact s.iv _ _ hx
      · rw [get_set hkl] at hx
        split at hx
        · rename_i q; subst q; cases hx
          show a = _
          unfold kA; omega
        · exact s.aid _ _ hx
      · have := acts_set (o' := some ⟨b1, a, w, 0, false, TO⟩) hk
        simp only [ofE, Bool.false_eq_true, if_false, List.append_nil] at this
        exact s.pm.trans this.symm
    obtain ⟨L', hv', m'⟩ := sc.shut hh
    rw [List.map_set] at hv'
    exact ⟨L', rfl, hv', m'⟩
theorem weigh_c (m : Me W h (L :: R)) (hv : ScV b S L) (eg : EG W ads (weighS S a w).2) : Runs Tryd.prog 16 #[ptrB b, .int .i64 a, .int .i64 w] h fun v h' =>
    ∃ L', v = erV ads (weighS S a w).2 ∧ ScV b (weighS S a w).1 L' ∧ Me W h' (L' :: R) := by
  obtain ⟨st, bt, T, l, Lt, Is, rfl, hh, s⟩ := hv.opn m
  refine vc_sched_Sched_Weigh _ _ _ _ _ ((of_c s a).mono ?_)
  rintro _ _ ⟨rfl, rfl⟩
  unfold weighS at eg ⊢
  rw [getE_strip s.ln] at eg ⊢
  cases hx : getE st a with
  | none =>
    rw [hx] at eg
    exact ⟨_, rfl, bcase_true rfl ⟨_, m.wcell (eg 6 rfl), L, rfl, hv, m⟩⟩
  | some e =>
    rw [hx] at eg
    refine ⟨_, rfl, bcase_false rfl ((schFair_c w).mono ?_)⟩
    rintro _ _ ⟨rfl, rfl⟩
    refine ⟨_, rfl, ?_⟩
    dsimp only [strip, Option.map] at eg ⊢
    by_cases hf : fairW w = true
    case neg =>
      rw [if_neg hf] at eg ⊢
      exact bcase_true (by simp [hf]) ⟨_, m.wcell (eg 2 rfl), L, rfl, hv, m⟩
    rw [if_pos hf]
    obtain ⟨hta, hk⟩ := getE_some hx
    refine bcase_false (by simp [hf]) ?_
    refine s.put (e' := { e with w := w }) hk (o := 1) (v := .int .i64 w) rfl rfl rfl rfl (fun p => rfl) (by decide) fun h3 l1 Lt1 Is1 s1 g1 g2 => ?_
    have hh1 : HOk l1.length l1 := by
      by_cases ho : e.on = true
      · obtain ⟨j, hj, hge, rfl⟩ := g2 ho
        rw [List.length_set]
        exact HOk.same hh hj (by rw [hge]) (by rw [hge])
      · rw [g1 (by simpa using ho)]; exact hh
    obtain ⟨L', hv', m'⟩ := s1.shut hh1
    rw [List.map_set] at hv'
    exact ⟨L', rfl, hv', m'⟩
end
end Go.Proofs.YthnmgpmgfhilhaaDoor
