/- Package sched: Clone over the model. -/
import Derived.Test.YthnmgpmgfhilhaaDoorSched4
set_option linter.unusedVariables false
set_option linter.unusedSimpArgs false
set_option maxRecDepth 8000
namespace Go.Proofs.YthnmgpmgfhilhaaDoor
open Go.Vc
/-- The first i stations. -/
def upS (S : Sts) (i : Nat) : Sts := S.take i ++ List.replicate (16 - i) none
theorem upS_next {S : Sts} {i : Nat} {o : Option St} (hn : S.length = 16) (hi : i < 16) (hk : S[i]? = some o) : (upS S i).set i o = upS S (i + 1) := by
  unfold upS
  have e : (S.take i).length = i := by simp; omega
  rw [List.set_append_right _ _ (by omega), e, Nat.sub_self]
  obtain ⟨n, hn2⟩ : ∃ n, 16 - i = n + 1 := ⟨15 - i, by omega⟩
  rw [hn2, List.replicate_succ, List.set_cons_zero, List.take_add_one, hk, show 16 - (i + 1) = n by omega]
  simp
theorem upS_none {S : Sts} {i : Nat} (hn : S.length = 16) (hi : i < 16) : (upS S i)[i]? = some none := by
  unfold upS
  have e : (S.take i).length = i := by simp; omega
  rw [List.getElem?_append_right (by omega), e, Nat.sub_self, List.getElem?_replicate, if_pos (by omega)]
theorem upS_all {S : Sts} (hn : S.length = 16) : upS S 16 = S := by
  unfold upS
  rw [List.take_of_length_le (by omega)]; simp
section
variable {W : Wd} {h h' : Heap} {R : List Grp} {G : List Grp} {b bt n i j k : Nat} {st : List (Option En)} {l l' : List En} {e e' : En} {L Lt : Grp} {Is : List Grp} {T : TypeId} {S : Sts}
/-- A new station's block, its slot set: it is in, idle or in the turns. -/
theorem Sc.enter {p : Int} (s : Sc W h b st bt T l Lt Is (eBlk e p :: R)) (hk : st[k]? = some none) (ha : e.aid = (k : Int) + 1) (hh : HOk l.length l) :
    wr h b k ∧ ∀ h1, h1 = setc h b k (ptrB e.b) → cell h1 b 16 = some (ptrB bt) ∧ cell h1 e.b 3 = some (.bool e.on) ∧
      (e.on = false → ∃ L', ScV b ((st.map strip).set k (some ⟨e.w, e.t, e.on⟩)) L' ∧ Me W h1 (L' :: R)) ∧
      (e.on = true → Runs Tryd.prog 33 #[tuI bt, .iface 60 (ptrB e.b)] h1 fun v h2 => ∃ L', ScV b ((st.map strip).set k (some ⟨e.w, e.t, e.on⟩)) L' ∧ Me W h2 (L' :: R)) := by
  have hkl := (List.getElem?_eq_some_iff.1 hk).1
  have hln := s.len
  obtain ⟨g, hg, hi⟩ := s.iv _ _ hk
  have hi : g = [] := hi
  subst hi
  have hgl := (List.getElem?_eq_some_iff.1 hg).1
  refine s.m.store 2 rfl (by rw [List.length_append, sptrs_len]; omega) fun h1 m1 => ?_
  simp only [List.set_cons_succ, List.set_cons_zero] at m1
  rw [show ptrB e.b = optP (some e) from rfl, slot_set hkl] at m1
  have hsl : (st.set k (some e)).length = 16 := by rw [List.length_set]; exact s.ln
  refine ⟨m1.cell 2 rfl (sptrs_bt hsl), m1.cell 3 rfl rfl, fun ho => ?_, fun ho => ?_⟩
  · have sc : Sc W h1 b (st.set k (some e)) bt T l Lt (Is.set k (eBlk e p)) R := by
      refine ⟨m1.perm ?_, s.v, hsl, by rw [List.length_set]; exact s.il, iv_set s.iv hkl hgl (by unfold IsV; dsimp only; rw [if_neg (by simp [ho])]; exact ⟨p, rfl⟩), aid_set s.aid hkl (fun x c => by cases c; exact ha), ?_⟩
      · have p := flat_rep (A := eBlk e p) hg
        rw [List.append_nil] at p
        classical
        refine List.perm_iff_count.2 fun x => ?_
        have := p.count_eq x
        simp only [List.flatten_cons, List.count_append] at this ⊢
        omega
      · have := acts_set (o' := some e) hk
        rw [ofE_off ho, show ofE none = [] from rfl, List.append_nil, List.append_nil] at this
        exact s.pm.trans this.symm
    obtain ⟨L2, hv2, m'⟩ := sc.shut hh
    rw [List.map_set] at hv2
    exact ⟨L2, hv2, m'⟩
  · have m2 : Me W h1 (Lt :: eBlk e p :: Is.flatten :: [(b, sptrs (st.set k (some e)) ++ [ptrB bt], T)] :: R) := m1.perm (by
      classical
      refine List.perm_iff_count.2 fun x => ?_
      simp only [List.flatten_cons, List.count_append]; omega)
    refine (push_c m2 s.v hh (by omega)).mono ?_
    rintro _ h2 ⟨l', L', rfl, pm, hh', hv', m3⟩
    have sc : Sc W h2 b (st.set k (some e)) bt T l' L' (Is.set k []) R := by
      refine ⟨m3.perm ?_, hv', hsl, by rw [List.length_set]; exact s.il, iv_set s.iv hkl hgl (by unfold IsV; dsimp only; rw [if_pos ho]), aid_set s.aid hkl (fun x c => by cases c; exact ha), ?_⟩
      · have p := flat_rep (A := []) hg
        rw [List.append_nil, List.append_nil] at p
        exact ((p.symm.append_right _).append_left _)
      · have := acts_set (o' := some e) hk
        rw [ofE_on ho, show ofE none = [] from rfl, List.append_nil] at this
        exact pm.trans ((s.pm.append_right _).trans this.symm)
    obtain ⟨L2, hv2, m'⟩ := sc.shut hh'
    rw [List.map_set] at hv2
    exact ⟨L2, hv2, m'⟩
theorem clone_c (m : Me W h (L :: R)) (hv : ScV b S L) : Runs Tryd.prog 21 #[ptrB b] h fun v h' =>
    ∃ b' L', v = ptrB b' ∧ ScV b' S L' ∧ Me W h' (L' :: L :: R) := by
  obtain ⟨st, bt, T, l, Lt, Is, rfl, hh, v, ln, il, iv, aid, pm, rfl⟩ := hv
  have back : ∀ {h : Heap} {G : List Grp}, Me W h (G ++ (Lt ++ (Is.flatten ++ [(b, sptrs st ++ [ptrB bt], T)])) :: R) ↔ Me W h (G ++ (Lt :: Is.flatten :: [(b, sptrs st ++ [ptrB bt], T)] :: R)) := fun {h G} => ⟨fun m => m.perm (by simp), fun m => m.perm (by simp)⟩
  refine vc_sched_Sched_Clone _ _ _ ((new_c m).mono ?_)
  rintro _ h1 ⟨b2, L2, rfl, hv2, m⟩
  have m1 := (back (G := [L2])).1 m
  have hrow : row h1 b 0 16 = some (sptrs st) := m1.row 3 rfl (by rw [List.drop_zero, List.take_append_of_le_length (by rw [sptrs_len]; omega), List.take_of_length_le (by rw [sptrs_len]; omega)]) (by rw [List.length_append, sptrs_len]; omega)
  refine ⟨_, rfl, _, hrow, fun x h' => ∃ (i : Nat) (L2 : Grp), x = i ∧ i ≤ 16 ∧ ScV b2 (upS (st.map strip) i) L2 ∧ Me W h' (L2 :: (Lt ++ (Is.flatten ++ [(b, sptrs st ++ [ptrB bt], T)])) :: R), fun x _ => (16 - x).toNat, ⟨0, L2, rfl, by omega, hv2, m⟩, fun _ => ?_⟩
  clear m m1 hv2 hrow
  rintro _ h2 ⟨i, L2, rfl, hi, hv2, m⟩
  have hnS : (st.map strip).length = 16 := by simpa using ln
  refine dcase_intro (fun q => ?_) fun q => ?_
  · have hi16 : i < 16 := by omega
    have hk : st[i]? = some st[i] := List.getElem?_eq_getElem (by omega)
    have hkS : (st.map strip)[i]? = some (strip st[i]) := by rw [List.getElem?_map, hk]; rfl
    have nx := upS_next hnS hi16 hkS
    have hcs : (sptrs st)[(i : Int).toNat]? = some (optP st[i]) := by simp [sptrs, hk]
    refine ⟨⟨by omega, by omega⟩, ?_⟩
    cases hx : st[i] with
    | none =>
      rw [hx] at hcs nx
      refine ⟨_, hcs, bcase_true rfl ⟨by simp only [fits]; omega, ⟨i + 1, L2, by omega, by omega, ?_, m⟩, by (try dsimp only); omega⟩⟩
      rw [← nx]
      have e : (upS (st.map strip) i).set i (strip none) = upS (st.map strip) i := by
        have := upS_none hnS hi16
        obtain ⟨h3, h4⟩ := List.getElem?_eq_some_iff.1 this
        show (upS (st.map strip) i).set i none = _
        exact List.ext_getElem? fun j => by
          by_cases hj : i = j
          · subst hj; rw [List.getElem?_set_self h3, this]
          · rw [List.getElem?_set_ne hj]
      rw [e]; exact hv2
    | some e =>
      rw [hx] at hcs nx hk
      have ms : Me W h2 (Lt :: Is.flatten :: [(b, sptrs st ++ [ptrB bt], T)] :: L2 :: R) := m.perm (by
        classical
        refine List.perm_iff_count.2 fun x => ?_
        simp only [List.flatten_cons, List.count_append]; omega)
      have src : Sc W h2 b st bt T l Lt Is (L2 :: R) := ⟨ms, v, ln, il, iv, aid, pm⟩
      obtain ⟨p, -, hrw, -⟩ := src.ent hk
      refine ⟨_, hcs, bcase_false rfl ⟨_, hrw, ?_⟩⟩
      intro b5 h3 e1 e2
      replace m := m.push e2 e1
      clear e1 e2 ms src
      refine ⟨⟨rfl, m.wrsb 0 rfl rfl, by simp [eCells, Value.oneCell']⟩, ?_⟩
      intro h4 e1
      replace m := m.setr 0 rfl e1
      generalize eT2 : (67 : TypeId) = T5 at m
      clear e1 eT2
      have e3 : (b5, setL [.int .i64 0, .int .i64 0, .int .i64 0, .bool false, .int .i64 0] 0 (eCells e p), T5) = ((b5, eCells { e with b := b5, T := T5 } p, T5) : B3) := rfl
      simp only [List.set_cons_zero] at m
      rw [e3] at m
      have m3 := m.focus 1 rfl
      simp only [List.eraseIdx_cons_succ, List.eraseIdx_cons_zero] at m3
      obtain ⟨st2, bt2, T2, l2, Lt2, Is2, hs2, hh2, sc2⟩ := hv2.opn m3
      have hk2 : st2[i]? = some none := by
        have := upS_none hnS hi16
        rw [← hs2, List.getElem?_map] at this
        cases hy : st2[i]? with
        | none => rw [hy] at this; cases this
        | some o =>
          rw [hy] at this
          cases o with
          | none => rfl
          | some x => cases this
      obtain ⟨w1, w2⟩ := Sc.enter (e := { e with b := b5, T := T5 }) (p := p) sc2 hk2 (aid i e hk) hh2
      rw [hs2] at w2
      have e0 : 0 + (i : Int).toNat = i := by omega
      refine ⟨⟨by omega, by omega⟩, ?_⟩
      rw [e0]
      refine ⟨w1, fun h5 e5 => ?_⟩
      obtain ⟨w3, w4, w5, w6⟩ := w2 h5 e5
      refine ⟨_, w4, ?_⟩
      have nx' : (upS (st.map strip) i).set i (some ⟨e.w, e.t, e.on⟩) = upS (st.map strip) (i + 1) := nx
      cases ho : e.on with
      | true =>
        refine bcase_true (by simp [ho]) ⟨_, w3, (w6 ho).mono ?_⟩
        rintro _ h6 ⟨L', hv', m'⟩
        refine ⟨by simp only [fits]; omega, ⟨i + 1, L', by omega, by omega, ?_, m'⟩, by (try dsimp only); omega⟩
        rw [← nx']; exact hv'
      | false =>
        obtain ⟨L', hv', m'⟩ := w5 ho
        refine bcase_false (by simp [ho]) ⟨by simp only [fits]; omega, ⟨i + 1, L', by omega, by omega, ?_, m'⟩, by (try dsimp only); omega⟩
        rw [← nx']; exact hv'
  · obtain rfl : i = 16 := by omega
    rw [upS_all hnS] at hv2
    exact ⟨b2, L2, rfl, hv2, m⟩
end
end Go.Proofs.YthnmgpmgfhilhaaDoor
