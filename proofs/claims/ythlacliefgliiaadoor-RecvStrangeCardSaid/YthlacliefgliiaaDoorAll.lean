/- All that a session keeps is handed up, where that is one frame at most; a station that leaves. -/
import Derived.Test.YthlacliefgliiaaDoorRecv3
set_option linter.unusedVariables false
set_option linter.unusedSimpArgs false
set_option maxRecDepth 8000
namespace Go.Proofs.YthlacliefgliiaaDoor
open Go.Vc
theorem len64_c {x : Int} (h : Heap) (h0 : 0 ≤ x) (h1 : x < 256) : Runs Tryd.prog 103 #[.int .u64 x] h fun v h' => (∃ n : Int, v = .int .i64 n) ∧ h' = h := by
  refine vc_math_bits_Len64 _ _ _ (dcase_neg (by omega) (dcase_neg (by omega) (dcase_neg (by omega) ?_)))
  refine ⟨⟨?_, ?_⟩, ⟨_, rfl⟩, rfl⟩
  · rw [wrap8]; omega
  · rw [wrap8]; exact Int.lt_of_lt_of_le (Int.emod_lt_of_pos _ (by decide)) (by decide)
theorem sort01_c {a : Option Addr} {l c : Nat} {cmp : Value} (h : Heap) (hl : l ≤ 1) : Runs Tryd.prog 81 #[.slice a l c, cmp] h fun v h' => h' = h := by
  refine vc_slices_SortFunc_int _ _ _ _ _ _ ?_
  refine vc_math_bits_Len _ _ _ ?_
  rw [wrap_fits (show fits .u64 ((l : Nat) : Int) by simp only [fits]; omega)]
  refine (len64_c h (by omega) (by omega)).mono ?_
  rintro _ _ ⟨⟨n, rfl⟩, rfl⟩
  refine ⟨n, rfl, n, rfl, ?_⟩
  refine vc_slices_pdqsortCmpFunc_int _ _ _ _ _ _ _ _ _ ?_
  refine ⟨fun a b l' _ _ h' => a = 0 ∧ b = l ∧ h' = _, fun _ _ _ _ _ _ => 0, ⟨rfl, rfl, rfl⟩, fun _ => ?_⟩
  rintro _ _ _ _ _ _ ⟨rfl, rfl, rfl⟩
  rw [wrap_fits (show fits .i64 ((l : Int) - 0) by simp only [fits]; omega)]
  refine dcase_pos (by omega) ?_
  refine vc_slices_insertionSortCmpFunc_int _ _ _ _ _ _ _ _ ?_
  refine ⟨fun i h' => 1 ≤ i ∧ h' = _, fun _ _ => 0, ⟨by rw [wrap_fits (show fits .i64 ((0 : Int) + 1) by simp only [fits]; omega)]; omega, rfl⟩, fun _ => ?_⟩
  rintro i _ ⟨hi, rfl⟩
  exact dcase_neg (by omega) rfl
section
variable {W W' : Wd} {h h' : Heap} {b t j n c : Nat} {a : Option Addr} {T : TypeId} {size : Int} {css : List (List Value)} {cs us vs : List Value} {G G' : List Grp} {v : Value} {x : Ses} {f : Fm} {mv : Option Nat} {Q : Heap → Prop} {E : Grp}
/-- Numbers that are sorted, one at most. -/
theorem sort1_c {l : List Int} (start : Int) (o : Ow a l.length c 1 (ints .i64 l) E) (m : Me W h (E :: G)) (hl : l.length ≤ 1) (hr : ∀ k ∈ l, 0 ≤ k ∧ k ≤ 4095) :
    Runs Tryd.prog 66 #[.int .i64 start, .slice a l.length c] h fun v h' => ∃ a' c' E', v = .slice a' l.length c' ∧ Ow a' l.length c' 1 (ints .i64 l) E' ∧ Me W h' (E' :: G) := by
  refine vc_seq_Sort _ _ _ _ _ _ ?_
  intro b1 h1 e1 e2
  replace m := (m.push e2 e1).nilI
  refine ⟨fun a' l' c' i h => ∃ (k : Nat) (E' : Grp), i = k ∧ k ≤ l.length ∧ l' = k ∧ Ow a' k c' 1 (ints .i64 (l.take k)) E' ∧ Me W h (E' :: [(b1, [.int .i64 start], 3)] :: E :: G), fun _ _ _ i _ => ((l.length : Int) - i).toNat, ⟨0, [], rfl, by omega, rfl, by simpa [ints] using Ow.nil, m⟩, fun _ => ?_⟩
  rintro a' l' c' _ h2 ⟨k, E', rfl, hk, rfl, o', m⟩
  refine dcase_intro (fun q => ?_) fun q => ?_
  · have hkl : l' < l.length := by omega
    obtain ⟨b2, o2, rfl, hc2⟩ := src_cell (o.src1 m 2 rfl) (ints_get (List.getElem?_eq_getElem hkl))
    have hrk := hr l[l'] (List.getElem_mem hkl)
    refine ⟨⟨by omega, by omega⟩, l[l'], by simpa using hc2, (mod_c _ _).ret ⟨_, rfl, ?_⟩⟩
    rw [show l[l'] % 4096 = l[l'] by omega]
    refine o'.appn m rfl (by simp [Value.oneCell']) (by omega) (by decide) fun a4 c4 E4 h4 m4 o4 => ?_
    refine ⟨by simp only [fits]; omega, ⟨l' + 1, E4, by omega, by omega, rfl, ?_, m4⟩, by dsimp only; omega⟩
    have e : ints .i64 (l.take l') ++ [.int .i64 l[l']] = ints .i64 (l.take (l' + 1)) := by
      rw [List.take_add_one, List.getElem?_eq_getElem hkl, ints_app]; rfl
    rw [← e]; exact o4
  · obtain rfl : l' = l.length := by omega
    refine (sort01_c h2 hl).mono ?_
    rintro _ _ rfl
    rw [List.take_length] at o'
    exact ⟨a', c', E', rfl, o', (me_swap (me_swap m).drop1).drop1⟩
/-- What all that is kept yields. -/
def AllV (W : Wd) (b : Nat) (T : TypeId) (size : Int) (css : List (List Value)) (t : Nat) (G : List Grp) (mv : Option Nat) (x : Ses) (v : Value) (h' : Heap) : Prop :=
  ∃ W' a c E vs, W.le W' ∧ v = .slice a x.kept.length c ∧ Ow a x.kept.length c 24 vs E ∧ Sq (FmV W') x.kept vs ∧ St W' h' b T size css t (sesC { x with kept := [] } none) (E :: G)
theorem key_of : ∀ {es : List MapEntry} {l : List Fm}, EsV W es l → es.map (·.key) = ints .i64 (l.map Fm.sq)
  | [], l, hv => by cases hv; rfl
  | e :: es, l, ⟨f, r, cs, e1, e2, e3, h1, h2⟩ => by
    subst e1
    rw [List.map_cons, e2, key_of h2]; rfl
theorem all1_c (s : St W h b T size css t (sesC x mv) G) (hk : KeptV W mv x.kept) (hok : SesOk x) (h1 : x.kept.length ≤ 1) :
    Runs Tryd.prog 41 #[.pointer (some ⟨b, 13 + t * 8, none⟩)] h (AllV W b T size css t G mv x) := by
  obtain ⟨es, c, ho, hes, hbo, hnd, hW⟩ := kept_obj s.m hk
  have hel := es_len hes
  have hkey := key_of hes
  refine vc_recv_session_all _ _ _ ?_
  refine ⟨_, s.get 5 rfl, ?_⟩
  unfold rngv
  rw [show Tryd.prog.underlying 79 = _ from mapU]
  refine ⟨es, c, ho, ?_⟩
  intro bi h1' e1 e2
  obtain ⟨m1, hbn⟩ := me_pushO s.m e2 e1
  have hlt : ∀ r, mv = some r → r ≠ bi := fun r e q => by
    have := hW r e
    rw [q, hbn] at this; cases this
  -- as long as one looks: those that were seen are the first ones
  refine ⟨fun a' l' c' h => ∃ (W1 : Wd) (k : Nat) (E' : Grp) (seen : Array Nat), W.le W1 ∧ W1 bi = some (.mapIter mv c seen c) ∧ k ≤ es.length ∧ l' = k ∧ seen.toList = (es.take k).map (·.born) ∧ Ow a' k c' 1 ((es.take k).map (·.key)) E' ∧ St W1 h b T size css t (sesC x mv) (E' :: G),
    fun _ l' _ _ => es.length - l', ⟨_, 0, [], #[], upd_le hbn, upd_at, by omega, rfl, rfl, Ow.nil, s.mem (me_swap m1.nilI)⟩, fun _ => ?_⟩
  rintro a' l' c' h2 ⟨W1, k, E', seen, hle, hit, hkl, rfl, hseen, o', s2⟩
  have ho2 : mobj h2 mv = some (es, c) := by
    unfold mobj at ho ⊢
    cases mv with
    | none => exact ho
    | some r =>
      dsimp only
      rw [s2.m.keep _ _ (hle _ _ (hW r rfl))]
  refine ⟨rfl, mv, c, seen, c, es, c, s2.m.keep _ _ hit, ho2, hbo, Nat.le_refl _, fun hall => ?_, fun e he hne h3 e3 => ?_⟩
  · have hk2 : l' = es.length := by
      apply Nat.le_antisymm hkl
      refine Nat.le_of_not_lt fun hlt2 => ?_
      have h0 : l' = 0 := by omega
      have : es ≠ [] := fun q => by rw [q] at hlt2; simp at hlt2
      obtain ⟨e, he⟩ := List.exists_mem_of_ne_nil es this
      have h5 := hall e he
      rw [hseen, h0] at h5; simp at h5
    subst hk2
    rw [List.take_length] at o'
    rw [hkey] at o'
    refine ⟨x.start, s2.get 1 rfl, ?_⟩
    have hrl : ∀ k ∈ x.kept.map Fm.sq, 0 ≤ k ∧ k ≤ 4095 := fun k hk' => by
      obtain ⟨f, hf, rfl⟩ := List.mem_map.1 hk'
      exact ⟨(hok.k f hf).s0, (hok.k f hf).s1⟩
    have hle2 : es.length = (x.kept.map Fm.sq).length := by rw [List.length_map]; exact hel
    rw [hle2] at o' ⊢
    refine (sort1_c (l := x.kept.map Fm.sq) x.start o' (me_swap s2.m) (by rw [List.length_map]; exact h1) hrl).mono ?_
    rintro _ h4 ⟨a4, c4, E4, rfl, o4, m4⟩
    have s4 : St W1 h4 b T size css t (sesC x mv) (E4 :: G) := s2.mem (me_swap m4)
    refine ⟨_, _, _, rfl, ?_⟩
    refine ⟨fun a' l' c' i h => ∃ (k : Nat) (E' : Grp) (vs : List Value), i = k ∧ k ≤ x.kept.length ∧ l' = k ∧ Ow a' k c' 24 vs E' ∧ Sq (FmV W1) (x.kept.take k) vs ∧ St W1 h b T size css t (sesC x mv) (E' :: E4 :: G), fun _ _ _ i _ => ((x.kept.length : Int) - i).toNat, ⟨0, [], [], rfl, by omega, rfl, Ow.nil, rfl, s4.mem (me_swap s4.m.nilI)⟩, fun _ => ?_⟩
    rintro a5 l5 c5 _ h5 ⟨k, E5, vs5, rfl, hk5, rfl, o5, hs5, s5⟩
    rw [List.length_map]
    refine dcase_intro (fun q => ?_) fun q => ?_
    · have hkl : l5 < x.kept.length := by omega
      have hsrc := o4.src1 s5.m 2 rfl
      obtain ⟨b6, o6, rfl, hc6⟩ := src_cell hsrc (ints_get (k := .i64) (i := l5) (x := (x.kept[l5]).sq) (by rw [List.getElem?_map, List.getElem?_eq_getElem hkl]; rfl))
      refine ⟨⟨by omega, by omega⟩, (x.kept[l5]).sq, by simpa using hc6, _, s5.get 5 rfl, ?_⟩
      obtain ⟨cs, hlk, hcl, hc1, hcf⟩ := lkr_c s5.m (hk.le hle) hok.k (x.kept[l5]).sq
      have h0 : l5 = 0 := by omega
      have hfind : kfind x.kept (x.kept[l5]).sq = some x.kept[l5] := by
        subst h0
        obtain ⟨f, r, hfr⟩ := List.exists_cons_of_length_pos hkl
        simp only [hfr]
        simp [kfind]
      refine ⟨cs, _, hlk, hcl, ?_⟩
      rw [List.append_nil]
      have m6 := (me_swap s5.m)
      refine Ow.app1 (sz := 24) o5 m6 0 rfl hcl hc1 (by omega) (by decide) fun a7 c7 E7 h7 m7 o7 => ?_
      simp only [List.set_cons_zero] at m7
      refine ⟨by simp only [fits]; omega, ⟨l5 + 1, E7, _, by omega, by omega, rfl, o7, ?_, s5.mem (me_swap m7)⟩, by dsimp only; omega⟩
      rw [List.take_add_one, List.getElem?_eq_getElem hkl]
      exact hs5.snoc (hcf _ hfind)
    · obtain rfl : l5 = x.kept.length := by omega
      refine s5.set 5 rfl fun h8 s8 => ?_
      rw [List.take_length] at hs5
      exact ⟨W1, a5, c5, E5, vs5, hle, rfl, o5, hs5, s8.mem (s8.m.sub ⟨E4, by
        simp only [List.flatten_cons, List.append_assoc]
        exact List.Perm.append_left _ (List.Perm.append_left _ List.perm_append_comm)⟩)⟩
  · -- one is seen
    have hk0 : l' = 0 := by
      have : es.length ≤ 1 := by omega
      refine Nat.eq_zero_of_not_pos fun hp => hne ?_
      rw [hseen, List.take_of_length_le (by omega)]
      exact List.mem_map_of_mem he
    subst hk0
    obtain ⟨e0, hes1⟩ : ∃ e0, es = [e0] := by
      match es, he with
      | [e0], _ => exact ⟨e0, rfl⟩
      | e0 :: e1 :: r, _ => simp at hel; omega
    subst hes1
    rw [List.mem_singleton] at he
    subst he
    have hs0 : seen.toList = [] := hseen
    have hmvs : ∃ r, mv = some r := by
      cases mv with
      | none => unfold mobj at ho; cases ho
      | some r => exact ⟨r, rfl⟩
    obtain ⟨r, rfl⟩ := hmvs
    have m3 := me_updO s2.m hit e3
    refine ⟨rfl, r, c, seen.push e.born, e.born, [e], c, e, m3.keep _ _ upd_at, by simp, ?_, by simp, ?_⟩
    · have hr := hW r rfl
      show mobj h3 (some r) = _
      unfold mobj
      dsimp only
      have : Wd.upd W1 bi (.mapIter (some r) c (seen.push e.born) c) r = some (.map [e].toArray c) := by
        rw [upd_ne (hlt r rfl)]; exact hle _ _ hr
      rw [m3.keep _ _ this]
    · obtain ⟨f, rr, cs, e5, e6, e7, hv1, hv2⟩ := hes
      rw [e6]
      intro b8 h9 f1 f2
      have s3 := s2.mem m3
      refine o'.appn (me_swap s3.m) (us := [.int .i64 f.sq]) (k := 1) rfl (by simp [Value.oneCell']) (by omega) (by decide) (fun a7 c7 E7 h7 m7 o7 => ?_) b8 h9 f1 (by simpa using f2)
      refine ⟨⟨_, 1, E7, seen.push e.born, fun d y e9 => ?_, upd_at, by simp, rfl, by simp [hs0], ?_, s3.mem (me_swap m7)⟩, by simp⟩
      · have hd : d ≠ bi := fun q => by rw [q, hbn] at e9; cases e9
        rw [upd_ne hd]; exact hle _ _ e9
      · have e10 : (List.take 1 [e]).map (·.key) = [.int .i64 f.sq] := by simp [e6]
        rw [e10]
        simpa using o7
theorem St.other {k : Nat} (s : St W h b T size css0 t cs G) (hk : k < 8) (hne : k ≠ t) : St W h b T size (css0.set t cs) k z8 G := by
  have e : stC size (css0.set t cs) k z8 = stC size css0 t cs := by
    unfold stC
    rw [List.set_comm _ _ (Ne.symm hne), css0_set hk]
  exact ⟨by rw [e]; exact s.m, set_all css0_n s.hc, by rw [List.length_set]; rfl, hk, rfl⟩
theorem St.other' {k : Nat} (s : St W h b T size (css0.set t cs) k z8 G) (ht : t < 8) (hc : cs.length = 8) (hne : k ≠ t) : St W h b T size css0 t cs G := by
  have e : stC size (css0.set t cs) k z8 = stC size css0 t cs := by
    unfold stC
    rw [List.set_comm _ _ (Ne.symm hne), css0_set s.ht]
  exact ⟨by rw [← e]; exact s.m, css0_n, rfl, ht, hc⟩
theorem leave1_c (s : St W h b T size css0 t (sesC x mv) G) (hk : KeptV W mv x.kept) (hok : SesOk x) (h1 : x.kept.length ≤ 1) :
    Runs Tryd.prog 20 #[.pointer (some ⟨b, 0, none⟩)] h fun v h' => ∃ W' a c E vs, W.le W' ∧ v = .slice a x.kept.length c ∧ Ow a x.kept.length c 24 vs E ∧ Sq (FmV W') x.kept vs ∧ St W' h' b T size css0 t (sesC ses0 none) (E :: G) := by
  have ht := s.ht
  refine vc_recv_Station_Leave _ _ _ ?_
  refine ⟨fun a' l' c' i h => ∃ (W1 : Wd) (k : Nat) (E' : Grp) (vs : List Value), i = k ∧ k ≤ 8 ∧ W.le W1 ∧ Ow a' l' c' 24 vs E' ∧ ((k ≤ t ∧ l' = 0 ∧ St W1 h b T size css0 t (sesC x mv) (E' :: G)) ∨ (t < k ∧ l' = x.kept.length ∧ Sq (FmV W1) x.kept vs ∧ St W1 h b T size css0 t (sesC ses0 none) (E' :: G))),
    fun _ _ _ i _ => (8 - i).toNat, ⟨W, 0, [], [], rfl, by omega, Wd.le.refl W, Ow.nil, .inl ⟨by omega, rfl, s.mem (me_swap s.m.nilI)⟩⟩, fun _ => ?_⟩
  rintro a' l' c' _ h2 ⟨W1, k, E', vs', rfl, hk8, hle, o', hs⟩
  refine dcase_intro (fun q => ?_) fun q => ?_
  · refine ⟨⟨by omega, by omega⟩, ?_⟩
    rw [show (k : Int).toNat = k from rfl]
    rcases hs with ⟨hkt, rfl, s2⟩ | ⟨hkt, rfl, hsq, s2⟩
    · by_cases hne : k = t
      · subst hne
        refine (all1_c s2 (hk.le hle) hok h1).mono ?_
        rintro _ h3 ⟨W3, a3, c3, E3, vs3, hle3, rfl, o3, hs3, s3⟩
        refine ⟨_, _, _, rfl, vs3, ⟨o3.src s3.m 1 rfl, hs3.all fun f cs hv => hv.one'⟩, ?_⟩
        refine o'.app s3.m 2 rfl o3.len (by omega) (by decide) fun a4 c4 E4 h4 m4 o4 => ?_
        simp only [List.set_cons_zero, List.set_cons_succ] at m4
        have s4 := (s3.mem m4).drop
        have hv0 : vs' = [] := List.eq_nil_of_length_eq_zero (by simpa using o'.len)
        rw [hv0, List.nil_append] at o4
        refine ⟨⟨by omega, by omega⟩, ⟨rfl, s4.wrs, by simp [Value.oneCell']⟩, fun h5 e5 => ?_⟩
        have s5 : St W3 h5 b T size css0 k (sesC ses0 none) (E4 :: G) := s4.setr rfl e5
        exact ⟨by simp only [fits]; omega, ⟨W3, k + 1, E4, vs3, by omega, by omega, hle.trans hle3, o4, .inr ⟨by omega, by omega, hs3, s5⟩⟩, by dsimp only; omega⟩
      · refine (all1_c (x := ses0) (mv := none) (s2.other (by omega) hne) rfl ses0_ok (by decide)).mono ?_
        rintro _ h3 ⟨W3, a3, c3, E3, vs3, hle3, rfl, o3, hs3, s3⟩
        refine ⟨_, _, _, rfl, vs3, ⟨o3.src s3.m 1 rfl, hs3.all fun f cs hv => hv.one'⟩, ?_⟩
        refine o'.app s3.m 2 rfl o3.len (by show (0 + 0) * 72 ≤ _; decide) (by decide) fun a4 c4 E4 h4 m4 o4 => ?_
        simp only [List.set_cons_zero, List.set_cons_succ] at m4
        have s4 := (s3.mem m4).drop
        refine ⟨⟨by omega, by omega⟩, ⟨rfl, s4.wrs, by simp [Value.oneCell']⟩, fun h5 e5 => ?_⟩
        have s5 : St W3 h5 b T size (css0.set t (sesC x mv)) k z8 (E4 :: G) := s4.setr rfl e5
        exact ⟨by simp only [fits]; omega, ⟨W3, k + 1, E4, _, by omega, by omega, hle.trans hle3, o4, .inl ⟨by omega, rfl, s5.other' ht rfl hne⟩⟩, by dsimp only; omega⟩
    · have hne : k ≠ t := by omega
      refine (all1_c (x := ses0) (mv := none) (s2.other (by omega) hne) rfl ses0_ok (by decide)).mono ?_
      rintro _ h3 ⟨W3, a3, c3, E3, vs3, hle3, rfl, o3, hs3, s3⟩
      refine ⟨_, _, _, rfl, vs3, ⟨o3.src s3.m 1 rfl, hs3.all fun f cs hv => hv.one'⟩, ?_⟩
      refine o'.app s3.m 2 rfl o3.len (by show (x.kept.length + 0) * 72 ≤ _; omega) (by decide) fun a4 c4 E4 h4 m4 o4 => ?_
      simp only [List.set_cons_zero, List.set_cons_succ] at m4
      have s4 := (s3.mem m4).drop
      have hv0 : vs3 = [] := List.eq_nil_of_length_eq_zero (by simpa [ses0] using o3.len)
      rw [hv0, List.append_nil] at o4
      refine ⟨⟨by omega, by omega⟩, ⟨rfl, s4.wrs, by simp [Value.oneCell']⟩, fun h5 e5 => ?_⟩
      have s5 : St W3 h5 b T size (css0.set t (sesC ses0 none)) k z8 (E4 :: G) := s4.setr rfl e5
      exact ⟨by simp only [fits]; omega, ⟨W3, k + 1, E4, _, by omega, by omega, hle.trans hle3, o4, .inr ⟨by omega, rfl, hsq.mono fun f cs hv => hv.le hle3, s5.other' ht rfl hne⟩⟩, by dsimp only; omega⟩
  · obtain rfl : k = 8 := by omega
    rcases hs with ⟨hkt, -, -⟩ | ⟨-, rfl, hsq, s2⟩
    · omega
    · exact ⟨W1, a', c', E', vs', hle, rfl, o', hsq, s2⟩
end
end Go.Proofs.YthlacliefgliiaaDoor
