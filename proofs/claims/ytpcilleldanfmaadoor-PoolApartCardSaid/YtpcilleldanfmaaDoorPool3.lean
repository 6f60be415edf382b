/- The program's pool of queues: New, Drop. -/
import Derived.Test.YtpcilleldanfmaaDoorPool2
set_option linter.unusedVariables false
set_option linter.unusedSimpArgs false
set_option maxRecDepth 8000
namespace Go.Proofs.YtpcilleldanfmaaDoor
open Go.Vc
theorem setL_snoc {xs us : List Value} {o : Nat} {v : Value} (h : o + us.length < xs.length) : (setL xs o us).set (o + us.length) v = setL xs o (us ++ [v]) := by
  rw [setL_eq (by omega), setL_eq (by simp; omega), List.set_append_right _ _ (by simp; omega), List.drop_eq_getElem_cons h]
  have e : o + us.length - (xs.take o ++ us).length = 0 := by simp; omega
  rw [e, List.set_cons_zero]
  simp [Nat.add_assoc]
theorem setL_len {xs us : List Value} {o : Nat} (h : o + us.length ≤ xs.length) : (setL xs o us).length = xs.length := by
  rw [setL_eq h]; simp; omega
section
variable {V : Wd → Nat → Qu → Grp → Prop} {W W' : Wd} {h h' h1 : Heap} {G R : List Grp} {L L' E : Grp} {P P' : Po} {q q' : Qu} {qs qs2 : List Qu} {bs bs2 : List Nat} {Ls Ls2 : List Grp} {b b' k n i : Nat} {p : Pk} {cs xs : List Value} {T : TypeId} {v ev : Value}
theorem renew_c {ii : Int} (m : Me W h ([(b, poH P ++ xs, T)] :: R)) (hx : xs.length = 128) (hii : ii = (i : Int)) (hi : i < 16) : Runs Tryd.prog 28 #[.pointer (some ⟨b, 0, none⟩), .int .i64 ii] h fun v h' =>
    ∃ bs Ls, v = .tuple #[] ∧ Qs QuV W (List.replicate 8 P.new) bs Ls ∧ Me W h' (Ls.flatten :: [(b, poH P ++ setL xs (i * 8) (prs bs), T)] :: R) := by
  subst hii
  refine vc_pool_Pool_renew _ _ _ _ ⟨fun x h' => ∃ (t : Nat) (bs : List Nat) (Ls : List Grp), x = t ∧ t ≤ 8 ∧ bs.length = t ∧ Qs QuV W (List.replicate t P.new) bs Ls ∧ Me W h' (Ls.flatten :: [(b, poH P ++ setL xs (i * 8) (prs bs), T)] :: R), fun x _ => (8 - x).toNat,
    ⟨0, [], [], rfl, by omega, rfl, Qs.nil, m.nilI⟩, fun _ => ?_⟩
  clear m
  rintro _ h1 ⟨t, bs, Ls, rfl, ht, hbl, hq, m⟩
  have e0 : ∀ v (j : Nat), (poH P)[j]? = some v → (poH P ++ setL xs (i * 8) (prs bs))[j]? = some v := fun v j hj => by
    rw [List.getElem?_append_left (List.getElem?_eq_some_iff.1 hj).1]; exact hj
  refine dcase_intro (fun q1 => ?_) fun q1 => ?_
  · refine ⟨_, m.cell 1 rfl (e0 _ 0 rfl), _, m.cell 1 rfl (e0 _ 1 rfl), _, m.cell 1 rfl (e0 _ 2 rfl), ⟨by omega, by omega⟩, (new_c m P.seed P.tg P.iv).mono ?_⟩
    rintro _ h2 ⟨b', L, rfl, hv, m⟩
    refine ⟨_, rfl, ⟨by omega, by omega⟩, ?_⟩
    have hsl : (setL xs (i * 8) (prs bs)).length = 128 := by rw [setL_len (by rw [prs_len]; omega)]; exact hx
    refine m.store 2 rfl (by simp only [List.length_append, hsl, poH, List.length_cons, List.length_nil]; omega) fun h3 m => ?_
    rw [show 5 + (i : Int).toNat * 8 + (t : Int).toNat = 5 + (i * 8 + (prs bs).length) by rw [prs_len]; omega, poH_set, setL_snoc (by rw [prs_len]; omega)] at m
    simp only [List.set_cons_zero, List.set_cons_succ] at m
    refine ⟨by simp only [fits]; omega, ⟨t + 1, bs ++ [b'], Ls ++ [L], by omega, by omega, by simp [hbl], ?_, ?_⟩, by (try dsimp only); omega⟩
    · rw [List.replicate_succ']; exact hq.app (Qs.one hv)
    · have e1 : prs (bs ++ [b']) = prs bs ++ [.pointer (some ⟨b', 0, none⟩)] := prs_app
      rw [e1]
      exact m.perm (by simp only [List.flatten_cons, List.flatten_append, List.flatten_nil]; exact permC fun c h0 hc => by simp only [hc, h0]; omega)
  · obtain rfl : t = 8 := by omega
    exact ⟨bs, Ls, rfl, hq, m⟩
theorem poNew_c (m : Me W h R) (hg : wcell W 0 0 = some ev) (seed tg iv mp mb : Int) : Runs Tryd.prog 9 #[.int .u32 seed, .int .i64 tg, .int .i64 iv, .int .i64 mp, .int .i64 mb] h fun v h' =>
    (¬ (1 ≤ mp ∧ mp ≤ 512 ∧ 1 ≤ mb ∧ mb ≤ 1048576) → v = .tuple #[.pointer none, ev] ∧ Me W h' R) ∧
    ((1 ≤ mp ∧ mp ≤ 512 ∧ 1 ≤ mb ∧ mb ≤ 1048576) → ∃ b L, v = .tuple #[.pointer (some ⟨b, 0, none⟩), .nilIface] ∧ PoV W b (po0 seed tg iv mp mb) L ∧ Me W h' (L :: R)) := by
  have he := m.wcell hg
  refine vc_pool_New _ _ _ _ _ _ _ (dcase_intro (fun q => ⟨_, he, fun _ => ⟨rfl, m⟩, fun hc => absurd hc (by omega)⟩) fun q1 => dcase_intro (fun q => ⟨_, he, fun _ => ⟨rfl, m⟩, fun hc => absurd hc (by omega)⟩) fun q2 =>
    dcase_intro (fun q => ⟨_, he, fun _ => ⟨rfl, m⟩, fun hc => absurd hc (by omega)⟩) fun q3 => dcase_intro (fun q => ⟨_, he, fun _ => ⟨rfl, m⟩, fun hc => absurd hc (by omega)⟩) fun q4 => ?_)
  intro b h1 e1 e2
  replace m := m.push e2 e1
  clear e1 e2
  obtain ⟨T, m⟩ : ∃ T, Me W h1 ([(b, poH (po0 seed tg iv mp mb) ++ List.replicate 128 (.pointer none), T)] :: R) := ⟨_, m⟩
  refine ⟨fun x h' => ∃ (i : Nat) (bs : List Nat) (Ls : List Grp), x = i ∧ i ≤ 16 ∧ bs.length = i * 8 ∧ Qs QuV W (List.replicate (i * 8) (po0 seed tg iv mp mb).new) bs Ls ∧ Me W h' (Ls.flatten :: [(b, poH (po0 seed tg iv mp mb) ++ (prs bs ++ List.replicate (128 - i * 8) (Value.pointer none)), T)] :: R), fun x _ => (16 - x).toNat,
    ⟨0, [], [], rfl, by omega, rfl, Qs.nil, m.nilI⟩, fun _ => ?_⟩
  clear m he
  rintro _ h2 ⟨i, bs, Ls, rfl, hi, hbl, hq, m⟩
  refine dcase_intro (fun q => ?_) fun q => ?_
  · have hxl : (prs bs ++ List.replicate (128 - i * 8) (Value.pointer none)).length = 128 := by simp [prs_len, hbl]; omega
    refine (renew_c (m.focus 1 rfl) hxl rfl (by omega)).mono ?_
    rintro _ h3 ⟨bs8, Ls8, rfl, hq8, m⟩
    have h8 : bs8.length = 8 := by rw [hq8.n1]; exact List.length_replicate
    refine ⟨by simp only [fits]; omega, ⟨i + 1, bs ++ bs8, Ls ++ Ls8, by omega, by omega, by rw [List.length_append]; omega, ?_, ?_⟩, by (try dsimp only); omega⟩
    · have e : List.replicate ((i + 1) * 8) (po0 seed tg iv mp mb).new = List.replicate (i * 8) (po0 seed tg iv mp mb).new ++ List.replicate 8 (po0 seed tg iv mp mb).new := by
        rw [List.replicate_append_replicate]; congr 1; omega
      rw [e]; exact hq.app hq8
    · have e : setL (prs bs ++ List.replicate (128 - i * 8) (Value.pointer none)) (i * 8) (prs bs8) = prs (bs ++ bs8) ++ List.replicate (128 - (i + 1) * 8) (Value.pointer none) := by
        rw [setL_eq (by rw [hxl, prs_len, h8]; omega), prs_app]
        have l1 : (prs bs).length = i * 8 := by rw [prs_len, hbl]
        rw [List.take_append_of_le_length (by omega), List.take_of_length_le (by omega), List.append_assoc, List.append_assoc]
        congr 2
        rw [List.drop_append, List.drop_of_length_le (by omega), List.nil_append, List.drop_replicate]
        congr 1
        rw [prs_len, prs_len, hbl, h8]; omega
      rw [e] at m
      exact m.perm (by simp only [List.flatten_cons, List.flatten_append, List.eraseIdx_cons_zero, List.eraseIdx_cons_succ]; exact permC fun c h0 hc => by simp only [hc, h0]; omega)
  · obtain rfl : i = 16 := by omega
    refine ⟨fun hc => absurd ⟨by omega, by omega, by omega, by omega⟩ hc, fun _ => ?_⟩
    simp only [Nat.reduceMul, Nat.sub_self, List.replicate_zero, List.append_nil] at m hq
    obtain ⟨L, hv, m⟩ := PoV.shut (P := po0 seed tg iv mp mb) hq m
    exact ⟨b, L, rfl, hv, m⟩
theorem wipeN_q : ∀ n, i + n ≤ P.q.length → (wipeN P i n).q = P.q.take i ++ (List.replicate n P.new ++ P.q.drop (i + n))
  | 0, h => by simp [wipeN]
  | n + 1, h => by
    show ((wipeN P i n).q).set (i + n) P.new = _
    rw [wipeN_q n (by omega), List.set_append_right _ _ (by simp; omega), List.set_append_right _ _ (by simp; omega)]
    have e : i + n - (P.q.take i).length - (List.replicate n P.new).length = 0 := by simp; omega
    rw [e, List.drop_eq_getElem_cons (by omega), List.set_cons_zero, List.replicate_succ']
    simp [Nat.add_assoc]
theorem poDrop_c {aid : Int} (m : Me W h (L :: R)) (hv : PoV W b P L) (hP : PoOk P) (hl : P.len ≤ 1048576) : Runs Tryd.prog 15 #[.pointer (some ⟨b, 0, none⟩), .int .i64 aid] h fun v h' =>
    ∃ W' a c vs E L', W.le W' ∧ v = .slice a (P.drop aid).2.length c ∧ Ow a (P.drop aid).2.length c 5 vs E ∧ Sq (PkV W') (P.drop aid).2 vs ∧ PoV W' b (P.drop aid).1 L' ∧ Me W' h' (E :: L' :: R) := by
  refine vc_pool_Pool_Drop _ _ _ _ ((poolThere_c aid 0).mono ?_)
  rintro _ h1 ⟨rfl, rfl⟩
  refine ⟨_, rfl, ?_⟩
  have hsp := drop_spec hP aid
  unfold Po.drop at hsp ⊢
  by_cases ht : thereZ aid 0 = true
  case neg =>
    have ht' : thereZ aid 0 = false := by simpa using ht
    rw [if_neg ht]
    exact bcase_true (by rw [ht']; rfl) ⟨W, none, 0, [], [], L, Wd.le.refl _, rfl, Ow.nil, rfl, hv, m.nilI⟩
  rw [if_pos ht] at hsp ⊢
  have hz := thereZ_iff.1 ht
  obtain ⟨i, hi⟩ : ∃ i : Nat, (aid - 1).toNat = i := ⟨_, rfl⟩
  rw [hi] at hsp ⊢
  dsimp only at hsp ⊢
  have hdl : (outN P (i * 8) 8).length ≤ P.len := by
    have := hsp.2.2.length_eq
    rw [List.length_append] at this
    rw [Po.len_all]; omega
  have hol : ∀ t, t ≤ 8 → (outN P (i * 8) t).length ≤ P.len := by
    intro t ht'
    have h2 := (wipeN_spec hP (i * 8) t (by omega)).2.2.1.length_eq
    rw [List.length_append] at h2
    rw [Po.len_all]; omega
  refine bcase_false (by rw [ht]; rfl) ⟨by simp only [fits]; omega, ⟨by omega, by omega⟩, ?_⟩
  (obtain ⟨bs, Ls, T, hq, rfl, mNew⟩ := hv.opn m; replace m := mNew; clear mNew)
  have hbs := hq.n1
  rw [hP.n] at hbs
  have hpl : (poH P ++ prs bs).length = 133 := by rw [List.length_append, prs_len, hbs]; rfl
  refine ⟨_, m.row 1 rfl rfl (by rw [hpl]; omega), ?_⟩
  refine ⟨fun out ol oc x h' => ∃ (t : Nat) (W1 : Wd) (vs : List Value) (E : Grp), x = t ∧ t ≤ 8 ∧ W.le W1 ∧ ol = (outN P (i * 8) t).length ∧ Ow out ol oc 5 vs E ∧ Sq (PkV W1) (outN P (i * 8) t) vs ∧ Me W1 h' (E :: Ls.flatten :: [(b, poH P ++ prs bs, T)] :: R), fun _ _ _ x _ => (8 - x).toNat,
    ⟨0, W, [], [], rfl, by omega, Wd.le.refl _, rfl, Ow.nil, rfl, m.nilI⟩, fun _ => ?_⟩
  clear m
  rintro out _ oc _ h2 ⟨t, W1, vs, E, rfl, ht8, hle, rfl, o, hs, m⟩
  refine dcase_intro (fun q1 => ?_) fun q1 => ?_
  · have hk : i * 8 + t < 128 := by omega
    obtain ⟨bk, Lk, e1, e2, hvk⟩ := hq.v _ _ (hP.qu hk).1
    refine ⟨⟨by omega, by omega⟩, _, ?_, (all_c ((m.focus 1 rfl).pick _ e2) (hvk.le hle) (hP.qu hk).2.ok).mono ?_⟩
    · rw [List.getElem?_take, if_pos (by omega), List.getElem?_drop, show 5 + i * 8 + (t : Int).toNat = 5 + (i * 8 + t) by omega, poH_get]
      exact prs_get e1
    · rintro _ h3 ⟨W2, a, c, vs2, E2, hle2, rfl, o2, hs2, m⟩
      simp only [List.eraseIdx_cons_zero, List.eraseIdx_cons_succ] at m
      have hcnt := hP.cnt hk
      have hnext : outN P (i * 8) (t + 1) = outN P (i * 8) t ++ allL (P.qu (i * 8 + t)).fl := rfl
      have hol2 := hol (t + 1) (by omega)
      rw [hnext, List.length_append] at hol2
      refine ⟨_, _, _, rfl, vs2, ⟨o2.src m 0 rfl, hs2.all fun _ _ => PkV.one⟩, ?_⟩
      refine o.app m 3 rfl o2.len (by omega) (by decide) fun a2 c2 E3 h10 m' o3 => ?_
      clear m
      simp only [List.set_cons_zero, List.set_cons_succ] at m'
      refine ⟨by simp only [fits]; omega, ⟨t + 1, W2, _, E3, by omega, by omega, hle.trans hle2, by rw [hnext, List.length_append], o3, by rw [hnext]; exact (hs.mono fun _ _ => PkV.le hle2).app hs2, ?_⟩, by (try dsimp only); omega⟩
      have m3 := (m'.drop1.focus 2 rfl)
      simp only [List.eraseIdx_cons_zero, List.eraseIdx_cons_succ] at m3
      have m4 := Me.unpick (i * 8 + t) e2 (m3.focus 1 rfl |>.focus 2 rfl |> fun m => (m.perm (G' := Lk :: (Ls.eraseIdx (i * 8 + t)).flatten :: E3 :: [(b, poH P ++ prs bs, T)] :: R) (by
        simp only [List.eraseIdx_cons_zero, List.eraseIdx_cons_succ, List.flatten_cons]
        exact permC fun c h0 hc => by simp only [hc, h0]; omega)))
      rw [set_same e2] at m4
      exact m4.focus 1 rfl
  · obtain rfl : t = 8 := by omega
    refine ⟨by simp only [fits]; omega, (renew_c (i := i) (m.focus 2 rfl) (by rw [prs_len, hbs]) (by omega) (by omega)).mono ?_⟩
    rintro _ h5 ⟨bs8, Ls8, rfl, hq8, m⟩
    have h8 : bs8.length = 8 := by rw [hq8.n1]; exact List.length_replicate
    have hqL := hq.le (W' := W1) fun _ _ _ => QuV.le hle
    have hqn : Qs QuV W1 (wipeN P (i * 8) 8).q (bs.take (i * 8) ++ (bs8 ++ bs.drop (i * 8 + 8))) (Ls.take (i * 8) ++ (Ls8 ++ Ls.drop (i * 8 + 8))) := by
      rw [wipeN_q 8 (by rw [hP.n]; omega)]
      exact (hqL.take _).app (hq8.app (hqL.drop _))
    have eb : setL (prs bs) (i * 8) (prs bs8) = prs (bs.take (i * 8) ++ (bs8 ++ bs.drop (i * 8 + 8))) := by
      rw [setL_eq (by rw [prs_len, prs_len, h8, hbs]; omega), prs_app, prs_app, prs_len, h8]
      simp [prs, List.map_take, List.map_drop]
    rw [eb] at m
    have hH : poH (wipeN P (i * 8) 8) = poH P := by
      have hal := hsp.2.1
      simp only [poH, hal.seed, hal.tg, hal.iv, hal.mp, hal.mb]
    have m2 : Me W1 h5 ((Ls.take (i * 8) ++ (Ls8 ++ Ls.drop (i * 8 + 8))).flatten :: [(b, poH (wipeN P (i * 8) 8) ++ prs (bs.take (i * 8) ++ (bs8 ++ bs.drop (i * 8 + 8))), T)] :: E :: R) := by
      rw [hH]
      refine m.sub ⟨((Ls.drop (i * 8)).take 8).flatten, ?_⟩
      have eL : Ls.flatten = (Ls.take (i * 8)).flatten ++ (((Ls.drop (i * 8)).take 8).flatten ++ (Ls.drop (i * 8 + 8)).flatten) := by
        rw [← List.flatten_append, ← List.flatten_append]
        congr 1
        rw [← List.drop_drop, List.take_append_drop, List.take_append_drop]
      simp only [List.eraseIdx_cons_zero, List.eraseIdx_cons_succ, List.flatten_cons, List.flatten_append]
      rw [eL]
      exact permC fun c h0 hc => by simp only [hc, h0]; omega
    obtain ⟨L2, hv2, m3⟩ := PoV.shut (P := wipeN P (i * 8) 8) hqn m2
    exact ⟨W1, out, oc, vs, E, L2, hle, rfl, o, hs, hv2, m3.focus 1 rfl⟩
end
end Go.Proofs.YtpcilleldanfmaaDoor
