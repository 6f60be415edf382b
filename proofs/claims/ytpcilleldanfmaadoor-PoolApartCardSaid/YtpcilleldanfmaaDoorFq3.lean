/- The program's queue of flows: Clone. -/
import Derived.Test.YtpcilleldanfmaaDoorFq2
set_option linter.unusedVariables false
set_option linter.unusedSimpArgs false
namespace Go.Proofs.YtpcilleldanfmaaDoor
open Go.Vc
section
variable {W W' : Wd} {h h' h1 : Heap} {G R : List Grp} {L E E0 Ef Ee : Grp} {B : Grp} {Es : List Grp} {css : List (List Value)} {q : Qu} {f g : Fl} {k d : Int} {b n : Nat} {cs : List Value} {p : Pk} {r : List Pk}
theorem perm3 {α : Type} (A B C X : List α) : (A ++ (B ++ (C ++ X))).Perm (C ++ (B ++ (A ++ X))) := by
  have h1 := List.perm_append_comm_assoc (A ++ B) C X
  simp only [List.append_assoc] at h1
  exact h1.trans ((List.perm_append_comm_assoc A B X).append_left C)
theorem srcQ {a : Option Addr} {l c : Nat} {vs : List Value} (hE : Es[n]? = some E) (o : Ow a l c 5 vs E) (m : Me W h ((B ++ (Ef ++ (Ee ++ Es.flatten))) :: R)) : src h a (l * 5) vs := o.src (m.openQ hE) 1 rfl
theorem setL_all {vs us : List Value} (h : us.length = vs.length) : setL vs 0 us = us := by
  rw [setL_eq (by omega), List.take_zero, List.nil_append, List.drop_of_length_le (by omega), List.append_nil]
theorem q_one {fa ea : Option Addr} {fc ec : Nat} (hc : QuC W q css Es) (hq : QOk q) : ∀ u ∈ ck (q3 q) css (q4 q fa fc ea ec), u.oneCell' = true := by
  intro u hu
  unfold ck at hu
  rcases List.mem_append.1 hu with hu | hu
  · simp [q3] at hu; rcases hu with rfl | rfl | rfl <;> rfl
  rcases List.mem_append.1 hu with hu | hu
  · obtain ⟨cs, hcs, hu⟩ := List.mem_flatten.1 hu
    obtain ⟨k, hk⟩ := List.mem_iff_getElem?.1 hcs
    have hkl := (List.getElem?_eq_some_iff.1 hk).1
    have h1 := hc.n1
    obtain ⟨cs', E, h2, h3, a, c, vs, rfl, _, _⟩ := hc.f k _ (flow_at hq (by omega))
    rw [hk] at h2; cases h2
    simp [cV] at hu
    rcases hu with rfl | rfl | rfl | rfl | rfl | rfl | rfl | rfl <;> rfl
  · simp [q4] at hu; rcases hu with rfl | rfl | rfl | rfl <;> rfl
/-- A copy under way: so many flows are done. -/
structure Cp (W : Wd) (q : Qu) (css css1 : List (List Value)) (Es1 : List Grp) (j : Nat) : Prop where
  n1 : css1.length = 16
  n2 : Es1.length = 16
  n8 : ∀ c ∈ css1, c.length = 8
  done : ∀ k, k < j → ∀ f, q.fl[k]? = some f → ∃ cs E, css1[k]? = some cs ∧ Es1[k]? = some E ∧ FlV W f cs E
  rest : ∀ k, j ≤ k → k < 16 → css1[k]? = css[k]? ∧ Es1[k]? = some []
theorem Cp.le {css1 : List (List Value)} {Es1 : List Grp} {j : Nat} (hl : W.le W') (hc : Cp W q css css1 Es1 j) : Cp W' q css css1 Es1 j :=
  ⟨hc.n1, hc.n2, hc.n8, fun k hk f hf => by obtain ⟨cs, E, h1, h2, h3⟩ := hc.done k hk f hf; exact ⟨cs, E, h1, h2, h3.le hl⟩, hc.rest⟩
theorem Cp.step {css1 : List (List Value)} {Es1 : List Grp} {j : Nat} (hq : QOk q) (hc : Cp W q css css1 Es1 j) (hj : j < 16) (hf : FlV W (q.flow (j : Int)) cs E) (hl : cs.length = 8) : Cp W q css (css1.set j cs) (Es1.set j E) (j + 1) := by
  have h1 := hc.n1
  have h2 := hc.n2
  refine ⟨by simp [h1], by simp [h2], ckn hc.n8 hl, fun k hk f hf' => ?_, fun k hk hk16 => ?_⟩
  · rw [List.getElem?_set, List.getElem?_set]
    by_cases e : j = k
    · subst e
      rw [flow_at hq hj] at hf'; cases hf'
      rw [if_pos rfl, if_pos rfl, if_pos (by omega), if_pos (by omega)]
      exact ⟨_, _, rfl, rfl, hf⟩
    · rw [if_neg e, if_neg e]
      exact hc.done k (by omega) f hf'
  · rw [List.getElem?_set_ne (by omega), List.getElem?_set_ne (by omega)]
    exact hc.rest k (by omega) hk16
set_option maxRecDepth 10000 in
theorem clone_c (m : Me W h (L :: R)) (hv : QuV W b q L) (hq : QOk q) : Runs Tryd.prog 43 #[.pointer (some ⟨b, 0, none⟩)] h fun v h' =>
    ∃ W' b' L', W.le W' ∧ v = .pointer (some ⟨b', 0, none⟩) ∧ QuV W' b' q L' ∧ Me W' h' (L' :: L :: R) := by
  have hv0 := hv
  have hcnt := hq.cnt
  have hls := hq.lens
  have ecn : q.cnt = cntL q.fl := rfl
  obtain ⟨css, Es, fa, fc, ea, ec, Ef, Ee, T, hc, of, oe, hL⟩ := hv
  have hck : (ck (q3 q) css (q4 q fa fc ea ec)).length = 135 := by rw [ck_len hc.n8, hc.n1]; rfl
  have hrow : row h b 0 135 = some (ck (q3 q) css (q4 q fa fc ea ec)) := by
    have m' := m
    rw [hL] at m'
    exact m'.split.row 0 rfl (by rw [List.drop_zero, List.take_of_length_le (by omega)]) (by omega)
  refine vc_fq_Queue_Clone _ _ _ ⟨_, hrow, ?_⟩
  intro b1 h1 e1 e2
  replace m := m.push e2 e1
  clear e1 e2
  obtain ⟨zs, T1, hz, m⟩ : ∃ (zs : List Value) (T1 : TypeId), zs.length = 135 ∧ Me W h1 ([(b1, zs, T1)] :: L :: R) := ⟨_, _, rfl, m⟩
  refine ⟨⟨hck, m.wrs 0 rfl (by omega), q_one hc hq⟩, ?_⟩
  intro h2 e3
  replace m := m.setr 0 rfl e3
  clear e3
  simp only [List.set_cons_zero] at m
  rw [setL_all (by rw [hck, hz])] at m
  clear hz hrow hck zs
  -- both lists
  have rdF : ∀ {W1 : Wd} {h1 : Heap} {R1 : List Grp}, Me W1 h1 (L :: R1) → cell h1 b 131 = some (.slice fa q.fresh.length fc) ∧ src h1 fa q.fresh.length (ints .i64 q.fresh) ∧ cell h1 b 132 = some (.slice ea q.elder.length ec) ∧ src h1 ea q.elder.length (ints .i64 q.elder) := fun m => by
    rw [hL] at m
    have m2 := m.split
    have m3 := (m2.focus 1 rfl).split
    have m4 := (m3.focus 1 rfl).split
    exact ⟨m2.pget 0 rfl hc.n8 hc.n1 0 rfl rfl, of.src1 m3 0 rfl, m2.pget 0 rfl hc.n8 hc.n1 1 rfl rfl, oe.src1 m4 0 rfl⟩
  obtain ⟨r1, r2, r3, r4⟩ := rdF (m.focus 1 rfl)
  refine ⟨_, _, _, r1, _, _, _, r3, ?_⟩
  refine (clone_int_c r2 (by simp [ints]) ints_one (by omega)).mono ?_
  rintro _ h3 ⟨fa', fc', Ef', rfl, mk, of'⟩
  replace m := m.beside mk
  clear mk r1 r2 r3 r4
  simp only [List.cons_append, List.nil_append] at m
  obtain ⟨r1, r2, r3, r4⟩ := rdF (m.focus 2 rfl)
  refine ⟨_, _, _, rfl, r3, ?_⟩
  refine (clone_int_c r4 (by simp [ints]) ints_one (by omega)).mono ?_
  rintro _ h4 ⟨ea', ec', Ee', rfl, mk, oe'⟩
  replace m := m.beside mk
  clear mk r1 r2 r3 r4 rdF
  simp only [List.cons_append, List.nil_append] at m
  refine ⟨_, _, _, rfl, ?_⟩
  refine m.pset 2 rfl hc.n8 hc.n1 0 rfl (Nat.le_of_ble_eq_true rfl) fun h5 m5 => ?_
  clear m
  refine m5.pset 2 rfl hc.n8 hc.n1 1 rfl (Nat.le_of_ble_eq_true rfl) fun h6 m => ?_
  clear m5
  simp only [List.set_cons_zero, List.set_cons_succ] at m
  have hp4 : ((q4 q fa fc ea ec).set 0 (.slice fa' q.fresh.length fc')).set 1 (.slice ea' q.elder.length ec') = q4 q fa' fc' ea' ec' := rfl
  rw [hp4] at m
  have hnil : (List.replicate 16 ([] : Grp)).flatten = [] := rfl
  have m0 : Me W h6 ([(b1, ck (q3 q) css (q4 q fa' fc' ea' ec'), T1)] :: (List.replicate 16 ([] : Grp)).flatten :: Ee' :: Ef' :: L :: R) := (((m.focus 2 rfl).nilI.perm (G' := _ :: [] :: Ee' :: Ef' :: L :: R) (by simp)))
  clear m
  refine ⟨fun x h' => ∃ (j : Nat) (W1 : Wd) (css1 : List (List Value)) (Es1 : List Grp), x = j ∧ j ≤ 16 ∧ W.le W1 ∧ Cp W1 q css css1 Es1 j ∧ Me W1 h' ([(b1, ck (q3 q) css1 (q4 q fa' fc' ea' ec'), T1)] :: Es1.flatten :: Ee' :: Ef' :: L :: R), fun x _ => (16 - x).toNat,
    ⟨0, W, css, List.replicate 16 [], rfl, by omega, Wd.le.refl _, ⟨hc.n1, rfl, hc.n8, fun k hk => absurd hk (by omega), fun k _ hk => ⟨rfl, by rw [List.getElem?_replicate, if_pos hk]⟩⟩, m0⟩, fun _ => ?_⟩
  clear m0 hnil hp4
  rintro _ h7 ⟨j, W1, css1, Es1, rfl, hj, hle, hcp, m⟩
  refine dcase_intro (fun q1 => ?_) fun q1 => ?_
  · have hj1 : j < 16 := by omega
    have hfl := flow_at hq hj1
    have hfo := (hq.flow (k := (j : Int)) (by omega) (by omega)).2
    have hbd := cntL_ge hfl
    obtain ⟨cs0, E0, hcs0, hE0, a, c, vf, rfl, o0, hsf⟩ := hc.f j _ hfl
    obtain ⟨hr1, hr2⟩ := hcp.rest j (Nat.le_refl _) hj1
    rw [hcs0] at hr1
    have hn := hcp.n8
    have hN := hcp.n1
    have hk : (j : Int).toNat < css1.length := by omega
    have hcs1 : css1 = css1.set (j : Int).toNat (.slice a (q.flow (j : Int)).l.length c :: .int .i64 (bytP (q.flow (j : Int)).l) :: .int .i64 (q.flow (j : Int)).deficit :: cV (q.flow (j : Int)).c) := by
      apply List.ext_getElem?
      intro i
      rw [List.getElem?_set]
      split
      · rename_i e; subst e; exact hr1
      · rfl
    have m1 : Me W1 h7 ([(b1, ck (q3 q) css1 (q4 q fa' fc' ea' ec'), T1)] :: [] :: (Es1.eraseIdx j).flatten :: Ee' :: Ef' :: L :: R) := ((m.focus 1 rfl).pick j hr2).perm (by simp)
    rw [hcs1] at m1
    clear m
    have m := m1
    clear m1
    refine ⟨⟨by omega, by omega⟩, ?_⟩
    refine ⟨_, _, _, m.fget 0 rfl hn hk rfl 0 rfl rfl, ?_⟩
    refine ⟨⟨by omega, by omega⟩, ?_⟩
    (refine m.fset 0 rfl hn hk rfl 0 rfl rfl ?_; clear m; intro _ m; simp only [List.set_cons_zero, List.set_cons_succ] at m)
    refine ⟨fun x h' => ∃ (i : Nat) (W2 : Wd) (a2 : Option Addr) (c2 : Nat) (vs : List Value) (E2 : Grp), x = i ∧ i ≤ (q.flow (j : Int)).l.length ∧ W1.le W2 ∧ Ow a2 i c2 5 vs E2 ∧ Sq (PkV W2) ((q.flow (j : Int)).l.take i) vs ∧
        Me W2 h' ([(b1, ck (q3 q) (css1.set (j : Int).toNat (.slice a2 i c2 :: .int .i64 (bytP (q.flow (j : Int)).l) :: .int .i64 (q.flow (j : Int)).deficit :: cV (q.flow (j : Int)).c)) (q4 q fa' fc' ea' ec'), T1)] :: E2 :: (Es1.eraseIdx j).flatten :: Ee' :: Ef' :: L :: R),
      fun x _ => (((q.flow (j : Int)).l.length : Int) - x).toNat, ⟨0, W1, none, 0, [], [], rfl, by omega, Wd.le.refl _, Ow.nil, rfl, m⟩, fun _ => ?_⟩
    clear m
    rintro _ h9 ⟨i, W2, a2, c2, vs, E2, rfl, hi, hle2, o2, hs2, m⟩
    refine dcase_intro (fun q2 => ?_) fun q2 => ?_
    · obtain ⟨x, hx⟩ : ∃ x, (q.flow (j : Int)).l[i]? = some x := ⟨_, List.getElem?_eq_getElem (by omega)⟩
      obtain ⟨cs, hcv, hrow, hrl⟩ := hsf.get (fun _ _ => PkV.len) hx
      have mL := m.focus 5 rfl
      rw [hL] at mL
      obtain ⟨sb, so, rfl, hr⟩ := src_part (k := i * 5) (n := 5) (srcQ (c := c) hE0 o0 mL) hrl (by decide) hrow
      clear mL
      refine ⟨⟨by omega, by omega⟩, _, hr, ?_⟩
      (intro bN hN1 eN1 eN2; replace m := m.push eN2 eN1; clear eN1 eN2)
      obtain ⟨pa, pc, rfl, hbt⟩ := hcv
      refine ⟨⟨rfl, m.wrsb 0 rfl rfl, by simp [Value.oneCell']⟩, ?_⟩
      intro h11 e3
      replace m := m.setr 0 rfl e3
      clear e3
      simp only [List.set_cons_zero, List.set_cons_succ, setL] at m
      refine ⟨⟨by omega, by omega⟩, ?_⟩
      refine ⟨_, _, _, m.fget 1 rfl hn hk rfl 0 rfl rfl, ?_⟩
      have hle5 := (hfo.p x (List.mem_of_getElem? hx)).2.2
      refine ⟨_, m.rowb 0 rfl rfl rfl, (own_m m.drop1 (p := x) ⟨pa, pc, rfl, hbt.le (hle.trans hle2)⟩ (by omega)).mono ?_⟩
      rintro _ h12 ⟨W3, ds, hle4, rfl, hds, m5⟩
      clear m
      have m := m5
      clear m5
      refine ⟨_, rfl, m.fget 0 rfl hn hk rfl 0 rfl rfl, hds.len, ?_⟩
      refine o2.app1 m 1 rfl (by simp [hds.len]) (by simpa using hds.one) (by omega) (by decide) fun a3 c3 E3 h14 m' o3 => ?_
      clear m
      have m := m'
      clear m'
      rw [List.append_nil] at o3
      simp only [List.set_cons_zero, List.set_cons_succ] at m
      refine ⟨⟨by omega, by omega⟩, ?_⟩
      (refine m.fset 0 rfl hn hk rfl 0 rfl rfl ?_; clear m; intro _ m; simp only [List.set_cons_zero, List.set_cons_succ] at m)
      refine ⟨by simp only [fits]; omega, ⟨i + 1, W3, a3, c3, _, E3, by omega, by omega, hle2.trans hle4, o3, ?_, m⟩, by dsimp only; omega⟩
      rw [← take_snoc hx]
      exact (hs2.mono fun _ _ h => h.le hle4).snoc hds
    · obtain rfl : i = (q.flow (j : Int)).l.length := by omega
      rw [List.take_length] at hs2
      refine ⟨by simp only [fits]; omega, ⟨j + 1, W2, _, _, by omega, by omega, hle.trans hle2, (hcp.le hle2).step hq hj1 (cs := _) (E := E2) ⟨a2, c2, vs, rfl, o2, hs2⟩ rfl, ?_⟩, by dsimp only; omega⟩
      exact (Me.unpick j hr2 ((m.focus 2 rfl).focus 2 rfl)).focus 1 rfl
  · obtain rfl : j = 16 := by omega
    have hc2 : QuC W1 q css1 Es1 := ⟨hcp.n1, hcp.n2, fun k f hf => hcp.done k (by have := (List.getElem?_eq_some_iff.1 hf).1; rw [hq.len] at this; exact this) f hf, hcp.n8⟩
    refine ⟨W1, b1, _, hle, rfl, ⟨css1, Es1, fa', fc', ea', ec', Ef', Ee', T1, hc2, of', oe', rfl⟩, m.perm ?_⟩
    simp only [List.flatten_cons, List.append_assoc]
    exact (perm3 _ _ _ _).append_left _
end
end Go.Proofs.YtpcilleldanfmaaDoor
