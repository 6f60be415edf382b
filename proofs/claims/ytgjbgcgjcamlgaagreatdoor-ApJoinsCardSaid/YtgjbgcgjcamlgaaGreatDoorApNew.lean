/- ApNew: a configuration that may be is taken, one whose one number is out of its range is told. -/
import Derived.Test.YtgjbgcgjcamlgaaGreatDoorJoin3
import Derived.Test.YtgjbgcgjcamlgaaGreatDoorDoor
import Derived.Test.YtgjbgcgjcamlgaaGreatDoorGenLApNew
set_option linter.unusedVariables false
set_option linter.unusedSimpArgs false
set_option maxRecDepth 8000
namespace Go.Proofs.YtgjbgcgjcamlgaaGreatDoor
open Go.Vc
section
variable {W W' : Wd} {h h' : Heap} {G : List Grp} {E : Grp} {ads : List Addr} {n k i j b o : Nat} {vs us cs : List Value} {x : Ap} {v : Value} {tm : List On} {T : TypeId} {l : List Int} {q : On} {ss : List Sc} {c : Cf}
theorem me_dropA {A : List Grp} (m : Me W h (A ++ G)) : Me W h G := m.sub ⟨A.flatten, by rw [List.flatten_append]; exact List.perm_append_comm⟩
/-- An access point is made, whatever becomes of its queues. -/
theorem apNew_c (s : Snt W ads) (m : Me W h G) (h6 : c.bss.length = 6) (h4 : c.tx.length = 4) :
    Runs Tryz.prog 8 #[.agg (cfC c).toArray] h fun v h' => (CfOk c ∧ NewV W G (fun _ E => E = []) c v h') ∨ (¬ CfOk c ∧ v = .tuple #[.pointer none, erV ads (some 2)] ∧ Me W h' G) :=
  new_c s m (fun _ E => E = []) h6 h4 fun m => by
    by_cases hp : okPool c.pk c.bt
    · refine (poolNew_c m hp).mono ?_
      rintro _ h' ⟨p, E, rfl, m', hE⟩
      exact .inl ⟨hp, p, E, rfl, m', hE⟩
    · refine (poolNew_no s m hp).mono ?_
      rintro _ h' ⟨rfl, rfl⟩
      exact .inr ⟨hp, rfl, rfl⟩
def nobody : List On := List.replicate 16 on0
theorem nobody_w : TbW nobody := ⟨rfl, fun o ho => by rw [List.eq_of_mem_replicate ho]; rfl⟩
theorem nobody_all : allL nobody 0 = [] := by decide
theorem nobody_c : List.replicate 16 one8 = nobody.map onC := rfl
theorem first26_c (s : Snt W ads) (m : Me W h G) : Runs Tryz.prog 5 #[] h fun v h' => v = .bool true ∧ ∃ W', W.le W' ∧ Me W' h' G := by
  refine vc_muezzinlaw26_first _ _ ?_
  refine (config_c m 0).mono ?_
  rintro _ h1 ⟨c, rfl, hok, hbss, h4, m⟩
  have h6 : c.bss.length = 6 := by rw [hbss]; rfl
  refine ⟨_, rfl, (apNew_c s m h6 h4).mono ?_⟩
  rintro _ h2 (⟨-, b, p, bl, E, ss, rfl, -, hss, hsl, m⟩ | ⟨hno, -, -⟩)
  rotate_left
  · exact absurd hok hno
  obtain ⟨x, hx⟩ : ∃ x, x = ap0 c p bl (ss.map fun s => .pointer (some ⟨s.b, 0, none⟩)) := ⟨_, rfl⟩
  rw [← hx] at m
  have w : ApW x := by rw [hx]; exact ap0_w h6 h4 (by rw [List.length_map]; exact hss)
  have ht : x.tb = nobody.map onC := by rw [hx]; exact nobody_c
  have hts : x.ts = ss.map fun s => .pointer (some ⟨s.b, 0, none⟩) := by rw [hx]; rfl
  have hcc : x.cc = cfC c := by rw [hx]; rfl
  have hpw : x.pw = List.replicate 16 one10 := by rw [hx]; rfl
  have hnow : x.now = 0 := by rw [hx]; rfl
  clear hx
  refine ⟨_, _, rfl, bcase_false rfl ⟨true, rfl, bcase_false rfl ?_⟩⟩
  refine (send0_c w nobody_w ht (fun v hv => ?_) nobody_all 0 (by omega) m).mono ?_
  · rw [hts] at hv
    obtain ⟨s', -, rfl⟩ := List.mem_map.1 hv
    exact ⟨_, rfl⟩
  rintro _ h3 ⟨rfl, m⟩
  obtain ⟨y, hy⟩ : ∃ y : Ap, y = { x with now := 0 } := ⟨_, rfl⟩
  rw [← hy] at m
  have wy : ApW y := by rw [hy]; exact ⟨w.cc, w.t16, w.t8, w.p16, w.p10, w.mid, w.ts, w.ed, w.ls⟩
  have hty : y.tb = nobody.map onC := by rw [hy]; exact ht
  have htsy : y.ts = ss.map fun s => .pointer (some ⟨s.b, 0, none⟩) := by rw [hy]; exact hts
  have hccy : y.cc = cfC c := by rw [hy]; exact hcc
  have hpwy : y.pw = List.replicate 16 one10 := by rw [hy]; exact hpw
  clear hy
  refine ⟨tx0, false, rfl, ?_⟩
  intro b1 h4' e1 e2
  have m4 := m.push e2 e1
  refine ⟨⟨rfl, m4.wrsb 0 rfl rfl, tx0_one⟩, fun h5 e3 => ?_⟩
  have m5 := (m4.setr 0 rfl e3).drop1
  refine (addr_c m5 1 (by decide)).mono ?_
  rintro _ h6' ⟨rfl, m6⟩
  refine ⟨_, rfl, ?_⟩
  refine (join_c (l := addrL 1) (i := 0) (mode := 1) (weight := 1) (most := 0) (q := on0) (cs := one10) (c := c) wy nobody_w hty hccy h6 hok.b rfl (by decide) (by rw [hbss]; decide) (.inl rfl) (by decide) (by decide) (by decide) (by decide) (fun j q hj => absurd hj (Nat.not_lt_zero j)) rfl rfl (by decide) htsy hss (fun s hs => by rw [hsl s hs]; exact ⟨rfl, rfl⟩) (by rw [hpwy]; rfl) rfl m6).mono ?_
  rintro _ h7 ⟨rfl, W', bx, ps, s2, hle, -, -, -, -, m7⟩
  refine ⟨_, _, rfl, bcase_true rfl ⟨true, rfl, bcase_true rfl ⟨rfl, W', hle, ?_⟩⟩⟩
  exact (me_dropA m7.drop1).drop1.drop1
theorem cf_pk (h6 : c.bss.length = 6) (z : Int) : (cfC c).set 7 (.int .i64 z) = cfC { c with pk := z } := by
  obtain ⟨bss, seed, pk, bt, tg, iv, wn, rt, lf, ag, tx, st, al⟩ := c
  dsimp only at h6
  obtain ⟨x1, x2, x3, x4, x5, x6, rfl⟩ := six_of' h6
  rfl
theorem cf_bt (h6 : c.bss.length = 6) (z : Int) : (cfC c).set 8 (.int .i64 z) = cfC { c with bt := z } := by
  obtain ⟨bss, seed, pk, bt, tg, iv, wn, rt, lf, ag, tx, st, al⟩ := c
  dsimp only at h6
  obtain ⟨x1, x2, x3, x4, x5, x6, rfl⟩ := six_of' h6
  rfl
theorem cf_tg (h6 : c.bss.length = 6) (z : Int) : (cfC c).set 9 (.int .i64 z) = cfC { c with tg := z } := by
  obtain ⟨bss, seed, pk, bt, tg, iv, wn, rt, lf, ag, tx, st, al⟩ := c
  dsimp only at h6
  obtain ⟨x1, x2, x3, x4, x5, x6, rfl⟩ := six_of' h6
  rfl
theorem cf_iv (h6 : c.bss.length = 6) (z : Int) : (cfC c).set 10 (.int .i64 z) = cfC { c with iv := z } := by
  obtain ⟨bss, seed, pk, bt, tg, iv, wn, rt, lf, ag, tx, st, al⟩ := c
  dsimp only at h6
  obtain ⟨x1, x2, x3, x4, x5, x6, rfl⟩ := six_of' h6
  rfl
theorem cf_wn (h6 : c.bss.length = 6) (z : Int) : (cfC c).set 11 (.int .i64 z) = cfC { c with wn := z } := by
  obtain ⟨bss, seed, pk, bt, tg, iv, wn, rt, lf, ag, tx, st, al⟩ := c
  dsimp only at h6
  obtain ⟨x1, x2, x3, x4, x5, x6, rfl⟩ := six_of' h6
  rfl
theorem cf_rt (h6 : c.bss.length = 6) (z : Int) : (cfC c).set 12 (.int .i64 z) = cfC { c with rt := z } := by
  obtain ⟨bss, seed, pk, bt, tg, iv, wn, rt, lf, ag, tx, st, al⟩ := c
  dsimp only at h6
  obtain ⟨x1, x2, x3, x4, x5, x6, rfl⟩ := six_of' h6
  rfl
theorem cf_lf (h6 : c.bss.length = 6) (z : Int) : (cfC c).set 13 (.int .i64 z) = cfC { c with lf := z } := by
  obtain ⟨bss, seed, pk, bt, tg, iv, wn, rt, lf, ag, tx, st, al⟩ := c
  dsimp only at h6
  obtain ⟨x1, x2, x3, x4, x5, x6, rfl⟩ := six_of' h6
  rfl
theorem cf_ag (h6 : c.bss.length = 6) (z : Int) : (cfC c).set 14 (.int .i64 z) = cfC { c with ag := z } := by
  obtain ⟨bss, seed, pk, bt, tg, iv, wn, rt, lf, ag, tx, st, al⟩ := c
  dsimp only at h6
  obtain ⟨x1, x2, x3, x4, x5, x6, rfl⟩ := six_of' h6
  rfl
theorem cf_al (h6 : c.bss.length = 6) (h4 : c.tx.length = 4) (z : Int) : (cfC c).set 20 (.int .i64 z) = cfC { c with al := z } := by
  obtain ⟨bss, seed, pk, bt, tg, iv, wn, rt, lf, ag, tx, st, al⟩ := c
  dsimp only at h6 h4
  obtain ⟨x1, x2, x3, x4, x5, x6, rfl⟩ := six_of' h6
  obtain ⟨t1, t2, t3, t4, rfl⟩ := four_of h4
  rfl
theorem cf_tx (h6 : c.bss.length = 6) (h4 : c.tx.length = 4) (k : Nat) (z : Int) (hk : k < 4) : (cfC c).set (15 + k) (.int .i64 z) = cfC { c with tx := c.tx.set k z } := by
  obtain ⟨bss, seed, pk, bt, tg, iv, wn, rt, lf, ag, tx, st, al⟩ := c
  dsimp only at h6 h4
  obtain ⟨x1, x2, x3, x4, x5, x6, rfl⟩ := six_of' h6
  obtain ⟨t1, t2, t3, t4, rfl⟩ := four_of h4
  have : k = 0 ∨ k = 1 ∨ k = 2 ∨ k = 3 := by omega
  rcases this with rfl | rfl | rfl | rfl <;> rfl
theorem cf_bss (h6 : c.bss.length = 6) {l : List Int} (hl : l.length = 6) : setL (cfC c) 0 (ints .u8 l) = cfC { c with bss := l } := by
  obtain ⟨bss, seed, pk, bt, tg, iv, wn, rt, lf, ag, tx, st, al⟩ := c
  dsimp only at h6
  obtain ⟨x1, x2, x3, x4, x5, x6, rfl⟩ := six_of' h6
  obtain ⟨y1, y2, y3, y4, y5, y6, rfl⟩ := six_of' hl
  rfl
/-- A configuration lies there that may not be. -/
def BadV (W : Wd) (b : Nat) (G : List Grp) (h : Heap) : Prop := ∃ c : Cf, ¬ CfOk c ∧ c.bss.length = 6 ∧ c.tx.length = 4 ∧ Me W h ([(b, cfC c, 28)] :: G)
theorem apnew_r (n which far : Int) (s : Snt W ads) (m : Me W h []) :
    Runs Tryz.prog 3 #[.int .i64 n, .int .i64 which, .int .i64 far] h fun v h' => v = .bool true ∧ ∃ W', W.le W' ∧ Me W' h' [] := by
  refine vc_muezzinlaw26_ApNew _ _ _ _ _ ?_
  refine (first26_c s m).mono ?_
  rintro _ h1 ⟨rfl, W1, hle1, m⟩
  have s1 := s.le hle1
  refine ⟨true, rfl, bcase_false rfl ((config_c m n).mono ?_)⟩
  rintro _ h2 ⟨c, rfl, hok, hbss, h4, m⟩
  have h6 : c.bss.length = 6 := by rw [hbss]; rfl
  have hcl : (cfC c).length = 21 := by simp [cfC, ints, h6, h4]
  refine ⟨_, rfl, ?_⟩
  intro b1 h3 e1 e2
  replace m := m.push e2 e1
  refine ⟨⟨hcl, m.wrsb 0 rfl rfl, cfC_one c⟩, fun h4' e3 => ?_⟩
  replace m := me_setAll (us := cfC c) m (by rw [hcl]; rfl) e3
  refine (number_c _ _ _ (by decide) (by decide)).ret ⟨_, rfl, cfC c, m.row 0 rfl (by rw [List.drop_zero]; exact List.take_of_length_le (by omega)) (by omega), ?_⟩
  obtain ⟨f, hf⟩ : ∃ f, f = far % 3 := ⟨_, rfl⟩
  have hf3 : f = 0 ∨ f = 1 ∨ f = 2 := by omega
  rw [← hf]
  refine (apNew_c s1 m h6 h4).mono ?_
  rintro _ h5 (⟨-, b, p, bl, E, ss, rfl, -, hss, hsl, m⟩ | ⟨hno, -, -⟩)
  rotate_left
  · exact absurd hok hno
  replace m := (me_dropA m.drop1).drop1.drop1
  refine ⟨_, _, rfl, BadV W1 b1 [], (number_c _ _ _ (by decide) (by decide)).ret ⟨_, rfl, ?_⟩, fun _ => ?_⟩
  · refine dcase_intro (fun q0 => ?_) fun q0 => dcase_intro (fun q1 => ?_) fun q1 => dcase_intro (fun q2 => ?_) fun q2 => dcase_intro (fun q3 => ?_) fun q3 => dcase_intro (fun q4 => ?_) fun q4 => dcase_intro (fun q5 => ?_) fun q5 => dcase_intro (fun q6 => ?_) fun q6 => dcase_intro (fun q7 => ?_) fun q7 => dcase_intro (fun q8 => ?_) fun q8 => dcase_intro (fun q9 => ?_) fun q9 => ?_
    · intro b2 h8 f1 f2
      replace m := m.push f2 f1
      refine ⟨by rcases hf3 with rfl | rfl | rfl <;> decide, ?_⟩
      rcases hf3 with rfl | rfl | rfl
      · refine ⟨_, m.cell 0 rfl rfl, ?_⟩
        refine m.store 1 rfl (by omega) fun h9 m => ?_
        simp only [List.set_cons_zero, List.set_cons_succ] at m
        rw [cf_pk h6] at m
        exact ⟨{ c with pk := 0 }, (fun hk => by
          have := hk.p; unfold okPool at this
          dsimp only at this
          omega), h6, h4, m.drop1⟩
      · refine ⟨_, m.cell 0 rfl rfl, ?_⟩
        refine m.store 1 rfl (by omega) fun h9 m => ?_
        simp only [List.set_cons_zero, List.set_cons_succ] at m
        rw [cf_pk h6] at m
        exact ⟨{ c with pk := 513 }, (fun hk => by
          have := hk.p; unfold okPool at this
          dsimp only at this
          omega), h6, h4, m.drop1⟩
      · refine ⟨_, m.cell 0 rfl rfl, ?_⟩
        refine m.store 1 rfl (by omega) fun h9 m => ?_
        simp only [List.set_cons_zero, List.set_cons_succ] at m
        rw [cf_pk h6] at m
        exact ⟨{ c with pk := -1 }, (fun hk => by
          have := hk.p; unfold okPool at this
          dsimp only at this
          omega), h6, h4, m.drop1⟩
    · intro b2 h8 f1 f2
      replace m := m.push f2 f1
      refine ⟨by rcases hf3 with rfl | rfl | rfl <;> decide, ?_⟩
      rcases hf3 with rfl | rfl | rfl
      · refine ⟨_, m.cell 0 rfl rfl, ?_⟩
        refine m.store 1 rfl (by omega) fun h9 m => ?_
        simp only [List.set_cons_zero, List.set_cons_succ] at m
        rw [cf_bt h6] at m
        exact ⟨{ c with bt := 0 }, (fun hk => by
          have := hk.p; unfold okPool at this
          dsimp only at this
          omega), h6, h4, m.drop1⟩
      · refine ⟨_, m.cell 0 rfl rfl, ?_⟩
        refine m.store 1 rfl (by omega) fun h9 m => ?_
        simp only [List.set_cons_zero, List.set_cons_succ] at m
        rw [cf_bt h6] at m
        exact ⟨{ c with bt := 1048577 }, (fun hk => by
          have := hk.p; unfold okPool at this
          dsimp only at this
          omega), h6, h4, m.drop1⟩
      · refine ⟨_, m.cell 0 rfl rfl, ?_⟩
        refine m.store 1 rfl (by omega) fun h9 m => ?_
        simp only [List.set_cons_zero, List.set_cons_succ] at m
        rw [cf_bt h6] at m
        exact ⟨{ c with bt := -1 }, (fun hk => by
          have := hk.p; unfold okPool at this
          dsimp only at this
          omega), h6, h4, m.drop1⟩
    · intro b2 h8 f1 f2
      replace m := m.push f2 f1
      refine ⟨by rcases hf3 with rfl | rfl | rfl <;> decide, ?_⟩
      rcases hf3 with rfl | rfl | rfl
      · refine ⟨_, m.cell 0 rfl rfl, ?_⟩
        refine m.store 1 rfl (by omega) fun h9 m => ?_
        simp only [List.set_cons_zero, List.set_cons_succ] at m
        rw [cf_tg h6] at m
        exact ⟨{ c with tg := -1 }, (fun hk => by
          have := hk.n; unfold okNum at this
          dsimp only at this
          omega), h6, h4, m.drop1⟩
      · refine ⟨_, m.cell 0 rfl rfl, ?_⟩
        refine m.store 1 rfl (by omega) fun h9 m => ?_
        simp only [List.set_cons_zero, List.set_cons_succ] at m
        rw [cf_tg h6] at m
        exact ⟨{ c with tg := 1073741825 }, (fun hk => by
          have := hk.n; unfold okNum at this
          dsimp only at this
          omega), h6, h4, m.drop1⟩
      · refine ⟨_, m.cell 0 rfl rfl, ?_⟩
        refine m.store 1 rfl (by omega) fun h9 m => ?_
        simp only [List.set_cons_zero, List.set_cons_succ] at m
        rw [cf_tg h6] at m
        exact ⟨{ c with tg := -5 }, (fun hk => by
          have := hk.n; unfold okNum at this
          dsimp only at this
          omega), h6, h4, m.drop1⟩
    · intro b2 h8 f1 f2
      replace m := m.push f2 f1
      refine ⟨by rcases hf3 with rfl | rfl | rfl <;> decide, ?_⟩
      rcases hf3 with rfl | rfl | rfl
      · refine ⟨_, m.cell 0 rfl rfl, ?_⟩
        refine m.store 1 rfl (by omega) fun h9 m => ?_
        simp only [List.set_cons_zero, List.set_cons_succ] at m
        rw [cf_iv h6] at m
        exact ⟨{ c with iv := -1 }, (fun hk => by
          have := hk.n; unfold okNum at this
          dsimp only at this
          omega), h6, h4, m.drop1⟩
      · refine ⟨_, m.cell 0 rfl rfl, ?_⟩
        refine m.store 1 rfl (by omega) fun h9 m => ?_
        simp only [List.set_cons_zero, List.set_cons_succ] at m
        rw [cf_iv h6] at m
        exact ⟨{ c with iv := 1073741825 }, (fun hk => by
          have := hk.n; unfold okNum at this
          dsimp only at this
          omega), h6, h4, m.drop1⟩
      · refine ⟨_, m.cell 0 rfl rfl, ?_⟩
        refine m.store 1 rfl (by omega) fun h9 m => ?_
        simp only [List.set_cons_zero, List.set_cons_succ] at m
        rw [cf_iv h6] at m
        exact ⟨{ c with iv := -5 }, (fun hk => by
          have := hk.n; unfold okNum at this
          dsimp only at this
          omega), h6, h4, m.drop1⟩
    · intro b2 h8 f1 f2
      replace m := m.push f2 f1
      refine ⟨by rcases hf3 with rfl | rfl | rfl <;> decide, ?_⟩
      rcases hf3 with rfl | rfl | rfl
      · refine ⟨_, m.cell 0 rfl rfl, ?_⟩
        refine m.store 1 rfl (by omega) fun h9 m => ?_
        simp only [List.set_cons_zero, List.set_cons_succ] at m
        rw [cf_wn h6] at m
        exact ⟨{ c with wn := 0 }, (fun hk => by
          have := hk.b; unfold okBa at this
          dsimp only at this
          omega), h6, h4, m.drop1⟩
      · refine ⟨_, m.cell 0 rfl rfl, ?_⟩
        refine m.store 1 rfl (by omega) fun h9 m => ?_
        simp only [List.set_cons_zero, List.set_cons_succ] at m
        rw [cf_wn h6] at m
        exact ⟨{ c with wn := 65 }, (fun hk => by
          have := hk.b; unfold okBa at this
          dsimp only at this
          omega), h6, h4, m.drop1⟩
      · refine ⟨_, m.cell 0 rfl rfl, ?_⟩
        refine m.store 1 rfl (by omega) fun h9 m => ?_
        simp only [List.set_cons_zero, List.set_cons_succ] at m
        rw [cf_wn h6] at m
        exact ⟨{ c with wn := -1 }, (fun hk => by
          have := hk.b; unfold okBa at this
          dsimp only at this
          omega), h6, h4, m.drop1⟩
    · intro b2 h8 f1 f2
      replace m := m.push f2 f1
      refine ⟨by rcases hf3 with rfl | rfl | rfl <;> decide, ?_⟩
      rcases hf3 with rfl | rfl | rfl
      · refine ⟨_, m.cell 0 rfl rfl, ?_⟩
        refine m.store 1 rfl (by omega) fun h9 m => ?_
        simp only [List.set_cons_zero, List.set_cons_succ] at m
        rw [cf_rt h6] at m
        exact ⟨{ c with rt := -1 }, (fun hk => by
          have := hk.b; unfold okBa at this
          dsimp only at this
          omega), h6, h4, m.drop1⟩
      · refine ⟨_, m.cell 0 rfl rfl, ?_⟩
        refine m.store 1 rfl (by omega) fun h9 m => ?_
        simp only [List.set_cons_zero, List.set_cons_succ] at m
        rw [cf_rt h6] at m
        exact ⟨{ c with rt := 16 }, (fun hk => by
          have := hk.b; unfold okBa at this
          dsimp only at this
          omega), h6, h4, m.drop1⟩
      · refine ⟨_, m.cell 0 rfl rfl, ?_⟩
        refine m.store 1 rfl (by omega) fun h9 m => ?_
        simp only [List.set_cons_zero, List.set_cons_succ] at m
        rw [cf_rt h6] at m
        exact ⟨{ c with rt := -9 }, (fun hk => by
          have := hk.b; unfold okBa at this
          dsimp only at this
          omega), h6, h4, m.drop1⟩
    · intro b2 h8 f1 f2
      replace m := m.push f2 f1
      refine ⟨by rcases hf3 with rfl | rfl | rfl <;> decide, ?_⟩
      rcases hf3 with rfl | rfl | rfl
      · refine ⟨_, m.cell 0 rfl rfl, ?_⟩
        refine m.store 1 rfl (by omega) fun h9 m => ?_
        simp only [List.set_cons_zero, List.set_cons_succ] at m
        rw [cf_lf h6] at m
        exact ⟨{ c with lf := 0 }, (fun hk => by
          have := hk.b; unfold okBa at this
          dsimp only at this
          omega), h6, h4, m.drop1⟩
      · refine ⟨_, m.cell 0 rfl rfl, ?_⟩
        refine m.store 1 rfl (by omega) fun h9 m => ?_
        simp only [List.set_cons_zero, List.set_cons_succ] at m
        rw [cf_lf h6] at m
        exact ⟨{ c with lf := 1099511627777 }, (fun hk => by
          have := hk.b; unfold okBa at this
          dsimp only at this
          omega), h6, h4, m.drop1⟩
      · refine ⟨_, m.cell 0 rfl rfl, ?_⟩
        refine m.store 1 rfl (by omega) fun h9 m => ?_
        simp only [List.set_cons_zero, List.set_cons_succ] at m
        rw [cf_lf h6] at m
        exact ⟨{ c with lf := -1 }, (fun hk => by
          have := hk.b; unfold okBa at this
          dsimp only at this
          omega), h6, h4, m.drop1⟩
    · intro b2 h8 f1 f2
      replace m := m.push f2 f1
      refine ⟨by rcases hf3 with rfl | rfl | rfl <;> decide, ?_⟩
      rcases hf3 with rfl | rfl | rfl
      · refine ⟨_, m.cell 0 rfl rfl, ?_⟩
        refine m.store 1 rfl (by omega) fun h9 m => ?_
        simp only [List.set_cons_zero, List.set_cons_succ] at m
        rw [cf_ag h6] at m
        exact ⟨{ c with ag := 0 }, (fun hk => by
          have := hk.n; unfold okNum at this
          dsimp only at this
          omega), h6, h4, m.drop1⟩
      · refine ⟨_, m.cell 0 rfl rfl, ?_⟩
        refine m.store 1 rfl (by omega) fun h9 m => ?_
        simp only [List.set_cons_zero, List.set_cons_succ] at m
        rw [cf_ag h6] at m
        exact ⟨{ c with ag := 65536 }, (fun hk => by
          have := hk.n; unfold okNum at this
          dsimp only at this
          omega), h6, h4, m.drop1⟩
      · refine ⟨_, m.cell 0 rfl rfl, ?_⟩
        refine m.store 1 rfl (by omega) fun h9 m => ?_
        simp only [List.set_cons_zero, List.set_cons_succ] at m
        rw [cf_ag h6] at m
        exact ⟨{ c with ag := -1 }, (fun hk => by
          have := hk.n; unfold okNum at this
          dsimp only at this
          omega), h6, h4, m.drop1⟩
    · intro b2 h8 f1 f2
      replace m := m.push f2 f1
      refine ⟨by rcases hf3 with rfl | rfl | rfl <;> decide, ?_⟩
      rcases hf3 with rfl | rfl | rfl
      · refine ⟨_, m.cell 0 rfl rfl, by decide, ?_⟩
        refine m.store 1 rfl (by show 15 + 0 < (cfC c).length; omega) fun h9 m => ?_
        simp only [List.set_cons_zero, List.set_cons_succ] at m
        rw [show 15 + Int.toNat 0 = 15 + 0 from rfl, cf_tx h6 h4 0 _ (by decide)] at m
        exact ⟨{ c with tx := c.tx.set 0 (-1) }, (fun hk => by
          have h7 : (-1 : Int) ∈ c.tx.set 0 (-1) := List.mem_of_getElem? (i := 0) (by rw [List.getElem?_set_self (by omega)])
          have := hk.t _ h7
          omega), h6, by show (c.tx.set 0 _).length = 4; rw [List.length_set]; exact h4, m.drop1⟩
      · refine ⟨_, m.cell 0 rfl rfl, by decide, ?_⟩
        refine m.store 1 rfl (by show 15 + 1 < (cfC c).length; omega) fun h9 m => ?_
        simp only [List.set_cons_zero, List.set_cons_succ] at m
        rw [show 15 + Int.toNat 1 = 15 + 1 from rfl, cf_tx h6 h4 1 _ (by decide)] at m
        exact ⟨{ c with tx := c.tx.set 1 (54841) }, (fun hk => by
          have h7 : (54841 : Int) ∈ c.tx.set 1 (54841) := List.mem_of_getElem? (i := 1) (by rw [List.getElem?_set_self (by omega)])
          have := hk.t _ h7
          omega), h6, by show (c.tx.set 1 _).length = 4; rw [List.length_set]; exact h4, m.drop1⟩
      · refine ⟨_, m.cell 0 rfl rfl, by decide, ?_⟩
        refine m.store 1 rfl (by show 15 + 2 < (cfC c).length; omega) fun h9 m => ?_
        simp only [List.set_cons_zero, List.set_cons_succ] at m
        rw [show 15 + Int.toNat 2 = 15 + 2 from rfl, cf_tx h6 h4 2 _ (by decide)] at m
        exact ⟨{ c with tx := c.tx.set 2 (-7) }, (fun hk => by
          have h7 : (-7 : Int) ∈ c.tx.set 2 (-7) := List.mem_of_getElem? (i := 2) (by rw [List.getElem?_set_self (by omega)])
          have := hk.t _ h7
          omega), h6, by show (c.tx.set 2 _).length = 4; rw [List.length_set]; exact h4, m.drop1⟩
    · intro b2 h8 f1 f2
      replace m := m.push f2 f1
      refine ⟨by rcases hf3 with rfl | rfl | rfl <;> decide, ?_⟩
      rcases hf3 with rfl | rfl | rfl
      · refine ⟨_, m.cell 0 rfl rfl, ?_⟩
        refine m.store 1 rfl (by omega) fun h9 m => ?_
        simp only [List.set_cons_zero, List.set_cons_succ] at m
        rw [cf_al h6 h4] at m
        exact ⟨{ c with al := -1 }, (fun hk => by
          have := hk.a; unfold okAql at this
          dsimp only at this
          omega), h6, h4, m.drop1⟩
      · refine ⟨_, m.cell 0 rfl rfl, ?_⟩
        refine m.store 1 rfl (by omega) fun h9 m => ?_
        simp only [List.set_cons_zero, List.set_cons_succ] at m
        rw [cf_al h6 h4] at m
        exact ⟨{ c with al := 1099511627777 }, (fun hk => by
          have := hk.a; unfold okAql at this
          dsimp only at this
          omega), h6, h4, m.drop1⟩
      · refine ⟨_, m.cell 0 rfl rfl, ?_⟩
        refine m.store 1 rfl (by omega) fun h9 m => ?_
        simp only [List.set_cons_zero, List.set_cons_succ] at m
        rw [cf_al h6 h4] at m
        exact ⟨{ c with al := -7 }, (fun hk => by
          have := hk.a; unfold okAql at this
          dsimp only at this
          omega), h6, h4, m.drop1⟩
    · refine ⟨rfl, rfl, rfl, ?_⟩
      intro b2 h8 f1 f2
      replace m := m.push f2 f1
      refine ⟨by rcases hf3 with rfl | rfl | rfl <;> decide, ?_⟩
      rcases hf3 with rfl | rfl | rfl
      · refine ⟨ints .u8 [0, 0, 0, 0, 0, 0], m.row 0 rfl rfl (Nat.le_of_ble_eq_true rfl), ⟨rfl, m.wrs 1 rfl (by omega), ints_one⟩, fun h9 e9 => ?_⟩
        have m9 := m.setr 1 rfl e9
        simp only [List.set_cons_zero, List.set_cons_succ] at m9
        rw [cf_bss h6 rfl] at m9
        exact ⟨{ c with bss := [0, 0, 0, 0, 0, 0] }, fun hk => absurd hk.f (by show ¬ fairB [0, 0, 0, 0, 0, 0] = true; decide), rfl, h4, m9.drop1⟩
      · refine ⟨ints .u8 [1, 0, 0, 0, 0, 0], m.row 0 rfl rfl (Nat.le_of_ble_eq_true rfl), ⟨rfl, m.wrs 1 rfl (by omega), ints_one⟩, fun h9 e9 => ?_⟩
        have m9 := m.setr 1 rfl e9
        simp only [List.set_cons_zero, List.set_cons_succ] at m9
        rw [cf_bss h6 rfl] at m9
        exact ⟨{ c with bss := [1, 0, 0, 0, 0, 0] }, fun hk => absurd hk.f (by show ¬ fairB [1, 0, 0, 0, 0, 0] = true; decide), rfl, h4, m9.drop1⟩
      · refine ⟨ints .u8 [3, 4, 0, 0, 0, 0], m.row 0 rfl rfl (Nat.le_of_ble_eq_true rfl), ⟨rfl, m.wrs 1 rfl (by omega), ints_one⟩, fun h9 e9 => ?_⟩
        have m9 := m.setr 1 rfl e9
        simp only [List.set_cons_zero, List.set_cons_succ] at m9
        rw [cf_bss h6 rfl] at m9
        exact ⟨{ c with bss := [3, 4, 0, 0, 0, 0] }, fun hk => absurd hk.f (by show ¬ fairB [3, 4, 0, 0, 0, 0] = true; decide), rfl, h4, m9.drop1⟩
  · rintro h30 ⟨c', hno, h6', h4'', m⟩
    have hcl' : (cfC c').length = 21 := by simp [cfC, ints, h6', h4'']
    refine ⟨cfC c', m.row 0 rfl (by rw [List.drop_zero]; exact List.take_of_length_le (by omega)) (by omega), (apNew_c s1 m h6' h4'').mono ?_⟩
    rintro _ h31 (⟨hok', -⟩ | ⟨-, rfl, m⟩)
    · exact absurd hok' hno
    refine ⟨_, _, rfl, ?_⟩
    refine ⟨fun z h => z = true ∧ h = h31, bcase_true rfl ⟨rfl, rfl⟩, fun _ => ?_⟩
    rintro _ h31 ⟨rfl, rfl⟩
    refine ⟨fun z h => z = true ∧ h = h31, bcase_true rfl ⟨true, rfl, rfl, rfl⟩, fun _ => ?_⟩
    rintro _ h31 ⟨rfl, rfl⟩
    refine ⟨fun z h => z = true ∧ h = h31, bcase_true rfl ⟨rfl, rfl⟩, fun _ => ?_⟩
    rintro _ h31 ⟨rfl, rfl⟩
    refine bcase_true rfl ((is_c (e := some 2) s1 m (by decide) 103).mono ?_)
    rintro _ h32 ⟨rfl, m⟩
    exact ⟨_, rfl, rfl, W1, hle1, m.drop1⟩
end
theorem walk_ApNew (w : World) (hE : ∃ ads, Snt (Wd.of w.heap) ads) (a0 : Int) (w0 : (Lit.int .i64 a0).wf = true) (a1 : Int) (w1 : (Lit.int .i64 a1).wf = true) (a2 : Int) (w2 : (Lit.int .i64 a2).wf = true) :
    Calls Tryz.prog 3 #[.int .i64 a0, .int .i64 a1, .int .i64 a2] w fun e w' => e = .returned (.bool true) ∧ Go.RowKit.Below w.heap.size w w' := by
  obtain ⟨ads, s⟩ := hE
  refine calls_of_runs ((apnew_r a0 a1 a2 s (Me.start w.heap)).mono ?_)
  rintro v h' ⟨rfl, W', hle, m⟩
  exact ⟨rfl, m.kept hle⟩
end Go.Proofs.YtgjbgcgjcamlgaaGreatDoor
