/- RecvStrange, the law. -/
import Derived.Test.YthlacliefgliiaaDoorStrange
set_option linter.unusedVariables false
set_option linter.unusedSimpArgs false
set_option maxRecDepth 8000
namespace Go.Proofs.YthlacliefgliiaaDoor
open Go.Vc
theorem flip_at {f : Fm} {i : Nat} (hl : f.to.length = 6) (hi : i < 6) : (qosB f)[4 + i]? = f.to[i]? ∧ ∀ y, (qosB f).set (4 + i) y = qosB { f with to := f.to.set i y } := by
  obtain ⟨to, bss, fr, tid, sq, rt, mo, eo, body⟩ := f
  dsimp only at hl
  obtain ⟨x1, x2, x3, x4, x5, x6, rfl⟩ := six_of hl
  have : i = 0 ∨ i = 1 ∨ i = 2 ∨ i = 3 ∨ i = 4 ∨ i = 5 := by omega
  rcases this with rfl | rfl | rfl | rfl | rfl | rfl <;> exact ⟨rfl, fun y => rfl⟩
theorem flip_ne {x p : Nat} (hp : 0 < p) : x ^^^ p ≠ x := fun e => by
  have h := congrArg (fun z => x ^^^ z) e
  simp only [← Nat.xor_assoc, Nat.xor_self, Nat.zero_xor] at h
  omega
theorem ints_set {k : IntKind} {l : List Int} {i : Nat} {y : Int} : (ints k l).set i (.int k y) = ints k (l.set i y) := by simp [ints, List.map_set]
section
variable {W W' : Wd} {h h' : Heap} {b t j n c : Nat} {a : Option Addr} {T : TypeId} {size : Int} {css : List (List Value)} {cs us vs : List Value} {G G' : List Grp} {v : Value} {f : Fm} {mv : Option Nat} {E : Grp} {xs : List Int}
theorem qosBad_c (m : Me W h G) (hv : FmV W f cs) (l1 : f.to.length = 6) (l2 : f.bss.length = 6) (l3 : f.fr.length = 6) (hbad : ¬ ((0 ≤ f.tid ∧ f.tid ≤ 7) ∧ (0 ≤ f.sq ∧ f.sq ≤ 4095))) :
    Runs Tryd.prog 22 #[.agg cs.toArray] h fun v h' => v = .tuple #[.slice none 0 0, .int .i64 103] ∧ Me W h' G := by
  obtain ⟨v, rfl, hb⟩ := hv
  obtain ⟨to, bss, fr, tid, sq, rt, mo, eo, body⟩ := f
  dsimp only at l1 l2 l3 hbad
  obtain ⟨x1, x2, x3, x4, x5, x6, rfl⟩ := six_of l1
  obtain ⟨y1, y2, y3, y4, y5, y6, rfl⟩ := six_of l2
  obtain ⟨z1, z2, z3, z4, z5, z6, rfl⟩ := six_of l3
  refine vc_muezzinref1_QoSBytes _ _ _ ?_
  intro b1 h1 e1 e2
  replace m := m.push e2 e1
  refine ⟨_, m.cell 0 rfl rfl, (rout_c _ _ _).ret ⟨_, rfl, bcase_intro (fun q => ⟨rfl, m.drop1⟩) fun q => ?_⟩⟩
  refine ⟨_, m.cell 0 rfl rfl, (rout_c _ _ _).ret ⟨_, rfl, bcase_intro (fun q2 => ⟨rfl, m.drop1⟩) fun q2 => ?_⟩⟩
  exfalso
  have h1 := of_decide_eq_false q
  have h2 := of_decide_eq_false q2
  dsimp only at h1 h2
  exact hbad ⟨by omega, by omega⟩
theorem strange_r (agg : Bool) (bit : Int) (hE : Snt5 W) (m : Me W h []) (hv : FmV W f cs) (l1 : f.to.length = 6) (l2 : f.bss.length = 6) (l3 : f.fr.length = 6) (w1 : Byt f.to) (w2 : Byt f.bss) (w3 : Byt f.fr) (w4 : Byt f.body) :
    Runs Tryd.prog 4 #[.agg cs.toArray, .bool agg, .int .i64 bit] h fun v h' => v = .bool true ∧ ∃ W', W.le W' ∧ Me W' h' [] := by
  have hv0 := hv
  obtain ⟨v, rfl, hb⟩ := hv
  obtain ⟨a, c, rfl, hbc, hbs⟩ := hb
  have hcl : (fmc f (.slice a f.body.length c)).length = 24 := by simp [fmc, ints, l1, l2, l3]
  refine vc_muezzinlaw24_RecvStrange _ _ _ _ _ ?_
  intro b1 g1 e1 e2
  replace m := m.push e2 e1
  refine (first24_c hE m).mono ?_
  rintro _ g2 ⟨rfl, W1, hle1, m⟩
  refine ⟨true, rfl, bcase_false rfl ?_⟩
  have hE1 := hE.cl fun b o v h => wcell_le hle1 h
  have c23 : (fmc f (.slice a f.body.length c))[23]? = some (.slice a f.body.length c) := by
    unfold fmc
    rw [← List.append_assoc, ← List.append_assoc, List.getElem?_append_right (by simp [ints, l1, l2, l3])]
    rw [show (ints .u8 f.to ++ ints .u8 f.bss ++ ints .u8 f.fr).length = 18 by simp [ints, l1, l2, l3]]; rfl
  refine ⟨_, _, _, m.cell 0 rfl c23, dcase_intro (fun q => ⟨rfl, W1, hle1, m.drop1⟩) fun q => ?_⟩
  have hbl : f.body.length ≤ 100 := by omega
  refine (me_c m).mono ?_
  rintro _ g3 ⟨rfl, m⟩
  refine ⟨_, rfl, (bss_c m).mono ?_⟩
  rintro _ g4 ⟨rfl, m⟩
  refine ⟨_, rfl, (rnew_c m (by decide)).mono ?_⟩
  rintro _ g5 ⟨b, T, rfl, hs⟩
  have s0 := hs 0 (by decide)
  have r24 : row g5 b1 0 24 = some (fmc f (.slice a f.body.length c)) := s0.m.row 1 rfl (by rw [List.drop_zero]; exact List.take_of_length_le (by rw [hcl]; decide)) (by rw [hcl]; decide)
  refine ⟨_, _, rfl, _, r24, ?_⟩
  have hv1 : FmV W1 f (fmc f (.slice a f.body.length c)) := hv0.le hle1
  by_cases hval : (0 ≤ f.tid ∧ f.tid ≤ 7) ∧ (0 ≤ f.sq ∧ f.sq ≤ 4095)
  · have hok : FmOk f := ⟨l1, l2, l3, hval.1.1, hval.1.2, hval.2.1, hval.2.2, by omega⟩
    obtain ⟨t, ht⟩ : ∃ t : Nat, f.tid = t := ⟨f.tid.toNat, by omega⟩
    have ht8 : t < 8 := by omega
    have s := hs t ht8
    have hL := qosB_len hok
    refine (qosBytesO_c s.m hv1 hok).mono ?_
    rintro _ g6 ⟨a2, c2, E2, rfl, m6, o2⟩
    have s6 : St W1 g6 b T 8 css0 t (sesC ses0 none) (E2 :: [(b1, fmc f (.slice a f.body.length c), 55)] :: []) := s.mem (me_swap m6)
    refine ⟨_, _, _, _, rfl, ?_⟩
    refine ⟨fun x h => x = false ∧ h = g6, bcase_false rfl ⟨true, rfl, rfl, rfl⟩, fun _ => ?_⟩
    rintro _ g6 ⟨rfl, rfl⟩
    refine bcase_false rfl (bcase_false rfl ?_)
    have r06 : ∀ {h : Heap} {W' : Wd} {X : Grp}, Me W' h (X :: E2 :: [(b1, fmc f (.slice a f.body.length c), 55)] :: []) → row h b1 0 6 = some (ints .u8 f.to) := fun m => m.row 2 rfl (by unfold fmc; rw [List.drop_zero, List.take_append_of_le_length (by rw [ints_len, l1]; decide)]; exact List.take_of_length_le (by rw [ints_len, l1]; decide)) (by rw [hcl]; decide)
    have r66 : ∀ {h : Heap} {W' : Wd} {X : Grp}, Me W' h (X :: E2 :: [(b1, fmc f (.slice a f.body.length c), 55)] :: []) → row h b1 6 6 = some (ints .u8 f.bss) := fun m => m.row 2 rfl (by
      unfold fmc
      have e6 : (ints .u8 f.to).length = 6 := by rw [ints_len, l1]
      rw [← e6, List.drop_left', List.take_append_of_le_length (by rw [e6, ints_len, l2]; decide)]
      · exact List.take_of_length_le (by rw [e6, ints_len, l2]; decide)
      · rw [e6]) (by rw [hcl]; decide)
    have give : ∀ {h : Heap} {f' : Fm} {E : Grp}, Me W1 h ([(b, stC 8 css0 t (sesC ses0 none), T)] :: E :: [(b1, fmc f (.slice a f.body.length c), 55)] :: []) → Ow a2 (qosB f').length c2 1 (ints .u8 (qosB f')) E → ∃ W', W1.le W' ∧ St W' h b T 8 css0 t (sesC ses0 none) ([(b1, fmc f (.slice a f.body.length c), 55)] :: []) ∧ Bts W' (.slice a2 (qosB f').length c2) (qosB f') := fun m o => by
      obtain ⟨W', h1, h2, h3⟩ := ow_give o (me_swap m)
      exact ⟨W', h1, s6.mem h2, h3⟩
    refine ⟨fun h => ∃ (f' : Fm) (W' : Wd), FmB f' ∧ f'.body.length ≤ 100 ∧ ¬ (f'.to = meL ∧ f'.bss = bssL) ∧ W1.le W' ∧ St W' h b T 8 css0 t (sesC ses0 none) ([(b1, fmc f (.slice a f.body.length c), 55)] :: []) ∧ Bts W' (.slice a2 (qosB f).length c2) (qosB f'), ?_, fun _ => ?_⟩
    · refine ⟨_, r06 s6.m, (me_c s6.m).mono ?_⟩
      rintro _ g7 ⟨rfl, m7⟩
      refine ⟨_, rfl, r06 m7, (sameAddr_c m7 l1 rfl).mono ?_⟩
      rintro _ g8 ⟨rfl, m8⟩
      refine ⟨_, rfl, dcase_intro (fun q1 => ?_) fun q1 => ?_⟩
      · refine ⟨_, r66 m8, (bss_c m8).mono ?_⟩
        rintro _ g9 ⟨rfl, m9⟩
        refine ⟨_, rfl, r66 m9, (sameAddr_c m9 l2 rfl).mono ?_⟩
        rintro _ g10 ⟨rfl, m10⟩
        refine ⟨_, rfl, dcase_intro (fun q2 => ?_) fun q2 => ?_⟩
        · refine (number_c _ _ _ (by decide) (by decide)).ret ⟨_, rfl, ?_⟩
          obtain ⟨i, hi⟩ : ∃ i : Nat, bit % 48 / 8 = i := ⟨(bit % 48 / 8).toNat, by omega⟩
          obtain ⟨jj, hj⟩ : ∃ j : Nat, bit % 48 % 8 = j := ⟨(bit % 48 % 8).toNat, by omega⟩
          have hi6 : i < 6 := by omega
          have hj8 : jj < 8 := by omega
          have h48 : 0 ≤ bit % 48 := by omega
          rw [hi, hj, show ((4 : Int) + (i : Int)).toNat = 4 + i by omega]
          obtain ⟨hg, hset⟩ := flip_at l1 hi6
          have hx := List.getElem?_eq_getElem (l := f.to) (i := i) (by omega)
          have hxb := w1 _ (List.getElem_mem (l := f.to) (n := i) (by omega))
          obtain ⟨x, hxn⟩ : ∃ x : Nat, f.to[i] = x := ⟨(f.to[i]).toNat, by omega⟩
          have hp2 : 0 < 2 ^ jj ∧ 2 ^ jj ≤ 128 := ⟨Nat.pow_pos (by decide), Nat.pow_le_pow_right (n := 2) (by decide) (show jj ≤ 7 by omega)⟩
          have hx2 := flip_ne (x := x) hp2.1
          have hxl : x ^^^ 2 ^ jj < 256 := Nat.xor_lt_two_pow (n := 8) (by omega) (by omega)
          have ev : bits .xor .u8 f.to[i] (1 * pow2 (jj : Int)) = ((x ^^^ 2 ^ jj : Nat) : Int) := by
            rw [Int.one_mul, hxn, pow2_nat', bxor_u8 (by omega) (by omega)]
          obtain ⟨y, hy⟩ : ∃ y : Int, y = ((x ^^^ 2 ^ jj : Nat) : Int) := ⟨_, rfl⟩
          rw [← hy] at ev
          have hsrc := o2.src1 m10 1 rfl
          obtain ⟨bq, pq, haq, hcq⟩ := src_cell hsrc (k := 4 + i) (v := .int .u8 f.to[i]) (ints_get (by rw [hg, hx]))
          obtain ⟨bq2, pq2, haq2, hwr, hset2⟩ := o2.set1 (k := 4 + i) (v := .int .u8 y) m10 1 rfl (by rw [ints_len]; omega)
          rw [haq] at haq2
          cases haq2
          subst haq
          refine ⟨⟨h48, by decide, by simp only [fits]; omega⟩, by simp only [fits]; omega, ⟨h48, by decide, by simp only [fits]; omega⟩, by simp only [fits]; omega, ⟨by omega, by omega⟩, f.to[i], hcq, ⟨h48, by decide⟩, by simp only [fits]; omega, ⟨by omega, by simp only [kbits]; omega⟩, ?_, ⟨by omega, by omega⟩, hwr, fun g11 e11 => ?_⟩
          · rw [Int.one_mul, pow2_nat']; simp only [fits]; omega
          · rw [ev] at e11
            obtain ⟨E', m11, o11⟩ := hset2 g11 e11
            simp only [List.set_cons_succ, List.set_cons_zero] at m11
            rw [ints_set, hset y] at o11
            have hok' : FmOk { f with to := f.to.set i y } := ⟨by simp [l1], l2, l3, hok.t0, hok.t7, hok.s0, hok.s1, hok.bl⟩
            have hL' := qosB_len hok'
            have eL : (qosB f).length = (qosB { f with to := f.to.set i y }).length := by rw [hL, hL']
            rw [eL] at o11
            obtain ⟨W', hle', s', hb'⟩ := give m11 o11
            refine ⟨_, W', ⟨hok', ?_, w2, w3, w4⟩, hbl, ?_, hle', s', by rw [eL]; exact hb'⟩
            · intro z hz
              rcases List.mem_or_eq_of_mem_set hz with h | rfl
              · exact w1 z h
              · omega
            · rintro ⟨h1, -⟩
              have h2 : (f.to.set i y)[i]? = meL[i]? := by rw [show f.to.set i y = meL from h1]
              rw [List.getElem?_set_self (by omega), ← q1, hx] at h2
              have := Option.some.inj h2
              rw [hy, hxn] at this
              omega
        · obtain ⟨W', hle', s', hb'⟩ := give m10 o2
          exact ⟨f, W', ⟨hok, w1, w2, w3, w4⟩, hbl, fun e => q2 e.2, hle', s', hb'⟩
      · obtain ⟨W', hle', s', hb'⟩ := give m8 o2
        exact ⟨f, W', ⟨hok, w1, w2, w3, w4⟩, hbl, fun e => q1 e.1, hle', s', hb'⟩
    · rintro g12 ⟨f', W3, hB, hbl', hno, hle3, s12, hb12⟩
      have hL' := qosB_len hB.ok
      have hl3 : (qosB f).length = (qosB f').length := (bts_src hb12).2.1.symm
      refine ⟨fun a' l' c' h => ∃ W' : Wd, W1.le W' ∧ St W' h b T 8 css0 t (sesC ses0 none) ([(b1, fmc f (.slice a f.body.length c), 55)] :: []) ∧ Bts W' (.slice a' l' c') (rawB agg f'), ?_, fun _ => ?_⟩
      · cases agg with
        | true =>
          refine bcase_true rfl ?_
          intro b4 g13 f1 f2
          have s13 := s12.push f1 f2
          refine (pack_c (me_swap s13.m) hb12 (by omega) (by omega)).mono ?_
          rintro _ g14 ⟨W5, a5, c5, hle5, rfl, m14, hb14⟩
          exact ⟨_, _, _, _, rfl, W5, hle3.trans hle5, s12.mem m14.drop1, hb14⟩
        | false => exact bcase_false rfl ⟨W3, hle3, s12, hb12⟩
      · rintro a' l' c' g15 ⟨W5, hle5, s15, hb15⟩
        refine (strangeData_c agg s15 hb15 hB.ok hno).mono ?_
        rintro _ g16 ⟨rfl, W6, hle6, s16⟩
        refine ⟨_, _, _, _, _, _, rfl, ?_⟩
        refine (strangeRaw_c agg (hE1.cl fun b o v h => wcell_le (hle5.trans hle6) h) s16 (hb15.le hle6) hB hbl').mono ?_
        rintro _ g17 ⟨rfl, W7, hle7, s17⟩
        refine ⟨_, _, _, _, _, _, rfl, ?_⟩
        refine ⟨fun v h => v = true ∧ h = g17, bcase_true rfl ⟨rfl, rfl⟩, fun _ => ?_⟩
        rintro _ g17 ⟨rfl, rfl⟩
        refine ⟨fun v h => v = true ∧ h = g17, bcase_true rfl ⟨rfl, rfl⟩, fun _ => ?_⟩
        rintro _ g17 ⟨rfl, rfl⟩
        refine ⟨fun v h => v = true ∧ h = g17, bcase_true rfl ⟨rfl, rfl⟩, fun _ => ?_⟩
        rintro _ g17 ⟨rfl, rfl⟩
        refine ⟨fun v h => v = true ∧ h = g17, bcase_true rfl ⟨rfl, rfl⟩, fun _ => ?_⟩
        rintro _ g17 ⟨rfl, rfl⟩
        have c18 : (fmc f (.slice a f.body.length c))[18]? = some (.int .i64 f.tid) := fmc_cell hok 0 rfl
        have c19 : (fmc f (.slice a f.body.length c))[19]? = some (.int .i64 f.sq) := fmc_cell hok 1 rfl
        refine bcase_true rfl ⟨f.tid, s17.m.cell 1 rfl c18, f.sq, s17.m.cell 1 rfl c19, ?_⟩
        rw [ht]
        exact (got_c s17 f.sq).ret ⟨_, rfl, rfl, W7, hle1.trans (hle5.trans (hle6.trans hle7)), s17.m.drop1.drop1⟩
  · refine (qosBad_c s0.m hv1 l1 l2 l3 hval).mono ?_
    rintro _ g6 ⟨rfl, m6⟩
    refine ⟨_, _, _, _, rfl, ?_⟩
    refine ⟨fun x h => x = false ∧ h = g6, bcase_false rfl ⟨true, rfl, rfl, rfl⟩, fun _ => ?_⟩
    rintro _ g6 ⟨rfl, rfl⟩
    refine bcase_false rfl (bcase_true rfl ?_)
    refine ⟨fun x h => x = true ∧ h = g6, bcase_true rfl ⟨rfl, rfl⟩, fun _ => ?_⟩
    rintro _ g6 ⟨rfl, rfl⟩
    exact bcase_true rfl ⟨true, rfl, rfl, W1, hle1, m6.drop1.drop1⟩
end
theorem walk_RecvStrange (w : World) (hE : Snt5 (Wd.of w.heap)) (l0 : List Value) (o0 : Opn (.con (.arr 6 (.int .u8)) (.con (.arr 6 (.int .u8)) (.con (.arr 6 (.int .u8)) (.con (.int .i64) (.con (.int .i64) (.con .bool (.con .bool (.con .bool (.con (.slc (.int .u8)) .nil))))))))) (Wd.of w.heap) l0) (a1 : Bool) (a2 : Int) (w2 : (Lit.int .i64 a2).wf = true) :
    Calls Tryd.prog 4 #[.agg l0.toArray, .bool a1, .int .i64 a2] w fun e w' => e = .returned (.bool true) ∧ Go.RowKit.Below w.heap.size w w' := by
  obtain ⟨f, hv, ⟨l1, l2, l3⟩, w1, w2', w3, w4⟩ := opn_fm o0
  refine calls_of_runs ((strange_r a1 a2 hE (Me.start w.heap) hv l1 l2 l3 w1 w2' w3 w4).mono ?_)
  rintro v h' ⟨rfl, W', hle, m⟩
  exact ⟨rfl, m.kept hle⟩
end Go.Proofs.YthlacliefgliiaaDoor
