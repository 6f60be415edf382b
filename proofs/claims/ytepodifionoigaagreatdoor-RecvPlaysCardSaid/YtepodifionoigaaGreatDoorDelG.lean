import Derived.Test.YtepodifionoigaaGreatDoorAdG
set_option linter.unusedVariables false
set_option linter.unusedSimpArgs false
set_option maxRecDepth 8000
namespace Go.Proofs.YtepodifionoigaaGreatDoor
open Go.Vc
def delC3 (to fr bss : List Int) (mine : Bool) (tid re : Int) : List Value := ints .u8 to ++ (ints .u8 fr ++ (ints .u8 bss ++ [.bool mine, .int .i64 tid, .int .i64 re]))
theorem delC3_one (to fr bss : List Int) (mine : Bool) (tid re : Int) : ∀ u ∈ delC3 to fr bss mine tid re, u.oneCell' = true := by
  intro u hu
  unfold delC3 at hu
  simp only [List.mem_append] at hu
  rcases hu with hu | hu | hu | hu
  · exact ints_one u hu
  · exact ints_one u hu
  · exact ints_one u hu
  · simp only [List.mem_cons, List.not_mem_nil, or_false] at hu
    rcases hu with rfl | rfl | rfl <;> rfl
def delN (mine : Bool) (tid : Int) : Int := tid * 4096 + (if mine then 2048 else 0)
def delGB (to fr bss : List Int) (mine : Bool) (tid re : Int) : List Int := headB 2 to fr bss ++ (w2 (delN mine tid) ++ w2 re)
theorem delGB_by {to fr bss : List Int} {mine : Bool} {tid re : Int} (h1 : ∀ x ∈ to, 0 ≤ x ∧ x < 256) (h2 : ∀ x ∈ fr, 0 ≤ x ∧ x < 256) (h3 : ∀ x ∈ bss, 0 ≤ x ∧ x < 256) : ∀ x ∈ delGB to fr bss mine tid re, 0 ≤ x ∧ x < 256 := by
  intro x hx
  simp only [delGB, List.mem_append] at hx
  rcases hx with hx | hx | hx
  · exact headB_by (by decide) h1 h2 h3 x hx
  · exact w2_by _ x hx
  · exact w2_by _ x hx
theorem bandD_i64 {m n : Nat} (hm : m < 9223372036854775808) (hn : n < 9223372036854775808) : bits .and .i64 (m : Int) (n : Int) = ((m &&& n : Nat) : Int) := by
  have e : bits .and .i64 (m : Int) (n : Int) = IntKind.i64.wrap ((BitVec.ofInt 64 (m : Int) &&& BitVec.ofInt 64 (n : Int)).toNat : Int) := rfl
  have e2 : (BitVec.ofInt 64 (m : Int) &&& BitVec.ofInt 64 (n : Int)).toNat = m &&& n := by
    rw [BitVec.toNat_and, BitVec.toNat_ofInt, BitVec.toNat_ofInt]
    rw [show ((m : Int) % (2 ^ 64 : Nat)).toNat = m by omega, show ((n : Int) % (2 ^ 64 : Nat)).toNat = n by omega]
  have h3 : m &&& n ≤ m := Nat.and_le_left
  rw [e, e2, wrap_fits (show fits .i64 _ by simp only [fits]; omega)]
theorem land11 (m : Nat) : m &&& 2 ^ 11 = if m.testBit 11 = true then 2 ^ 11 else 0 := by
  apply Nat.eq_of_testBit_eq
  intro i
  rw [Nat.testBit_and, Nat.testBit_two_pow]
  by_cases h : 11 = i
  · subst h
    cases hb : m.testBit 11
    · rw [if_neg (by decide), Nat.zero_testBit]; rfl
    · rw [if_pos rfl, Nat.testBit_two_pow, Bool.true_and]
  · rw [decide_eq_false h, Bool.and_false]
    split
    · rw [Nat.testBit_two_pow, decide_eq_false h]
    · rw [Nat.zero_testBit]
theorem bit11 {n : Int} (hn : 0 ≤ n ∧ n ≤ 65535) : bits .and .i64 n 2048 = if decide (n / 2048 % 2 = 1) = true then 2048 else 0 := by
  obtain ⟨m, rfl⟩ := Int.eq_ofNat_of_zero_le hn.1
  have e : bits .and .i64 (m : Int) 2048 = ((m &&& 2 ^ 11 : Nat) : Int) := bandD_i64 (m := m) (n := 2048) (by omega) (by decide)
  rw [e, land11, Nat.testBit_eq_decide_div_mod_eq]
  by_cases q : m / 2 ^ 11 % 2 = 1
  · have q2 : ((m : Int) / 2048 % 2 = 1) := by omega
    simp [q, q2]
  · have q2 : ¬ ((m : Int) / 2048 % 2 = 1) := by omega
    simp [q, q2]
def dlTid (xs : List Int) : Int := wd xs 26 / 4096
def dlMine (xs : List Int) : Bool := decide (wd xs 26 / 2048 % 2 = 1)
def delXB (xs : List Int) : List Int := delGB (sub6 xs 4) (sub6 xs 10) (sub6 xs 16) (dlMine xs) (dlTid xs) (wd xs 28)
def delX (xs : List Int) : List Value := delC3 (sub6 xs 4) (sub6 xs 10) (sub6 xs 16) (dlMine xs) (dlTid xs) (wd xs 28)
def isDel (xs : List Int) : Prop := actOk [2] 30 xs ∧ dlTid xs ≤ 7 ∧ delXB xs = xs
theorem mine_p {xs : List Int} (h : 0 ≤ wd xs 26 ∧ wd xs 26 ≤ 65535) : decide ((0 : Int) < bits .and .i64 (wd xs 26) 2048) = dlMine xs := by
  unfold dlMine
  rw [bit11 h]
  by_cases q : wd xs 26 / 2048 % 2 = 1
  · rw [decide_eq_true q]; rfl
  · rw [decide_eq_false q]; rfl
theorem mine_d {xs : List Int} (h : 0 ≤ wd xs 26 ∧ wd xs 26 ≤ 65535) : (!decide (bits .and .i64 (wd xs 26) 2048 = 0)) = dlMine xs := by
  unfold dlMine
  rw [bit11 h]
  by_cases q : wd xs 26 / 2048 % 2 = 1
  · rw [decide_eq_true q]; rfl
  · rw [decide_eq_false q]; rfl
def z21g : List Value := delC3 [0, 0, 0, 0, 0, 0] [0, 0, 0, 0, 0, 0] [0, 0, 0, 0, 0, 0] false 0 0
theorem z21g_one : ∀ u ∈ z21g, u.oneCell' = true := delC3_one _ _ _ _ _ _
section
variable {W W' : Wd} {h h' : Heap} {G : List Grp} {E : Grp} {a a2 : Option Addr} {l r c c2 n k : Nat} {vs us : List Value} {bs xs ys to fr bss : List Int} {tid re : Int}
def DelB (W : Wd) (G : List Grp) (to fr bss : List Int) (mine : Bool) (tid re : Int) (ok : Value) (bad : Value → Prop) (v : Value) (h' : Heap) : Prop := ∃ W', W.le W' ∧ Me W' h' G ∧
  ((tid ≤ 7 ∧ ∃ a c, v = .tuple #[.slice a (delGB to fr bss mine tid re).length c, ok] ∧ Bts W' (.slice a (delGB to fr bss mine tid re).length c) (delGB to fr bss mine tid re)) ∨ (7 < tid ∧ ∃ e, v = .tuple #[.slice none 0 0, e] ∧ bad e))
theorem delG_c (hE : Snt5 W) (m : Me W h G) (h1 : to.length = 6) (h2 : fr.length = 6) (h3 : bss.length = 6) (k2 : 0 ≤ tid ∧ tid ≤ 15) (k4 : 0 ≤ re ∧ re ≤ 65535) (mine : Bool) :
    Runs Tryz.prog 100 #[.agg (delC3 to fr bss mine tid re).toArray] h (DelB W G to fr bss mine tid re .nilIface fun v => ∃ e, v = ptE e) := by
  obtain ⟨x1, x2, x3, x4, x5, x6, rfl⟩ := six_of h1
  obtain ⟨y1, y2, y3, y4, y5, y6, rfl⟩ := six_of h2
  obtain ⟨z1, z2, z3, z4, z5, z6, rfl⟩ := six_of h3
  obtain ⟨eR, heR⟩ := hE 0 (by decide)
  refine vc_act_DelBytes _ _ _ ?_
  intro b1 g1 e1 e2
  replace m := m.push e2 e1
  refine ⟨fun h => h = g1 ∧ tid ≤ 7, ?_, fun _ => ?_⟩
  · by_cases ht7 : 7 < tid
    · exact ⟨_, m.cell 0 rfl rfl, top_out k2.1 ht7 ⟨_, rfl, bcase_true rfl ⟨_, m.wcell heR, W, Wd.le.refl W, m.drop1, .inr ⟨ht7, _, rfl, eR, rfl⟩⟩⟩⟩
    refine ⟨_, m.cell 0 rfl rfl, top_in ⟨k2.1, by omega⟩ ⟨_, rfl, bcase_false rfl ?_⟩⟩
    exact ⟨_, m.cell 0 rfl rfl, top_in k4 ⟨_, rfl, bcase_false rfl ⟨rfl, by omega⟩⟩⟩
  · rintro g3 ⟨rfl, ht7⟩
    refine ⟨tid, m.cell 0 rfl rfl, by simp only [fits]; omega, fun z h => h = g3 ∧ z = delN mine tid, ⟨mine, m.cell 0 rfl rfl, ?_⟩, fun _ => ?_⟩
    · cases mine with
      | true => exact bcase_true rfl ⟨by simp only [fits]; omega, rfl, rfl⟩
      | false => exact bcase_false rfl ⟨rfl, by unfold delN; simp⟩
    rintro _ _ ⟨rfl, rfl⟩
    refine ⟨ints .u8 [x1, x2, x3, x4, x5, x6], m.row 0 rfl rfl (Nat.le_of_ble_eq_true rfl), ints .u8 [y1, y2, y3, y4, y5, y6], m.row 0 rfl rfl (Nat.le_of_ble_eq_true rfl), ints .u8 [z1, z2, z3, z4, z5, z6], m.row 0 rfl rfl (Nat.le_of_ble_eq_true rfl), re, m.cell 0 rfl rfl, ?_⟩
    refine (front_c (to := [x1, x2, x3, x4, x5, x6]) (fr := [y1, y2, y3, y4, y5, y6]) (bss := [z1, z2, z3, z4, z5, z6]) _ m rfl rfl rfl).mono ?_
    rintro _ g2 ⟨a2, c2, E2, rfl, m, o2⟩
    refine ⟨_, _, _, rfl, m.cell 1 rfl rfl, ?_⟩
    refine (atwo_c _ m).mono ?_
    rintro _ g4 ⟨b4, T4, rfl, m⟩
    refine ⟨_, _, _, rfl, m.cell 2 rfl rfl, ?_⟩
    refine grow2 o2 m (by omega) fun a5 c5 E5 g5 m o5 => ?_
    refine ⟨m.cell 1 rfl rfl, ?_⟩
    refine (atwo_c _ m).mono ?_
    rintro _ g6 ⟨b6, T6, rfl, m⟩
    refine ⟨_, _, _, rfl, ?_⟩
    refine grow2 o5 m (by omega) fun a7 c7 E7 g7 m o7 => ?_
    obtain ⟨W', hle, m', hb'⟩ := ow_give (l := delGB [x1, x2, x3, x4, x5, x6] [y1, y2, y3, y4, y5, y6] [z1, z2, z3, z4, z5, z6] mine tid re) o7 m
    exact ⟨W', hle, m'.drop1, .inl ⟨ht7, _, _, rfl, hb'⟩⟩
def DelV2 (W : Wd) (G : List Grp) (xs : List Int) (ok : Value) (bad : Value → Prop) (v : Value) (h' : Heap) : Prop :=
  ∃ W', W.le W' ∧ Me W' h' G ∧ ((isDel xs ∧ v = .tuple #[.agg (delX xs).toArray, ok]) ∨ (¬ isDel xs ∧ ∃ e, v = .tuple #[.agg z21g.toArray, e] ∧ bad e))
set_option maxHeartbeats 6000000 in
theorem readDelG_c (hE : Snt5 W) (m : Me W h G) (hb : Bts W (.slice a n c) xs) (hx : ∀ x ∈ xs, 0 ≤ x ∧ x < 256) :
    Runs Tryz.prog 64 #[.slice a n c] h (DelV2 W G xs .nilIface fun v => ∃ e, v = ptE e) := by
  obtain ⟨eS, heS⟩ := hE 3 (by decide)
  obtain ⟨-, hn, -⟩ := bts_src hb
  refine vc_act_ReadDel _ _ _ _ _ ?_
  intro b1 g1 e1 e2 b2 g2 e3 e4
  replace m := (m.push e2 e1).push e4 e3
  refine (along_c (ws := [2]) (N := 30) (k := 1) hE m hb hx rfl (by decide) (by decide)).mono ?_
  rintro v g3 ⟨⟨rfl, hk⟩ | ⟨⟨e, rfl⟩, hno⟩, rfl⟩
  · refine ⟨_, rfl, true, rfl, bcase_false rfl ?_⟩
    have hk0 := hk
    obtain ⟨hl, h0, h24, h25⟩ := hk
    obtain ⟨x1, x2, x3, x4, x5, x6, hX⟩ := six_of (sub6_len (xs := xs) (i := 4) (by omega))
    obtain ⟨y1, y2, y3, y4, y5, y6, hY⟩ := six_of (sub6_len (xs := xs) (i := 10) (by omega))
    obtain ⟨z1, z2, z3, z4, z5, z6, hZ⟩ := six_of (sub6_len (xs := xs) (i := 16) (by omega))
    have t26 := bts_tail hb (k := 26) (by omega)
    have t28 := bts_tail hb (k := 28) (by omega)
    have hp26 := wd_bd (xs := xs) (i := 26) hx (by omega)
    have hp28 := wd_bd (xs := xs) (i := 28) hx (by omega)
    have hti : 0 ≤ dlTid xs ∧ dlTid xs ≤ 15 := by unfold dlTid; omega
    refine ⟨⟨by decide, by omega⟩, (anumX_c m t26 hx (by omega)).ret ⟨_, rfl, ⟨hp26.1, by decide, by simp only [fits]; omega⟩, ⟨by decide, by omega⟩, (anumX_c m t28 hx (by omega)).ret ⟨_, rfl, ?_⟩⟩⟩
    rw [mine_p hp26]
    intro b5 g5 f1 f2
    replace m := m.push f2 f1
    refine ⟨⟨rfl, m.wrsb 0 rfl rfl, delC3_one [0, 0, 0, 0, 0, 0] [0, 0, 0, 0, 0, 0] [0, 0, 0, 0, 0, 0] (dlMine xs) (dlTid xs) (wd xs 28)⟩, fun g6 e6 => ?_⟩
    have m6 := m.setr 0 rfl e6
    replace m6 : Me W g6 ([(b5, delC3 [0, 0, 0, 0, 0, 0] [0, 0, 0, 0, 0, 0] [0, 0, 0, 0, 0, 0] (dlMine xs) (dlTid xs) (wd xs 28), 81)] :: [(b2, ints .u8 [2], 5)] :: [(b1, z21g, 81)] :: G) := m6
    clear m
    refine (addrsX_c m6 hb (by omega)).mono ?_
    clear m6
    rintro _ g7 ⟨rfl, m⟩
    rw [hX, hY, hZ]
    refine ⟨ints .u8 [x1, x2, x3, x4, x5, x6], ints .u8 [y1, y2, y3, y4, y5, y6], ints .u8 [z1, z2, z3, z4, z5, z6], rfl, ⟨rfl, m.wrsb 0 rfl rfl, ints_one⟩, fun g8 e8 => ?_⟩
    have m8 := m.setr 0 rfl e8
    replace m8 : Me W g8 ([(b5, delC3 [x1, x2, x3, x4, x5, x6] [0, 0, 0, 0, 0, 0] [0, 0, 0, 0, 0, 0] (dlMine xs) (dlTid xs) (wd xs 28), 81)] :: [(b2, ints .u8 [2], 5)] :: [(b1, z21g, 81)] :: G) := m8
    refine ⟨⟨rfl, m8.wrsb 0 rfl rfl, ints_one⟩, fun g9 e9 => ?_⟩
    have m9 := m8.setr 0 rfl e9
    replace m9 : Me W g9 ([(b5, delC3 [x1, x2, x3, x4, x5, x6] [y1, y2, y3, y4, y5, y6] [0, 0, 0, 0, 0, 0] (dlMine xs) (dlTid xs) (wd xs 28), 81)] :: [(b2, ints .u8 [2], 5)] :: [(b1, z21g, 81)] :: G) := m9
    refine ⟨⟨rfl, m9.wrsb 0 rfl rfl, ints_one⟩, fun g10 e10 => ?_⟩
    have m10 := m9.setr 0 rfl e10
    replace m10 : Me W g10 ([(b5, delC3 [x1, x2, x3, x4, x5, x6] [y1, y2, y3, y4, y5, y6] [z1, z2, z3, z4, z5, z6] (dlMine xs) (dlTid xs) (wd xs 28), 81)] :: [(b2, ints .u8 [2], 5)] :: [(b1, z21g, 81)] :: G) := m10
    clear m m8 m9
    refine ⟨_, m10.row 0 rfl rfl (Nat.le_of_ble_eq_true rfl), ?_⟩
    refine (delG_c (to := [x1, x2, x3, x4, x5, x6]) (fr := [y1, y2, y3, y4, y5, y6]) (bss := [z1, z2, z3, z4, z5, z6]) hE m10 rfl rfl rfl hti hp28 (dlMine xs)).mono ?_
    clear m10
    have eB : delXB xs = delGB [x1, x2, x3, x4, x5, x6] [y1, y2, y3, y4, y5, y6] [z1, z2, z3, z4, z5, z6] (dlMine xs) (dlTid xs) (wd xs 28) := by unfold delXB; rw [hX, hY, hZ]
    have eC : delX xs = delC3 [x1, x2, x3, x4, x5, x6] [y1, y2, y3, y4, y5, y6] [z1, z2, z3, z4, z5, z6] (dlMine xs) (dlTid xs) (wd xs 28) := by unfold delX; rw [hX, hY, hZ]
    unfold DelB
    rw [← eB]
    rintro _ g15 ⟨W', hle, m, ⟨ht7, a8, c8, rfl, hb8⟩ | ⟨ht7, _, rfl, e, rfl⟩⟩
    · refine ⟨_, _, _, _, rfl, true, rfl, bcase_false rfl ?_⟩
      have hby : ∀ x ∈ delXB xs, 0 ≤ x ∧ x < 256 := delGB_by (sub6_by hx 4) (sub6_by hx 10) (sub6_by hx 16)
      refine (eqG_c m hb8 (hb.le hle) hby hx).ret ⟨_, rfl, bcase_intro (fun q => ?_) fun q => ?_⟩
      · have hne := of_decide_eq_false (by simpa using q)
        refine ⟨_, m.wcell (wcell_le hle heS), ⟨rfl, m.wrsb 2 rfl rfl, z21g_one⟩, fun g8 e8 => ?_⟩
        have m8 := m.setr 2 rfl e8
        exact ⟨m8.wcell (wcell_le hle heS), _, m8.row 2 rfl rfl (Nat.le_of_ble_eq_true rfl), W', hle, m8.drop1.drop1.drop1, .inr ⟨fun hh => hne hh.2.2, _, rfl, eS, rfl⟩⟩
      · have he := of_decide_eq_true (by simpa using q)
        obtain ⟨Y, hY⟩ : ∃ Y, Y = delC3 [x1, x2, x3, x4, x5, x6] [y1, y2, y3, y4, y5, y6] [z1, z2, z3, z4, z5, z6] (dlMine xs) (dlTid xs) (wd xs 28) := ⟨_, rfl⟩
        have hYl : Y.length = 21 := by rw [hY]; rfl
        have hY1 : ∀ u ∈ Y, u.oneCell' = true := by rw [hY]; exact delC3_one _ _ _ _ _ _
        have hYx : delX xs = Y := by rw [eC, hY]
        rw [← hY] at m
        have hYt : (Y.drop 0).take 21 = Y := by rw [List.drop_zero]; exact List.take_of_length_le (by omega)
        refine ⟨Y, m.row 0 rfl hYt (by omega), ⟨hYl, m.wrsb 2 rfl rfl, hY1⟩, fun g8 e8 => ?_⟩
        have m8 := m.setr 2 rfl e8
        simp only [List.set_cons_succ, List.set_cons_zero] at m8
        rw [setL_all (show Y.length = z21g.length by rw [hYl]; rfl)] at m8
        exact ⟨Y, m8.row 2 rfl hYt (by omega), W', hle, m8.drop1.drop1.drop1, .inl ⟨⟨hk0, ht7, he⟩, by rw [hYx]⟩⟩
    · refine ⟨_, _, _, _, rfl, false, rfl, bcase_true rfl ?_⟩
      refine ⟨_, m.wcell (wcell_le hle heS), ⟨rfl, m.wrsb 2 rfl rfl, z21g_one⟩, fun g8 e8 => ?_⟩
      have m8 := m.setr 2 rfl e8
      exact ⟨m8.wcell (wcell_le hle heS), _, m8.row 2 rfl rfl (Nat.le_of_ble_eq_true rfl), W', hle, m8.drop1.drop1.drop1, .inr ⟨fun hh => absurd hh.2.1 (by omega), _, rfl, eS, rfl⟩⟩
  · refine ⟨_, rfl, false, rfl, bcase_true rfl ⟨⟨rfl, m.wrsb 1 rfl rfl, z21g_one⟩, fun g4 e5 => ?_⟩⟩
    have m2 := m.setr 1 rfl e5
    exact ⟨_, m2.row 1 rfl rfl (Nat.le_of_ble_eq_true rfl), W, Wd.le.refl W, m2.drop1.drop1, .inr ⟨fun hh => hno hh.1, _, rfl, e, rfl⟩⟩
end
end Go.Proofs.YtepodifionoigaaGreatDoor
