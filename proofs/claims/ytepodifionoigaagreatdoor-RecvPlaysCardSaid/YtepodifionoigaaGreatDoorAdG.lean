import Derived.Test.YtepodifionoigaaGreatDoorMRdB2
set_option linter.unusedVariables false
set_option linter.unusedSimpArgs false
set_option maxRecDepth 8000
namespace Go.Proofs.YtepodifionoigaaGreatDoor
open Go.Vc
def addGB (to fr bss : List Int) (ans : Bool) (token tid size tmo sq st : Int) : List Int :=
  headB (if ans then 1 else 0) to fr bss ++ ([token] ++ ((if ans then w2 st else []) ++ (w2 (2 + tid * 4 + size * 64) ++ (w2 tmo ++ (if ans then [] else w2 (sq * 16))))))
theorem w2_by (n : Int) : ∀ x ∈ w2 n, 0 ≤ x ∧ x < 256 := by
  intro x hx
  simp only [w2, List.mem_cons, List.not_mem_nil, or_false] at hx
  rcases hx with rfl | rfl <;> omega
theorem headB_by {what : Int} {to fr bss : List Int} (h0 : 0 ≤ what ∧ what < 256) (h1 : ∀ x ∈ to, 0 ≤ x ∧ x < 256) (h2 : ∀ x ∈ fr, 0 ≤ x ∧ x < 256) (h3 : ∀ x ∈ bss, 0 ≤ x ∧ x < 256) : ∀ x ∈ headB what to fr bss, 0 ≤ x ∧ x < 256 := by
  intro x hx
  simp only [headB, List.mem_append, List.mem_cons, List.not_mem_nil, or_false] at hx
  rcases hx with (rfl | rfl | rfl | rfl) | hx | hx | hx | rfl | rfl | rfl | rfl
  all_goals first | exact h1 _ hx | exact h2 _ hx | exact h3 _ hx | omega
theorem addGB_by {to fr bss : List Int} {ans : Bool} {token tid size tmo sq st : Int} (h1 : ∀ x ∈ to, 0 ≤ x ∧ x < 256) (h2 : ∀ x ∈ fr, 0 ≤ x ∧ x < 256) (h3 : ∀ x ∈ bss, 0 ≤ x ∧ x < 256) (h4 : 0 ≤ token ∧ token < 256) :
    ∀ x ∈ addGB to fr bss ans token tid size tmo sq st, 0 ≤ x ∧ x < 256 := by
  intro x hx
  simp only [addGB, List.mem_append] at hx
  rcases hx with hx | hx | hx | hx | hx | hx
  · exact headB_by (by cases ans <;> decide) h1 h2 h3 x hx
  · simp only [List.mem_cons, List.not_mem_nil, or_false] at hx; subst hx; exact h4
  · cases ans with
    | false => cases hx
    | true => exact w2_by _ x hx
  · exact w2_by _ x hx
  · exact w2_by _ x hx
  · cases ans with
    | false => exact w2_by _ x hx
    | true => cases hx
def actOk (ws : List Int) (N : Nat) (xs : List Int) : Prop := xs.length = N ∧ by0 xs 0 = 208 ∧ by0 xs 24 = 3 ∧ by0 xs 25 ∈ ws
theorem idx_neg : ∀ {ws : List Int} {x : Int}, (∀ y ∈ ws, 0 ≤ y ∧ y < 256) → 0 ≤ x ∧ x < 256 → (Lib.indexByte (Lib.bytesOf ws) x.toNat.toUInt8 < 0 ↔ x ∉ ws)
  | [], x, _, _ => by simp [Lib.bytesOf, Lib.indexByte]
  | y :: ws, x, hw, hx => by
    have hy := hw y (by simp)
    have ih := idx_neg (ws := ws) (x := x) (fun z hz => hw z (by simp [hz])) hx
    have hge := Lib.indexByte_ge (Lib.bytesOf ws) x.toNat.toUInt8
    have hbe : ((y.toNat.toUInt8 == x.toNat.toUInt8) = true) ↔ y = x := by
      rw [beq_iff_eq]
      constructor
      · intro h
        have h3 := congrArg UInt8.toNat h
        simp only [UInt8.toNat_ofNat'] at h3
        omega
      · rintro rfl; rfl
    have e : Lib.indexByte (Lib.bytesOf (y :: ws)) x.toNat.toUInt8 = if (y.toNat.toUInt8 == x.toNat.toUInt8) = true then 0 else if (Lib.indexByte (Lib.bytesOf ws) x.toNat.toUInt8 == -1) = true then -1 else Lib.indexByte (Lib.bytesOf ws) x.toNat.toUInt8 + 1 := rfl
    rw [e]
    by_cases hq : y = x
    · rw [if_pos (hbe.2 hq)]
      subst hq
      simp
    · rw [if_neg (fun hh => hq (hbe.1 hh))]
      have hq' : x ∉ y :: ws ↔ x ∉ ws := by
        rw [List.mem_cons]
        exact ⟨fun h h2 => h (.inr h2), fun h h2 => h2.elim (fun h3 => hq h3.symm) h⟩
      rw [hq', ← ih]
      by_cases hm : Lib.indexByte (Lib.bytesOf ws) x.toNat.toUInt8 = -1
      · rw [if_pos (by simp [hm]), hm]
      · rw [if_neg (by simp [hm])]
        constructor
        · intro h; omega
        · intro h; omega
section
variable {W W' : Wd} {h h' : Heap} {G : List Grp} {E : Grp} {a a2 : Option Addr} {l r c c2 n k : Nat} {vs us : List Value} {bs xs ys to fr bss : List Int} {token tid size tmo sq st : Int}
theorem along_c {b : Nat} {T : TypeId} {ws : List Int} {N : Nat} (hE : Snt5 W) (m : Me W h ([(b, ints .u8 ws, T)] :: G)) (hb : Bts W (.slice a n c) xs) (hx : ∀ x ∈ xs, 0 ≤ x ∧ x < 256) (hw : ws.length = k) (hws : ∀ y ∈ ws, 0 ≤ y ∧ y < 256) (hN : 26 ≤ N) :
    Runs Tryz.prog 96 #[.slice a n c, .int .i64 (N : Int), .slice (some ⟨b, 0, none⟩) k k] h fun v h' => ((v = .nilIface ∧ actOk ws N xs) ∨ ((∃ e, v = ptE e) ∧ ¬ actOk ws N xs)) ∧ h' = h := by
  obtain ⟨eE, heE⟩ := hE 1 (by decide)
  obtain ⟨eK, heK⟩ := hE 2 (by decide)
  obtain ⟨eS, heS⟩ := hE 3 (by decide)
  obtain ⟨-, hn, -⟩ := bts_src hb
  by_cases hl : 26 ≤ xs.length
  · obtain ⟨b', o, rfl, -, hc, hxx⟩ := bts_opn hb (by omega)
    refine vc_act_long _ _ _ _ _ _ _ _ _ (dcase_neg (by omega) ⟨⟨by decide, by omega⟩, _, m.wcell (by simpa using hxx 0 _ (get_by0 (by omega))), bcase_intro (fun q => ?_) fun q => ?_⟩)
    · exact ⟨_, m.wcell heK, .inr ⟨⟨eK, rfl⟩, fun hh => by have := hh.2.1; simp at q; exact q this⟩, rfl⟩
    have q0 : by0 xs 0 = 208 := by simpa using q
    refine ⟨⟨by decide, by omega⟩, _, m.wcell (hxx 24 _ (get_by0 (by omega))), bcase_intro (fun q1 => ?_) fun q1 => ?_⟩
    · exact ⟨_, m.wcell heK, .inr ⟨⟨eK, rfl⟩, fun hh => by have := hh.2.2.1; simp at q1; exact q1 this⟩, rfl⟩
    have q24 : by0 xs 24 = 3 := by simpa using q1
    refine ⟨⟨by decide, by omega⟩, _, m.wcell (hxx 25 _ (get_by0 (by omega))), ?_⟩
    have hi := idx_neg hws (hx _ (by0_mem (k := 25) (by omega)))
    refine (idx_c m hw rfl).ret ⟨_, rfl, dcase_intro (fun q2 => ?_) fun q2 => ?_⟩
    · exact ⟨_, m.wcell heK, .inr ⟨⟨eK, rfl⟩, fun hh => hi.1 q2 hh.2.2.2⟩, rfl⟩
    have q25 : by0 xs 25 ∈ ws := Classical.byContradiction fun hc => q2 (hi.2 hc)
    refine dcase_intro (fun q3 => ⟨_, m.wcell heE, .inr ⟨⟨eE, rfl⟩, fun hh => by have := hh.1; omega⟩, rfl⟩) fun q3 => ?_
    refine dcase_intro (fun q4 => ⟨_, m.wcell heS, .inr ⟨⟨eS, rfl⟩, fun hh => by have := hh.1; omega⟩, rfl⟩) fun q4 => ?_
    exact ⟨.inl ⟨rfl, by omega, q0, q24, q25⟩, rfl⟩
  · exact vc_act_long _ _ _ _ _ _ _ _ _ (dcase_pos (by omega) ⟨_, m.wcell heE, .inr ⟨⟨eE, rfl⟩, fun hh => by have := hh.1; omega⟩, rfl⟩)
theorem addG_c (hE : Snt5 W) (m : Me W h G) (h1 : to.length = 6) (h2 : fr.length = 6) (h3 : bss.length = 6) (k1 : 0 ≤ token ∧ token ≤ 255) (k2 : 0 ≤ tid ∧ tid ≤ 15) (k3 : 0 ≤ size ∧ size ≤ 1023) (k4 : 0 ≤ tmo ∧ tmo ≤ 65535) (k5 : 0 ≤ sq ∧ sq ≤ 4095) (k6 : 0 ≤ st ∧ st ≤ 65535)
    (ans : Bool) (hs : ans = true → sq = 0) (ht : ans = false → st = 0) :
    Runs Tryz.prog 99 #[.agg (addC2 to fr bss ans token tid size tmo sq st).toArray] h fun v h' => ∃ W', W.le W' ∧ Me W' h' G ∧
      ((tid ≤ 7 ∧ ∃ a c, v = .tuple #[.slice a (addGB to fr bss ans token tid size tmo sq st).length c, .nilIface] ∧ Bts W' (.slice a (addGB to fr bss ans token tid size tmo sq st).length c) (addGB to fr bss ans token tid size tmo sq st)) ∨ (7 < tid ∧ ∃ e, v = .tuple #[.slice none 0 0, ptE e])) := by
  obtain ⟨x1, x2, x3, x4, x5, x6, rfl⟩ := six_of h1
  obtain ⟨y1, y2, y3, y4, y5, y6, rfl⟩ := six_of h2
  obtain ⟨z1, z2, z3, z4, z5, z6, rfl⟩ := six_of h3
  obtain ⟨eR, heR⟩ := hE 0 (by decide)
  refine vc_act_AddBytes _ _ _ ?_
  intro b1 g1 e1 e2
  replace m := m.push e2 e1
  refine ⟨fun h => h = g1 ∧ tid ≤ 7, ?_, fun _ => ?_⟩
  · refine ⟨_, m.cell 0 rfl rfl, top_in ⟨k1.1, k1.2⟩ ⟨_, rfl, bcase_false rfl ?_⟩⟩
    by_cases ht7 : 7 < tid
    · exact ⟨_, m.cell 0 rfl rfl, top_out k2.1 ht7 ⟨_, rfl, bcase_true rfl ⟨_, m.wcell heR, W, Wd.le.refl W, m.drop1, .inr ⟨ht7, eR, rfl⟩⟩⟩⟩
    refine ⟨_, m.cell 0 rfl rfl, top_in ⟨k2.1, by omega⟩ ⟨_, rfl, bcase_false rfl ?_⟩⟩
    refine ⟨_, m.cell 0 rfl rfl, top_in ⟨k3.1, k3.2⟩ ⟨_, rfl, bcase_false rfl ?_⟩⟩
    refine ⟨_, m.cell 0 rfl rfl, top_in k4 ⟨_, rfl, bcase_false rfl ?_⟩⟩
    refine ⟨_, m.cell 0 rfl rfl, top_in k6 ⟨_, rfl, bcase_false rfl ?_⟩⟩
    refine ⟨_, m.cell 0 rfl rfl, top_in ⟨k5.1, k5.2⟩ ⟨_, rfl, bcase_false rfl ?_⟩⟩
    refine ⟨ans, m.cell 0 rfl rfl, ?_⟩
    cases ans with
    | false =>
      obtain rfl := ht rfl
      exact bcase_true rfl ⟨0, m.cell 0 rfl rfl, bcase_false rfl ⟨false, m.cell 0 rfl rfl, bcase_false rfl ⟨rfl, by omega⟩⟩⟩
    | true =>
      obtain rfl := hs rfl
      exact bcase_false rfl ⟨true, m.cell 0 rfl rfl, bcase_true rfl ⟨0, m.cell 0 rfl rfl, bcase_false rfl ⟨rfl, by omega⟩⟩⟩
  · rintro _ ⟨rfl, ht7⟩
    refine ⟨ans, m.cell 0 rfl rfl, ?_⟩
    cases ans with
    | false =>
      refine bcase_false rfl ?_
      refine ⟨fun a' l' c' h => ∃ E', l' = 27 ∧ Me W h (E' :: [(b1, addC2 [x1, x2, x3, x4, x5, x6] [y1, y2, y3, y4, y5, y6] [z1, z2, z3, z4, z5, z6] false token tid size tmo sq st, 78)] :: G) ∧ Ow a' 27 c' 1 (ints .u8 (headB 0 [x1, x2, x3, x4, x5, x6] [y1, y2, y3, y4, y5, y6] [z1, z2, z3, z4, z5, z6] ++ [token])) E', ?_, fun _ => ?_⟩
      · refine ⟨ints .u8 [x1, x2, x3, x4, x5, x6], m.row 0 rfl rfl (Nat.le_of_ble_eq_true rfl), ints .u8 [y1, y2, y3, y4, y5, y6], m.row 0 rfl rfl (Nat.le_of_ble_eq_true rfl), ints .u8 [z1, z2, z3, z4, z5, z6], m.row 0 rfl rfl (Nat.le_of_ble_eq_true rfl), token, m.cell 0 rfl rfl, by simp only [fits]; omega, ?_, ?_⟩
        · refine (front_c (to := [x1, x2, x3, x4, x5, x6]) (fr := [y1, y2, y3, y4, y5, y6]) (bss := [z1, z2, z3, z4, z5, z6]) _ m rfl rfl rfl).mono ?_
          rintro _ g2 ⟨a2, c2, E2, rfl, m, o2⟩
          refine ⟨_, _, _, rfl, m.cell 1 rfl rfl, ?_⟩
          refine o2.appn m (us := ints .u8 [token]) rfl ints_one (by omega) (by decide) fun a3 c3 E3 g3 m o3 => ?_
          rw [← ints_app] at o3
          exact ⟨E3, rfl, m, o3⟩
        · intro b3 g22 f1 f2
          replace m := m.push f2 f1
          refine (front_c (to := [x1, x2, x3, x4, x5, x6]) (fr := [y1, y2, y3, y4, y5, y6]) (bss := [z1, z2, z3, z4, z5, z6]) _ m rfl rfl rfl).mono ?_
          rintro _ g2 ⟨a2, c2, E2, rfl, m, o2⟩
          refine ⟨_, _, _, rfl, ints .u8 [token], ⟨m.row 1 rfl rfl (Nat.le_of_ble_eq_true rfl), ints_one⟩, ?_⟩
          refine o2.app m 0 rfl rfl (by omega) (by decide) fun a3 c3 E3 g3 m o3 => ?_
          simp only [List.set_cons_zero] at m
          replace m := (me_swap m).drop1
          rw [← ints_app] at o3
          exact ⟨E3, rfl, m, o3⟩
      clear m
      rintro a2 _ c2 g2 ⟨E2, rfl, m, o2⟩
      refine ⟨fun a' l' c' h => ∃ E', l' = 27 ∧ Me W h (E' :: [(b1, addC2 [x1, x2, x3, x4, x5, x6] [y1, y2, y3, y4, y5, y6] [z1, z2, z3, z4, z5, z6] false token tid size tmo sq st, 78)] :: G) ∧ Ow a' 27 c' 1 (ints .u8 (headB 0 [x1, x2, x3, x4, x5, x6] [y1, y2, y3, y4, y5, y6] [z1, z2, z3, z4, z5, z6] ++ [token])) E', ⟨false, m.cell 1 rfl rfl, bcase_false rfl ⟨E2, rfl, m, o2⟩⟩, fun _ => ?_⟩
      clear m o2
      rintro a3 _ c3 g3 ⟨E3, rfl, m, o3⟩
      refine ⟨_, m.cell 1 rfl rfl, by simp only [fits]; omega, by simp only [fits]; omega, _, m.cell 1 rfl rfl, by simp only [fits]; omega, by simp only [fits]; omega, ?_⟩
      refine (atwo_c _ m).mono ?_
      rintro _ g4 ⟨b4, T4, rfl, m⟩
      refine ⟨_, _, _, rfl, ?_⟩
      refine grow2 o3 m (by omega) fun a4 c4 E4 g4' m o4 => ?_
      refine ⟨_, m.cell 1 rfl rfl, ?_⟩
      refine (atwo_c _ m).mono ?_
      rintro _ g5 ⟨b5, T5, rfl, m⟩
      refine ⟨_, _, _, rfl, ?_⟩
      refine grow2 o4 m (by omega) fun a5 c5 E5 g5' m o5 => ?_
      refine ⟨false, m.cell 1 rfl rfl, bcase_true rfl ?_⟩
      refine ⟨_, m.cell 1 rfl rfl, by simp only [fits]; omega, ?_⟩
      refine (atwo_c _ m).mono ?_
      rintro _ g6 ⟨b6, T6, rfl, m⟩
      refine ⟨_, _, _, rfl, ?_⟩
      refine grow2 o5 m (by omega) fun a7 c7 E7 g7 m o7 => ?_
      have e : ∀ (L : Nat) (l : List Int), L = 33 → l = addGB [x1, x2, x3, x4, x5, x6] [y1, y2, y3, y4, y5, y6] [z1, z2, z3, z4, z5, z6] false token tid size tmo sq st → l.length = 33 := fun L l _ hl => by rw [hl]; rfl
      have hL : (addGB [x1, x2, x3, x4, x5, x6] [y1, y2, y3, y4, y5, y6] [z1, z2, z3, z4, z5, z6] false token tid size tmo sq st).length = 33 := rfl
      obtain ⟨W', hle, m', hb'⟩ := ow_give (l := addGB [x1, x2, x3, x4, x5, x6] [y1, y2, y3, y4, y5, y6] [z1, z2, z3, z4, z5, z6] false token tid size tmo sq st) o7 m
      exact ⟨W', hle, m'.drop1, .inl ⟨ht7, _, _, rfl, hb'⟩⟩
    | true =>
      refine bcase_true rfl ?_
      refine ⟨fun a' l' c' h => ∃ E', l' = 27 ∧ Me W h (E' :: [(b1, addC2 [x1, x2, x3, x4, x5, x6] [y1, y2, y3, y4, y5, y6] [z1, z2, z3, z4, z5, z6] true token tid size tmo sq st, 78)] :: G) ∧ Ow a' 27 c' 1 (ints .u8 (headB 1 [x1, x2, x3, x4, x5, x6] [y1, y2, y3, y4, y5, y6] [z1, z2, z3, z4, z5, z6] ++ [token])) E', ?_, fun _ => ?_⟩
      · refine ⟨ints .u8 [x1, x2, x3, x4, x5, x6], m.row 0 rfl rfl (Nat.le_of_ble_eq_true rfl), ints .u8 [y1, y2, y3, y4, y5, y6], m.row 0 rfl rfl (Nat.le_of_ble_eq_true rfl), ints .u8 [z1, z2, z3, z4, z5, z6], m.row 0 rfl rfl (Nat.le_of_ble_eq_true rfl), token, m.cell 0 rfl rfl, by simp only [fits]; omega, ?_, ?_⟩
        · refine (front_c (to := [x1, x2, x3, x4, x5, x6]) (fr := [y1, y2, y3, y4, y5, y6]) (bss := [z1, z2, z3, z4, z5, z6]) _ m rfl rfl rfl).mono ?_
          rintro _ g2 ⟨a2, c2, E2, rfl, m, o2⟩
          refine ⟨_, _, _, rfl, m.cell 1 rfl rfl, ?_⟩
          refine o2.appn m (us := ints .u8 [token]) rfl ints_one (by omega) (by decide) fun a3 c3 E3 g3 m o3 => ?_
          rw [← ints_app] at o3
          exact ⟨E3, rfl, m, o3⟩
        · intro b3 g22 f1 f2
          replace m := m.push f2 f1
          refine (front_c (to := [x1, x2, x3, x4, x5, x6]) (fr := [y1, y2, y3, y4, y5, y6]) (bss := [z1, z2, z3, z4, z5, z6]) _ m rfl rfl rfl).mono ?_
          rintro _ g2 ⟨a2, c2, E2, rfl, m, o2⟩
          refine ⟨_, _, _, rfl, ints .u8 [token], ⟨m.row 1 rfl rfl (Nat.le_of_ble_eq_true rfl), ints_one⟩, ?_⟩
          refine o2.app m 0 rfl rfl (by omega) (by decide) fun a3 c3 E3 g3 m o3 => ?_
          simp only [List.set_cons_zero] at m
          replace m := (me_swap m).drop1
          rw [← ints_app] at o3
          exact ⟨E3, rfl, m, o3⟩
      clear m
      rintro a2 _ c2 g2 ⟨E2, rfl, m, o2⟩
      refine ⟨fun a' l' c' h => ∃ E', l' = 29 ∧ Me W h (E' :: [(b1, addC2 [x1, x2, x3, x4, x5, x6] [y1, y2, y3, y4, y5, y6] [z1, z2, z3, z4, z5, z6] true token tid size tmo sq st, 78)] :: G) ∧ Ow a' 29 c' 1 (ints .u8 (headB 1 [x1, x2, x3, x4, x5, x6] [y1, y2, y3, y4, y5, y6] [z1, z2, z3, z4, z5, z6] ++ [token] ++ w2 st)) E', ⟨true, m.cell 1 rfl rfl, bcase_true rfl ?_⟩, fun _ => ?_⟩
      · refine ⟨_, m.cell 1 rfl rfl, ?_⟩
        refine (atwo_c _ m).mono ?_
        rintro _ g6 ⟨b6, T6, rfl, m⟩
        refine ⟨_, _, _, rfl, ?_⟩
        exact grow2 o2 m (by omega) fun a7 c7 E7 g7 m o7 => ⟨E7, rfl, m, o7⟩
      clear m o2
      rintro a3 _ c3 g3 ⟨E3, rfl, m, o3⟩
      refine ⟨_, m.cell 1 rfl rfl, by simp only [fits]; omega, by simp only [fits]; omega, _, m.cell 1 rfl rfl, by simp only [fits]; omega, by simp only [fits]; omega, ?_⟩
      refine (atwo_c _ m).mono ?_
      rintro _ g4 ⟨b4, T4, rfl, m⟩
      refine ⟨_, _, _, rfl, ?_⟩
      refine grow2 o3 m (by omega) fun a4 c4 E4 g4' m o4 => ?_
      refine ⟨_, m.cell 1 rfl rfl, ?_⟩
      refine (atwo_c _ m).mono ?_
      rintro _ g5 ⟨b5, T5, rfl, m⟩
      refine ⟨_, _, _, rfl, ?_⟩
      refine grow2 o4 m (by omega) fun a5 c5 E5 g5' m o5 => ?_
      refine ⟨true, m.cell 1 rfl rfl, bcase_false rfl ?_⟩
      have o7 := o5
      have e : ∀ (L : Nat) (l : List Int), L = 33 → l = addGB [x1, x2, x3, x4, x5, x6] [y1, y2, y3, y4, y5, y6] [z1, z2, z3, z4, z5, z6] true token tid size tmo sq st → l.length = 33 := fun L l _ hl => by rw [hl]; rfl
      have hL : (addGB [x1, x2, x3, x4, x5, x6] [y1, y2, y3, y4, y5, y6] [z1, z2, z3, z4, z5, z6] true token tid size tmo sq st).length = 33 := rfl
      obtain ⟨W', hle, m', hb'⟩ := ow_give (l := addGB [x1, x2, x3, x4, x5, x6] [y1, y2, y3, y4, y5, y6] [z1, z2, z3, z4, z5, z6] true token tid size tmo sq st) o7 m
      exact ⟨W', hle, m'.drop1, .inl ⟨ht7, _, _, rfl, hb'⟩⟩
def adAns (xs : List Int) : Bool := decide (by0 xs 25 = 1)
def adOff (xs : List Int) : Nat := if adAns xs then 29 else 27
def adPar (xs : List Int) : Int := wd xs (adOff xs)
def adTid (xs : List Int) : Int := adPar xs % 64 / 4
def adSize (xs : List Int) : Int := adPar xs / 64
def adSt (xs : List Int) : Int := if adAns xs then wd xs 27 else 0
def adSq (xs : List Int) : Int := if adAns xs then 0 else wd xs 31 / 16
def addXB (xs : List Int) : List Int := addGB (sub6 xs 4) (sub6 xs 10) (sub6 xs 16) (adAns xs) (by0 xs 26) (adTid xs) (adSize xs) (wd xs (adOff xs + 2)) (adSq xs) (adSt xs)
def addX (xs : List Int) : List Value := addC2 (sub6 xs 4) (sub6 xs 10) (sub6 xs 16) (adAns xs) (by0 xs 26) (adTid xs) (adSize xs) (wd xs (adOff xs + 2)) (adSq xs) (adSt xs)
def isAdd (xs : List Int) : Prop := actOk [0, 1] 33 xs ∧ adTid xs ≤ 7 ∧ addXB xs = xs
def z25g : List Value := addC2 [0, 0, 0, 0, 0, 0] [0, 0, 0, 0, 0, 0] [0, 0, 0, 0, 0, 0] false 0 0 0 0 0 0
theorem z25g_one : ∀ u ∈ z25g, u.oneCell' = true := addC2_one _ _ _ _ _ _ _ _ _ _
theorem wd_bd {i : Nat} (hx : ∀ x ∈ xs, 0 ≤ x ∧ x < 256) (h : i + 1 < xs.length) : 0 ≤ wd xs i ∧ wd xs i ≤ 65535 := by
  have h1 := hx _ (by0_mem (k := i) (by omega))
  have h2 := hx _ (by0_mem (k := i + 1) h)
  unfold wd; omega
theorem anumX_c {o : Nat} (m : Me W h G) (hb : Bts W (.slice a n c) (xs.drop o)) (hx : ∀ x ∈ xs, 0 ≤ x ∧ x < 256) (hl : o + 1 < xs.length) :
    Runs Tryz.prog 98 #[.slice a n c] h fun v h' => v = .int .i64 (wd xs o) ∧ h' = h :=
  anum_c m hb (get_drop (k := 0) (by omega)) (get_drop (k := 1) hl) (hx _ (by0_mem (by omega))) (hx _ (by0_mem (by omega)))
def AddV2 (W : Wd) (G : List Grp) (xs : List Int) (ok : Value) (bad : Value → Prop) (v : Value) (h' : Heap) : Prop :=
  ∃ W', W.le W' ∧ Me W' h' G ∧ ((isAdd xs ∧ v = .tuple #[.agg (addX xs).toArray, ok]) ∨ (¬ isAdd xs ∧ ∃ e, v = .tuple #[.agg z25g.toArray, e] ∧ bad e))
set_option maxHeartbeats 1000000 in
theorem readAddG_c (hE : Snt5 W) (m : Me W h G) (hb : Bts W (.slice a n c) xs) (hx : ∀ x ∈ xs, 0 ≤ x ∧ x < 256) :
    Runs Tryz.prog 62 #[.slice a n c] h (AddV2 W G xs .nilIface fun v => ∃ e, v = ptE e) := by
  obtain ⟨eS, heS⟩ := hE 3 (by decide)
  obtain ⟨-, hn, -⟩ := bts_src hb
  refine vc_act_ReadAdd _ _ _ _ _ ?_
  intro b1 g1 e1 e2 b2 g2 e3 e4
  replace m := (m.push e2 e1).push e4 e3
  refine (along_c (ws := [0, 1]) (N := 33) (k := 2) hE m hb hx rfl (by decide) (by decide)).mono ?_
  rintro v g3 ⟨⟨rfl, hk⟩ | ⟨⟨e, rfl⟩, hno⟩, rfl⟩
  · refine ⟨_, rfl, true, rfl, bcase_false rfl ?_⟩
    have hk0 := hk
    obtain ⟨hl, h0, h24, h25⟩ := hk
    obtain ⟨bb, o, rfl, -, hc, hxx⟩ := bts_opn hb (by omega)
    have cw : ∀ k, k < 33 → wcell W bb (o + k) = some (.int .u8 (by0 xs k)) := fun k hk => hxx k _ (get_by0 (by omega))
    have r26 := hx _ (by0_mem (xs := xs) (k := 26) (by omega))
    obtain ⟨x1, x2, x3, x4, x5, x6, hX⟩ := six_of (sub6_len (xs := xs) (i := 4) (by omega))
    obtain ⟨y1, y2, y3, y4, y5, y6, hY⟩ := six_of (sub6_len (xs := xs) (i := 10) (by omega))
    obtain ⟨z1, z2, z3, z4, z5, z6, hZ⟩ := six_of (sub6_len (xs := xs) (i := 16) (by omega))
    obtain ⟨tk, htk⟩ : ∃ tk, tk = by0 xs 26 := ⟨_, rfl⟩
    obtain ⟨an, han⟩ : ∃ an, an = decide (by0 xs 25 = 1) := ⟨_, rfl⟩
    have hoff : adOff xs = 27 ∧ an = false ∨ adOff xs = 29 ∧ an = true := by
      unfold adOff adAns; rw [← han]; cases an <;> simp
    refine ⟨fun p h => ∃ b5, p = some ⟨b5, 0, none⟩ ∧ Me W h ([(b5, addC2 [0, 0, 0, 0, 0, 0] [0, 0, 0, 0, 0, 0] [0, 0, 0, 0, 0, 0] an tk 0 0 0 0 0, 78)] :: [(b2, ints .u8 [0, 1], 5)] :: [(b1, z25g, 78)] :: G), ?_, fun _ => ?_⟩
    · refine ⟨⟨by decide, by omega⟩, _, m.wcell (cw 25 (by decide)), ⟨by decide, by omega⟩, _, m.wcell (cw 26 (by decide)), by simp only [fits]; omega, ?_⟩
      rw [← han, ← htk]
      intro b5 g5 f1 f2
      replace m := m.push f2 f1
      exact ⟨⟨rfl, m.wrsb 0 rfl rfl, addC2_one [0, 0, 0, 0, 0, 0] [0, 0, 0, 0, 0, 0] [0, 0, 0, 0, 0, 0] an tk 0 0 0 0 0⟩, fun g6 e6 => ⟨b5, rfl, m.setr 0 rfl e6⟩⟩
    clear m
    rintro _ g5 ⟨b5, rfl, m⟩
    refine ⟨fun h => Me W h ([(b5, addC2 [x1, x2, x3, x4, x5, x6] [y1, y2, y3, y4, y5, y6] [z1, z2, z3, z4, z5, z6] an tk 0 0 0 0 0, 78)] :: [(b2, ints .u8 [0, 1], 5)] :: [(b1, z25g, 78)] :: G), ?_, fun _ => ?_⟩
    · refine (addrsX_c m hb (by omega)).mono ?_
      rintro _ g6 ⟨rfl, m⟩
      rw [hX, hY, hZ]
      refine ⟨ints .u8 [x1, x2, x3, x4, x5, x6], ints .u8 [y1, y2, y3, y4, y5, y6], ints .u8 [z1, z2, z3, z4, z5, z6], rfl, ⟨rfl, m.wrsb 0 rfl rfl, ints_one⟩, fun g7 e7 => ?_⟩
      have m7 := m.setr 0 rfl e7
      replace m7 : Me W g7 ([(b5, addC2 [x1, x2, x3, x4, x5, x6] [0, 0, 0, 0, 0, 0] [0, 0, 0, 0, 0, 0] an tk 0 0 0 0 0, 78)] :: [(b2, ints .u8 [0, 1], 5)] :: [(b1, z25g, 78)] :: G) := m7
      refine ⟨⟨rfl, m7.wrsb 0 rfl rfl, ints_one⟩, fun g8 e8 => ?_⟩
      have m8 := m7.setr 0 rfl e8
      replace m8 : Me W g8 ([(b5, addC2 [x1, x2, x3, x4, x5, x6] [y1, y2, y3, y4, y5, y6] [0, 0, 0, 0, 0, 0] an tk 0 0 0 0 0, 78)] :: [(b2, ints .u8 [0, 1], 5)] :: [(b1, z25g, 78)] :: G) := m8
      exact ⟨⟨rfl, m8.wrsb 0 rfl rfl, ints_one⟩, fun g9 e9 => m8.setr 0 rfl e9⟩
    clear m
    intro g9 m
    have t27 := bts_tail hb (k := 27) (by omega)
    refine ⟨⟨by decide, by omega⟩, ?_⟩
    refine ⟨fun a' l' c' h => l' = 33 - adOff xs ∧ Bts W (.slice a' l' c') (xs.drop (adOff xs)) ∧ Me W h ([(b5, addC2 [x1, x2, x3, x4, x5, x6] [y1, y2, y3, y4, y5, y6] [z1, z2, z3, z4, z5, z6] an tk 0 0 0 0 (adSt xs), 78)] :: [(b2, ints .u8 [0, 1], 5)] :: [(b1, z25g, 78)] :: G), ?_, fun _ => ?_⟩
    · refine ⟨an, m.cell 0 rfl rfl, ?_⟩
      rcases hoff with ⟨ho, rfl⟩ | ⟨ho, rfl⟩
      · have hst : adSt xs = 0 := by unfold adSt adAns; rw [← han]; rfl
        rw [ho, hst]
        exact bcase_false rfl ⟨by omega, t27, m⟩
      · have hst : adSt xs = wd xs 27 := by unfold adSt adAns; rw [← han]; rfl
        rw [ho, hst]
        refine bcase_true rfl ((anumX_c m t27 hx (by omega)).ret ⟨_, rfl, ?_⟩)
        refine m.store 0 rfl (Nat.le_of_ble_eq_true rfl) fun g10 m10 => ?_
        have t29 := bts_tail t27 (k := 2) (by omega)
        rw [List.drop_drop] at t29
        exact ⟨⟨by decide, by omega⟩, by omega, t29, m10⟩
    clear m
    rintro a' l' c' g10 ⟨rfl, hbt, m⟩
    have ho2 : adOff xs ≤ 29 := by rcases hoff with ⟨ho, -⟩ | ⟨ho, -⟩ <;> omega
    have hp := wd_bd (xs := xs) (i := adOff xs) hx (by omega)
    have hp2 := wd_bd (xs := xs) (i := adOff xs + 2) hx (by omega)
    refine (anumX_c m hbt hx (by omega)).ret ⟨_, rfl, ⟨hp.1, by decide⟩, ⟨by omega, by decide, by simp only [fits]; omega⟩, ⟨hp.1, by decide, by simp only [fits]; omega⟩, ⟨by decide, by omega⟩, ?_⟩
    have hb2 := bts_tail hbt (k := 2) (by omega)
    rw [List.drop_drop] at hb2
    refine (anumX_c m hb2 hx (by omega)).ret ⟨_, rfl, ?_⟩
    refine m.store 0 rfl (Nat.le_of_ble_eq_true rfl) fun g11 m11 => ?_
    refine m11.store 0 rfl (Nat.le_of_ble_eq_true rfl) fun g12 m12 => ?_
    refine m12.store 0 rfl (Nat.le_of_ble_eq_true rfl) fun g13 m13 => ?_
    replace m13 : Me W g13 ([(b5, addC2 [x1, x2, x3, x4, x5, x6] [y1, y2, y3, y4, y5, y6] [z1, z2, z3, z4, z5, z6] an tk (adTid xs) (adSize xs) (wd xs (adOff xs + 2)) 0 (adSt xs), 78)] :: [(b2, ints .u8 [0, 1], 5)] :: [(b1, z25g, 78)] :: G) := m13
    refine ⟨fun h => Me W h ([(b5, addC2 [x1, x2, x3, x4, x5, x6] [y1, y2, y3, y4, y5, y6] [z1, z2, z3, z4, z5, z6] an tk (adTid xs) (adSize xs) (wd xs (adOff xs + 2)) (adSq xs) (adSt xs), 78)] :: [(b2, ints .u8 [0, 1], 5)] :: [(b1, z25g, 78)] :: G), ?_, fun _ => ?_⟩
    · refine ⟨an, m13.cell 0 rfl rfl, ?_⟩
      rcases hoff with ⟨ho, rfl⟩ | ⟨ho, rfl⟩
      · have hsq : adSq xs = wd xs 31 / 16 := by unfold adSq adAns; rw [← han]; rfl
        rw [hsq]
        rw [ho] at hbt ⊢
        have hb4 := bts_tail hbt (k := 4) (by omega)
        rw [List.drop_drop] at hb4
        have hp4 := wd_bd (xs := xs) (i := 31) hx (by omega)
        rw [ho] at m13
        refine bcase_true rfl ⟨⟨by decide, by omega⟩, (anumX_c (o := 31) m13 hb4 hx (by omega)).ret ⟨_, rfl, ⟨hp4.1, by decide, by simp only [fits]; omega⟩, ?_⟩⟩
        exact m13.store 0 rfl (Nat.le_of_ble_eq_true rfl) fun g14 m14 => m14
      · have hsq : adSq xs = 0 := by unfold adSq adAns; rw [← han]; rfl
        rw [hsq]
        exact bcase_false rfl m13
    clear m m13 m12 m11
    intro g14 m
    refine ⟨_, m.row 0 rfl rfl (Nat.le_of_ble_eq_true rfl), ?_⟩
    have hst : 0 ≤ adSt xs ∧ adSt xs ≤ 65535 := by
      unfold adSt; split
      · exact wd_bd hx (by omega)
      · exact ⟨by decide, by decide⟩
    have hsq : 0 ≤ adSq xs ∧ adSq xs ≤ 4095 := by
      unfold adSq; split
      · exact ⟨by decide, by decide⟩
      · have := wd_bd (xs := xs) (i := 31) hx (by omega); omega
    have hti : 0 ≤ adTid xs ∧ adTid xs ≤ 15 := by unfold adTid adPar; omega
    have hsz : 0 ≤ adSize xs ∧ adSize xs ≤ 1023 := by unfold adSize adPar; omega
    have ea : adAns xs = an := han.symm
    refine (addG_c (to := [x1, x2, x3, x4, x5, x6]) (fr := [y1, y2, y3, y4, y5, y6]) (bss := [z1, z2, z3, z4, z5, z6]) hE m rfl rfl rfl (by rw [htk]; omega) hti hsz hp2 hsq hst an (fun q => by unfold adSq; rw [ea, q]; rfl) (fun q => by unfold adSt; rw [ea, q]; rfl)).mono ?_
    have eB : addXB xs = addGB [x1, x2, x3, x4, x5, x6] [y1, y2, y3, y4, y5, y6] [z1, z2, z3, z4, z5, z6] an tk (adTid xs) (adSize xs) (wd xs (adOff xs + 2)) (adSq xs) (adSt xs) := by unfold addXB; rw [hX, hY, hZ, ea, ← htk]
    have eC : addX xs = addC2 [x1, x2, x3, x4, x5, x6] [y1, y2, y3, y4, y5, y6] [z1, z2, z3, z4, z5, z6] an tk (adTid xs) (adSize xs) (wd xs (adOff xs + 2)) (adSq xs) (adSt xs) := by unfold addX; rw [hX, hY, hZ, ea, ← htk]
    rw [← eB]
    rintro _ g15 ⟨W', hle, m, ⟨ht7, a8, c8, rfl, hb8⟩ | ⟨ht7, e, rfl⟩⟩
    · refine ⟨_, _, _, _, rfl, true, rfl, bcase_false rfl ?_⟩
      have hby : ∀ x ∈ addXB xs, 0 ≤ x ∧ x < 256 := addGB_by (sub6_by hx 4) (sub6_by hx 10) (sub6_by hx 16) r26
      refine (eqG_c m hb8 (hb.le hle) hby hx).ret ⟨_, rfl, bcase_intro (fun q => ?_) fun q => ?_⟩
      · have hne := of_decide_eq_false (by simpa using q)
        refine ⟨_, m.wcell (wcell_le hle heS), ⟨rfl, m.wrsb 2 rfl rfl, z25g_one⟩, fun g8 e8 => ?_⟩
        have m8 := m.setr 2 rfl e8
        exact ⟨m8.wcell (wcell_le hle heS), _, m8.row 2 rfl rfl (Nat.le_of_ble_eq_true rfl), W', hle, m8.drop1.drop1.drop1, .inr ⟨fun hh => hne hh.2.2, _, rfl, eS, rfl⟩⟩
      · have he := of_decide_eq_true (by simpa using q)
        obtain ⟨Y, hY⟩ : ∃ Y, Y = addC2 [x1, x2, x3, x4, x5, x6] [y1, y2, y3, y4, y5, y6] [z1, z2, z3, z4, z5, z6] an tk (adTid xs) (adSize xs) (wd xs (adOff xs + 2)) (adSq xs) (adSt xs) := ⟨_, rfl⟩
        have hYl : Y.length = 25 := by rw [hY]; rfl
        have hY1 : ∀ u ∈ Y, u.oneCell' = true := by rw [hY]; exact addC2_one _ _ _ _ _ _ _ _ _ _
        have hYx : addX xs = Y := by rw [eC, hY]
        rw [← hY] at m
        have hYt : (Y.drop 0).take 25 = Y := by rw [List.drop_zero]; exact List.take_of_length_le (by omega)
        refine ⟨Y, m.row 0 rfl hYt (by omega), ⟨hYl, m.wrsb 2 rfl rfl, hY1⟩, fun g8 e8 => ?_⟩
        have m8 := m.setr 2 rfl e8
        simp only [List.set_cons_succ, List.set_cons_zero] at m8
        rw [setL_all (show Y.length = z25g.length by rw [hYl]; rfl)] at m8
        exact ⟨Y, m8.row 2 rfl hYt (by omega), W', hle, m8.drop1.drop1.drop1, .inl ⟨⟨hk0, ht7, he⟩, by rw [hYx]⟩⟩
    · refine ⟨_, _, _, _, rfl, false, rfl, bcase_true rfl ?_⟩
      refine ⟨_, m.wcell (wcell_le hle heS), ⟨rfl, m.wrsb 2 rfl rfl, z25g_one⟩, fun g8 e8 => ?_⟩
      have m8 := m.setr 2 rfl e8
      exact ⟨m8.wcell (wcell_le hle heS), _, m8.row 2 rfl rfl (Nat.le_of_ble_eq_true rfl), W', hle, m8.drop1.drop1.drop1, .inr ⟨fun hh => absurd hh.2.1 (by omega), _, rfl, eS, rfl⟩⟩
  · refine ⟨_, rfl, false, rfl, bcase_true rfl ⟨⟨rfl, m.wrsb 1 rfl rfl, z25g_one⟩, fun g4 e5 => ?_⟩⟩
    have m2 := m.setr 1 rfl e5
    exact ⟨_, m2.row 1 rfl rfl (Nat.le_of_ble_eq_true rfl), W, Wd.le.refl W, m2.drop1.drop1, .inr ⟨fun hh => hno hh.1, _, rfl, e, rfl⟩⟩
end
end Go.Proofs.YtepodifionoigaaGreatDoor
