/- Bytes that are no session's frame: the program tells them. -/
import Derived.Test.YthlacliefgliiaaDoorAct3
set_option linter.unusedVariables false
set_option linter.unusedSimpArgs false
set_option maxRecDepth 8000
namespace Go.Proofs.YthlacliefgliiaaDoor
open Go.Vc
theorem cons_of {n : Nat} {xs : List Int} (h : n + 1 ≤ xs.length) : ∃ x r, xs = x :: r ∧ n ≤ r.length := by
  cases xs with
  | nil => simp at h
  | cons x r => exact ⟨x, r, rfl, by simpa using h⟩
def addC2 (to fr bss : List Int) (ans : Bool) (token tid size tmo sq st : Int) : List Value := ints .u8 to ++ (ints .u8 fr ++ (ints .u8 bss ++ [.bool ans, .int .i64 token, .int .i64 tid, .int .i64 size, .int .i64 tmo, .int .i64 sq, .int .i64 st]))
theorem addC2_one (to fr bss : List Int) (ans : Bool) (token tid size tmo sq st : Int) : ∀ u ∈ addC2 to fr bss ans token tid size tmo sq st, u.oneCell' = true := by
  intro u hu
  unfold addC2 at hu
  simp only [List.mem_append] at hu
  rcases hu with hu | hu | hu | hu
  · exact ints_one u hu
  · exact ints_one u hu
  · exact ints_one u hu
  · simp only [List.mem_cons, List.not_mem_nil, or_false] at hu
    rcases hu with rfl | rfl | rfl | rfl | rfl | rfl | rfl <;> rfl
section
variable {W W' : Wd} {h h' : Heap} {G : List Grp} {E : Grp} {a a2 : Option Addr} {l r c c2 n k : Nat} {vs us : List Value} {bs xs ys to fr bss : List Int} {token tid size sq tmo st : Int}
theorem me_setAll' {b : Nat} {T : TypeId} (m : Me W h ([(b, vs, T)] :: G)) (hl : us.length = vs.length) (e : h' = setr h b 0 us) : Me W h' ([(b, us, T)] :: G) := by
  have m1 := m.setr 0 rfl e
  simp only [List.set_cons_zero] at m1
  rwa [setL_all hl] at m1
theorem top_out {n m : Int} {h : Heap} {Post : Value → Heap → Prop} (h0 : 0 ≤ n) (hn : m < n) (k : Post (.bool false) h) : Runs Tryd.prog 85 #[.int .i64 n, .int .i64 m] h Post :=
  vc_act_top _ _ _ _ (dcase_pos h0 (by rwa [show decide (n ≤ m) = false from decide_eq_false (by omega)]))
theorem numAny_c (m : Me W h G) (hb : Bts W (.slice a n c) xs) (hl : 2 ≤ n) (hx : ∀ x ∈ xs, 0 ≤ x ∧ x < 256) :
    Runs Tryd.prog 75 #[.slice a n c] h fun v h' => ∃ z : Int, v = .int .i64 z ∧ (0 ≤ z ∧ z ≤ 65535) ∧ h' = h := by
  obtain ⟨hs, hn, hc⟩ := bts_src hb
  have h0 := List.getElem?_eq_getElem (l := xs) (i := 0) (by omega)
  have h1 := List.getElem?_eq_getElem (l := xs) (i := 1) (by omega)
  have b0 := hx _ (List.getElem_mem (l := xs) (n := 0) (by omega))
  have b1 := hx _ (List.getElem_mem (l := xs) (n := 1) (by omega))
  refine (anum_c m hb h0 h1 b0 b1).mono ?_
  rintro _ _ ⟨rfl, rfl⟩
  exact ⟨_, rfl, by omega, rfl⟩
theorem addrsL_c (m : Me W h G) (hb : Bts W (.slice a n c) xs) (hl : 22 ≤ xs.length) :
    Runs Tryd.prog 74 #[.slice a n c] h fun v h' => ∃ to fr bss : List Int, (to.length = 6 ∧ fr.length = 6 ∧ bss.length = 6) ∧ v = .tuple #[.agg (ints .u8 to).toArray, .agg (ints .u8 fr).toArray, .agg (ints .u8 bss).toArray] ∧ Me W h' G := by
  obtain ⟨x0, r0, e0, l0⟩ := cons_of (n := 21) hl
  obtain ⟨x1, r1, e1, l1⟩ := cons_of (n := 20) l0
  obtain ⟨x2, r2, e2, l2⟩ := cons_of (n := 19) l1
  obtain ⟨x3, r3, e3, l3⟩ := cons_of (n := 18) l2
  obtain ⟨x4, r4, e4, l4⟩ := cons_of (n := 17) l3
  obtain ⟨x5, r5, e5, l5⟩ := cons_of (n := 16) l4
  obtain ⟨x6, r6, e6, l6⟩ := cons_of (n := 15) l5
  obtain ⟨x7, r7, e7, l7⟩ := cons_of (n := 14) l6
  obtain ⟨x8, r8, e8, l8⟩ := cons_of (n := 13) l7
  obtain ⟨x9, r9, e9, l9⟩ := cons_of (n := 12) l8
  obtain ⟨x10, r10, e10, l10⟩ := cons_of (n := 11) l9
  obtain ⟨x11, r11, e11, l11⟩ := cons_of (n := 10) l10
  obtain ⟨x12, r12, e12, l12⟩ := cons_of (n := 9) l11
  obtain ⟨x13, r13, e13, l13⟩ := cons_of (n := 8) l12
  obtain ⟨x14, r14, e14, l14⟩ := cons_of (n := 7) l13
  obtain ⟨x15, r15, e15, l15⟩ := cons_of (n := 6) l14
  obtain ⟨x16, r16, e16, l16⟩ := cons_of (n := 5) l15
  obtain ⟨x17, r17, e17, l17⟩ := cons_of (n := 4) l16
  obtain ⟨x18, r18, e18, l18⟩ := cons_of (n := 3) l17
  obtain ⟨x19, r19, e19, l19⟩ := cons_of (n := 2) l18
  obtain ⟨x20, r20, e20, l20⟩ := cons_of (n := 1) l19
  obtain ⟨x21, r21, e21, l21⟩ := cons_of (n := 0) l20
  subst e21 e20 e19 e18 e17 e16 e15 e14 e13 e12 e11 e10 e9 e8 e7 e6 e5 e4 e3 e2 e1 e0
  refine (addrs_c m hb).mono ?_
  rintro _ h1 ⟨rfl, m1⟩
  exact ⟨_, _, _, ⟨rfl, rfl, rfl⟩, rfl, m1⟩
/-- How long a session's frame is, and of which kind: whatever it is. -/
theorem along_any {b : Nat} {T : TypeId} {ws : List Int} {N : Nat} (hE : Snt5 W) (m : Me W h ([(b, ints .u8 ws, T)] :: G)) (hb : Bts W (.slice a n c) xs) (hl : 26 ≤ xs.length) (hw : ws.length = k) :
    Runs Tryd.prog 73 #[.slice a n c, .int .i64 (N : Int), .slice (some ⟨b, 0, none⟩) k k] h fun v h' => ((v = .nilIface ∧ xs.length = N ∧ xs[0]? = some 208) ∨ ∃ e, v = ptE e) ∧ h' = h := by
  obtain ⟨eE, heE⟩ := hE 1 (by decide)
  obtain ⟨eK, heK⟩ := hE 2 (by decide)
  obtain ⟨eS, heS⟩ := hE 3 (by decide)
  obtain ⟨b', o, rfl, hn, hc, hx⟩ := bts_opn hb (by omega)
  have h0 := List.getElem?_eq_getElem (l := xs) (i := 0) (by omega)
  have h24 := List.getElem?_eq_getElem (l := xs) (i := 24) (by omega)
  have h25 := List.getElem?_eq_getElem (l := xs) (i := 25) (by omega)
  refine vc_act_long _ _ _ _ _ _ _ _ _ (dcase_neg (by omega) ⟨⟨by decide, by omega⟩, _, m.wcell (by simpa using hx 0 _ h0), bcase_intro (fun q => ?_) fun q => ?_⟩)
  · exact ⟨_, m.wcell heK, .inr ⟨eK, rfl⟩, rfl⟩
  have q0 : xs[0] = 208 := by simpa using q
  refine ⟨⟨by decide, by omega⟩, _, m.wcell (hx 24 _ h24), bcase_intro (fun q1 => ?_) fun q1 => ?_⟩
  · exact ⟨_, m.wcell heK, .inr ⟨eK, rfl⟩, rfl⟩
  refine ⟨⟨by decide, by omega⟩, _, m.wcell (hx 25 _ h25), ?_⟩
  refine (idx_c m hw rfl).ret ⟨_, rfl, dcase_intro (fun q2 => ?_) fun q2 => ?_⟩
  · exact ⟨_, m.wcell heK, .inr ⟨eK, rfl⟩, rfl⟩
  refine dcase_intro (fun q3 => ⟨_, m.wcell heE, .inr ⟨eE, rfl⟩, rfl⟩) fun q3 => ?_
  refine dcase_intro (fun q4 => ⟨_, m.wcell heS, .inr ⟨eS, rfl⟩, rfl⟩) fun q4 => ?_
  exact ⟨.inl ⟨rfl, by omega, by rw [h0, q0]⟩, rfl⟩
def AnyV (W : Wd) (G : List Grp) (v : Value) (h' : Heap) : Prop :=
  ∃ W', W.le W' ∧ Me W' h' G ∧ ((∃ e, v = .tuple #[.slice none 0 0, ptE e]) ∨ ∃ a n c bs, v = .tuple #[.slice a n c, .nilIface] ∧ Bts W' (.slice a n c) bs ∧ bs[1]? = some 0)
/-- act.AddBytes of numbers of which an identifier alone may be too great. -/
theorem addAny_c (hE : Snt5 W) (m : Me W h G) (h1 : to.length = 6) (h2 : fr.length = 6) (h3 : bss.length = 6) (k1 : 0 ≤ token ∧ token ≤ 255) (k2 : 0 ≤ tid ∧ tid ≤ 15) (k3 : 0 ≤ size ∧ size ≤ 1023) (k4 : 0 ≤ tmo ∧ tmo ≤ 65535) (k5 : 0 ≤ sq ∧ sq ≤ 4095) (k6 : 0 ≤ st ∧ st ≤ 65535)
    (ans : Bool) (hs : ans = true → sq = 0) (ht : ans = false → st = 0) :
    Runs Tryd.prog 76 #[.agg (addC2 to fr bss ans token tid size tmo sq st).toArray] h (AnyV W G) := by
  obtain ⟨x1, x2, x3, x4, x5, x6, rfl⟩ := six_of h1
  obtain ⟨y1, y2, y3, y4, y5, y6, rfl⟩ := six_of h2
  obtain ⟨z1, z2, z3, z4, z5, z6, rfl⟩ := six_of h3
  obtain ⟨eR, heR⟩ := hE 0 (by decide)
  refine vc_act_AddBytes _ _ _ ?_
  intro b1 g1 e1 e2
  replace m := m.push e2 e1
  refine ⟨_, m.cell 0 rfl rfl, top_in ⟨k1.1, k1.2⟩ ⟨_, rfl, bcase_false rfl ?_⟩⟩
  by_cases ht7 : 7 < tid
  · exact ⟨_, m.cell 0 rfl rfl, top_out k2.1 ht7 ⟨_, rfl, bcase_true rfl ⟨_, m.wcell heR, W, Wd.le.refl W, m.drop1, .inl ⟨eR, rfl⟩⟩⟩⟩
  refine ⟨_, m.cell 0 rfl rfl, top_in ⟨k2.1, by omega⟩ ⟨_, rfl, bcase_false rfl ?_⟩⟩
  refine ⟨_, m.cell 0 rfl rfl, top_in ⟨k3.1, k3.2⟩ ⟨_, rfl, bcase_false rfl ?_⟩⟩
  refine ⟨_, m.cell 0 rfl rfl, top_in k4 ⟨_, rfl, bcase_false rfl ?_⟩⟩
  refine ⟨_, m.cell 0 rfl rfl, top_in k6 ⟨_, rfl, bcase_false rfl ?_⟩⟩
  refine ⟨_, m.cell 0 rfl rfl, top_in ⟨k5.1, k5.2⟩ ⟨_, rfl, bcase_false rfl ?_⟩⟩
  refine ⟨ans, m.cell 0 rfl rfl, ?_⟩
  cases ans with
  | false =>
    obtain rfl := ht rfl
    refine bcase_true rfl ⟨0, m.cell 0 rfl rfl, bcase_false rfl ⟨false, m.cell 0 rfl rfl, bcase_false rfl ?_⟩⟩
    refine ⟨fun n h => n = 0 ∧ h = g1, ⟨rfl, rfl⟩, fun _ => ?_⟩
    rintro _ g1 ⟨rfl, rfl⟩
    refine ⟨fun n h => n = 0 ∧ h = g1, ⟨false, m.cell 0 rfl rfl, ⟨rfl, rfl⟩⟩, fun _ => ?_⟩
    rintro _ g1 ⟨rfl, rfl⟩
    refine ⟨_, m.row 0 rfl rfl (Nat.le_of_ble_eq_true rfl), _, m.row 0 rfl rfl (Nat.le_of_ble_eq_true rfl), _, m.row 0 rfl rfl (Nat.le_of_ble_eq_true rfl), token, m.cell 0 rfl rfl, by simp only [fits]; omega, ?_, ?_⟩
    · skip
      refine (front_c (to := [x1, x2, x3, x4, x5, x6]) (fr := [y1, y2, y3, y4, y5, y6]) (bss := [z1, z2, z3, z4, z5, z6]) _ m rfl rfl rfl).mono ?_
      rintro _ g2 ⟨a2, c2, E2, rfl, m, o2⟩
      refine ⟨_, _, _, rfl, m.cell 1 rfl rfl, ?_⟩
      refine o2.appn m (us := ints .u8 [token]) rfl ints_one (by omega) (by decide) fun a3 c3 E3 g3 m o3 => ?_
      rw [← ints_app] at o3
      refine ⟨m.cell 1 rfl rfl, ?_⟩
      refine ⟨fun a' l' c' h => a' = a3 ∧ l' = 27 ∧ c' = c3 ∧ h = g3, ⟨false, m.cell 1 rfl rfl, ⟨rfl, rfl, rfl, rfl⟩⟩, fun _ => ?_⟩
      rintro _ _ _ g3 ⟨rfl, rfl, rfl, rfl⟩
      refine ⟨tid, m.cell 1 rfl rfl, by simp only [fits]; omega, by simp only [fits]; omega, size, m.cell 1 rfl rfl, by simp only [fits]; omega, by simp only [fits]; omega, ?_⟩
      refine (atwo_c _ m).mono ?_
      rintro _ g4 ⟨b4, T4, rfl, m⟩
      refine ⟨_, _, _, rfl, ?_⟩
      refine grow2 o3 m (by omega) fun a5 c5 E5 g5 m o5 => ?_
      refine ⟨tmo, m.cell 1 rfl rfl, ?_⟩
      refine (atwo_c _ m).mono ?_
      rintro _ g6 ⟨b6, T6, rfl, m⟩
      refine ⟨_, _, _, rfl, ?_⟩
      refine grow2 o5 m (by omega) fun a7 c7 E7 g7 m o7 => ?_
      refine ⟨false, m.cell 1 rfl rfl, ⟨sq, m.cell 1 rfl rfl, by simp only [fits]; omega, ?_⟩⟩
      refine (atwo_c _ m).mono ?_
      rintro _ g8 ⟨b8, T8, rfl, m⟩
      refine ⟨_, _, _, rfl, ?_⟩
      refine grow2 o7 m (by omega) fun a9 c9 E9 g9 m o9 => ?_
      have o10 : Ow a9 (headB 0 [x1, x2, x3, x4, x5, x6] [y1, y2, y3, y4, y5, y6] [z1, z2, z3, z4, z5, z6] ++ [token] ++ w2 (2 + tid * 4 + size * 64) ++ w2 tmo ++ w2 (sq * 16)).length c9 1 (ints .u8 (headB 0 [x1, x2, x3, x4, x5, x6] [y1, y2, y3, y4, y5, y6] [z1, z2, z3, z4, z5, z6] ++ [token] ++ w2 (2 + tid * 4 + size * 64) ++ w2 tmo ++ w2 (sq * 16))) E9 := o9
      obtain ⟨W', hl, m10, hb10⟩ := ow_give o10 m
      exact ⟨W', hl, m10.drop1, .inr ⟨a9, _, c9, _, rfl, hb10, rfl⟩⟩
    · skip
      intro b3 g22 f1 f2
      replace m := m.push f2 f1
      refine (front_c (to := [x1, x2, x3, x4, x5, x6]) (fr := [y1, y2, y3, y4, y5, y6]) (bss := [z1, z2, z3, z4, z5, z6]) _ m rfl rfl rfl).mono ?_
      rintro _ g2 ⟨a2, c2, E2, rfl, m, o2⟩
      refine ⟨_, _, _, rfl, m.cell 2 rfl rfl, ints .u8 [token], ⟨m.row 1 rfl rfl (Nat.le_of_ble_eq_true rfl), ints_one⟩, ?_⟩
      refine o2.app m 0 rfl rfl (by omega) (by decide) fun a3 c3 E3 g3 m o3 => ?_
      simp only [List.set_cons_zero] at m
      replace m := (me_swap m).drop1
      rw [← ints_app] at o3
      refine ⟨m.cell 1 rfl rfl, ?_⟩
      refine ⟨fun a' l' c' h => a' = a3 ∧ l' = 27 ∧ c' = c3 ∧ h = g3, ⟨false, m.cell 1 rfl rfl, ⟨rfl, rfl, rfl, rfl⟩⟩, fun _ => ?_⟩
      rintro _ _ _ g3 ⟨rfl, rfl, rfl, rfl⟩
      refine ⟨tid, m.cell 1 rfl rfl, by simp only [fits]; omega, by simp only [fits]; omega, size, m.cell 1 rfl rfl, by simp only [fits]; omega, by simp only [fits]; omega, ?_⟩
      refine (atwo_c _ m).mono ?_
      rintro _ g4 ⟨b4, T4, rfl, m⟩
      refine ⟨_, _, _, rfl, ?_⟩
      refine grow2 o3 m (by omega) fun a5 c5 E5 g5 m o5 => ?_
      refine ⟨tmo, m.cell 1 rfl rfl, ?_⟩
      refine (atwo_c _ m).mono ?_
      rintro _ g6 ⟨b6, T6, rfl, m⟩
      refine ⟨_, _, _, rfl, ?_⟩
      refine grow2 o5 m (by omega) fun a7 c7 E7 g7 m o7 => ?_
      refine ⟨false, m.cell 1 rfl rfl, ⟨sq, m.cell 1 rfl rfl, by simp only [fits]; omega, ?_⟩⟩
      refine (atwo_c _ m).mono ?_
      rintro _ g8 ⟨b8, T8, rfl, m⟩
      refine ⟨_, _, _, rfl, ?_⟩
      refine grow2 o7 m (by omega) fun a9 c9 E9 g9 m o9 => ?_
      have o10 : Ow a9 (headB 0 [x1, x2, x3, x4, x5, x6] [y1, y2, y3, y4, y5, y6] [z1, z2, z3, z4, z5, z6] ++ [token] ++ w2 (2 + tid * 4 + size * 64) ++ w2 tmo ++ w2 (sq * 16)).length c9 1 (ints .u8 (headB 0 [x1, x2, x3, x4, x5, x6] [y1, y2, y3, y4, y5, y6] [z1, z2, z3, z4, z5, z6] ++ [token] ++ w2 (2 + tid * 4 + size * 64) ++ w2 tmo ++ w2 (sq * 16))) E9 := o9
      obtain ⟨W', hl, m10, hb10⟩ := ow_give o10 m
      exact ⟨W', hl, m10.drop1, .inr ⟨a9, _, c9, _, rfl, hb10, rfl⟩⟩
  | true =>
    obtain rfl := hs rfl
    refine bcase_false rfl ⟨true, m.cell 0 rfl rfl, bcase_true rfl ⟨0, m.cell 0 rfl rfl, bcase_false rfl ?_⟩⟩
    refine ⟨fun n h => n = 0 ∧ h = g1, ⟨rfl, rfl⟩, fun _ => ?_⟩
    rintro _ g1 ⟨rfl, rfl⟩
    refine ⟨fun n h => n = 1 ∧ h = g1, ⟨true, m.cell 0 rfl rfl, ⟨rfl, rfl⟩⟩, fun _ => ?_⟩
    rintro _ g1 ⟨rfl, rfl⟩
    refine ⟨_, m.row 0 rfl rfl (Nat.le_of_ble_eq_true rfl), _, m.row 0 rfl rfl (Nat.le_of_ble_eq_true rfl), _, m.row 0 rfl rfl (Nat.le_of_ble_eq_true rfl), token, m.cell 0 rfl rfl, by simp only [fits]; omega, ?_, ?_⟩
    · skip
      refine (front_c (to := [x1, x2, x3, x4, x5, x6]) (fr := [y1, y2, y3, y4, y5, y6]) (bss := [z1, z2, z3, z4, z5, z6]) _ m rfl rfl rfl).mono ?_
      rintro _ g2 ⟨a2, c2, E2, rfl, m, o2⟩
      refine ⟨_, _, _, rfl, m.cell 1 rfl rfl, ?_⟩
      refine o2.appn m (us := ints .u8 [token]) rfl ints_one (by omega) (by decide) fun a3 c3 E3 g3 m o3 => ?_
      rw [← ints_app] at o3
      refine ⟨m.cell 1 rfl rfl, ?_⟩
      refine ⟨fun a' l' c' h => l' = 29 ∧ ∃ E', Me W h (E' :: [(b1, addC2 [x1, x2, x3, x4, x5, x6] [y1, y2, y3, y4, y5, y6] [z1, z2, z3, z4, z5, z6] true token tid size tmo 0 st, 65)] :: G) ∧ Ow a' 29 c' 1 (ints .u8 (headB 1 [x1, x2, x3, x4, x5, x6] [y1, y2, y3, y4, y5, y6] [z1, z2, z3, z4, z5, z6] ++ [token] ++ w2 st)) E', ?_, fun _ => ?_⟩
      · refine ⟨true, m.cell 1 rfl rfl, ⟨st, m.cell 1 rfl rfl, ?_⟩⟩
        refine (atwo_c _ m).mono ?_
        rintro _ g8 ⟨b8, T8, rfl, m⟩
        refine ⟨_, _, _, rfl, ?_⟩
        refine grow2 o3 m (by omega) fun a9 c9 E9 g9 m o9 => ?_
        exact ⟨rfl, E9, m, o9⟩
      rintro a3 _ c3 g3 ⟨rfl, E3, m, o3⟩
      refine ⟨tid, m.cell 1 rfl rfl, by simp only [fits]; omega, by simp only [fits]; omega, size, m.cell 1 rfl rfl, by simp only [fits]; omega, by simp only [fits]; omega, ?_⟩
      refine (atwo_c _ m).mono ?_
      rintro _ g4 ⟨b4, T4, rfl, m⟩
      refine ⟨_, _, _, rfl, ?_⟩
      refine grow2 o3 m (by omega) fun a5 c5 E5 g5 m o5 => ?_
      refine ⟨tmo, m.cell 1 rfl rfl, ?_⟩
      refine (atwo_c _ m).mono ?_
      rintro _ g6 ⟨b6, T6, rfl, m⟩
      refine ⟨_, _, _, rfl, ?_⟩
      refine grow2 o5 m (by omega) fun a7 c7 E7 g7 m o7 => ?_
      refine ⟨true, m.cell 1 rfl rfl, ?_⟩
      have o10 : Ow a7 (headB 1 [x1, x2, x3, x4, x5, x6] [y1, y2, y3, y4, y5, y6] [z1, z2, z3, z4, z5, z6] ++ [token] ++ w2 st ++ w2 (2 + tid * 4 + size * 64) ++ w2 tmo).length c7 1 (ints .u8 (headB 1 [x1, x2, x3, x4, x5, x6] [y1, y2, y3, y4, y5, y6] [z1, z2, z3, z4, z5, z6] ++ [token] ++ w2 st ++ w2 (2 + tid * 4 + size * 64) ++ w2 tmo)) E7 := o7
      obtain ⟨W', hl, m10, hb10⟩ := ow_give o10 m
      exact ⟨W', hl, m10.drop1, .inr ⟨a7, _, c7, _, rfl, hb10, rfl⟩⟩
    · skip
      intro b3 g22 f1 f2
      replace m := m.push f2 f1
      refine (front_c (to := [x1, x2, x3, x4, x5, x6]) (fr := [y1, y2, y3, y4, y5, y6]) (bss := [z1, z2, z3, z4, z5, z6]) _ m rfl rfl rfl).mono ?_
      rintro _ g2 ⟨a2, c2, E2, rfl, m, o2⟩
      refine ⟨_, _, _, rfl, m.cell 2 rfl rfl, ints .u8 [token], ⟨m.row 1 rfl rfl (Nat.le_of_ble_eq_true rfl), ints_one⟩, ?_⟩
      refine o2.app m 0 rfl rfl (by omega) (by decide) fun a3 c3 E3 g3 m o3 => ?_
      simp only [List.set_cons_zero] at m
      replace m := (me_swap m).drop1
      rw [← ints_app] at o3
      refine ⟨m.cell 1 rfl rfl, ?_⟩
      refine ⟨fun a' l' c' h => l' = 29 ∧ ∃ E', Me W h (E' :: [(b1, addC2 [x1, x2, x3, x4, x5, x6] [y1, y2, y3, y4, y5, y6] [z1, z2, z3, z4, z5, z6] true token tid size tmo 0 st, 65)] :: G) ∧ Ow a' 29 c' 1 (ints .u8 (headB 1 [x1, x2, x3, x4, x5, x6] [y1, y2, y3, y4, y5, y6] [z1, z2, z3, z4, z5, z6] ++ [token] ++ w2 st)) E', ?_, fun _ => ?_⟩
      · refine ⟨true, m.cell 1 rfl rfl, ⟨st, m.cell 1 rfl rfl, ?_⟩⟩
        refine (atwo_c _ m).mono ?_
        rintro _ g8 ⟨b8, T8, rfl, m⟩
        refine ⟨_, _, _, rfl, ?_⟩
        refine grow2 o3 m (by omega) fun a9 c9 E9 g9 m o9 => ?_
        exact ⟨rfl, E9, m, o9⟩
      rintro a3 _ c3 g3 ⟨rfl, E3, m, o3⟩
      refine ⟨tid, m.cell 1 rfl rfl, by simp only [fits]; omega, by simp only [fits]; omega, size, m.cell 1 rfl rfl, by simp only [fits]; omega, by simp only [fits]; omega, ?_⟩
      refine (atwo_c _ m).mono ?_
      rintro _ g4 ⟨b4, T4, rfl, m⟩
      refine ⟨_, _, _, rfl, ?_⟩
      refine grow2 o3 m (by omega) fun a5 c5 E5 g5 m o5 => ?_
      refine ⟨tmo, m.cell 1 rfl rfl, ?_⟩
      refine (atwo_c _ m).mono ?_
      rintro _ g6 ⟨b6, T6, rfl, m⟩
      refine ⟨_, _, _, rfl, ?_⟩
      refine grow2 o5 m (by omega) fun a7 c7 E7 g7 m o7 => ?_
      refine ⟨true, m.cell 1 rfl rfl, ?_⟩
      have o10 : Ow a7 (headB 1 [x1, x2, x3, x4, x5, x6] [y1, y2, y3, y4, y5, y6] [z1, z2, z3, z4, z5, z6] ++ [token] ++ w2 st ++ w2 (2 + tid * 4 + size * 64) ++ w2 tmo).length c7 1 (ints .u8 (headB 1 [x1, x2, x3, x4, x5, x6] [y1, y2, y3, y4, y5, y6] [z1, z2, z3, z4, z5, z6] ++ [token] ++ w2 st ++ w2 (2 + tid * 4 + size * 64) ++ w2 tmo)) E7 := o7
      obtain ⟨W', hl, m10, hb10⟩ := ow_give o10 m
      exact ⟨W', hl, m10.drop1, .inr ⟨a7, _, c7, _, rfl, hb10, rfl⟩⟩
theorem neqB_c (m : Me W h G) (h1 : Bts W (.slice a n c) xs) (h2 : Bts W (.slice a2 k c2) ys) (hne : Lib.bytesOf xs ≠ Lib.bytesOf ys) :
    Runs Tryd.prog 71 #[.slice a n c, .slice a2 k c2] h fun v h' => v = .bool false ∧ h' = h :=
  runs_of_calls fun w hw => by
    have := Tryd.bytes_Equal_all a a2 n c k c2 xs ys w (bts_src h1).2.1 (bts_src h2).2.1 (bytesIn hw m h1) (bytesIn hw m h2)
    rwa [show (Lib.bytesOf xs == Lib.bytesOf ys) = false from beq_false_of_ne hne] at this
theorem bytesOf_ne {x y : Int} (h1 : xs[1]? = some x) (h2 : ys[1]? = some y) (hx : 0 ≤ x ∧ x < 256) (hy : 0 ≤ y ∧ y < 256) (hne : x ≠ y) : Lib.bytesOf xs ≠ Lib.bytesOf ys := by
  intro e
  have := congrArg (fun l => l[1]?) e
  simp only [Lib.bytesOf, List.getElem?_map, h1, h2, Option.map_some, Option.some.injEq] at this
  have h3 := congrArg UInt8.toNat this
  simp only [UInt8.toNat_ofNat'] at h3
  omega
set_option maxHeartbeats 600000 in
/-- act.ReadAdd of bytes that no Add has. -/
theorem addBad_c (hE : Snt5 W) (m : Me W h G) (hb : Bts W (.slice a n c) xs) (hx : ∀ x ∈ xs, 0 ≤ x ∧ x < 256) (hl : 26 ≤ xs.length) (hy : xs[0]? ≠ some 208 ∨ xs[1]? ≠ some 0) :
    Runs Tryd.prog 52 #[.slice a n c] h fun v h' => ∃ e W', v = .tuple #[.agg z25.toArray, ptE e] ∧ W.le W' ∧ Me W' h' G := by
  obtain ⟨eS, heS⟩ := hE 3 (by decide)
  refine vc_act_ReadAdd _ _ _ _ _ ?_
  intro b1 g1 e1 e2 b2 g2 e3 e4
  replace m := (m.push e2 e1).push e4 e3
  refine (along_any (ws := [0, 1]) (N := 33) hE m hb hl rfl).mono ?_
  rintro _ _ ⟨⟨rfl, hN, h0⟩ | ⟨e, rfl⟩, rfl⟩
  · replace m := m.drop1
    have hy1 : xs[1]? ≠ some 0 := by
      rcases hy with h | h
      · exact absurd h0 h
      · exact h
    have hb0 := hb
    obtain ⟨hsb, hn, hc⟩ := bts_src hb
    have hn' : n = 33 := by omega
    subst hn'
    obtain ⟨b, o, rfl, -, -, hcl⟩ := bts_opn hb (by omega)
    have h25 := List.getElem?_eq_getElem (l := xs) (i := 25) (by omega)
    have h26 := List.getElem?_eq_getElem (l := xs) (i := 26) (by omega)
    have k26 := hx _ (List.getElem_mem (l := xs) (n := 26) (by omega))
    obtain ⟨tok, htok⟩ : ∃ t, t = xs[26] := ⟨_, rfl⟩
    obtain ⟨ans, hans⟩ : ∃ t, t = decide (xs[25] = 1) := ⟨_, rfl⟩
    rw [← htok] at h26 k26
    have hxd : ∀ {k : Nat}, ∀ x ∈ xs.drop k, 0 ≤ x ∧ x < 256 := fun x hm => hx x (List.mem_of_mem_drop hm)
    have t27 := bts_tail hb0 (k := 27) (by omega)
    refine ⟨_, rfl, true, rfl, bcase_false rfl ?_⟩
    refine ⟨⟨by decide, by decide⟩, xs[25], m.wcell (hcl 25 _ h25), ⟨by decide, by decide⟩, tok, m.wcell (hcl 26 _ h26), by simp only [fits]; omega, ?_⟩
    rw [← hans]
    intro b5 g5 e5 e6
    replace m := m.push e6 e5
    refine ⟨⟨rfl, m.wrsb 0 rfl rfl, addC2_one [0, 0, 0, 0, 0, 0] [0, 0, 0, 0, 0, 0] [0, 0, 0, 0, 0, 0] ans tok 0 0 0 0 0⟩, fun g6 e7 => ?_⟩
    replace m := me_setAll' (us := addC2 [0, 0, 0, 0, 0, 0] [0, 0, 0, 0, 0, 0] [0, 0, 0, 0, 0, 0] ans tok 0 0 0 0 0) m rfl e7
    refine (addrsL_c m hb0 (by omega)).mono ?_
    rintro _ g7 ⟨to, fr, bss, ⟨l1, l2, l3⟩, rfl, m⟩
    obtain ⟨x1, x2, x3, x4, x5, x6, rfl⟩ := six_of l1
    obtain ⟨y1, y2, y3, y4, y5, y6, rfl⟩ := six_of l2
    obtain ⟨z1, z2, z3, z4, z5, z6, rfl⟩ := six_of l3
    refine ⟨_, _, _, rfl, ⟨rfl, m.wrsb 0 rfl rfl, ints_one (k := .u8) (l := [x1, x2, x3, x4, x5, x6])⟩, fun g8 e8 => ?_⟩
    replace m := m.setr 0 rfl e8
    replace m : Me W g8 ([(b5, addC2 [x1, x2, x3, x4, x5, x6] [0, 0, 0, 0, 0, 0] [0, 0, 0, 0, 0, 0] ans tok 0 0 0 0 0, 65)] :: [(b1, z25, 65)] :: G) := m
    refine ⟨⟨rfl, m.wrsb 0 rfl rfl, ints_one (k := .u8) (l := [y1, y2, y3, y4, y5, y6])⟩, fun g9 e9 => ?_⟩
    replace m := m.setr 0 rfl e9
    replace m : Me W g9 ([(b5, addC2 [x1, x2, x3, x4, x5, x6] [y1, y2, y3, y4, y5, y6] [0, 0, 0, 0, 0, 0] ans tok 0 0 0 0 0, 65)] :: [(b1, z25, 65)] :: G) := m
    refine ⟨⟨rfl, m.wrsb 0 rfl rfl, ints_one (k := .u8) (l := [z1, z2, z3, z4, z5, z6])⟩, fun g10 e10 => ?_⟩
    replace m := m.setr 0 rfl e10
    replace m : Me W g10 ([(b5, addC2 [x1, x2, x3, x4, x5, x6] [y1, y2, y3, y4, y5, y6] [z1, z2, z3, z4, z5, z6] ans tok 0 0 0 0 0, 65)] :: [(b1, z25, 65)] :: G) := m
    refine ⟨⟨by decide, by decide⟩, ?_⟩
    refine ⟨fun a' l' c' h => ∃ st ys, Bts W (.slice a' l' c') ys ∧ (∀ x ∈ ys, 0 ≤ x ∧ x < 256) ∧ 4 ≤ l' ∧ (ans = false → st = 0 ∧ l' = 6) ∧ (0 ≤ st ∧ st ≤ 65535) ∧ Me W h ([(b5, addC2 [x1, x2, x3, x4, x5, x6] [y1, y2, y3, y4, y5, y6] [z1, z2, z3, z4, z5, z6] ans tok 0 0 0 0 st, 65)] :: [(b1, z25, 65)] :: G), ⟨ans, m.cell 0 rfl rfl, bcase_intro (fun q => ?_) fun q => ?_⟩, fun _ => ?_⟩
    · refine (numAny_c m t27 (by omega) hxd).mono ?_
      rintro _ g11 ⟨st, rfl, hst, rfl⟩
      refine ⟨_, rfl, ?_⟩
      refine m.store 0 rfl (by show 24 < 25; decide) fun g12 m => ?_
      exact ⟨⟨by decide, by decide⟩, st, _, bts_tail t27 (k := 2) (by omega), fun x hm => hxd x (List.mem_of_mem_drop hm), by decide, (fun h => by rw [h] at q; cases q), hst, m⟩
    · exact ⟨0, _, t27, hxd, by decide, fun _ => ⟨rfl, rfl⟩, by decide, m⟩
    rintro a' l' c' g11 ⟨st, ys, hys, hyx, hl4, hst, hsb2, m⟩
    refine (numAny_c m hys (by omega) hyx).mono ?_
    rintro _ g12 ⟨z, rfl, hz, rfl⟩
    refine ⟨_, rfl, ⟨hz.1, by decide⟩, ⟨by omega, by decide, by simp only [fits]; omega⟩, ⟨by omega, by decide, by simp only [fits]; omega⟩, ⟨by decide, by omega⟩, ?_⟩
    refine (numAny_c m (bts_tail hys (k := 2) (by omega)) (by omega) (fun x hm => hyx x (List.mem_of_mem_drop hm))).mono ?_
    rintro _ g13 ⟨tmo, rfl, htmo, rfl⟩
    refine ⟨_, rfl, ?_⟩
    obtain ⟨tid, htid⟩ : ∃ t, t = z % 64 / 4 := ⟨_, rfl⟩
    obtain ⟨size, hsize⟩ : ∃ t, t = z / 64 := ⟨_, rfl⟩
    rw [← htid, ← hsize]
    refine m.store 0 rfl (by show 20 < 25; decide) fun g14 m => ?_
    refine m.store 0 rfl (by show 21 < 25; decide) fun g15 m => ?_
    refine m.store 0 rfl (by show 22 < 25; decide) fun g16 m => ?_
    replace m : Me W g16 ([(b5, addC2 [x1, x2, x3, x4, x5, x6] [y1, y2, y3, y4, y5, y6] [z1, z2, z3, z4, z5, z6] ans tok tid size tmo 0 st, 65)] :: [(b1, z25, 65)] :: G) := m
    refine ⟨fun h => ∃ sq, (0 ≤ sq ∧ sq ≤ 4095) ∧ (ans = true → sq = 0) ∧ Me W h ([(b5, addC2 [x1, x2, x3, x4, x5, x6] [y1, y2, y3, y4, y5, y6] [z1, z2, z3, z4, z5, z6] ans tok tid size tmo sq st, 65)] :: [(b1, z25, 65)] :: G), ⟨ans, m.cell 0 rfl rfl, bcase_intro (fun q => ?_) fun q => ?_⟩, fun _ => ?_⟩
    · have hf : ans = false := by simpa using q
      have h6 := (hst hf).2
      refine ⟨⟨by decide, by omega⟩, ?_⟩
      refine (numAny_c m (bts_tail hys (k := 4) (by omega)) (by omega) (fun x hm => hyx x (List.mem_of_mem_drop hm))).mono ?_
      rintro _ g17 ⟨s6, rfl, hs6, rfl⟩
      refine ⟨_, rfl, ⟨hs6.1, by decide, by simp only [fits]; omega⟩, ?_⟩
      refine m.store 0 rfl (by show 23 < 25; decide) fun g18 m => ?_
      exact ⟨s6 / 16, by omega, (fun h => by rw [h] at hf; cases hf), m⟩
    · exact ⟨0, by decide, fun _ => rfl, m⟩
    rintro g17 ⟨sq, hsq, hsa, m⟩
    have r17 : row g17 b5 0 25 = some (addC2 [x1, x2, x3, x4, x5, x6] [y1, y2, y3, y4, y5, y6] [z1, z2, z3, z4, z5, z6] ans tok tid size tmo sq st) := m.row 0 rfl rfl (Nat.le_of_ble_eq_true rfl)
    refine ⟨_, r17, ?_⟩
    refine (addAny_c (to := [x1, x2, x3, x4, x5, x6]) (fr := [y1, y2, y3, y4, y5, y6]) (bss := [z1, z2, z3, z4, z5, z6]) hE m rfl rfl rfl (by omega) (by omega) (by omega) htmo hsq hsb2 ans hsa (fun h => (hst h).1)).mono ?_
    rintro _ g18 ⟨W', hle, m, ⟨e, rfl⟩ | ⟨a8, n8, c8, bs, rfl, hb8, hbs⟩⟩
    · refine ⟨_, _, _, _, rfl, false, rfl, bcase_true rfl ?_⟩
      have hc3 := m.wcell (wcell_le hle heS)
      refine ⟨_, hc3, ⟨rfl, m.wrsb 1 rfl rfl, addC_one [0, 0, 0, 0, 0, 0] [0, 0, 0, 0, 0, 0] [0, 0, 0, 0, 0, 0] false 0 0 0 0⟩, fun g19 e19 => ?_⟩
      have m19 := m.setr 1 rfl e19
      exact ⟨m19.wcell (wcell_le hle heS), z25, m19.row 1 rfl rfl (Nat.le_of_ble_eq_true rfl), eS, W', rfl, hle, m19.drop1.drop1⟩
    · refine ⟨_, _, _, _, rfl, true, rfl, bcase_false rfl ?_⟩
      have h1 := List.getElem?_eq_getElem (l := xs) (i := 1) (by omega)
      have k1 := hx _ (List.getElem_mem (l := xs) (n := 1) (by omega))
      refine (neqB_c m hb8 (hb0.le hle) (bytesOf_ne hbs h1 (by decide) k1 (fun e => hy1 (by rw [h1, ← e])))).ret ⟨_, rfl, bcase_true rfl ?_⟩
      have hc3 := m.wcell (wcell_le hle heS)
      refine ⟨_, hc3, ⟨rfl, m.wrsb 1 rfl rfl, addC_one [0, 0, 0, 0, 0, 0] [0, 0, 0, 0, 0, 0] [0, 0, 0, 0, 0, 0] false 0 0 0 0⟩, fun g19 e19 => ?_⟩
      have m19 := m.setr 1 rfl e19
      exact ⟨m19.wcell (wcell_le hle heS), z25, m19.row 1 rfl rfl (Nat.le_of_ble_eq_true rfl), eS, W', rfl, hle, m19.drop1.drop1⟩
  · replace m := m.drop1
    refine ⟨_, rfl, false, rfl, bcase_true rfl ⟨⟨rfl, m.wrsb 0 rfl rfl, addC_one [0, 0, 0, 0, 0, 0] [0, 0, 0, 0, 0, 0] [0, 0, 0, 0, 0, 0] false 0 0 0 0⟩, fun g3 e5 => ?_⟩⟩
    have m3 := m.setr 0 rfl e5
    exact ⟨z25, m3.row 0 rfl rfl (Nat.le_of_ble_eq_true rfl), e, W, rfl, Wd.le.refl W, m3.drop1⟩
def z21 : List Value := ints .u8 [0, 0, 0, 0, 0, 0, 0, 0, 0, 0, 0, 0, 0, 0, 0, 0, 0, 0] ++ [.bool false, .int .i64 0, .int .i64 0]
theorem z21_one : ∀ u ∈ z21, u.oneCell' = true := by
  intro u hu
  simp only [z21, List.mem_append] at hu
  rcases hu with hu | hu
  · exact ints_one u hu
  · simp only [List.mem_cons, List.not_mem_nil, or_false] at hu
    rcases hu with rfl | rfl | rfl <;> rfl
/-- act.ReadDel of bytes that no Del has. -/
theorem delBad_c (hE : Snt5 W) (m : Me W h G) (hb : Bts W (.slice a n c) xs) (hl : 26 ≤ xs.length) (hy : xs[0]? ≠ some 208 ∨ xs.length ≠ 30) :
    Runs Tryd.prog 54 #[.slice a n c] h fun v h' => ∃ e, v = .tuple #[.agg z21.toArray, ptE e] ∧ Me W h' G := by
  refine vc_act_ReadDel _ _ _ _ _ ?_
  intro b1 g1 e1 e2 b2 g2 e3 e4
  replace m := (m.push e2 e1).push e4 e3
  refine (along_any (ws := [2]) (N := 30) hE m hb hl rfl).mono ?_
  rintro _ _ ⟨⟨rfl, hN, h0⟩ | ⟨e, rfl⟩, rfl⟩
  · exfalso
    rcases hy with h | h
    · exact h h0
    · exact h hN
  · replace m := m.drop1
    refine ⟨_, rfl, false, rfl, bcase_true rfl ⟨⟨rfl, m.wrsb 0 rfl rfl, z21_one⟩, fun g3 e5 => ?_⟩⟩
    have m3 := m.setr 0 rfl e5
    exact ⟨z21, m3.row 0 rfl rfl (Nat.le_of_ble_eq_true rfl), e, rfl, m3.drop1⟩
end
end Go.Proofs.YthlacliefgliiaaDoor
