import Derived.Test.YtepodifionoigaaGreatDoorMSesG
import Derived.Test.YtepodifionoigaaGreatDoorGenAll2
set_option linter.unusedVariables false
set_option linter.unusedSimpArgs false
set_option maxRecDepth 8000
namespace Go.Proofs.YtepodifionoigaaGreatDoor
open Go.Vc
def isBar (xs : List Int) : Prop := xs.length = 20 ∧ xs[0]? = some 132 ∧ wd xs 16 / 4096 ≤ 7 ∧ askB 132 (sub6 xs 4) (sub6 xs 10) (wd xs 16 / 4096) (wd xs 18 / 16) = xs
def barX (xs : List Int) : List Value := barC (sub6 xs 4) (sub6 xs 10) (wd xs 16 / 4096) (wd xs 18 / 16)
theorem bytes_inj' : ∀ {l m : List Int}, (∀ x ∈ l, 0 ≤ x ∧ x < 256) → (∀ x ∈ m, 0 ≤ x ∧ x < 256) → Lib.bytesOf l = Lib.bytesOf m → l = m
  | [], [], _, _, _ => rfl
  | [], y :: m, _, _, e => by simp [Lib.bytesOf] at e
  | x :: l, [], _, _, e => by simp [Lib.bytesOf] at e
  | x :: l, y :: m, hl, hm, e => by
    simp only [Lib.bytesOf, List.map_cons, List.cons.injEq] at e
    have h1 := hl x (by simp)
    have h2 := hm y (by simp)
    have h3 := congrArg UInt8.toNat e.1
    simp only [UInt8.toNat_ofNat'] at h3
    rw [show x = y by omega, bytes_inj' (l := l) (m := m) (fun z hz => hl z (by simp [hz])) (fun z hz => hm z (by simp [hz])) e.2]
section
variable {W W' : Wd} {h h' : Heap} {G : List Grp} {E : Grp} {a a2 : Option Addr} {l r c c2 n k : Nat} {vs us : List Value} {bs xs ys to fr : List Int} {tid sq : Int}
theorem askB_by {kind : Int} (h1 : ∀ x ∈ to, 0 ≤ x ∧ x < 256) (h2 : ∀ x ∈ fr, 0 ≤ x ∧ x < 256) (hk : 0 ≤ kind ∧ kind < 256) : ∀ x ∈ askB kind to fr tid sq, 0 ≤ x ∧ x < 256 := by
  intro x hx
  simp only [askB, List.mem_append, List.mem_cons, List.not_mem_nil, or_false] at hx
  rcases hx with (rfl | rfl | rfl | rfl) | hx | hx | rfl | rfl | rfl | rfl
  all_goals first | exact h1 _ hx | exact h2 _ hx | omega
theorem sub6_by (hx : ∀ x ∈ xs, 0 ≤ x ∧ x < 256) (i : Nat) : ∀ x ∈ sub6 xs i, 0 ≤ x ∧ x < 256 := fun x h => hx x (List.mem_of_mem_drop (List.mem_of_mem_take h))
theorem eqG_c (m : Me W h G) (h1 : Bts W (.slice a n c) xs) (h2 : Bts W (.slice a2 k c2) ys) (hx : ∀ x ∈ xs, 0 ≤ x ∧ x < 256) (hy : ∀ x ∈ ys, 0 ≤ x ∧ x < 256) :
    Runs Tryz.prog 94 #[.slice a n c, .slice a2 k c2] h fun v h' => v = .bool (decide (xs = ys)) ∧ h' = h := by
  by_cases he : xs = ys
  · subst he
    rw [decide_eq_true rfl]
    exact eqB_c m h1 h2
  · rw [decide_eq_false he]
    exact neqB_c m h1 h2 fun e => he (bytes_inj' hx hy e)
theorem clong_c {first : Int} {N : Nat} (hE : Snt5 W) (m : Me W h G) (hb : Bts W (.slice a n c) xs) (hN : 0 < N) :
    Runs Tryz.prog 91 #[.slice a n c, .int .u8 first, .int .i64 (N : Int)] h fun v h' => ((v = .nilIface ∧ xs[0]? = some first ∧ xs.length = N) ∨ ((∃ e, v = ptE e) ∧ ¬ (xs[0]? = some first ∧ xs.length = N))) ∧ h' = h := by
  obtain ⟨eE, heE⟩ := hE 1 (by decide)
  obtain ⟨eK, heK⟩ := hE 2 (by decide)
  obtain ⟨eS, heS⟩ := hE 3 (by decide)
  obtain ⟨-, hn, -⟩ := bts_src hb
  by_cases hl : 0 < xs.length
  · obtain ⟨b', o, rfl, hn, hc, hx⟩ := bts_opn hb hl
    have h0 := List.getElem?_eq_getElem (l := xs) (i := 0) hl
    refine vc_ctl_long _ _ _ _ _ _ _ (dcase_pos (by omega) ⟨⟨by decide, by omega⟩, _, m.wcell (by simpa using hx 0 _ h0), bcase_intro (fun q => ?_) fun q => ?_⟩)
    · refine ⟨_, m.wcell heK, .inr ⟨⟨eK, rfl⟩, fun hh => ?_⟩, rfl⟩
      have := hh.1
      rw [h0] at this
      simp at q this
      exact q this
    have q0 : xs[0] = first := by simpa using q
    refine dcase_intro (fun q3 => ⟨_, m.wcell heE, .inr ⟨⟨eE, rfl⟩, fun hh => by have := hh.2; omega⟩, rfl⟩) fun q3 => ?_
    refine dcase_intro (fun q4 => ⟨_, m.wcell heS, .inr ⟨⟨eS, rfl⟩, fun hh => by have := hh.2; omega⟩, rfl⟩) fun q4 => ?_
    exact ⟨.inl ⟨rfl, by rw [h0, q0], by omega⟩, rfl⟩
  · refine vc_ctl_long _ _ _ _ _ _ _ (dcase_neg (by omega) (dcase_pos (by omega) ⟨_, m.wcell heE, .inr ⟨⟨eE, rfl⟩, fun hh => by have := hh.2; omega⟩, rfl⟩))
theorem rkind_c {first : Int} {N : Nat} (m : Me W h G) (hb : Bts W (.slice a n c) xs) (hN : 0 < N) :
    Runs Tryz.prog 101 #[.slice a n c, .int .u8 first, .int .i64 (N : Int)] h fun v h' => ((v = .int .i64 0 ∧ xs[0]? = some first ∧ xs.length = N) ∨ ((∃ e : Int, v = .int .i64 e ∧ e ≠ 0) ∧ ¬ (xs[0]? = some first ∧ xs.length = N))) ∧ h' = h := by
  obtain ⟨-, hn, -⟩ := bts_src hb
  by_cases hl : 0 < xs.length
  · obtain ⟨b', o, rfl, hn, hc, hx⟩ := bts_opn hb hl
    have h0 := List.getElem?_eq_getElem (l := xs) (i := 0) hl
    refine vc_muezzinref1_kind _ _ _ _ _ _ _ (dcase_pos (by omega) ⟨⟨by decide, by omega⟩, _, m.wcell (by simpa using hx 0 _ h0), bcase_intro (fun q => ?_) fun q => ?_⟩)
    · refine ⟨.inr ⟨⟨_, rfl, by decide⟩, fun hh => ?_⟩, rfl⟩
      have := hh.1
      rw [h0] at this
      simp at q this
      exact q this
    have q0 : xs[0] = first := by simpa using q
    refine dcase_intro (fun q3 => ⟨.inr ⟨⟨_, rfl, by decide⟩, fun hh => by have := hh.2; omega⟩, rfl⟩) fun q3 => ?_
    refine dcase_intro (fun q4 => ⟨.inr ⟨⟨_, rfl, by decide⟩, fun hh => by have := hh.2; omega⟩, rfl⟩) fun q4 => ?_
    exact ⟨.inl ⟨rfl, by rw [h0, q0], by omega⟩, rfl⟩
  · exact vc_muezzinref1_kind _ _ _ _ _ _ _ (dcase_neg (by omega) (dcase_pos (by omega) ⟨.inr ⟨⟨_, rfl, by decide⟩, fun hh => by have := hh.2; omega⟩, rfl⟩))
theorem askedG_c (m : Me W h G) (hb : Bts W (.slice a n c) xs) (hl : xs.length = 20) (hx : ∀ x ∈ xs, 0 ≤ x ∧ x < 256) :
    Runs Tryz.prog 92 #[.slice a n c] h fun v h' => v = .agg (barX xs).toArray ∧ Me W h' G := by
  obtain ⟨-, hn, -⟩ := bts_src hb
  rw [hl] at hn
  subst hn
  match xs, hl with
  | [w0, w1, w2, w3, x1, x2, x3, x4, x5, x6, y1, y2, y3, y4, y5, y6, p0, p1, q0, q1], _ =>
  have r0 := hx p0 (by simp)
  have r1 := hx p1 (by simp)
  have r2 := hx q0 (by simp)
  have r3 := hx q1 (by simp)
  have t16 := bts_tail hb (k := 16) (by omega)
  have t18 := bts_tail hb (k := 18) (by omega)
  obtain ⟨ha4, -, -⟩ := bts_src (bts_tail hb (k := 4) (by omega))
  obtain ⟨ha10, -, -⟩ := bts_src (bts_tail hb (k := 10) (by omega))
  replace ha4 : wsrc W (slcAddr a 4 c 4) 6 (ints .u8 [x1, x2, x3, x4, x5, x6]) := wsrc_take (j := 6) ha4 (by omega) rfl
  replace ha10 : wsrc W (slcAddr a 10 c 10) 6 (ints .u8 [y1, y2, y3, y4, y5, y6]) := wsrc_take (j := 6) ha10 (by omega) rfl
  have n16 : ∀ {h : Heap} {G : List Grp}, Me W h G → Runs Tryz.prog 110 #[.slice (slcAddr a 16 c 16) (20 - 16) (c - 16)] h fun v h' => v = .int .i64 (p0 + p1 * 256) ∧ h' = h := fun m => cnum_c m t16 rfl rfl r0 r1
  have n18 : ∀ {h : Heap} {G : List Grp}, Me W h G → Runs Tryz.prog 110 #[.slice (slcAddr a 18 c 18) (20 - 18) (c - 18)] h fun v h' => v = .int .i64 (q0 + q1 * 256) ∧ h' = h := fun m => cnum_c m t18 rfl rfl r2 r3
  have f1 : fits .i64 ((p0 + p1 * 256) / 4096) := by simp only [fits]; omega
  have f2 : fits .i64 ((q0 + q1 * 256) / 16) := by simp only [fits]; omega
  refine vc_ctl_asked _ _ _ _ _ ?_
  intro b1 g1 e1 e2
  replace m := m.push e2 e1
  refine ⟨fun p h5 => ∃ bX, p = some ⟨bX, 0, none⟩ ∧ Me W h5 ([(bX, barC [0, 0, 0, 0, 0, 0] [0, 0, 0, 0, 0, 0] ((p0 + p1 * 256) / 4096) ((q0 + q1 * 256) / 16), 75)] :: [(b1, z14, 75)] :: G), ⟨⟨by decide, by decide⟩, ⟨by decide, by decide⟩, ?_, ?_⟩, fun _ => ?_⟩
  · refine (n16 m).ret ⟨_, rfl, ?_⟩
    refine ⟨⟨by omega, by decide, f1⟩, ⟨?_, ?_⟩⟩
    · refine (n18 m).ret ⟨_, rfl, ?_⟩
      refine ⟨⟨by omega, by decide, f2⟩, fun bX g4 e3 e4 => ?_⟩
      replace m := m.push e4 e3
      exact ⟨⟨rfl, m.wrsb 0 rfl rfl, barC_one [0, 0, 0, 0, 0, 0] [0, 0, 0, 0, 0, 0] _ _⟩, fun g5 e5 => ⟨bX, rfl, m.setr 0 rfl e5⟩⟩
    · intro bX g4 e3 e4
      replace m := m.push e4 e3
      refine (n18 m).ret ⟨_, rfl, ?_⟩
      refine ⟨⟨by omega, by decide, f2⟩, ?_⟩
      exact ⟨⟨rfl, m.wrsb 0 rfl rfl, barC_one [0, 0, 0, 0, 0, 0] [0, 0, 0, 0, 0, 0] _ _⟩, fun g5 e5 => ⟨bX, rfl, m.setr 0 rfl e5⟩⟩
  · intro bX g4 e3 e4
    replace m := m.push e4 e3
    refine (n16 m).ret ⟨_, rfl, ?_⟩
    refine ⟨⟨by omega, by decide, f1⟩, ?_⟩
    refine (n18 m).ret ⟨_, rfl, ?_⟩
    refine ⟨⟨by omega, by decide, f2⟩, ?_⟩
    exact ⟨⟨rfl, m.wrsb 0 rfl rfl, barC_one [0, 0, 0, 0, 0, 0] [0, 0, 0, 0, 0, 0] _ _⟩, fun g5 e5 => ⟨bX, rfl, m.setr 0 rfl e5⟩⟩
  rintro _ g5 ⟨bX, rfl, m⟩
  refine ⟨⟨by decide, by decide⟩, _, ⟨m.wsrc (rd6 ha4 (by decide)), ints_one⟩, m.wrsb 0 rfl rfl, fun g6 e6 => ?_⟩
  replace m := m.setr 0 rfl e6
  replace m : Me W g6 ([(bX, barC [x1, x2, x3, x4, x5, x6] [0, 0, 0, 0, 0, 0] ((p0 + p1 * 256) / 4096) ((q0 + q1 * 256) / 16), 75)] :: [(b1, z14, 75)] :: G) := m
  refine ⟨⟨by decide, by decide⟩, _, ⟨m.wsrc (rd6 ha10 (by decide)), ints_one⟩, m.wrsb 0 rfl rfl, fun g7 e7 => ?_⟩
  replace m := m.setr 0 rfl e7
  replace m : Me W g7 ([(bX, barC [x1, x2, x3, x4, x5, x6] [y1, y2, y3, y4, y5, y6] ((p0 + p1 * 256) / 4096) ((q0 + q1 * 256) / 16), 75)] :: [(b1, z14, 75)] :: G) := m
  refine ⟨barC [x1, x2, x3, x4, x5, x6] [y1, y2, y3, y4, y5, y6] ((p0 + p1 * 256) / 4096) ((q0 + q1 * 256) / 16), m.row 0 rfl rfl (Nat.le_of_ble_eq_true rfl), ⟨rfl, m.wrsb 1 rfl rfl, barC_one [x1, x2, x3, x4, x5, x6] [y1, y2, y3, y4, y5, y6] _ _⟩, fun g8 e8 => ?_⟩
  have m8 := m.setr 1 rfl e8
  exact ⟨_, m8.row 1 rfl rfl (Nat.le_of_ble_eq_true rfl), rfl, m8.drop1.drop1⟩
theorem cbarErr_c (hE : Snt5 W) (m : Me W h G) (h1 : to.length = 6) (h2 : fr.length = 6) (ht : 7 < tid) :
    Runs Tryz.prog 93 #[.agg (barC to fr tid sq).toArray] h fun v h' => (∃ e, v = .tuple #[.slice none 0 0, ptE e]) ∧ Me W h' G := by
  obtain ⟨x1, x2, x3, x4, x5, x6, rfl⟩ := six_of h1
  obtain ⟨y1, y2, y3, y4, y5, y6, rfl⟩ := six_of h2
  obtain ⟨eR, heR⟩ := hE 0 (by decide)
  refine vc_ctl_BarBytes _ _ _ ?_
  intro b1 g1 e1 e2
  replace m := m.push e2 e1
  refine ⟨_, m.row 0 rfl rfl (Nat.le_of_ble_eq_true rfl), _, m.row 0 rfl rfl (Nat.le_of_ble_eq_true rfl), _, m.cell 0 rfl rfl, _, m.cell 0 rfl rfl, ?_⟩
  refine vc_ctl_asks _ _ _ _ _ _ _ ?_
  intro b2 g2 e3 e4 b3 g3 e5 e6
  replace m := (m.push e4 e3).push e6 e5
  refine dcase_neg (by omega) (dcase_pos (by omega) ⟨_, m.wcell heR, _, _, _, _, rfl, ⟨eR, rfl⟩, m.drop1.drop1.drop1⟩)
theorem readBarG_c (hE : Snt5 W) (m : Me W h G) (hb : Bts W (.slice a n c) xs) (hx : ∀ x ∈ xs, 0 ≤ x ∧ x < 256) :
    Runs Tryz.prog 60 #[.slice a n c] h fun v h' => ∃ W', W.le W' ∧ Me W' h' G ∧ ((isBar xs ∧ v = .tuple #[.agg (barX xs).toArray, .nilIface]) ∨ (¬ isBar xs ∧ ∃ e, v = .tuple #[.agg z14.toArray, ptE e])) := by
  obtain ⟨eS, heS⟩ := hE 3 (by decide)
  refine vc_ctl_ReadBar _ _ _ _ _ ?_
  intro b1 g1 e1 e2
  replace m := m.push e2 e1
  refine (clong_c (first := 132) (N := 20) hE m hb (by decide)).mono ?_
  rintro v g2 ⟨⟨rfl, h0, hl⟩ | ⟨⟨e, rfl⟩, hno⟩, rfl⟩
  · refine ⟨_, rfl, true, rfl, bcase_false rfl ?_⟩
    refine (askedG_c m hb hl hx).mono ?_
    rintro _ g3 ⟨rfl, m⟩
    have hb0 := hb
    match xs, hl with
    | [w0, w1, w2, w3, x1, x2, x3, x4, x5, x6, y1, y2, y3, y4, y5, y6, p0, p1, q0, q1], _ =>
    have r0 := hx p0 (by simp)
    have r1 := hx p1 (by simp)
    have r2 := hx q0 (by simp)
    have r3 := hx q1 (by simp)
    refine ⟨_, rfl, ?_⟩
    intro b2 g4 e3 e4
    replace m := m.push e4 e3
    refine ⟨⟨rfl, m.wrsb 0 rfl rfl, barC_one _ _ _ _⟩, fun g5 e5 => ?_⟩
    replace m := m.setr 0 rfl e5
    replace m : Me W g5 ([(b2, barC [x1, x2, x3, x4, x5, x6] [y1, y2, y3, y4, y5, y6] ((p0 + p1 * 256) / 4096) ((q0 + q1 * 256) / 16), 75)] :: [(b1, z14, 75)] :: G) := m
    refine ⟨_, m.row 0 rfl rfl (Nat.le_of_ble_eq_true rfl), ?_⟩
    by_cases ht : (p0 + p1 * 256) / 4096 ≤ 7
    · refine (cbarBytes_c (to := [x1, x2, x3, x4, x5, x6]) (fr := [y1, y2, y3, y4, y5, y6]) m rfl rfl ⟨by omega, ht⟩ ⟨by omega, by omega⟩).mono ?_
      rintro _ g6 ⟨W', a8, c8, hle, rfl, m, hb8⟩
      refine ⟨_, _, _, _, rfl, true, rfl, bcase_false rfl ?_⟩
      refine (eqG_c m hb8 (hb0.le hle) (askB_by (sub6_by hx 4) (sub6_by hx 10) (by decide)) hx).ret ⟨_, rfl, bcase_intro (fun q => ?_) fun q => ?_⟩
      · have hne := of_decide_eq_false (by simpa using q)
        refine ⟨_, m.wcell (wcell_le hle heS), ⟨rfl, m.wrsb 1 rfl rfl, z14_one⟩, fun g8 e8 => ?_⟩
        have m8 := m.setr 1 rfl e8
        exact ⟨m8.wcell (wcell_le hle heS), _, m8.row 1 rfl rfl (Nat.le_of_ble_eq_true rfl), W', hle, m8.drop1.drop1, .inr ⟨fun hh => hne hh.2.2.2, eS, rfl⟩⟩
      · have he := of_decide_eq_true (by simpa using q)
        refine ⟨barC [x1, x2, x3, x4, x5, x6] [y1, y2, y3, y4, y5, y6] ((p0 + p1 * 256) / 4096) ((q0 + q1 * 256) / 16), m.row 0 rfl rfl (Nat.le_of_ble_eq_true rfl), ⟨rfl, m.wrsb 1 rfl rfl, barC_one _ _ _ _⟩, fun g8 e8 => ?_⟩
        have m8 := m.setr 1 rfl e8
        exact ⟨_, m8.row 1 rfl rfl (Nat.le_of_ble_eq_true rfl), W', hle, m8.drop1.drop1, .inl ⟨⟨rfl, h0, ht, he⟩, rfl⟩⟩
    · refine (cbarErr_c (to := [x1, x2, x3, x4, x5, x6]) (fr := [y1, y2, y3, y4, y5, y6]) hE m rfl rfl (by omega)).mono ?_
      rintro _ g6 ⟨⟨e, rfl⟩, m⟩
      refine ⟨_, _, _, _, rfl, false, rfl, bcase_true rfl ?_⟩
      refine ⟨_, m.wcell heS, ⟨rfl, m.wrsb 1 rfl rfl, z14_one⟩, fun g8 e8 => ?_⟩
      have m8 := m.setr 1 rfl e8
      exact ⟨m8.wcell heS, _, m8.row 1 rfl rfl (Nat.le_of_ble_eq_true rfl), W, Wd.le.refl W, m8.drop1.drop1, .inr ⟨fun hh => ht hh.2.2.1, eS, rfl⟩⟩
  · refine ⟨_, rfl, false, rfl, bcase_true rfl ⟨⟨rfl, m.wrsb 0 rfl rfl, z14_one⟩, fun g3 e3 => ?_⟩⟩
    have m2 := m.setr 0 rfl e3
    exact ⟨_, m2.row 0 rfl rfl (Nat.le_of_ble_eq_true rfl), W, Wd.le.refl W, m2.drop1, .inr ⟨fun hh => hno ⟨hh.2.1, hh.1⟩, e, rfl⟩⟩
end
end Go.Proofs.YtepodifionoigaaGreatDoor
set_option linter.unusedVariables false
set_option linter.unusedSimpArgs false
set_option maxRecDepth 8000
namespace Go.Proofs.YtepodifionoigaaGreatDoor
open Go.Vc
section
variable {W W' : Wd} {h h' : Heap} {G : List Grp} {E : Grp} {a a2 : Option Addr} {l r c c2 n k : Nat} {vs us : List Value} {bs xs ys to fr : List Int} {tid sq : Int}
theorem rout_out {n m : Int} {h : Heap} {Post : Value → Heap → Prop} (hn : m < n) (k : Post (.bool true) h) : Runs Tryz.prog 47 #[.int .i64 n, .int .i64 m] h Post :=
  (rout_c n m h).mono fun v h' ⟨e1, e2⟩ => by subst e1 e2; rw [decide_eq_true (Or.inr hn)]; exact k
theorem rbarErr_c (m : Me W h G) (h1 : to.length = 6) (h2 : fr.length = 6) (ht : 7 < tid) :
    Runs Tryz.prog 23 #[.agg (barC to fr tid sq).toArray] h fun v h' => (∃ e : Int, v = .tuple #[.slice none 0 0, .int .i64 e] ∧ e ≠ 0) ∧ Me W h' G := by
  obtain ⟨x1, x2, x3, x4, x5, x6, rfl⟩ := six_of h1
  obtain ⟨y1, y2, y3, y4, y5, y6, rfl⟩ := six_of h2
  refine vc_muezzinref1_BarBytes _ _ _ ?_
  intro b1 g1 e1 e2
  replace m := m.push e2 e1
  exact ⟨_, m.cell 0 rfl rfl, rout_out ht ⟨_, rfl, bcase_true rfl ⟨⟨_, rfl, by decide⟩, m.drop1⟩⟩⟩
def RBarV (W : Wd) (G : List Grp) (xs : List Int) (v : Value) (h' : Heap) : Prop := ∃ W', W.le W' ∧ Me W' h' G ∧ ((isBar xs ∧ v = .tuple #[.agg (barX xs).toArray, .int .i64 0]) ∨ (¬ isBar xs ∧ ∃ e : Int, v = .tuple #[.agg z14.toArray, .int .i64 e] ∧ e ≠ 0))
set_option maxHeartbeats 800000 in
theorem rreadBarG_c (m : Me W h G) (hb : Bts W (.slice a n c) xs) (hx : ∀ x ∈ xs, 0 ≤ x ∧ x < 256) :
    Runs Tryz.prog 65 #[.slice a n c] h (RBarV W G xs) := by
  refine vc_muezzinref1_ReadBar _ _ _ _ _ ?_
  intro b1 g1 e1 e2
  replace m := m.push e2 e1
  refine (rkind_c (first := 132) (N := 20) m hb (by decide)).mono ?_
  rintro v g2 ⟨⟨rfl, h0, hl⟩ | ⟨⟨e, rfl, he0⟩, hno⟩, rfl⟩
  · refine ⟨_, rfl, bcase_false rfl ?_⟩
    have hb0 := hb
    obtain ⟨-, hn, -⟩ := bts_src hb
    rw [hl] at hn
    subst hn
    have hsx := bts_src hb
    match xs, hl with
    | [w0, w1, w2, w3, x1, x2, x3, x4, x5, x6, y1, y2, y3, y4, y5, y6, p0, p1, q0, q1], _ =>
    have r0 := hx p0 (by simp)
    have r1 := hx p1 (by simp)
    have r2 := hx q0 (by simp)
    have r3 := hx q1 (by simp)
    have t4 := bts_tail hb (k := 4) (by omega)
    have t10 := bts_tail hb (k := 10) (by omega)
    have t16 := bts_tail hb (k := 16) (by omega)
    have t18 := bts_tail hb (k := 18) (by omega)
    have n16 : ∀ {h : Heap} {G : List Grp}, Me W h G → Runs Tryz.prog 85 #[.slice (slcAddr a 16 c 16) (20 - 16) (c - 16)] h fun v h' => v = .int .i64 (p0 + p1 * 256) ∧ h' = h := fun m => num_c m t16 rfl rfl r0 r1
    have n18 : ∀ {h : Heap} {G : List Grp}, Me W h G → Runs Tryz.prog 85 #[.slice (slcAddr a 18 c 18) (20 - 18) (c - 18)] h fun v h' => v = .int .i64 (q0 + q1 * 256) ∧ h' = h := fun m => num_c m t18 rfl rfl r2 r3
    have f1 : fits .i64 ((p0 + p1 * 256) / 4096) := by simp only [fits]; omega
    have f2 : fits .i64 ((q0 + q1 * 256) / 16) := by simp only [fits]; omega
    refine ⟨fun p h9 => ∃ bX, p = some ⟨bX, 0, none⟩ ∧ Me W h9 ([(bX, barC [x1, x2, x3, x4, x5, x6] [y1, y2, y3, y4, y5, y6] ((p0 + p1 * 256) / 4096) ((q0 + q1 * 256) / 16), 75)] :: [(b1, z14, 75)] :: G), ?_, fun _ => ?_⟩
    rotate_left
    · rintro _ g5 ⟨bX, rfl, m⟩
      refine ⟨_, m.row 0 rfl rfl (Nat.le_of_ble_eq_true rfl), ?_⟩
      by_cases ht : (p0 + p1 * 256) / 4096 ≤ 7
      · refine (rbarBytes_c (to := [x1, x2, x3, x4, x5, x6]) (fr := [y1, y2, y3, y4, y5, y6]) m rfl rfl ⟨by omega, ht⟩ ⟨by omega, by omega⟩).mono ?_
        rintro _ g6 ⟨W', a8, c8, hle, rfl, m, hb8⟩
        refine ⟨_, _, _, _, rfl, bcase_false rfl ?_⟩
        obtain ⟨k1, k2, k3⟩ := bts_src hb8
        refine (sameBytes_c (m.wsrc (wsrc_le hle hsx.1)) rfl (m.wsrc k1) k2 (by decide)).ret ⟨_, rfl, bcase_intro (fun q => ?_) fun q => ?_⟩
        · have hne := of_decide_eq_false (by simpa using q)
          refine ⟨⟨rfl, m.wrsb 1 rfl rfl, z14_one⟩, fun g8 e8 => ?_⟩
          have m8 := m.setr 1 rfl e8
          exact ⟨_, m8.row 1 rfl rfl (Nat.le_of_ble_eq_true rfl), W', hle, m8.drop1.drop1, .inr ⟨fun hh => hne hh.2.2.2.symm, _, rfl, by decide⟩⟩
        · have he := of_decide_eq_true (by simpa using q)
          refine ⟨barC [x1, x2, x3, x4, x5, x6] [y1, y2, y3, y4, y5, y6] ((p0 + p1 * 256) / 4096) ((q0 + q1 * 256) / 16), m.row 0 rfl rfl (Nat.le_of_ble_eq_true rfl), ⟨rfl, m.wrsb 1 rfl rfl, barC_one _ _ _ _⟩, fun g8 e8 => ?_⟩
          have m8 := m.setr 1 rfl e8
          exact ⟨_, m8.row 1 rfl rfl (Nat.le_of_ble_eq_true rfl), W', hle, m8.drop1.drop1, .inl ⟨⟨rfl, h0, ht, he.symm⟩, rfl⟩⟩
      · refine (rbarErr_c (to := [x1, x2, x3, x4, x5, x6]) (fr := [y1, y2, y3, y4, y5, y6]) m rfl rfl (by omega)).mono ?_
        rintro _ g6 ⟨⟨e, rfl, he0⟩, m⟩
        refine ⟨_, _, _, _, rfl, bcase_true (by simp [he0]) ?_⟩
        refine ⟨⟨rfl, m.wrsb 1 rfl rfl, z14_one⟩, fun g8 e8 => ?_⟩
        have m8 := m.setr 1 rfl e8
        exact ⟨_, m8.row 1 rfl rfl (Nat.le_of_ble_eq_true rfl), W, Wd.le.refl W, m8.drop1.drop1, .inr ⟨fun hh => ht hh.2.2.1, _, rfl, by decide⟩⟩
    refine ⟨⟨by decide, by decide⟩, ⟨by decide, by decide⟩, ⟨by decide, by decide⟩, ⟨by decide, by decide⟩, ?_, ?_⟩
    · skip
      (refine (six_c m t4 (by simp)).mono ?_; rintro _ gS ⟨rfl, mS⟩; replace m := mS; clear mS; refine ⟨ints .u8 [x1, x2, x3, x4, x5, x6], rfl, ?_⟩)
      refine ⟨?_, ?_⟩
      · skip
        (refine (six_c m t10 (by simp)).mono ?_; rintro _ gS ⟨rfl, mS⟩; replace m := mS; clear mS; refine ⟨ints .u8 [y1, y2, y3, y4, y5, y6], rfl, ?_⟩)
        refine ⟨?_, ?_⟩
        · skip
          (refine (n16 m).ret ⟨_, rfl, ?_⟩; refine ⟨⟨by omega, by decide, f1⟩, ?_⟩)
          refine ⟨?_, ?_⟩
          · skip
            (refine (n18 m).ret ⟨_, rfl, ?_⟩; refine ⟨⟨by omega, by decide, f2⟩, ?_⟩)
            refine ⟨rfl, rfl, ?_⟩
            (intro bX gX eX1 eX2; replace m := m.push eX2 eX1; clear eX1 eX2)
            refine ⟨⟨rfl, m.wrsb 0 rfl rfl, barC_one [x1, x2, x3, x4, x5, x6] [y1, y2, y3, y4, y5, y6] _ _⟩, fun g5 e5 => ?_⟩
            exact ⟨bX, rfl, m.setr 0 rfl e5⟩
          · skip
            (intro bX gX eX1 eX2; replace m := m.push eX2 eX1; clear eX1 eX2)
            (refine (n18 m).ret ⟨_, rfl, ?_⟩; refine ⟨⟨by omega, by decide, f2⟩, ?_⟩)
            refine ⟨rfl, rfl, ?_⟩
            refine ⟨⟨rfl, m.wrsb 0 rfl rfl, barC_one [x1, x2, x3, x4, x5, x6] [y1, y2, y3, y4, y5, y6] _ _⟩, fun g5 e5 => ?_⟩
            exact ⟨bX, rfl, m.setr 0 rfl e5⟩
        · skip
          (intro bX gX eX1 eX2; replace m := m.push eX2 eX1; clear eX1 eX2)
          (refine (n16 m).ret ⟨_, rfl, ?_⟩; refine ⟨⟨by omega, by decide, f1⟩, ?_⟩)
          (refine (n18 m).ret ⟨_, rfl, ?_⟩; refine ⟨⟨by omega, by decide, f2⟩, ?_⟩)
          refine ⟨rfl, rfl, ?_⟩
          refine ⟨⟨rfl, m.wrsb 0 rfl rfl, barC_one [x1, x2, x3, x4, x5, x6] [y1, y2, y3, y4, y5, y6] _ _⟩, fun g5 e5 => ?_⟩
          exact ⟨bX, rfl, m.setr 0 rfl e5⟩
      · skip
        (intro bX gX eX1 eX2; replace m := m.push eX2 eX1; clear eX1 eX2)
        (refine (six_c m t10 (by simp)).mono ?_; rintro _ gS ⟨rfl, mS⟩; replace m := mS; clear mS; refine ⟨ints .u8 [y1, y2, y3, y4, y5, y6], rfl, ?_⟩)
        (refine (n16 m).ret ⟨_, rfl, ?_⟩; refine ⟨⟨by omega, by decide, f1⟩, ?_⟩)
        (refine (n18 m).ret ⟨_, rfl, ?_⟩; refine ⟨⟨by omega, by decide, f2⟩, ?_⟩)
        refine ⟨rfl, rfl, ?_⟩
        refine ⟨⟨rfl, m.wrsb 0 rfl rfl, barC_one [x1, x2, x3, x4, x5, x6] [y1, y2, y3, y4, y5, y6] _ _⟩, fun g5 e5 => ?_⟩
        exact ⟨bX, rfl, m.setr 0 rfl e5⟩
    · skip
      (intro bX gX eX1 eX2; replace m := m.push eX2 eX1; clear eX1 eX2)
      (refine (six_c m t4 (by simp)).mono ?_; rintro _ gS ⟨rfl, mS⟩; replace m := mS; clear mS; refine ⟨ints .u8 [x1, x2, x3, x4, x5, x6], rfl, ?_⟩)
      (refine (six_c m t10 (by simp)).mono ?_; rintro _ gS ⟨rfl, mS⟩; replace m := mS; clear mS; refine ⟨ints .u8 [y1, y2, y3, y4, y5, y6], rfl, ?_⟩)
      (refine (n16 m).ret ⟨_, rfl, ?_⟩; refine ⟨⟨by omega, by decide, f1⟩, ?_⟩)
      (refine (n18 m).ret ⟨_, rfl, ?_⟩; refine ⟨⟨by omega, by decide, f2⟩, ?_⟩)
      refine ⟨rfl, rfl, ?_⟩
      refine ⟨⟨rfl, m.wrsb 0 rfl rfl, barC_one [x1, x2, x3, x4, x5, x6] [y1, y2, y3, y4, y5, y6] _ _⟩, fun g5 e5 => ?_⟩
      exact ⟨bX, rfl, m.setr 0 rfl e5⟩
  · refine ⟨_, rfl, bcase_true (by simp [he0]) ⟨⟨rfl, m.wrsb 0 rfl rfl, z14_one⟩, fun g3 e3 => ?_⟩⟩
    have m2 := m.setr 0 rfl e3
    exact ⟨_, m2.row 0 rfl rfl (Nat.le_of_ble_eq_true rfl), W, Wd.le.refl W, m2.drop1, .inr ⟨fun hh => hno ⟨hh.2.1, hh.1⟩, e, rfl, he0⟩⟩
end
end Go.Proofs.YtepodifionoigaaGreatDoor
