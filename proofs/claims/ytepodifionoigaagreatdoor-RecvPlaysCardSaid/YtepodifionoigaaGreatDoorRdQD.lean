import Derived.Test.YtepodifionoigaaGreatDoorRdQ
set_option linter.unusedVariables false
set_option linter.unusedSimpArgs false
set_option maxRecDepth 8000
namespace Go.Proofs.YtepodifionoigaaGreatDoor
open Go.Vc
section
variable {W W' : Wd} {h h' : Heap} {G : List Grp} {E : Grp} {a a2 : Option Addr} {l r c c2 n k : Nat} {vs us : List Value} {bs xs ys to fr : List Int} {tid sq : Int}
theorem joinL_repB (n : Nat) : (joinL (List.replicate n [Value.int .u8 0])).length = n := by
  induction n with
  | zero => rfl
  | succ n ih => rw [List.replicate_succ]; show ([Value.int .u8 0] ++ joinL (List.replicate n [Value.int .u8 0])).length = n + 1; rw [List.length_append, ih]; simp; omega
theorem bnand_t {A B y : Bool} (h : y = !A) (q : y = true) : true = !(A && B) := by subst h; cases A <;> simp_all
theorem bnand_f {A B y : Bool} (h : y = !A) (q : y = false) : (!B) = !(A && B) := by subst h; cases A <;> simp_all
theorem take_snocB {xs : List Int} {k : Nat} {x : Int} (hx : xs[k]? = some x) : xs.take k ++ [x] = xs.take (k + 1) := by
  rw [List.take_add_one, hx]; rfl
theorem rbytes_c (m : Me W h G) (hb : Bts W (.slice a n c) xs) (hl : xs.length ≤ 1000000) :
    Runs Tryz.prog 86 #[.slice a n c] h (Bmade W G xs fun v => v) := by
  obtain ⟨hs, hn, hc⟩ := bts_src hb
  refine vc_muezzinref_Bytes _ _ _ _ _ ⟨by omega, ?_⟩
  intro b1 h1 e1 e2
  replace m := m.push e2 e1
  clear e1 e2
  refine ⟨fun s n2 c i h' => ∃ (k : Nat) (E : Grp), i = k ∧ k ≤ n ∧ n2 = k ∧ Me W h' (E :: G) ∧ Ow s k c 1 (ints .u8 (xs.take k)) E, fun _ _ _ i _ => ((n : Int) - i).toNat,
    ⟨0, _, rfl, by omega, rfl, m, ?_⟩, fun _ => ?_⟩
  · have := Ow.fresh (b := b1) (l := 0) (c := n) (sz := 1) (vs := []) (rest := joinL (List.replicate n [.int .u8 0])) (T := 5) (by simp) (by rw [joinL_repB]; simp) (by omega)
    simpa [ints] using this
  clear m
  rintro s n2 c2 _ h2 ⟨k, E, rfl, hk, hn2, m, o⟩
  subst n2
  refine dcase_intro (fun q => ?_) fun q => ?_
  · obtain ⟨x, hx⟩ : ∃ y, xs[k]? = some y := ⟨_, List.getElem?_eq_getElem (by omega)⟩
    obtain ⟨b2, o2, rfl, -, -, hcl⟩ := bts_opn hb (by omega)
    refine ⟨⟨by omega, by omega⟩, x, m.wcell (by simpa using hcl k x hx), ?_⟩
    intro b3 h3 e3 e4
    replace m := m.push e4 e3
    refine ⟨[.int .u8 x], ⟨m.row 0 rfl rfl (Nat.le_of_ble_eq_true rfl), by simp [Value.oneCell']⟩, ?_⟩
    refine o.app m 1 rfl rfl (by omega) (by decide) fun a' c' E' h' m' o' => ?_
    simp only [List.set_cons_zero, List.set_cons_succ] at m'
    refine ⟨by simp only [fits]; omega, ⟨k + 1, E', by omega, by omega, rfl, m'.drop1, ?_⟩, by dsimp only; omega⟩
    rw [← take_snocB hx, ints_app]; exact o'
  · obtain rfl : k = n := by omega
    rw [List.take_of_length_le (by omega)] at o
    rw [← hn] at o ⊢
    obtain ⟨W', h1, h2, h3⟩ := ow_give o m
    exact ⟨W', _, _, h1, rfl, h2, h3⟩
def qraw (xs : List Int) (v : Value) : List Value := ints .u8 (sub6 xs 4) ++ (ints .u8 (sub6 xs 10) ++ (ints .u8 (sub6 xs 16) ++ [.int .i64 (bits .and .u8 (by0 xs 24) 15), .int .i64 (wd xs 22 / 16), .bool (!decide (bits .and .u8 (by0 xs 1) 8 = 0)), .bool (!decide (bits .and .u8 (by0 xs 1) 32 = 0)), .bool (!decide (bits .and .u8 (by0 xs 24) 16 = 0)), v]))
theorem and15_b {x : Int} (hx : 0 ≤ x ∧ x < 256) : bits .and .u8 x 15 = x % 16 := by
  have := byte_all (p := fun n => bits .and .u8 (n : Int) 15 == (n : Int) % 16) (by kernel_rfl) hx
  rw [show ((x.toNat : Nat) : Int) = x by omega] at this
  exact eq_of_beq this
theorem okD_a {x : Int} (hx : 0 ≤ x ∧ x < 256) (h : okF x = true) : (!decide (bits .and .u8 x 8 = 0)) = decide (x = 10 ∨ x = 42) ∧ (!decide (bits .and .u8 x 32 = 0)) = decide (x = 34 ∨ x = 42) := by
  have hF : x = 2 ∨ x = 10 ∨ x = 34 ∨ x = 42 := by simpa [okF, or_assoc] using h
  rcases hF with rfl | rfl | rfl | rfl <;> exact ⟨by decide, by decide⟩
theorem okD_t {x : Int} (hx : 0 ≤ x ∧ x < 256) (h : okT x = true) : (!decide (bits .and .u8 x 16 = 0)) = decide (16 ≤ x) := by
  have hT : x ≤ 7 ∨ (16 ≤ x ∧ x ≤ 23) := by simpa [okT] using h
  have := byte_all (p := fun n => !okT (n : Int) || ((!decide (bits .and .u8 (n : Int) 16 = 0)) == decide (16 ≤ (n : Int)))) (by kernel_rfl) hx
  rw [show ((x.toNat : Nat) : Int) = x by omega, h] at this
  simpa using this
theorem qraw_fm (hx : ∀ x ∈ xs, 0 ≤ x ∧ x < 256) (hq : qok xs) (v : Value) : qraw xs v = fmc (qfm xs) v := by
  obtain ⟨h0, h1, h2, h3, h4, h5, h6, h7, h8⟩ := hq
  have r1 := hx _ (by0_mem (k := 1) (by omega))
  have r24 := hx _ (by0_mem (k := 24) (by omega))
  obtain ⟨k1, k2⟩ := okD_a r1 h2
  unfold qraw fmc qfm
  rw [k1, k2, okD_t r24 h7, and15_b r24]
theorem qraw_one (xs : List Int) (a : Option Addr) (l c : Nat) : ∀ u ∈ qraw xs (.slice a l c), u.oneCell' = true := fmc_one ⟨sub6 xs 4, sub6 xs 10, sub6 xs 16, bits .and .u8 (by0 xs 24) 15, wd xs 22 / 16, !decide (bits .and .u8 (by0 xs 1) 8 = 0), !decide (bits .and .u8 (by0 xs 1) 32 = 0), !decide (bits .and .u8 (by0 xs 24) 16 = 0), []⟩ a l c
set_option maxHeartbeats 6000000 in
theorem rreadQoSG_c (m : Me W h G) (hb : Bts W (.slice a n c) xs) (hx : ∀ x ∈ xs, 0 ≤ x ∧ x < 256) (hl : xs.length ≤ 1000000) :
    Runs Tryz.prog 56 #[.slice a n c] h (QosV W G xs (.int .i64 0) fun v => ∃ e : Int, v = .int .i64 e ∧ e ≠ 0) := by
  obtain ⟨hsx, hn, -⟩ := bts_src hb
  refine vc_muezzinref1_ReadQoS _ _ _ _ _ ?_
  intro b1 h1 e1 e2
  replace m := m.push e2 e1
  have fin : ∀ {h1 : Heap} {G' : List Grp} {e : Int}, Me W h1 (G' ++ [(b1, z24, 67)] :: G) → ¬ qok xs → e ≠ 0 → ((z24.length = 24 ∧ wrs h1 b1 0 24 ∧ ∀ u ∈ z24, u.oneCell' = true) ∧ ∀ h2 : Heap, h2 = setr h1 b1 0 z24 → ∃ cs1 : List Value, row h2 b1 0 24 = some cs1 ∧ QosV W G xs (.int .i64 0) (fun v => ∃ e : Int, v = .int .i64 e ∧ e ≠ 0) (.tuple #[.agg cs1.toArray, .int .i64 e]) h2) := fun {h1 G' e} m hq he => by
    replace m : Me W h1 ([(b1, z24, 67)] :: (G' ++ G)) := m.perm (by simp only [List.flatten_append, List.flatten_cons]; exact List.perm_append_comm_assoc _ _ _)
    refine ⟨⟨rfl, m.wrsb 0 rfl rfl, z24_one⟩, fun h2 e3 => ?_⟩
    have m2 := m.setr 0 rfl e3
    exact ⟨_, m2.row 0 rfl rfl (Nat.le_of_ble_eq_true rfl), W, Wd.le.refl W, (m2.drop1.sub ⟨G'.flatten, by simp only [List.flatten_append]; exact List.perm_append_comm⟩), .inr ⟨hq, _, rfl, e, rfl, he⟩⟩
  refine dcase_intro (fun q0 => fin (G' := []) m (fun hq => by have := hq.1; omega) (by decide)) fun q0 => ?_
  have h26 : 26 ≤ xs.length := by omega
  have hb0 := hb
  obtain ⟨b', o, rfl, -, hc, hxx⟩ := bts_opn hb (by omega)
  obtain ⟨x0, x1, x2, x3, x4, x5, x6, x7, x8, x9, x10, x11, x12, x13, x14, x15, x16, x17, x18, x19, x20, x21, x22, x23, x24, x25, body, hxs⟩ := expl26 h26
  have ce : ∀ {h : Heap} {G : List Grp}, Me W h G → ∀ (k : Nat) (x : Int), xs[k]? = some x → cell h b' (o + k) = some (.int .u8 x) := fun m k x hk => m.wcell (hxx k x hk)
  have hx' := hx
  subst hxs
  have r1 := hx' x1 (by simp)
  have r22 := hx' x22 (by simp)
  have r23 := hx' x23 (by simp)
  have r24 := hx' x24 (by simp)
  have t4 := bts_tail hb (k := 4) (by omega)
  have t10 := bts_tail hb (k := 10) (by omega)
  have t16 := bts_tail hb (k := 16) (by omega)
  have t22 := bts_tail hb (k := 22) (by omega)
  have t26 := bts_tail hb (k := 26) (by omega)
  refine ⟨⟨by decide, by omega⟩, _, ce m 0 _ rfl, bcase_intro (fun q1 => fin (G' := []) m (fun hq => by have := hq.2.1; simp at q1; exact q1 this) (by decide)) fun q1 => ?_⟩
  have q1 : x0 = 136 := by simpa using q1
  have fA : fits .i64 (bits .and .u8 x24 15) := by rw [and15_b r24]; simp only [fits]; omega
  have f2 : fits .i64 ((x22 + x23 * 256) / 16) := by simp only [fits]; omega
  obtain ⟨xs, hxs⟩ : ∃ xs, xs = x0 :: x1 :: x2 :: x3 :: x4 :: x5 :: x6 :: x7 :: x8 :: x9 :: x10 :: x11 :: x12 :: x13 :: x14 :: x15 :: x16 :: x17 :: x18 :: x19 :: x20 :: x21 :: x22 :: x23 :: x24 :: x25 :: body := ⟨_, rfl⟩
  have n22 : ∀ {h : Heap} {G : List Grp}, Me W h G → Runs Tryz.prog 85 #[.slice (slcAddr (some ⟨b', o, none⟩) 22 c 22) (n - 22) (c - 22)] h fun v h' => v = .int .i64 (x22 + x23 * 256) ∧ h' = h := fun m => num_c m t22 rfl rfl r22 r23
  have s4 : sub6 xs 4 = [x4, x5, x6, x7, x8, x9] := by rw [hxs]; rfl
  have s10 : sub6 xs 10 = [x10, x11, x12, x13, x14, x15] := by rw [hxs]; rfl
  have s16 : sub6 xs 16 = [x16, x17, x18, x19, x20, x21] := by rw [hxs]; rfl
  have hqr : ∀ v, qraw xs v = ints .u8 [x4, x5, x6, x7, x8, x9] ++ (ints .u8 [x10, x11, x12, x13, x14, x15] ++ (ints .u8 [x16, x17, x18, x19, x20, x21] ++ [.int .i64 (bits .and .u8 x24 15), .int .i64 ((x22 + x23 * 256) / 16), .bool (!decide (bits .and .u8 x1 8 = 0)), .bool (!decide (bits .and .u8 x1 32 = 0)), .bool (!decide (bits .and .u8 x24 16 = 0)), v])) := fun v => by
    unfold qraw; rw [s4, s10, s16, hxs]; rfl
  refine ⟨fun p h9 => ∃ bX, p = some ⟨bX, 0, none⟩ ∧ Me W h9 ([(bX, qraw xs (.slice none 0 0), 67)] :: [(b1, z24, 67)] :: G), ?_, fun _ => ?_⟩
  rotate_left
  · rintro _ g5 ⟨bX, rfl, m⟩
    rw [← hxs] at ce hb hx hx' hb0 hn h26 t26 fin hsx hl ⊢
    have c1 : by0 xs 1 = x1 := by rw [hxs]; rfl
    have c2 : by0 xs 2 = x2 := by rw [hxs]; rfl
    have c3 : by0 xs 3 = x3 := by rw [hxs]; rfl
    have c25 : by0 xs 25 = x25 := by rw [hxs]; rfl
    have c24 : by0 xs 24 = x24 := by rw [hxs]; rfl
    have c22 : wd xs 22 = x22 + x23 * 256 := by rw [hxs]; rfl
    have g1 : xs[1]? = some x1 := by rw [hxs]; rfl
    have g2 : xs[2]? = some x2 := by rw [hxs]; rfl
    have g3 : xs[3]? = some x3 := by rw [hxs]; rfl
    have g25 : xs[25]? = some x25 := by rw [hxs]; rfl
    have g22 : xs[22]? = some x22 := by rw [hxs]; rfl
    have g24 : xs[24]? = some x24 := by rw [hxs]; rfl
    have hF : ∀ p : Prop, (qok xs → p) → ¬ p → ¬ qok xs := fun p h1 h2 h3 => h2 (h1 h3)
    refine ⟨fun x h9 => h9 = g5 ∧ x = !(okF x1 && decide (x2 = 0)), ⟨⟨by decide, by omega⟩, _, ce m 1 _ g1, ?_⟩, fun _ => ?_⟩
    · rw [okF_d r1]
      refine bcase_intro (fun q => ⟨rfl, ?_⟩) fun q => ⟨⟨by decide, by omega⟩, _, ce m 2 _ g2, rfl, ?_⟩
      · rw [show okF x1 = false by simpa using q]; rfl
      · rw [show okF x1 = true by simpa using q]; simp
    rintro y1 g5 ⟨rfl, hy1⟩
    refine ⟨fun x h9 => h9 = g5 ∧ x = !(okF x1 && decide (x2 = 0) && decide (x3 = 0)), bcase_intro (fun q => ⟨rfl, ?_⟩) fun q => ⟨⟨by decide, by omega⟩, _, ce m 3 _ g3, rfl, ?_⟩, fun _ => ?_⟩
    · exact bnand_t hy1 q
    · exact bnand_f hy1 q
    rintro y2 g5 ⟨rfl, hy2⟩
    refine ⟨fun x h9 => h9 = g5 ∧ x = !(okF x1 && decide (x2 = 0) && decide (x3 = 0) && decide (x25 = 0)), bcase_intro (fun q => ⟨rfl, ?_⟩) fun q => ⟨⟨by decide, by omega⟩, _, ce m 25 _ g25, rfl, ?_⟩, fun _ => ?_⟩
    · exact bnand_t hy2 q
    · exact bnand_f hy2 q
    rintro y3 g5 ⟨rfl, hy3⟩
    refine ⟨fun x h9 => h9 = g5 ∧ x = !(okF x1 && decide (x2 = 0) && decide (x3 = 0) && decide (x25 = 0) && decide (x22 % 16 = 0)), bcase_intro (fun q => ⟨rfl, ?_⟩) fun q => ⟨⟨by decide, by omega⟩, _, ce m 22 _ g22, rfl, ?_⟩, fun _ => ?_⟩
    · exact bnand_t hy3 q
    · rw [and15_b r22]; exact bnand_f hy3 q
    rintro y4 g5 ⟨rfl, hy4⟩
    refine ⟨fun x h9 => h9 = g5 ∧ x = !(okF x1 && decide (x2 = 0) && decide (x3 = 0) && decide (x25 = 0) && decide (x22 % 16 = 0) && decide (x24 ≤ 23)), bcase_intro (fun q => ⟨rfl, ?_⟩) fun q => ⟨⟨by decide, by omega⟩, _, ce m 24 _ g24, rfl, ?_⟩, fun _ => ?_⟩
    · exact bnand_t hy4 q
    · rw [show decide ((23 : Int) < x24) = !decide (x24 ≤ 23) by by_cases hh : x24 ≤ 23 <;> simp [hh] <;> omega]
      exact bnand_f hy4 q
    rintro y5 g5 ⟨rfl, hy5⟩
    refine bcase_intro (fun q => ?_) fun q => ?_
    · refine fin (G' := [_]) m ?_ (by decide)
      rintro ⟨h0, h1, h2, h3, h4, h5, h6, h7, h8⟩
      rw [c1] at h2; rw [c2] at h3; rw [c3] at h4; rw [c25] at h5; rw [c22] at h6; rw [c24] at h7
      have h7' : x24 ≤ 7 ∨ (16 ≤ x24 ∧ x24 ≤ 23) := by simpa [okT] using h7
      rw [hy5, h2, h3, h4, h5, show x22 % 16 = 0 by omega, show decide (x24 ≤ 23) = true by simp; omega] at q
      exact absurd q (by decide)
    rw [hy5] at q
    have q : ((((okF x1 = true ∧ x2 = 0) ∧ x3 = 0) ∧ x25 = 0) ∧ x22 % 16 = 0) ∧ x24 ≤ 23 := by simpa using q
    obtain ⟨⟨⟨⟨⟨k1, k2⟩, k3⟩, k4⟩, k5⟩, k6⟩ := q
    have ct : cell g5 bX 18 = some (.int .i64 (x24 % 16)) := by
      have := m.cell (o := 18) 0 rfl (by rw [hqr]; rfl)
      rw [and15_b r24] at this
      exact this
    refine ⟨_, ct, dcase_intro (fun q => ?_) fun q => ?_⟩
    · refine fin (G' := [_]) m ?_ (by decide)
      rintro ⟨h0, h1, h2, h3, h4, h5, h6, h7, h8⟩
      rw [c24] at h7
      have h7' : x24 ≤ 7 ∨ (16 ≤ x24 ∧ x24 ≤ 23) := by simpa [okT] using h7
      omega
    have hT : okT x24 = true := by
      have : x24 ≤ 7 ∨ (16 ≤ x24 ∧ x24 ≤ 23) := by omega
      simpa [okT] using this
    refine ⟨by simp only [fits]; omega, dcase_intro (fun q2 => ?_) fun q2 => ?_⟩
    · refine fin (G' := [_]) m ?_ (by decide)
      rintro ⟨h0, h1, h2, h3, h4, h5, h6, h7, h8⟩
      omega
    have hq : qok xs := ⟨h26, by rw [hxs]; exact q1, by rw [c1]; exact k1, by rw [c2]; exact k2, by rw [c3]; exact k3, by rw [c25]; exact k4, by rw [c22]; omega, by rw [c24]; exact hT, by omega⟩
    refine ⟨⟨by decide, by omega⟩, ?_⟩
    refine (rbytes_c m t26 (by rw [List.length_drop]; omega)).mono ?_
    rintro _ g6 ⟨W', a8, c8, hle, rfl, m, hb8⟩
    refine ⟨_, _, _, rfl, m.wrb 0 rfl (by rw [hqr]; rfl), fun g7 e7 => ?_⟩
    have m7 := m.setc 0 rfl e7
    simp only [List.set_cons_zero, List.set_cons_succ] at m7
    have e8 : (qraw xs (.slice none 0 0)).set 23 (.slice a8 (xs.drop 26).length c8) = fmc (qfm xs) (.slice a8 (xs.drop 26).length c8) := by
      rw [← qraw_fm hx hq, hqr, hqr]; rfl
    replace m7 : Me W' g7 ([(bX, fmc (qfm xs) (.slice a8 (xs.drop 26).length c8), 67)] :: [(b1, z24, 67)] :: G) := by rw [← e8]; exact m7
    have hk := (qfm_ok hq hx).1
    have r8 := m7.row 0 (o := 0) (n := 24) (us := fmc (qfm xs) (.slice a8 (xs.drop 26).length c8)) rfl (by rw [List.drop_zero]; exact List.take_of_length_le (by rw [fmc_len hk]; decide)) (by rw [fmc_len hk]; decide)
    refine ⟨_, r8, ⟨fmc_len hk, m7.wrsb 1 rfl rfl, fmc_one _ _ _ _⟩, fun g8 e8 => ?_⟩
    have m8 := m7.setr 1 rfl e8
    simp only [List.set_cons_zero, List.set_cons_succ] at m8
    rw [setL_all (by rw [fmc_len hk]; rfl)] at m8
    have r9 := m8.row 1 (o := 0) (n := 24) (us := fmc (qfm xs) (.slice a8 (xs.drop 26).length c8)) rfl (by rw [List.drop_zero]; exact List.take_of_length_le (by rw [fmc_len hk]; decide)) (by rw [fmc_len hk]; decide)
    exact ⟨_, r9, W', hle, m8.drop1.drop1, .inl ⟨hq, _, rfl, _, rfl, hb8⟩⟩
  refine ⟨⟨by decide, by omega⟩, ⟨by decide, by omega⟩, ⟨by decide, by omega⟩, ⟨by decide, by omega⟩, ⟨by decide, by omega⟩, _, ce m 24 _ rfl, fA, ⟨by decide, by omega⟩, _, ce m 1 _ rfl, ⟨by decide, by omega⟩, _, ce m 1 _ rfl, ⟨by decide, by omega⟩, _, ce m 24 _ rfl, ?_, ?_⟩
  · skip
    (refine (six_c m t4 (by simp)).mono ?_; rintro _ gS ⟨rfl, mS⟩; replace m := mS; clear mS; refine ⟨ints .u8 [x4, x5, x6, x7, x8, x9], rfl, ce m 24 _ rfl, ce m 1 _ rfl, ce m 1 _ rfl, ce m 24 _ rfl, ?_⟩)
    refine ⟨?_, ?_⟩
    · skip
      (refine (six_c m t10 (by simp)).mono ?_; rintro _ gS ⟨rfl, mS⟩; replace m := mS; clear mS; refine ⟨ints .u8 [x10, x11, x12, x13, x14, x15], rfl, ce m 24 _ rfl, ce m 1 _ rfl, ce m 1 _ rfl, ce m 24 _ rfl, ?_⟩)
      refine ⟨?_, ?_⟩
      · skip
        (refine (six_c m t16 (by simp)).mono ?_; rintro _ gS ⟨rfl, mS⟩; replace m := mS; clear mS; refine ⟨ints .u8 [x16, x17, x18, x19, x20, x21], rfl, ce m 24 _ rfl, ce m 1 _ rfl, ce m 1 _ rfl, ce m 24 _ rfl, ?_⟩)
        refine ⟨?_, ?_⟩
        · skip
          (refine (n22 m).ret ⟨_, rfl, ce m 24 _ rfl, ce m 1 _ rfl, ce m 1 _ rfl, ce m 24 _ rfl, ?_⟩; refine ⟨⟨by omega, by decide, f2⟩, ?_⟩)
          refine ⟨rfl, rfl, rfl, ?_⟩
          (intro bX gX eX1 eX2; replace m := m.push eX2 eX1; clear eX1 eX2)
          rw [← hqr]
          refine ⟨⟨by rw [hqr]; rfl, m.wrsb 0 rfl (by first | rfl | (rw [hqr]; rfl)), qraw_one _ _ _ _⟩, fun g5 e5 => ?_⟩
          have m5 := m.setr 0 rfl e5
          simp only [List.set_cons_zero, List.set_cons_succ] at m5
          rw [setL_all (by rw [hqr]; rfl)] at m5
          exact ⟨bX, rfl, m5⟩
        · skip
          (intro bX gX eX1 eX2; replace m := m.push eX2 eX1; clear eX1 eX2)
          (refine (n22 m).ret ⟨_, rfl, ce m 24 _ rfl, ce m 1 _ rfl, ce m 1 _ rfl, ce m 24 _ rfl, ?_⟩; refine ⟨⟨by omega, by decide, f2⟩, ?_⟩)
          refine ⟨rfl, rfl, rfl, ?_⟩
          rw [← hqr]
          refine ⟨⟨by rw [hqr]; rfl, m.wrsb 0 rfl (by first | rfl | (rw [hqr]; rfl)), qraw_one _ _ _ _⟩, fun g5 e5 => ?_⟩
          have m5 := m.setr 0 rfl e5
          simp only [List.set_cons_zero, List.set_cons_succ] at m5
          rw [setL_all (by rw [hqr]; rfl)] at m5
          exact ⟨bX, rfl, m5⟩
      · skip
        (intro bX gX eX1 eX2; replace m := m.push eX2 eX1; clear eX1 eX2)
        (refine (six_c m t16 (by simp)).mono ?_; rintro _ gS ⟨rfl, mS⟩; replace m := mS; clear mS; refine ⟨ints .u8 [x16, x17, x18, x19, x20, x21], rfl, ce m 24 _ rfl, ce m 1 _ rfl, ce m 1 _ rfl, ce m 24 _ rfl, ?_⟩)
        (refine (n22 m).ret ⟨_, rfl, ce m 24 _ rfl, ce m 1 _ rfl, ce m 1 _ rfl, ce m 24 _ rfl, ?_⟩; refine ⟨⟨by omega, by decide, f2⟩, ?_⟩)
        refine ⟨rfl, rfl, rfl, ?_⟩
        rw [← hqr]
        refine ⟨⟨by rw [hqr]; rfl, m.wrsb 0 rfl (by first | rfl | (rw [hqr]; rfl)), qraw_one _ _ _ _⟩, fun g5 e5 => ?_⟩
        have m5 := m.setr 0 rfl e5
        simp only [List.set_cons_zero, List.set_cons_succ] at m5
        rw [setL_all (by rw [hqr]; rfl)] at m5
        exact ⟨bX, rfl, m5⟩
    · skip
      (intro bX gX eX1 eX2; replace m := m.push eX2 eX1; clear eX1 eX2)
      (refine (six_c m t10 (by simp)).mono ?_; rintro _ gS ⟨rfl, mS⟩; replace m := mS; clear mS; refine ⟨ints .u8 [x10, x11, x12, x13, x14, x15], rfl, ce m 24 _ rfl, ce m 1 _ rfl, ce m 1 _ rfl, ce m 24 _ rfl, ?_⟩)
      (refine (six_c m t16 (by simp)).mono ?_; rintro _ gS ⟨rfl, mS⟩; replace m := mS; clear mS; refine ⟨ints .u8 [x16, x17, x18, x19, x20, x21], rfl, ce m 24 _ rfl, ce m 1 _ rfl, ce m 1 _ rfl, ce m 24 _ rfl, ?_⟩)
      (refine (n22 m).ret ⟨_, rfl, ce m 24 _ rfl, ce m 1 _ rfl, ce m 1 _ rfl, ce m 24 _ rfl, ?_⟩; refine ⟨⟨by omega, by decide, f2⟩, ?_⟩)
      refine ⟨rfl, rfl, rfl, ?_⟩
      rw [← hqr]
      refine ⟨⟨by rw [hqr]; rfl, m.wrsb 0 rfl (by first | rfl | (rw [hqr]; rfl)), qraw_one _ _ _ _⟩, fun g5 e5 => ?_⟩
      have m5 := m.setr 0 rfl e5
      simp only [List.set_cons_zero, List.set_cons_succ] at m5
      rw [setL_all (by rw [hqr]; rfl)] at m5
      exact ⟨bX, rfl, m5⟩
  · skip
    (intro bX gX eX1 eX2; replace m := m.push eX2 eX1; clear eX1 eX2)
    (refine (six_c m t4 (by simp)).mono ?_; rintro _ gS ⟨rfl, mS⟩; replace m := mS; clear mS; refine ⟨ints .u8 [x4, x5, x6, x7, x8, x9], rfl, ce m 24 _ rfl, ce m 1 _ rfl, ce m 1 _ rfl, ce m 24 _ rfl, ?_⟩)
    (refine (six_c m t10 (by simp)).mono ?_; rintro _ gS ⟨rfl, mS⟩; replace m := mS; clear mS; refine ⟨ints .u8 [x10, x11, x12, x13, x14, x15], rfl, ce m 24 _ rfl, ce m 1 _ rfl, ce m 1 _ rfl, ce m 24 _ rfl, ?_⟩)
    (refine (six_c m t16 (by simp)).mono ?_; rintro _ gS ⟨rfl, mS⟩; replace m := mS; clear mS; refine ⟨ints .u8 [x16, x17, x18, x19, x20, x21], rfl, ce m 24 _ rfl, ce m 1 _ rfl, ce m 1 _ rfl, ce m 24 _ rfl, ?_⟩)
    (refine (n22 m).ret ⟨_, rfl, ce m 24 _ rfl, ce m 1 _ rfl, ce m 1 _ rfl, ce m 24 _ rfl, ?_⟩; refine ⟨⟨by omega, by decide, f2⟩, ?_⟩)
    refine ⟨rfl, rfl, rfl, ?_⟩
    rw [← hqr]
    refine ⟨⟨by rw [hqr]; rfl, m.wrsb 0 rfl (by first | rfl | (rw [hqr]; rfl)), qraw_one _ _ _ _⟩, fun g5 e5 => ?_⟩
    have m5 := m.setr 0 rfl e5
    simp only [List.set_cons_zero, List.set_cons_succ] at m5
    rw [setL_all (by rw [hqr]; rfl)] at m5
    exact ⟨bX, rfl, m5⟩
end
end Go.Proofs.YtepodifionoigaaGreatDoor
