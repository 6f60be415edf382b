import Derived.Test.YtepodifionoigaaGreatDoorMRdB2
set_option linter.unusedVariables false
set_option linter.unusedSimpArgs false
set_option maxRecDepth 8000
namespace Go.Proofs.YtepodifionoigaaGreatDoor
open Go.Vc
theorem byte_all {p : Nat → Bool} (h : (List.range 256).all p = true) {x : Int} (hx : 0 ≤ x ∧ x < 256) : p x.toNat = true := List.all_eq_true.1 h _ (List.mem_range.2 (by omega))
def okF (x : Int) : Bool := decide (x = 2) || decide (x = 10) || decide (x = 34) || decide (x = 42)
def okT (x : Int) : Bool := decide (x ≤ 7) || decide (16 ≤ x ∧ x ≤ 23)
theorem okF_p {x : Int} (hx : 0 ≤ x ∧ x < 256) : decide (bits .andNot .u8 x 40 = 2) = okF x := by
  have := byte_all (p := fun n => decide (bits .andNot .u8 (n : Int) 40 = 2) == okF (n : Int)) (by kernel_rfl) hx
  rw [show ((x.toNat : Nat) : Int) = x by omega] at this
  exact eq_of_beq this
theorem okF_d {x : Int} (hx : 0 ≤ x ∧ x < 256) : decide (bits .and .u8 x 215 = 2) = okF x := by
  have := byte_all (p := fun n => decide (bits .and .u8 (n : Int) 215 = 2) == okF (n : Int)) (by kernel_rfl) hx
  rw [show ((x.toNat : Nat) : Int) = x by omega] at this
  exact eq_of_beq this
theorem okT_p {x : Int} (hx : 0 ≤ x ∧ x < 256) : decide ((8 : Int) ≤ bits .andNot .u8 x 16) = !okT x := by
  have := byte_all (p := fun n => decide ((8 : Int) ≤ bits .andNot .u8 (n : Int) 16) == !okT (n : Int)) (by kernel_rfl) hx
  rw [show ((x.toNat : Nat) : Int) = x by omega] at this
  exact eq_of_beq this
def qok (xs : List Int) : Prop := 26 ≤ xs.length ∧ by0 xs 0 = 136 ∧ okF (by0 xs 1) = true ∧ by0 xs 2 = 0 ∧ by0 xs 3 = 0 ∧ by0 xs 25 = 0 ∧ wd xs 22 % 16 = 0 ∧ okT (by0 xs 24) = true ∧ xs.length ≤ 1526
def qfm (xs : List Int) : Fm := ⟨sub6 xs 4, sub6 xs 10, sub6 xs 16, by0 xs 24 % 16, wd xs 22 / 16, decide (by0 xs 1 = 10 ∨ by0 xs 1 = 42), decide (by0 xs 1 = 34 ∨ by0 xs 1 = 42), decide (16 ≤ by0 xs 24), xs.drop 26⟩
theorem expl26 {xs : List Int} (h : 26 ≤ xs.length) : ∃ x0 x1 x2 x3 x4 x5 x6 x7 x8 x9 x10 x11 x12 x13 x14 x15 x16 x17 x18 x19 x20 x21 x22 x23 x24 x25 body, xs = x0 :: x1 :: x2 :: x3 :: x4 :: x5 :: x6 :: x7 :: x8 :: x9 :: x10 :: x11 :: x12 :: x13 :: x14 :: x15 :: x16 :: x17 :: x18 :: x19 :: x20 :: x21 :: x22 :: x23 :: x24 :: x25 :: body := by
  obtain ⟨x0, r0, e0, l0⟩ := cons_of (n := 25) h
  obtain ⟨x1, r1, e1, l1⟩ := cons_of (n := 24) l0
  obtain ⟨x2, r2, e2, l2⟩ := cons_of (n := 23) l1
  obtain ⟨x3, r3, e3, l3⟩ := cons_of (n := 22) l2
  obtain ⟨x4, r4, e4, l4⟩ := cons_of (n := 21) l3
  obtain ⟨x5, r5, e5, l5⟩ := cons_of (n := 20) l4
  obtain ⟨x6, r6, e6, l6⟩ := cons_of (n := 19) l5
  obtain ⟨x7, r7, e7, l7⟩ := cons_of (n := 18) l6
  obtain ⟨x8, r8, e8, l8⟩ := cons_of (n := 17) l7
  obtain ⟨x9, r9, e9, l9⟩ := cons_of (n := 16) l8
  obtain ⟨x10, r10, e10, l10⟩ := cons_of (n := 15) l9
  obtain ⟨x11, r11, e11, l11⟩ := cons_of (n := 14) l10
  obtain ⟨x12, r12, e12, l12⟩ := cons_of (n := 13) l11
  obtain ⟨x13, r13, e13, l13⟩ := cons_of (n := 12) l12
  obtain ⟨x14, r14, e14, l14⟩ := cons_of (n := 11) l13
  obtain ⟨x15, r15, e15, l15⟩ := cons_of (n := 10) l14
  obtain ⟨x16, r16, e16, l16⟩ := cons_of (n := 9) l15
  obtain ⟨x17, r17, e17, l17⟩ := cons_of (n := 8) l16
  obtain ⟨x18, r18, e18, l18⟩ := cons_of (n := 7) l17
  obtain ⟨x19, r19, e19, l19⟩ := cons_of (n := 6) l18
  obtain ⟨x20, r20, e20, l20⟩ := cons_of (n := 5) l19
  obtain ⟨x21, r21, e21, l21⟩ := cons_of (n := 4) l20
  obtain ⟨x22, r22, e22, l22⟩ := cons_of (n := 3) l21
  obtain ⟨x23, r23, e23, l23⟩ := cons_of (n := 2) l22
  obtain ⟨x24, r24, e24, l24⟩ := cons_of (n := 1) l23
  obtain ⟨x25, r25, e25, l25⟩ := cons_of (n := 0) l24
  subst e25 e24 e23 e22 e21 e20 e19 e18 e17 e16 e15 e14 e13 e12 e11 e10 e9 e8 e7 e6 e5 e4 e3 e2 e1 e0
  exact ⟨x0, x1, x2, x3, x4, x5, x6, x7, x8, x9, x10, x11, x12, x13, x14, x15, x16, x17, x18, x19, x20, x21, x22, x23, x24, x25, _, rfl⟩
theorem qfm_ok {xs : List Int} (h : qok xs) (hx : ∀ x ∈ xs, 0 ≤ x ∧ x < 256) : FmOk (qfm xs) ∧ qosB (qfm xs) = xs := by
  obtain ⟨h0, h1, h2, h3, h4, h5, h6, h7, h8⟩ := h
  obtain ⟨x0, x1, x2, x3, x4, x5, x6, x7, x8, x9, x10, x11, x12, x13, x14, x15, x16, x17, x18, x19, x20, x21, x22, x23, x24, x25, body, rfl⟩ := expl26 h0
  have r22 := hx x22 (by simp)
  have r23 := hx x23 (by simp)
  have r24 := hx x24 (by simp)
  obtain rfl : x0 = 136 := h1
  obtain rfl : x2 = 0 := h3
  obtain rfl : x3 = 0 := h4
  obtain rfl : x25 = 0 := h5
  replace h6 : (x22 + x23 * 256) % 16 = 0 := h6
  have hT : x24 ≤ 7 ∨ (16 ≤ x24 ∧ x24 ≤ 23) := by
    have h7' : okT x24 = true := h7
    simpa [okT] using h7'
  have hF : x1 = 2 ∨ x1 = 10 ∨ x1 = 34 ∨ x1 = 42 := by
    have h2' : okF x1 = true := h2
    simpa [okF, or_assoc] using h2'
  replace h8 : body.length + 26 ≤ 1526 := h8
  refine ⟨⟨rfl, rfl, rfl, ?_, ?_, ?_, ?_, ?_⟩, ?_⟩
  · show 0 ≤ x24 % 16; omega
  · show x24 % 16 ≤ 7; omega
  · show 0 ≤ (x22 + x23 * 256) / 16; omega
  · show (x22 + x23 * 256) / 16 ≤ 4095; omega
  · show body.length ≤ 1500; omega
  · have eA : (2 : Int) + (if decide (x1 = 10 ∨ x1 = 42) = true then 8 else 0) + (if decide (x1 = 34 ∨ x1 = 42) = true then 32 else 0) = x1 := by
      rcases hF with rfl | rfl | rfl | rfl <;> decide
    have eB : (x22 + x23 * 256) / 16 * 16 % 256 = x22 := by omega
    have eC : (x22 + x23 * 256) / 16 * 16 / 256 % 256 = x23 := by omega
    have eD : x24 % 16 + (if decide (16 ≤ x24) = true then (16 : Int) else 0) = x24 := by
      by_cases q : 16 ≤ x24
      · rw [decide_eq_true q, if_pos rfl]; omega
      · rw [decide_eq_false q, if_neg (by decide)]; omega
    show (136 : Int) :: ((2 : Int) + (if decide (x1 = 10 ∨ x1 = 42) = true then 8 else 0) + (if decide (x1 = 34 ∨ x1 = 42) = true then 32 else 0)) :: 0 :: 0 :: x4 :: x5 :: x6 :: x7 :: x8 :: x9 :: x10 :: x11 :: x12 :: x13 :: x14 :: x15 :: x16 :: x17 :: x18 :: x19 :: x20 :: x21 :: ((x22 + x23 * 256) / 16 * 16 % 256) :: ((x22 + x23 * 256) / 16 * 16 / 256 % 256) :: (x24 % 16 + (if decide (16 ≤ x24) = true then (16 : Int) else 0)) :: 0 :: body = _
    rw [eA, eB, eC, eD]
theorem z24_one : ∀ u ∈ z24, u.oneCell' = true := fmc_one ⟨[0, 0, 0, 0, 0, 0], [0, 0, 0, 0, 0, 0], [0, 0, 0, 0, 0, 0], 0, 0, false, false, false, []⟩ none 0 0
section
variable {W W' : Wd} {h h' : Heap} {G : List Grp} {E : Grp} {a a2 : Option Addr} {l r c c2 n k : Nat} {vs us : List Value} {bs xs ys to fr : List Int} {tid sq : Int}
def QosV (W : Wd) (G : List Grp) (xs : List Int) (ok : Value) (bad : Value → Prop) (v : Value) (h' : Heap) : Prop :=
  ∃ W', W.le W' ∧ Me W' h' G ∧ ((qok xs ∧ ∃ cs, v = .tuple #[.agg cs.toArray, ok] ∧ FmV W' (qfm xs) cs) ∨ (¬ qok xs ∧ ∃ e, v = .tuple #[.agg z24.toArray, e] ∧ bad e))
set_option maxHeartbeats 1000000 in
theorem qosReadG_c (hE : Snt5 W) (m : Me W h G) (hb : Bts W (.slice a n c) xs) (hx : ∀ x ∈ xs, 0 ≤ x ∧ x < 256) (hl : xs.length ≤ 1000000) :
    Runs Tryz.prog 37 #[.slice a n c] h (QosV W G xs .nilIface fun v => ∃ e, v = ptE e) := by
  by_cases hq : qok xs
  · obtain ⟨k1, k2⟩ := qfm_ok hq hx
    refine (qosRead_c (f := qfm xs) m (by rw [k2]; exact hb) k1).mono ?_
    rintro _ h' ⟨W', cs, hle, rfl, hv, m'⟩
    exact ⟨W', hle, m', .inl ⟨hq, cs, rfl, hv⟩⟩
  obtain ⟨eE, heE⟩ := hE 1 (by decide)
  obtain ⟨eK, heK⟩ := hE 2 (by decide)
  obtain ⟨eS, heS⟩ := hE 3 (by decide)
  obtain ⟨eR, heR⟩ := hE 0 (by decide)
  obtain ⟨-, hn, -⟩ := bts_src hb
  refine vc_qos_Read _ _ _ _ _ ?_
  intro b1 h1 e1 e2
  replace m := m.push e2 e1
  have fin : ∀ (e : Addr) (g : Nat), wcell W g 0 = some (ptE e) → ∃ v1 : Value, cell h1 g 0 = some v1 ∧ ((z24.length = 24 ∧ wrs h1 b1 0 24 ∧ ∀ u ∈ z24, u.oneCell' = true) ∧ ∀ h2 : Heap, h2 = setr h1 b1 0 z24 → cell h2 g 0 = some v1 ∧ ∃ cs1 : List Value, row h2 b1 0 24 = some cs1 ∧ QosV W G xs .nilIface (fun v => ∃ e, v = ptE e) (.tuple #[.agg cs1.toArray, v1]) h2) := fun e g hg => by
    refine ⟨_, m.wcell hg, ⟨rfl, m.wrsb 0 rfl rfl, z24_one⟩, fun h2 e3 => ?_⟩
    have m2 := m.setr 0 rfl e3
    exact ⟨m2.wcell hg, _, m2.row 0 rfl rfl (Nat.le_of_ble_eq_true rfl), W, Wd.le.refl W, m2.drop1, .inr ⟨hq, _, rfl, e, rfl⟩⟩
  refine dcase_intro (fun q0 => fin eE _ heE) fun q0 => ?_
  have h26 : 26 ≤ xs.length := by omega
  obtain ⟨b', o, rfl, -, hc, hxx⟩ := bts_opn hb (by omega)
  obtain ⟨x0, x1, x2, x3, x4, x5, x6, x7, x8, x9, x10, x11, x12, x13, x14, x15, x16, x17, x18, x19, x20, x21, x22, x23, x24, x25, body, hxs⟩ := expl26 h26
  have ce : ∀ (k : Nat) (x : Int), xs[k]? = some x → cell h1 b' (o + k) = some (.int .u8 x) := fun k x hk => m.wcell (hxx k x hk)
  have hx' := hx
  rw [hxs] at hxx ce hx' hq
  have r1 := hx' x1 (by simp)
  have r22 := hx' x22 (by simp)
  have r23 := hx' x23 (by simp)
  have r24 := hx' x24 (by simp)
  refine ⟨⟨by decide, by omega⟩, _, ce 0 _ rfl, bcase_intro (fun q1 => fin eK _ heK) fun q1 => ?_⟩
  refine ⟨⟨by decide, by omega⟩, _, ce 22 _ rfl, by simp only [fits]; omega, ⟨by decide, by omega⟩, _, ce 23 _ rfl, by simp only [fits]; omega, by decide, by simp only [fits]; omega, ?_⟩
  rw [or_lo r22 r23]
  refine ⟨fun _ => False, ⟨fun x h => h = h1 ∧ (x = false → okF x1 = true ∧ x2 = 0 ∧ x3 = 0 ∧ x25 = 0 ∧ (x22 + x23 * 256) % 16 = 0 ∧ okT x24 = true), ?_, fun _ => ?_⟩, fun _ => fun _ hf => hf.elim⟩
  · refine ⟨⟨by decide, by omega⟩, _, ce 1 _ rfl, ?_⟩
    rw [okF_p r1]
    refine bcase_intro (fun q => ⟨rfl, fun hf => by rw [hf] at q; cases q⟩) fun q2 => ?_
    refine ⟨⟨by decide, by omega⟩, _, ce 2 _ rfl, bcase_intro (fun q => ⟨rfl, fun hf => by rw [hf] at q; cases q⟩) fun q3 => ?_⟩
    refine ⟨⟨by decide, by omega⟩, _, ce 3 _ rfl, bcase_intro (fun q => ⟨rfl, fun hf => by rw [hf] at q; cases q⟩) fun q4 => ?_⟩
    refine ⟨⟨by decide, by omega⟩, _, ce 25 _ rfl, bcase_intro (fun q => ⟨rfl, fun hf => by rw [hf] at q; cases q⟩) fun q5 => ?_⟩
    refine ⟨by decide, bcase_intro (fun q => ⟨rfl, fun hf => by rw [hf] at q; cases q⟩) fun q6 => ?_⟩
    refine ⟨⟨by decide, by omega⟩, _, ce 24 _ rfl, rfl, fun hf => ?_⟩
    rw [okT_p r24] at hf
    rw [Int.tmod_eq_emod_of_nonneg (by omega)] at q6
    refine ⟨by simpa using q2, by simpa using q3, by simpa using q4, by simpa using q5, by simpa using q6, by simpa using hf⟩
  · rintro x _ ⟨rfl, hx1⟩
    refine bcase_intro (fun q => fin eS _ heS) fun q => ?_
    obtain ⟨k1, k2, k3, k4, k5, k6⟩ := hx1 q
    refine ⟨by simp only [fits]; omega, dcase_intro (fun q7 => fin eR _ heR) fun q7 => ?_⟩
    exact hq ⟨by rw [← hxs]; exact h26, show x0 = 136 by simpa using q1, k1, k2, k3, k4, k5, k6, by rw [← hxs]; omega⟩
end
end Go.Proofs.YtepodifionoigaaGreatDoor
