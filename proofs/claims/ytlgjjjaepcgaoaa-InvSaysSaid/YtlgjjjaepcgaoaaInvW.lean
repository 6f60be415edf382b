/- The walks of InvRoots, InvFalls, InvPowers, InvSays. -/
import Derived.Test.YtlgjjjaepcgaoaaInv
import Derived.Test.YtlgjjjaepcgaoaaSeq
set_option linter.unusedVariables false
set_option linter.unusedSimpArgs false
namespace Go.Proofs.Ytlgjjjaepcgaoaa
open Go.Vc Go.RowKit

theorem invRoots_r (n : Int) (h : Heap) (h0 : 0 ≤ n) (h1 : n < 18446744073709551616) : Runs Try.prog 8 #[.int .u64 n] h fun v h' => v = .bool true ∧ h' = h := by
  obtain ⟨m, rfl⟩ := Int.eq_ofNat_of_zero_le h0
  obtain ⟨s1, s2⟩ := isq_spec m
  have hs : isq m < 4294967296 := isq_lt (b := 4294967296) (by omega)
  refine vc_muezzinlaw10_InvRoots _ _ _ ((first10_c _).ret ⟨_, rfl, bcase_false rfl ((root_c _ _ h0 h1).ret ⟨_, rfl, ⟨by decide, by decide⟩, ?_⟩)⟩)
  rw [show ((m : Int)).toNat = m from rfl]
  have b1 : isq m * isq m ≤ 4294967295 * 4294967295 := Nat.mul_le_mul (by omega) (by omega)
  have e1 : (isq m : Int) * (isq m : Int) = ((isq m * isq m : Nat) : Int) := by simp
  refine segT (bcase_true rfl ⟨by simp; omega, rfl⟩) (segT (bcase_true rfl ⟨by simp only [fits]; omega, by simp only [e1]; simp; omega, rfl⟩) (segT (bcase_true rfl (dcase_intro (fun c => ⟨rfl, rfl⟩) fun c => ?_)) (bcase_true rfl ?_)))
  · have b2 : (isq m + 1) * (isq m + 1) ≤ 4294967295 * 4294967295 := Nat.mul_le_mul (by omega) (by omega)
    have e2 : ((isq m : Int) + 1) * ((isq m : Int) + 1) = (((isq m + 1) * (isq m + 1) : Nat) : Int) := by simp
    exact ⟨by simp only [fits]; omega, by simp only [fits]; omega, by simp only [fits]; omega, by rw [e2]; simp; omega, rfl⟩
  · have b3 : m / 4294967296 * (m / 4294967296) ≤ 4294967295 * 4294967295 := Nat.mul_le_mul (by omega) (by omega)
    have e3 : (m : Int) / 4294967296 * ((m : Int) / 4294967296) = ((m / 4294967296 * (m / 4294967296) : Nat) : Int) := by simp
    rw [e3]
    refine ⟨by simp only [fits]; omega, (root_c _ _ (by omega) (by omega)).ret ⟨_, rfl, ?_, rfl⟩⟩
    rw [Int.toNat_natCast, isq_sq]
    simp

theorem and_mask30 {a : Int} (h0 : 0 ≤ a) (h1 : a < 4294967296) : bits .and .u32 a 1073741823 = a % 1073741824 := by
  obtain ⟨m, rfl⟩ := Int.eq_ofNat_of_zero_le h0
  have e : bits .and .u32 (m : Int) 1073741823 = IntKind.u32.wrap ((BitVec.ofInt 32 (m : Int) &&& BitVec.ofInt 32 1073741823).toNat : Int) := rfl
  have e2 : (BitVec.ofInt 32 (m : Int) &&& BitVec.ofInt 32 1073741823).toNat = m % 1073741824 := by
    rw [BitVec.toNat_and, BitVec.toNat_ofInt, BitVec.toNat_ofInt]
    have : ((m : Int) % (2 ^ 32 : Nat)).toNat = m := by omega
    rw [this]
    exact Nat.and_two_pow_sub_one_eq_mod m 30
  rw [e, e2, wrap_fits (show fits .u32 _ by simp only [fits]; omega)]
  omega
theorem nextZ_anti (a i : Int) {c d : Nat} (h : c ≤ d) : nextZ a i d ≤ nextZ a i c := by
  obtain ⟨h1, h2⟩ := clampZ_bd i (show (0 : Int) ≤ 1073741824 by decide)
  have := invN_anti h
  unfold nextZ
  have := Int.ediv_le_ediv (show (0 : Int) < 4294967296 by decide) (Int.mul_le_mul_of_nonneg_left (show (invN d : Int) ≤ (invN c : Int) by omega) h1)
  omega
theorem nextZ_bd (a i : Int) (c : Nat) : clampZ a 1125899906842624 ≤ nextZ a i c ∧ nextZ a i c ≤ clampZ a 1125899906842624 + 1073741824 := by
  obtain ⟨h1, h2⟩ := prod_bd i c
  unfold nextZ
  exact ⟨by omega, by omega⟩
theorem invFalls_r (a b at_ i : Int) (h : Heap) (ha0 : 0 ≤ a) (ha1 : a < 4294967296) (hb0 : 0 ≤ b) (hb1 : b < 4294967296) :
    Runs Try.prog 9 #[.int .u32 a, .int .u32 b, .int .i64 at_, .int .i64 i] h fun v h' => v = .bool true ∧ h' = h := by
  refine vc_muezzinlaw10_InvFalls _ _ _ _ _ _ ((first10_c _).ret ⟨_, rfl, bcase_false rfl ?_⟩)
  refine ⟨fun x y h' => 0 ≤ x ∧ x ≤ y ∧ y < 4294967296 ∧ h' = h, dcase_intro (fun c => ⟨hb0, by omega, ha1, rfl⟩) (fun c => ⟨ha0, by omega, hb1, rfl⟩), fun _ => ?_⟩
  rintro x y h1 ⟨hx, hxy, hy, rfl⟩
  refine ⟨fun z k => 1 ≤ z ∧ z ≤ max y 1 ∧ k = h1, dcase_intro (fun c => ⟨by decide, by omega, rfl⟩) (fun c => ⟨by omega, by omega, rfl⟩), fun _ => ?_⟩
  rintro z _ ⟨hz, hzy, rfl⟩
  rw [and_mask30 (by omega) (by omega)]
  have hy1 : max y 1 < 4294967296 := by omega
  refine (inv_c _ _ (by omega) (by omega)).ret ⟨_, rfl, (inv_c _ _ (by omega) hy1).ret ⟨_, rfl, (inv_c _ _ (by omega) (by omega)).ret ⟨_, rfl, by simp only [fits]; omega,
    (inv_c _ _ (by omega) (by omega)).ret ⟨_, rfl, (next_c _ _ _ _ (by omega) (by omega)).ret ⟨_, rfl, (next_c _ _ _ _ (by omega) hy1).ret ⟨_, rfl, ?_⟩⟩⟩⟩⟩⟩
  have q1 := invN_le z.toNat
  have q2 := invN_ge (c := (max y 1).toNat) (by omega)
  have q3 := invN_anti (a := z.toNat) (b := (max y 1).toNat) (by omega)
  have q4 := nextZ_anti at_ i (c := z.toNat) (d := (max y 1).toNat) (by omega)
  obtain ⟨q5, q6⟩ := nextZ_bd at_ i z.toNat
  obtain ⟨q7, q8⟩ := nextZ_bd at_ i (max y 1).toNat
  obtain ⟨q9, q10⟩ := clampZ_bd at_ (show (0 : Int) ≤ 1125899906842624 by decide)
  have qm := invN_le (z % 1073741824).toNat
  rw [show min (max at_ 0) 1125899906842624 = clampZ at_ 1125899906842624 from rfl]
  refine segT (bcase_true rfl ⟨by simp; omega, rfl⟩) (segT (bcase_true rfl ⟨by simp; omega, rfl⟩) (segT (bcase_true rfl ⟨by simp; omega, rfl⟩) (segT (bcase_true rfl ?_) (segT (bcase_true rfl ⟨by simp; omega, rfl⟩) (segT (bcase_true rfl ⟨by simp only [fits]; omega, by simp; omega, rfl⟩) (bcase_true rfl ⟨by simp; omega, rfl⟩))))))
  refine dcase_intro (fun c => ⟨rfl, rfl⟩) fun c => ?_
  have e := invN_four (c := (z % 1073741824).toNat) (by omega)
  rw [show (z % 1073741824).toNat * 4 = (z % 1073741824 * 4).toNat by omega] at e
  rw [e]
  exact ⟨⟨by omega, by decide, by simp only [fits]; omega⟩, dcase_pos (by omega) ⟨⟨by omega, by decide, by simp only [fits]; omega⟩, by simp only [fits]; omega, by simp; omega, rfl⟩⟩
theorem invPowers_r (k at_ i : Int) (h : Heap) : 
    Runs Try.prog 10 #[.int .i64 k, .int .i64 at_, .int .i64 i] h fun v h' => v = .bool true ∧ h' = h := by
  refine vc_muezzinlaw10_InvPowers _ _ _ _ _ ((first10_c _).ret ⟨_, rfl, bcase_false rfl ((number_c _ _ _ (by decide) (by decide)).ret ⟨_, rfl, ?_⟩)⟩)
  obtain ⟨m, hm⟩ := Int.eq_ofNat_of_zero_le (show 0 ≤ k % 16 by omega)
  have hm2 : m < 16 := by omega
  rw [hm]
  have p1 : pow2 (2 * (m : Int)) = ((2 ^ (2 * m) : Nat) : Int) := by unfold pow2; rw [show (2 * (m : Int)).toNat = 2 * m by omega]; simp
  have p2 : pow2 (32 - (m : Int)) = ((2 ^ (32 - m) : Nat) : Int) := by unfold pow2; rw [show (32 - (m : Int)).toNat = 32 - m by omega]; simp
  have p3 : pow2 (m : Int) = ((2 ^ m : Nat) : Int) := by unfold pow2; rw [show ((m : Int)).toNat = m by omega]; simp
  have l1 : 2 ^ (2 * m) ≤ 2 ^ 30 := Nat.pow_le_pow_right (by decide) (by omega)
  have l2 : 2 ^ (32 - m) ≤ 2 ^ 32 := Nat.pow_le_pow_right (by decide) (by omega)
  have l3 : 1 ≤ 2 ^ m := Nat.one_le_two_pow
  have ep := invN_pow m (by omega)
  have e32 : 2 ^ (32 - m) * 2 ^ m = 4294967296 := by rw [← Nat.pow_add, show 32 - m + m = 32 by omega]
  rw [p1, p2, p3, Int.one_mul, Int.one_mul]
  have z1 : (0 : Int) ≤ ((2 ^ (2 * m) : Nat) : Int) := Int.natCast_nonneg _
  have z2 : (0 : Int) ≤ ((2 ^ (32 - m) : Nat) : Int) := Int.natCast_nonneg _
  rw [show (2 : Nat) ^ 30 = 1073741824 by decide] at l1
  rw [show (2 : Nat) ^ 32 = 4294967296 by decide] at l2
  refine ⟨by simp only [fits]; omega, by simp only [fits]; omega, ⟨by omega, by simp only [kbits]; omega⟩, by simp only [fits]; omega, ?_⟩
  refine ⟨fun x k => x = decide (at_ < 0 ∨ 1125899906842624 < at_) ∧ k = h, dcase_intro (fun c => ⟨by simp [c], rfl⟩) (fun c => ⟨by simp; omega, rfl⟩), fun _ => ?_⟩
  rintro _ h1 ⟨rfl, rfl⟩
  refine ⟨fun x k => x = decide ((at_ < 0 ∨ 1125899906842624 < at_) ∨ i < 0) ∧ k = h1, dcase_intro (fun c => ⟨by simp [c], rfl⟩) (fun c => ⟨by simp; omega, rfl⟩), fun _ => ?_⟩
  rintro _ _ ⟨rfl, rfl⟩
  refine dcase_intro (fun c => ⟨rfl, rfl⟩) fun c => dcase_intro (fun c2 => ⟨rfl, rfl⟩) fun c2 => ?_
  have hi : clampZ i 1073741824 = i := by unfold clampZ; omega
  have ha : clampZ at_ 1125899906842624 = at_ := by unfold clampZ; omega
  have en : nextZ at_ i (2 ^ (2 * m)) = at_ + i / ((2 ^ m : Nat) : Int) := by
    unfold nextZ
    rw [hi, ha, ep, ← Int.mul_ediv_mul_of_pos_left i ((2 ^ m : Nat) : Int) (show (0 : Int) < ((2 ^ (32 - m) : Nat) : Int) by have := @Nat.one_le_two_pow (32 - m); omega), ← Int.natCast_mul, Nat.mul_comm (2 ^ m), e32]; rfl
  have d1 : 0 ≤ i / ((2 ^ m : Nat) : Int) := Int.ediv_nonneg (by omega) (by omega)
  have d2 : i / ((2 ^ m : Nat) : Int) ≤ i := Int.ediv_le_self _ (by omega)
  refine segT (bcase_true rfl ((inv_c _ _ (Int.natCast_nonneg _) (by omega)).ret ⟨_, rfl, by simp only [fits]; omega, by simp only [fits]; omega, ⟨by omega, by simp only [kbits]; omega⟩, by simp only [fits]; omega, by rw [Int.toNat_natCast, ep]; simp, rfl⟩))
    (segT (bcase_true rfl ((next_c _ _ _ _ (Int.natCast_nonneg _) (by omega)).ret ⟨_, rfl, by simp only [fits]; omega, ⟨by omega, by simp only [kbits]; omega⟩, by simp only [fits]; omega, by rw [Int.toNat_natCast, en]; simp, rfl⟩))
    (bcase_true rfl ((inv_c _ _ (by decide) (by decide)).ret ⟨_, rfl, by rw [show (0 : Int).toNat = 0 from rfl, invN_small (Nat.zero_le 1)]; rfl, rfl⟩)))
theorem invSays_r (n c at_ i : Int) (h : Heap) (h0 : 0 ≤ n) (h1 : n < 18446744073709551616) (c0 : 0 ≤ c) (c1 : c < 4294967296) :
    Runs Try.prog 11 #[.int .u64 n, .int .u32 c, .int .i64 at_, .int .i64 i] h fun v h' => v = .bool true ∧ h' = h := by
  refine vc_muezzinlaw10_InvSays _ _ _ _ _ _ ((first10_c _).ret ⟨_, rfl, bcase_false rfl ?_⟩)
  exact segT (bcase_true rfl ((root_c _ _ h0 h1).ret ⟨_, rfl, (refroot_c _ _ h0 h1).ret ⟨_, rfl, by simp, rfl⟩⟩))
    (segT (bcase_true rfl ((inv_c _ _ c0 c1).ret ⟨_, rfl, (refinv_c _ _ c0 c1).ret ⟨_, rfl, by simp, rfl⟩⟩))
    (bcase_true rfl ((next_c _ _ _ _ c0 c1).ret ⟨_, rfl, (refnext_c _ _ _ _ c0 c1).ret ⟨_, rfl, by simp, rfl⟩⟩)))
theorem wf_u32 {a : Int} (h : (Lit.int .u32 a).wf = true) : 0 ≤ a ∧ a < 4294967296 := by
  simp only [Lit.wf, Bool.and_eq_true, decide_eq_true_eq] at h
  exact ⟨h.1, Int.lt_of_le_of_lt h.2 (by decide)⟩
theorem wf_u64 {a : Int} (h : (Lit.int .u64 a).wf = true) : 0 ≤ a ∧ a < 18446744073709551616 := by
  simp only [Lit.wf, Bool.and_eq_true, decide_eq_true_eq] at h
  exact ⟨h.1, Int.lt_of_le_of_lt h.2 (by decide)⟩
theorem walk_InvRoots (n : Int) (w1 : (Lit.int .u64 n).wf = true) (w : World) :
    Calls Try.prog 8 #[.int .u64 n] w fun e w' => e = .returned (.bool true) ∧ Below w.heap.size w w' := by
  obtain ⟨h0, h1⟩ := wf_u64 w1
  exact calls_of_runs ((invRoots_r n _ h0 h1).mono fun v h' ⟨e, f⟩ => ⟨e, by rw [f]; exact Kept.refl _⟩)
theorem walk_InvFalls (a b at_ i : Int) (w1 : (Lit.int .u32 a).wf = true) (w2 : (Lit.int .u32 b).wf = true) (_ : (Lit.int .i64 at_).wf = true) (_ : (Lit.int .i64 i).wf = true) (w : World) :
    Calls Try.prog 9 #[.int .u32 a, .int .u32 b, .int .i64 at_, .int .i64 i] w fun e w' => e = .returned (.bool true) ∧ Below w.heap.size w w' := by
  obtain ⟨h0, h1⟩ := wf_u32 w1
  obtain ⟨h2, h3⟩ := wf_u32 w2
  exact calls_of_runs ((invFalls_r a b at_ i _ h0 h1 h2 h3).mono fun v h' ⟨e, f⟩ => ⟨e, by rw [f]; exact Kept.refl _⟩)
theorem walk_InvPowers (k at_ i : Int) (_ : (Lit.int .i64 k).wf = true) (_ : (Lit.int .i64 at_).wf = true) (_ : (Lit.int .i64 i).wf = true) (w : World) :
    Calls Try.prog 10 #[.int .i64 k, .int .i64 at_, .int .i64 i] w fun e w' => e = .returned (.bool true) ∧ Below w.heap.size w w' :=
  calls_of_runs ((invPowers_r k at_ i _).mono fun v h' ⟨e, f⟩ => ⟨e, by rw [f]; exact Kept.refl _⟩)
theorem walk_InvSays (n c at_ i : Int) (w1 : (Lit.int .u64 n).wf = true) (w2 : (Lit.int .u32 c).wf = true) (_ : (Lit.int .i64 at_).wf = true) (_ : (Lit.int .i64 i).wf = true) (w : World) :
    Calls Try.prog 11 #[.int .u64 n, .int .u32 c, .int .i64 at_, .int .i64 i] w fun e w' => e = .returned (.bool true) ∧ Below w.heap.size w w' := by
  obtain ⟨h0, h1⟩ := wf_u64 w1
  obtain ⟨h2, h3⟩ := wf_u32 w2
  exact calls_of_runs ((invSays_r n c at_ i _ h0 h1 h2 h3).mono fun v h' ⟨e, f⟩ => ⟨e, by rw [f]; exact Kept.refl _⟩)
end Go.Proofs.Ytlgjjjaepcgaoaa
