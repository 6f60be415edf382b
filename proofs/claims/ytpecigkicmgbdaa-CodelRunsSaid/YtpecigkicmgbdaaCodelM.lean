/- The walks of CodelMeans and CodelStands. -/
import Derived.Test.YtpecigkicmgbdaaCodelW
set_option linter.unusedVariables false
set_option linter.unusedSimpArgs false
namespace Go.Proofs.Ytpecigkicmgbdaa
open Go.Vc

theorem runZ_means (iv D C : Int) (hi0 : 0 ≤ iv) : runZ 1073741824 10 iv [(0, 2000), (0, 2000), (0, 2000)] ⟨1073741824 - 1, D, C, 3, false, 1048576, 0⟩ =
    (⟨1073741824 - 1, nextZ 1073741824 iv (deltaZ 1073741824 iv ⟨1073741824 - 1, D, C, 3, false, 1044576, 1⟩).toNat, deltaZ 1073741824 iv ⟨1073741824 - 1, D, C, 3, false, 1044576, 1⟩,
      deltaZ 1073741824 iv ⟨1073741824 - 1, D, C, 3, false, 1044576, 1⟩, true, 1044576, 1⟩, true) := by
  simp [runZ, lookZ, beginsZ, show (max (2000 : Int) 0) = 2000 by decide]
theorem nextZ_le (a i : Int) (c : Nat) (ha0 : 0 ≤ a) (ha1 : a ≤ 1125899906842624) (hi0 : 0 ≤ i) (hi1 : i ≤ 1073741824) : a ≤ nextZ a i c ∧ nextZ a i c ≤ a + i := by
  have h1 : clampZ a 1125899906842624 = a := by unfold clampZ; omega
  have h2 : clampZ i 1073741824 = i := by unfold clampZ; omega
  have h3 := invN_le c
  unfold nextZ
  rw [h1, h2]
  have h4 : i * (invN c : Int) ≤ i * 4294967296 := Int.mul_le_mul_of_nonneg_left (by omega) hi0
  have h5 : 0 ≤ i * (invN c : Int) := Int.mul_nonneg hi0 (by omega)
  exact ⟨by omega, by omega⟩
theorem codelMeans_r (count gap interval : Int) (h : Heap) (c0 : 0 ≤ count) : Runs Try.prog 6 #[.int .u32 count, .int .i64 gap, .int .i64 interval] h fun v h' => v = .bool true ∧ Kept h h' := by
  refine vc_muezzinlaw11_CodelMeans _ _ _ _ _ ((first11_c _).mono ?_)
  rintro _ h1 ⟨rfl, k⟩
  have m := Mem.ofKept k
  refine ⟨_, rfl, bcase_false rfl ⟨⟨c0, by decide⟩, by simp only [fits]; omega, (number_c _ _ _ (by decide) (by decide)).ret ⟨_, rfl, by simp only [fits]; omega, (number_c _ _ _ (by decide) (by decide)).ret ⟨_, rfl, ?_⟩⟩⟩⟩
  have g0 : 0 ≤ gap % 32 ∧ gap % 32 ≤ 31 := by omega
  have v0 : 1 ≤ interval % 1000 + 1 ∧ interval % 1000 + 1 ≤ 1000 := by omega
  have w0 : 2 ≤ count % 1000 + 2 ∧ count % 1000 + 2 ≤ 1001 := by omega
  generalize gap % 32 = g at *
  generalize interval % 1000 + 1 = iv at *
  generalize count % 1000 + 2 = ct at *
  have p0 : 0 ≤ g * iv := Int.mul_nonneg (by omega) (by omega)
  have p1 : g * iv ≤ 31 * 1000 := Int.mul_le_mul (by omega) (by omega) (by omega) (by omega)
  (intro bv hv ev1 ev2; replace m := m.push ev2 ev1; clear ev1 ev2; refine ⟨⟨rfl, (m.blk 0 rfl).wrs (Nat.le_of_ble_eq_true rfl), by simp [cV, Value.oneCell']⟩, ?_⟩; intro hv ev3; replace m := m.setr 0 rfl ev3; clear ev3; simp only [List.set_cons_zero, List.set_cons_succ, setL, cV, List.drop_zero, List.take_succ_cons, List.take_zero] at m)
  refine ⟨by simp only [fits]; omega, by simp only [fits]; omega, by simp only [fits]; omega, by simp only [fits]; omega, ?_⟩
  (intro bv hv ev1 ev2; replace m := m.push ev2 ev1; clear ev1 ev2; refine ⟨⟨rfl, (m.blk 0 rfl).wrs (Nat.le_of_ble_eq_true rfl), by simp [cV, Value.oneCell']⟩, ?_⟩; intro hv ev3; replace m := m.setr 0 rfl ev3; clear ev3; simp only [List.set_cons_zero, List.set_cons_succ, setL, cV, List.drop_zero, List.take_succ_cons, List.take_zero] at m)
  refine ⟨_, (m.blk 0 rfl).row_eq rfl (Nat.le_of_ble_eq_true rfl), ?_⟩
  refine ⟨_, (m.blk 1 rfl).row_eq rfl (Nat.le_of_ble_eq_true rfl), ?_⟩
  refine ⟨_, (m.blk 1 rfl).row_eq rfl (Nat.le_of_ble_eq_true rfl), ?_⟩
  refine ⟨_, (m.blk 1 rfl).row_eq rfl (Nat.le_of_ble_eq_true rfl), ?_⟩
  refine ⟨rfl, rfl, rfl, ?_⟩
  intro b3 h8 e1 e2
  replace m := m.push e2 e1
  clear e1 e2
  have hit : Itm h8 (some ⟨b3, 0, none⟩) [(0, 2000), (0, 2000), (0, 2000)] := Itm.blk (l := [(0, 2000), (0, 2000), (0, 2000)]) (m.blk 0 rfl)
  have t1 : clampZ 10 1073741824 = 10 := by decide
  have t2 : clampZ iv 1073741824 = iv := by unfold clampZ; omega
  have p := pull_c (now := 1073741824) (target := 10) (interval := iv) (bytes := 1048576) (a := some ⟨b3, 0, none⟩) (cap := 3) (l := [(0, 2000), (0, 2000), (0, 2000)])
    (c := ⟨1073741824 - 1, 1073741824 - g * iv, ct + 5, 3, false, 0, 0⟩) (h := h8)
    ⟨by decide, by decide, by decide, by decide, by omega, by omega, by decide, by simp⟩ hit (by constructor <;> first | rfl | (dsimp only; omega))
  rw [t1, t2] at p
  dsimp only at p
  rw [runZ_means _ _ _ (by omega)] at p
  have hd : deltaZ 1073741824 iv ⟨1073741824 - 1, 1073741824 - g * iv, ct + 5, 3, false, 1044576, 1⟩ = if g < 16 then ct + 2 else 1 := by
    unfold deltaZ wrap32
    dsimp only
    rw [show (ct + 5 - 3) % 4294967296 = ct + 2 by omega]
    by_cases hg : g < 16
    · have : g * iv < 16 * iv := Int.mul_lt_mul_of_pos_right hg (by omega)
      rw [if_pos hg, if_pos (by omega)]
    · have : 16 * iv ≤ g * iv := Int.mul_le_mul_of_nonneg_right (by omega) (by omega)
      rw [if_neg hg, if_neg (by omega)]
  rw [hd] at p
  refine p.mono ?_
  rintro _ h9 ⟨rfl, k⟩
  replace m := m.call0 (Mem.ofKept k)
  refine ⟨_, _, _, rfl, ?_⟩
  (intro bv hv ev1 ev2; replace m := m.push ev2 ev1; clear ev1 ev2; refine ⟨⟨rfl, (m.blk 0 rfl).wrs (Nat.le_of_ble_eq_true rfl), by simp [cV, Value.oneCell']⟩, ?_⟩; intro hv ev3; replace m := m.setr 0 rfl ev3; clear ev3; simp only [List.set_cons_zero, List.set_cons_succ, setL, cV, List.drop_zero, List.take_succ_cons, List.take_zero] at m)
  have hk := m.kept
  obtain ⟨z0, z1⟩ := nextZ_le 1073741824 iv (if g < 16 then ct + 2 else 1 : Int).toNat (by decide) (by decide) (by omega) (by omega)
  refine dcase_intro (fun q => ?_) fun q => ?_
  · simp only [if_pos q] at m z0 z1
    refine ⟨by simp only [fits]; omega, ?_⟩
    refine seg1 (h := hv) (bcase_true rfl ⟨rfl, rfl⟩) (seg1 (h := hv) (bcase_true rfl ⟨rfl, rfl⟩) (seg1 (h := hv) (bcase_true rfl ?_) (seg1 (h := hv) (bcase_true rfl ?_) (seg1 (h := hv) (bcase_true rfl ?_) (seg1 (h := hv) (bcase_true rfl ?_) (bcase_true rfl ?_))))))
    · refine ⟨_, Mem.cell m 0 rfl rfl, ?_⟩; exact ⟨rfl, rfl⟩
    · refine ⟨_, Mem.cell m 0 rfl rfl, ?_⟩; exact ⟨by simp, rfl⟩
    · refine ⟨_, Mem.cell m 0 rfl rfl, ?_⟩; exact ⟨by simp, rfl⟩
    · refine ⟨_, Mem.cell m 0 rfl rfl, ?_⟩; exact ⟨by simp only [fits]; omega, by simp; omega, rfl⟩
    · refine ⟨_, Mem.cell m 0 rfl rfl, ?_⟩; exact ⟨by simp only [fits]; omega, by simp; omega, hk⟩
  · simp only [if_neg q] at m z0 z1
    rw [show Int.toNat 1 = 1 from rfl] at z0 z1
    refine seg1 (h := hv) (bcase_true rfl ⟨rfl, rfl⟩) (seg1 (h := hv) (bcase_true rfl ⟨rfl, rfl⟩) (seg1 (h := hv) (bcase_true rfl ?_) (seg1 (h := hv) (bcase_true rfl ?_) (seg1 (h := hv) (bcase_true rfl ?_) (seg1 (h := hv) (bcase_true rfl ?_) (bcase_true rfl ?_))))))
    · refine ⟨_, Mem.cell m 0 rfl rfl, ?_⟩; exact ⟨rfl, rfl⟩
    · refine ⟨_, Mem.cell m 0 rfl rfl, ?_⟩; exact ⟨by simp, rfl⟩
    · refine ⟨_, Mem.cell m 0 rfl rfl, ?_⟩; exact ⟨by simp, rfl⟩
    · refine ⟨_, Mem.cell m 0 rfl rfl, ?_⟩; exact ⟨by simp only [fits]; omega, by simp; omega, rfl⟩
    · refine ⟨_, Mem.cell m 0 rfl rfl, ?_⟩; exact ⟨by simp only [fits]; omega, by simp; omega, hk⟩
theorem walk_CodelMeans (a b c : Int) (wa : (Lit.int .u32 a).wf = true) (_ : (Lit.int .i64 b).wf = true) (_ : (Lit.int .i64 c).wf = true) (w : World) :
    Calls Try.prog 6 #[.int .u32 a, .int .i64 b, .int .i64 c] w fun e w' => e = .returned (.bool true) ∧ RowKit.Below w.heap.size w w' :=
  calls_of_runs (codelMeans_r a b c _ (wf_u32 wa).1)
end Go.Proofs.Ytpecigkicmgbdaa
