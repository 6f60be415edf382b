/- The contracts of the package seq (mod, Add, Dist, Ahead), of muezzinworld.Number, and the walks of SeqRound and SeqChains. -/
import Derived.Test.YtlgjjjaepcgaoaaGenSeq
import Derived.Test.YtlgjjjaepcgaoaaSeqPlain
import Derived.Test.YtlgjjjaepcgaoaaRow
set_option linter.unusedVariables false
namespace Go.Proofs.Ytlgjjjaepcgaoaa
open Go.Vc Go.RowKit

theorem tmod_cases (n m : Int) (hm : 0 < m) : (n.tmod m < 0 ∧ n.tmod m + m = n % m) ∨ (0 ≤ n.tmod m ∧ n.tmod m = n % m) := by
  have h1 := Int.emod_lt_of_pos n hm
  have h2 := Int.emod_nonneg n (show m ≠ 0 by omega)
  by_cases hn : 0 ≤ n
  · rw [Int.tmod_eq_emod_of_nonneg hn]; omega
  · have := Int.tmod_eq_emod (a := n) (b := m)
    split at this <;> omega
theorem number_c (n m : Int) (h : Heap) (hm : 0 < m) (hm2 : m ≤ 4611686018427387904) :
    Runs Try.prog 13 #[.int .i64 n, .int .i64 m] h fun v h' => v = .int .i64 (n % m) ∧ h' = h := by
  have h1 := Int.emod_lt_of_pos n hm
  refine vc_muezzinworld_Number _ _ _ _ ⟨by omega, ?_⟩
  have h0 := Int.emod_nonneg n (show m ≠ 0 by omega)
  rcases tmod_cases n m hm with ⟨h2, h3⟩ | ⟨h2, h3⟩
  · refine dcase_pos h2 ⟨by simp only [fits]; omega, by rw [h3], rfl⟩
  · refine dcase_neg (by omega) ⟨by rw [h3], rfl⟩
theorem mod_c (n : Int) (h : Heap) : Runs Try.prog 29 #[.int .i64 n] h fun v h' => v = .int .i64 (n % 4096) ∧ h' = h := by
  refine vc_seq_mod _ _ _ ⟨by decide, by decide, ?_, rfl⟩
  rw [wrap_fits (show fits .i64 _ by simp only [fits]; rcases tmod_cases n 4096 (by omega) with h | h <;> omega)]
  rw [Int.tmod_eq_emod_of_nonneg (by rcases tmod_cases n 4096 (by omega) with h | h <;> omega)]
  rcases tmod_cases n 4096 (by omega) with h | h
  · rw [h.2]; congr 1; omega
  · rw [h.2]; congr 1; omega
theorem add_c (a n : Int) (h : Heap) : Runs Try.prog 14 #[.int .i64 a, .int .i64 n] h fun v h' => v = .int .i64 (addZ a n) ∧ h' = h := by
  refine vc_seq_Add _ _ _ _ ((mod_c _ _).ret ⟨_, rfl, (mod_c _ _).ret ⟨_, rfl, by simp only [fits]; omega, (mod_c _ _).ret ⟨_, rfl, ?_, rfl⟩⟩⟩)
  unfold addZ; congr 1; omega
theorem dist_c (a b : Int) (h : Heap) : Runs Try.prog 15 #[.int .i64 a, .int .i64 b] h fun v h' => v = .int .i64 (distZ a b) ∧ h' = h := by
  refine vc_seq_Dist _ _ _ _ ((mod_c _ _).ret ⟨_, rfl, (mod_c _ _).ret ⟨_, rfl, by simp only [fits]; omega, (mod_c _ _).ret ⟨_, rfl, ?_, rfl⟩⟩⟩)
  unfold distZ; congr 1; omega
theorem ahead_c (a b : Int) (h : Heap) : Runs Try.prog 16 #[.int .i64 a, .int .i64 b] h fun v h' => v = .bool (aheadB (distZ a b)) ∧ h' = h := by
  refine vc_seq_Ahead _ _ _ _ ((dist_c _ _ _).ret ⟨_, rfl, dcase_intro (fun c => ?_) (fun c => ?_)⟩)
  · exact ⟨by simp [aheadB, c], rfl⟩
  · exact ⟨by simp [aheadB, c], rfl⟩
theorem first1_c (h : Heap) : Runs Try.prog 12 #[] h fun v h' => v = .bool true ∧ h' = h :=
  vc_muezzinlaw1_first _ _ ((add_c _ _ _).ret ⟨_, rfl, dcase_pos (by decide) ((add_c _ _ _).ret ⟨_, rfl, rfl, rfl⟩)⟩)

theorem walk_SeqRound (a0 b0 n0 : Int) (wa : (Lit.int .i64 a0).wf = true) (wb : (Lit.int .i64 b0).wf = true) (wn : (Lit.int .i64 n0).wf = true) (w : World) :
    Calls Try.prog 4 #[.int .i64 a0, .int .i64 b0, .int .i64 n0] w fun e w' => e = .returned (.bool true) ∧ Below w.heap.size w w' := by
  refine calls_of_runs (vc_muezzinlaw1_SeqRound _ _ _ _ _ ((first1_c _).ret ⟨_, rfl, bcase_false rfl ((number_c _ _ _ (by decide) (by decide)).ret ⟨_, rfl, (number_c _ _ _ (by decide) (by decide)).ret ⟨_, rfl, (number_c _ _ _ (by decide) (by decide)).ret ⟨_, rfl, ?_⟩⟩⟩)⟩))
  obtain ⟨a, ha⟩ : ∃ a, a = a0 % 4096 := ⟨_, rfl⟩
  obtain ⟨b, hb⟩ : ∃ b, b = b0 % 4096 := ⟨_, rfl⟩
  obtain ⟨n, hn⟩ : ∃ n, n = n0 % 4096 := ⟨_, rfl⟩
  rw [← ha, ← hb, ← hn]
  have k : 0 ≤ a ∧ a < 4096 ∧ 0 ≤ b ∧ b < 4096 ∧ 0 ≤ n ∧ n < 4096 := by omega
  refine (dist_c _ _ _).ret ⟨_, rfl, (dist_c _ _ _).ret ⟨_, rfl, ?_⟩⟩
  refine ⟨fun x h => x = true ∧ h = w.heap, bcase_true rfl ((add_c _ _ _).ret ⟨_, rfl, (dist_c _ _ _).ret ⟨_, rfl, decide_eq_true (by simp only [distZ, addZ]; omega), rfl⟩⟩), fun _ => ?_⟩
  rintro _ _ ⟨rfl, rfl⟩
  refine ⟨fun x h => x = true ∧ h = w.heap, bcase_true rfl ((add_c _ _ _).ret ⟨_, rfl, decide_eq_true (by simp only [distZ, addZ]; omega), rfl⟩), fun _ => ?_⟩
  rintro _ _ ⟨rfl, rfl⟩
  have d1 := distZ_bd a b
  have d2 := distZ_bd b a
  refine ⟨fun x h => x = true ∧ h = w.heap, bcase_true rfl (⟨by simp only [fits]; omega, by omega, decide_eq_true (by simp only [distZ]; omega), rfl⟩), fun _ => ?_⟩
  rintro _ _ ⟨rfl, rfl⟩
  refine ⟨fun x h => x = true ∧ h = w.heap, bcase_true rfl (⟨by simp [d1], rfl⟩), fun _ => ?_⟩
  rintro _ _ ⟨rfl, rfl⟩
  refine ⟨fun x h => x = true ∧ h = w.heap, bcase_true rfl (⟨by simp [d1], rfl⟩), fun _ => ?_⟩
  rintro _ _ ⟨rfl, rfl⟩
  have e0 : a = b ↔ distZ a b = 0 := by unfold distZ; omega
  refine ⟨fun x h => x = true ∧ h = w.heap, bcase_true rfl (⟨by simp [e0], rfl⟩), fun _ => ?_⟩
  rintro _ _ ⟨rfl, rfl⟩
  have e1 : a ≠ b → distZ a b ≠ 2048 → aheadB (distZ a b) ≠ aheadB (distZ b a) := by
    intro h1 h2
    unfold aheadB
    have : distZ b a = 4096 - distZ a b := by unfold distZ at *; omega
    rw [this]
    have : distZ a b ≠ 0 := fun h => h1 (e0.2 h)
    simp only [ne_eq, decide_eq_decide]
    omega
  have e2 : aheadB (distZ a b) = true → aheadB (distZ b a) = false := by
    unfold aheadB
    simp only [decide_eq_true_eq, decide_eq_false_iff_not]
    intro h
    have : distZ b a = 4096 - distZ a b := by unfold distZ at *; omega
    omega
  refine ⟨fun x h => x = true ∧ h = w.heap, bcase_true rfl (dcase_intro (fun _ => ⟨rfl, rfl⟩) (fun c1 => dcase_intro (fun _ => ⟨rfl, rfl⟩) (fun c2 => (ahead_c _ _ _).ret ⟨_, rfl, (ahead_c _ _ _).ret ⟨_, rfl, by simp [e1 c1 c2], rfl⟩⟩))), fun _ => ?_⟩
  rintro _ _ ⟨rfl, rfl⟩
  refine ⟨fun x h => x = true ∧ h = w.heap, bcase_true rfl ((ahead_c _ _ _).ret ⟨_, rfl, bcase_intro (fun c => (ahead_c _ _ _).ret ⟨_, rfl, by simp [e2 c], rfl⟩) (fun _ => ⟨rfl, rfl⟩)⟩), fun _ => ?_⟩
  rintro _ _ ⟨rfl, rfl⟩
  exact bcase_true rfl ⟨by simp only [fits]; omega, (add_c _ _ _).ret ⟨_, rfl, by simp only [fits]; omega, (add_c _ _ _).ret ⟨_, rfl, congrArg Value.bool (decide_eq_true (by simp only [addZ]; omega)), Kept.refl _⟩⟩⟩

theorem walk_SeqChains (a0 : Int) (a1 : Option Addr) (len1 cap1 : Nat) (z1 : List Int) (w : World) (w0 : (Lit.int .i64 a0).wf = true) (w1 : IsRow .i64 w a1 len1 cap1 z1) :
    Calls Try.prog 3 #[.int .i64 a0, .slice a1 len1 cap1] w fun e w' => e = .returned (.bool true) ∧ Below w.heap.size w w' := by
  refine calls_of_runs (vc_muezzinlaw1_SeqChains _ _ _ _ _ _ ((first1_c _).ret ⟨_, rfl, bcase_false rfl (dcase_intro (fun _ => ⟨rfl, Kept.refl _⟩) fun hl => ?_)⟩))
  refine (number_c _ _ _ (by decide) (by decide)).ret ⟨_, rfl, ?_⟩
  obtain ⟨a, ha⟩ : ∃ a, a = a0 % 4096 := ⟨_, rfl⟩
  rw [← ha]
  have ka : 0 ≤ a ∧ a < 4096 := by omega
  refine ⟨fun at_ s i h => ∃ k : Nat, k ≤ len1 ∧ i = k ∧ h = w.heap ∧ -4500 * k ≤ s ∧ s ≤ 4500 * k ∧ at_ = addZ a s, fun _ _ i _ => len1 - i.toNat, ⟨0, by omega, rfl, rfl, by omega, by omega, by unfold addZ; omega⟩, fun _ => ?_⟩
  rintro at_ s i h ⟨k, hk, rfl, rfl, s1, s2, rfl⟩
  refine dcase_intro (fun c => ?_) (fun c => ?_)
  · obtain ⟨b, o, rfl, _, _, hc⟩ := w1.at (i := k) (by omega)
    refine ⟨⟨by omega, by omega⟩, ?_⟩
    refine ⟨_, by rw [Int.toNat_natCast]; exact hc k (by omega), (number_c _ _ _ (by decide) (by decide)).ret ⟨_, rfl, by simp only [fits]; omega, (add_c _ _ _).ret ⟨_, rfl, by simp only [fits]; omega, by simp only [fits]; omega, ?_, ?_⟩⟩⟩
    · exact ⟨k + 1, by omega, by omega, rfl, by omega, by omega, by unfold addZ; omega⟩
    · dsimp only; omega
  · refine ⟨by simp only [fits]; omega, (add_c _ _ _).ret ⟨_, rfl, ?_⟩⟩
    refine seg1 (h := w.heap) (bcase_true rfl ((add_c _ _ _).ret ⟨_, rfl, decide_eq_true rfl, rfl⟩)) ?_
    refine seg1 (h := w.heap) (bcase_true rfl ⟨decide_eq_true (by unfold addZ; omega), rfl⟩) ?_
    refine bcase_true rfl ((dist_c _ _ _).ret ⟨_, rfl, (add_c _ _ _).ret ⟨_, rfl, congrArg Value.bool (decide_eq_true ?_), Kept.refl _⟩⟩)
    unfold distZ addZ; omega
end Go.Proofs.Ytlgjjjaepcgaoaa
