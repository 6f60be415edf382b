/- The contracts of the package hash, and of the reference's copy of it. -/
import Derived.Test.YtlgjjjaepcgaoaaBase
import Derived.Test.YtlgjjjaepcgaoaaHashPlain
namespace Go.Proofs.Ytlgjjjaepcgaoaa
open Go.RowKit


set_option maxHeartbeats 400000 in
theorem mix_any (a b : Int) (w : World) :
    Calls Try.prog 18 #[.int .u32 a, .int .u32 b] w fun e w' => e = .returned (.int .u32 (mixZ a b)) ∧ w = w' := by
  go_enter Try.func18, Try.ntmps18
  go_wp2
  go_ret
  exact ⟨ret_u32 (mix_walk a b), rfl⟩
set_option maxHeartbeats 400000 in
theorem refmix_any (a b : Int) (w : World) :
    Calls Try.prog 19 #[.int .u32 a, .int .u32 b] w fun e w' => e = .returned (.int .u32 (mixZ a b)) ∧ w = w' := by
  go_enter Try.func19, Try.ntmps19
  go_wp2
  go_ret
  exact ⟨ret_u32 (mix_walk a b), rfl⟩
set_option maxHeartbeats 400000 in
theorem bucket_any (a b : Int) (w : World) :
    Calls Try.prog 20 #[.int .u32 a, .int .u32 b] w fun e w' => e = .returned (.int .i64 (mixZ a b % 16)) ∧ w = w' := by
  have hb := mixZ_bd a b
  obtain ⟨h1, h2⟩ := hb
  go_enter Try.func20, Try.ntmps20
  go_wp2_with (go_at_call 18; refine (mix_any _ _ _).mono ?_; rintro e w' ⟨rfl, rfl⟩)
  go_ret
  exact ⟨ret_i64 rfl, rfl⟩
set_option maxHeartbeats 400000 in
theorem refbucket_any (a b : Int) (w : World) :
    Calls Try.prog 21 #[.int .u32 a, .int .u32 b] w fun e w' => e = .returned (.int .i64 (mixZ a b % 16)) ∧ w = w' := by
  have hb := mixZ_bd a b
  obtain ⟨h1, h2⟩ := hb
  go_enter Try.func21, Try.ntmps21
  go_wp2_with (go_at_call 19; refine (refmix_any _ _ _).mono ?_; rintro e w' ⟨rfl, rfl⟩)
  go_ret
  exact ⟨ret_i64 rfl, rfl⟩
set_option maxHeartbeats 400000 in
theorem first12_any (w : World) :
    Calls Try.prog 17 #[] w fun e w' => e = .returned (.bool true) ∧ w = w' := by
  have h0 : (mixZ 0 0 == 0) = true := by rw [mixZ_self]; rfl
  go_enter Try.func17, Try.ntmps17
  go_wp2_with (first | (go_at_call 18; refine (mix_any _ _ _).mono ?_; rintro e w' ⟨rfl, rfl⟩) | (go_at_call 19; refine (refmix_any _ _ _).mono ?_; rintro e w' ⟨rfl, rfl⟩))
  go_ret
  exact ⟨ret_bool (by simp), rfl⟩
set_option maxHeartbeats 400000 in
theorem walk_HashSays (a b : Int) (_ : (Lit.int .u32 a).wf = true) (_ : (Lit.int .u32 b).wf = true) (w : World) :
    Calls Try.prog 5 #[.int .u32 a, .int .u32 b] w fun e w' => e = .returned (.bool true) ∧ Below w.heap.size w w' := by
  go_enter Try.func5, Try.ntmps5
  go_wp2_with (first | (go_at_call 17; refine (first12_any _).mono ?_; rintro e w' ⟨rfl, rfl⟩) | (go_at_call 18; refine (mix_any _ _ _).mono ?_; rintro e w' ⟨rfl, rfl⟩) | (go_at_call 19; refine (refmix_any _ _ _).mono ?_; rintro e w' ⟨rfl, rfl⟩) | (go_at_call 20; refine (bucket_any _ _ _).mono ?_; rintro e w' ⟨rfl, rfl⟩) | (go_at_call 21; refine (refbucket_any _ _ _).mono ?_; rintro e w' ⟨rfl, rfl⟩))
  go_ret
  exact ⟨ret_bool (by simp), Below.refl _ _⟩

set_option maxRecDepth 10000 in
set_option maxHeartbeats 1000000 in
theorem walk_HashApart (a b s : Int) (wa : (Lit.int .u32 a).wf = true) (wb : (Lit.int .u32 b).wf = true) (_ : (Lit.int .u32 s).wf = true) (w : World) :
    Calls Try.prog 6 #[.int .u32 a, .int .u32 b, .int .u32 s] w fun e w' => e = .returned (.bool true) ∧ Below w.heap.size w w' := by
  have hs := mixZ_self a
  obtain ⟨m1, m2⟩ := mixZ_bd a s
  have hc : (mixZ a s == mixZ s a) = true := by rw [mixZ_comm a s]; simp
  have hs : (mixZ a a == 0) = true := by rw [hs]; rfl
  have m3 : decide (0 ≤ mixZ a s % 16) = true := by simp; omega
  have m4 : decide (mixZ a s % 16 < 16) = true := by simp; omega
  clear m1 m2
  by_cases h : a = b
  · subst h
    clear wa wb
    have e1 : (mixZ a s == mixZ a s) = true := by simp
    go_enter Try.func6, Try.ntmps6
    go_wp2_with (first | (go_at_call 17; refine (first12_any _).mono ?_; rintro e w' ⟨rfl, rfl⟩) | (go_at_call 18; refine (mix_any _ _ _).mono ?_; rintro e w' ⟨rfl, rfl⟩) | (go_at_call 20; refine (bucket_any _ _ _).mono ?_; rintro e w' ⟨rfl, rfl⟩))
    go_ret
    exact ⟨ret_bool (by simp), Below.refl _ _⟩
  · have ba := bounds_u32 wa
    have bb := bounds_u32 wb
    clear wa wb
    have e1 : (mixZ a s == mixZ b s) = false := by
      rw [beq_eq_false_iff_ne]; intro hh; exact h (mixZ_inj (by omega) (by omega) (by omega) (by omega) hh)
    have e2 : (mixZ s a == mixZ s b) = false := by rw [mixZ_comm s a, mixZ_comm s b]; exact e1
    have e3 : (a == b) = false := by simpa using h
    clear h ba bb
    go_enter Try.func6, Try.ntmps6
    go_wp2_with (first | (go_at_call 17; refine (first12_any _).mono ?_; rintro e w' ⟨rfl, rfl⟩) | (go_at_call 18; refine (mix_any _ _ _).mono ?_; rintro e w' ⟨rfl, rfl⟩) | (go_at_call 20; refine (bucket_any _ _ _).mono ?_; rintro e w' ⟨rfl, rfl⟩))
    go_ret
    exact ⟨ret_bool (by simp), Below.refl _ _⟩
end Go.Proofs.Ytlgjjjaepcgaoaa
