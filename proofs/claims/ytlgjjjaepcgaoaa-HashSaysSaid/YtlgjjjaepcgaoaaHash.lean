/- The contracts of the package hash, and of the reference's copy of it. -/
import Derived.Test.YtlgjjjaepcgaoaaRows
import Derived.Test.YtlgjjjaepcgaoaaHashPlain
import Derived.WalkKit
import Derived.WalkSpells
import Derived.WalkLawsBesides
import Derived.ProofKit
import Derived.OpenShut
namespace Go.Proofs.Ytlgjjjaepcgaoaa
open Go.RowKit

theorem ret_u32 {a b : Int} (h : a = b) : Ending.returned (.int .u32 a) = .returned (.int .u32 b) := by rw [h]
theorem ret_i64 {a b : Int} (h : a = b) : Ending.returned (.int .i64 a) = .returned (.int .i64 b) := by rw [h]
theorem ret_bool {a b : Bool} (h : a = b) : Ending.returned (.bool a) = .returned (.bool b) := by rw [h]

set_option maxHeartbeats 400000 in
theorem mix_any (a b : Int) (w : World) :
    Calls Try.prog 18 #[.int .u32 a, .int .u32 b] w fun e w' => e = .returned (.int .u32 (mixZ a b)) ∧ w = w' := by
  go_enter Try.func18, Try.ntmps18
  go_wp2
  go_ret
  exact ⟨ret_u32 (mix_walk a b), rfl⟩
set_option maxHeartbeats 400000 in
theorem refmix_any (a b : Int) (w : World) :
    Calls Try.prog 19 #[.int .u32 a, .int .u32 b] w fun e w' => e = .returned (.int .u32 (mixZ a b)) ∧ w = w' := by
  go_enter Try.func19, Try.ntmps19
  go_wp2
  go_ret
  exact ⟨ret_u32 (mix_walk a b), rfl⟩
set_option maxHeartbeats 400000 in
theorem bucket_any (a b : Int) (w : World) :
    Calls Try.prog 20 #[.int .u32 a, .int .u32 b] w fun e w' => e = .returned (.int .i64 (mixZ a b % 16)) ∧ w = w' := by
  have hb := mixZ_bd a b
  obtain ⟨h1, h2⟩ := hb
  go_enter Try.func20, Try.ntmps20
  go_wp2_with (go_at_call 18; refine (mix_any _ _ _).mono ?_; rintro e w' ⟨rfl, rfl⟩)
  go_ret
  exact ⟨ret_i64 rfl, rfl⟩
set_option maxHeartbeats 400000 in
theorem refbucket_any (a b : Int) (w : World) :
    Calls Try.prog 21 #[.int .u32 a, .int .u32 b] w fun e w' => e = .returned (.int .i64 (mixZ a b % 16)) ∧ w = w' := by
  have hb := mixZ_bd a b
  obtain ⟨h1, h2⟩ := hb
  go_enter Try.func21, Try.ntmps21
  go_wp2_with (go_at_call 19; refine (refmix_any _ _ _).mono ?_; rintro e w' ⟨rfl, rfl⟩)
  go_ret
  exact ⟨ret_i64 rfl, rfl⟩
set_option maxHeartbeats 400000 in
theorem first12_any (w : World) :
    Calls Try.prog 17 #[] w fun e w' => e = .returned (.bool true) ∧ w = w' := by
  have h0 : (mixZ 0 0 == 0) = true := by rw [mixZ_self]; rfl
  go_enter Try.func17, Try.ntmps17
  go_wp2_with (first | (go_at_call 18; refine (mix_any _ _ _).mono ?_; rintro e w' ⟨rfl, rfl⟩) | (go_at_call 19; refine (refmix_any _ _ _).mono ?_; rintro e w' ⟨rfl, rfl⟩))
  go_ret
  exact ⟨ret_bool (by simp), rfl⟩
set_option maxHeartbeats 400000 in
theorem walk_HashSays (a b : Int) (_ : (Lit.int .u32 a).wf = true) (_ : (Lit.int .u32 b).wf = true) (w : World) :
    Calls Try.prog 5 #[.int .u32 a, .int .u32 b] w fun e w' => e = .returned (.bool true) ∧ Grown w w' := by
  go_enter Try.func5, Try.ntmps5
  go_wp2_with (first | (go_at_call 17; refine (first12_any _).mono ?_; rintro e w' ⟨rfl, rfl⟩) | (go_at_call 18; refine (mix_any _ _ _).mono ?_; rintro e w' ⟨rfl, rfl⟩) | (go_at_call 19; refine (refmix_any _ _ _).mono ?_; rintro e w' ⟨rfl, rfl⟩) | (go_at_call 20; refine (bucket_any _ _ _).mono ?_; rintro e w' ⟨rfl, rfl⟩) | (go_at_call 21; refine (refbucket_any _ _ _).mono ?_; rintro e w' ⟨rfl, rfl⟩))
  go_ret
  exact ⟨ret_bool (by simp), Grown.refl _⟩
end Go.Proofs.Ytlgjjjaepcgaoaa
