/- Contracts of the buckets: of the program's and of the document's. -/
import Derived.Test.YtpcilleldanfmaaDoorGenAll1
import Derived.Test.YtpcilleldanfmaaDoorHashPlain
set_option linter.unusedVariables false
namespace Go.Proofs.YtpcilleldanfmaaDoor
open Go.Vc
theorem wrapu32 (n : Int) : IntKind.u32.wrap n = n % 4294967296 := by simp [IntKind.wrap, IntKind.bits, IntKind.signed]
def bucketZ (flow seed : Int) : Int := mixZ flow seed % 16
theorem bucketZ_bd (f s : Int) : 0 ≤ bucketZ f s ∧ bucketZ f s < 16 := by unfold bucketZ; omega
theorem mix_c (a b : Int) (h : Heap) : Runs Tryd.prog 74 #[.int .u32 a, .int .u32 b] h fun v h' => v = .int .u32 (mixZ a b) ∧ h' = h := by
  refine vc_hash_Mix _ _ _ _ ⟨by decide, by decide, by decide, ?_, rfl⟩
  simp only [wrapu32]; rw [mix_walk]
theorem refmix_c (a b : Int) (h : Heap) : Runs Tryd.prog 32 #[.int .u32 a, .int .u32 b] h fun v h' => v = .int .u32 (mixZ a b) ∧ h' = h := by
  refine vc_muezzinref8_Mix _ _ _ _ ⟨by decide, by decide, by decide, ?_, rfl⟩
  simp only [wrapu32]; rw [mix_walk]
theorem bucket_c (a b : Int) (h : Heap) : Runs Tryd.prog 54 #[.int .u32 a, .int .u32 b] h fun v h' => v = .int .i64 (bucketZ a b) ∧ h' = h := by
  obtain ⟨h1, h2⟩ := mixZ_bd a b
  exact vc_hash_Bucket _ _ _ _ ((mix_c a b h).ret ⟨_, rfl, ⟨h1, by decide⟩, by simp only [fits]; omega, rfl, rfl⟩)
theorem refbucket_c (a b : Int) (h : Heap) : Runs Tryd.prog 11 #[.int .u32 a, .int .u32 b] h fun v h' => v = .int .i64 (bucketZ a b) ∧ h' = h := by
  obtain ⟨h1, h2⟩ := mixZ_bd a b
  exact vc_muezzinref8_Bucket _ _ _ _ ((refmix_c a b h).ret ⟨_, rfl, ⟨h1, by decide⟩, by simp only [fits]; omega, rfl, rfl⟩)
end Go.Proofs.YtpcilleldanfmaaDoor
