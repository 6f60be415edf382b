/- The conditions for calls of functions of the program, in plain form: written by a program (vcgen) off the elaborated code; each is the reckoner's own, by the kernel. -/
import Derived.Test.YtgkpnfnkaplebaaGreatDoorRows
import Derived.Test.YtgkpnfnkaplebaaGreatDoorVc
set_option linter.unusedVariables false
set_option maxRecDepth 100000
namespace Go.Proofs.YtgkpnfnkaplebaaGreatDoor
open Go.Vc
theorem vc_muezzinworld_Number (n : Int) (below : Int) (h0 : Heap) (Post : Value → Heap → Prop) (H :
below ≠ 0 ∧
bcase (decide (((n).tmod below) < (0 : Int))) (
fits .i64 (((n).tmod below) + below) ∧
Post (.int .i64 (((n).tmod below) + below)) h0) (
Post (.int .i64 ((n).tmod below)) h0)) :
    Runs Tryz.prog 5 #[(.int .i64 n), (.int .i64 below)] h0 Post :=
  runs_of (args := [(.int .i64 n), (.int .i64 below)]) (fun n => ⟨!memB n [1, 2], false⟩) (fun _ => []) (fun _ => none) (fun _ => []) Tryz.func5 rfl (by rw [Tryz.ntmps5]; simp) (Eq.mp (by kernel_rfl) H)
end Go.Proofs.YtgkpnfnkaplebaaGreatDoor
