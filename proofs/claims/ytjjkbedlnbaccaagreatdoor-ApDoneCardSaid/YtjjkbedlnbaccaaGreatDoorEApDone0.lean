/- The law ApDone at cases of its arguments, reckoned by the abstract machine. -/
import Derived.Test.YtjjkbedlnbaccaaGreatDoorGgApDoneD
import Derived.Test.YtjjkbedlnbaccaaGreatDoorAb17
set_option linter.unusedVariables false
set_option maxRecDepth 100000
set_option maxHeartbeats 0
namespace Go.Proofs.YtjjkbedlnbaccaaGreatDoor
open Go.Vc Go.Ab
theorem eApDone0 (a0 a1 : Int) : G3 [.v (.y a0 [(3, 0)]), .v (.y a1 [(2, 0)])] (AH.mk .e .h) yesK = some .n := by kernel_rfl
theorem eApDone1 (a0 a1 : Int) : G3 [.v (.y a0 [(3, 0)]), .v (.y a1 [(2, 1)])] (AH.mk .e .h) yesK = some .n := by kernel_rfl
theorem eApDone2 (a0 a1 : Int) : G3 [.v (.y a0 [(3, 1)]), .v (.y a1 [(3, 0)])] (AH.mk .e .h) yesK = some .n := by kernel_rfl
theorem eApDone3 (a0 a1 : Int) : G3 [.v (.y a0 [(3, 1)]), .v (.y a1 [(3, 1)])] (AH.mk .e .h) yesK = some .n := by kernel_rfl
theorem eApDone4 (a0 a1 : Int) : G3 [.v (.y a0 [(3, 1)]), .v (.y a1 [(3, 2)])] (AH.mk .e .h) yesK = some .n := by kernel_rfl
end Go.Proofs.YtjjkbedlnbaccaaGreatDoor
