/- The law ApDone at cases of its arguments, reckoned by the abstract machine. -/
import Derived.Test.YtjjkbedlnbaccaaGreatDoorGgApDoneD
import Derived.Test.YtjjkbedlnbaccaaGreatDoorAb17
set_option linter.unusedVariables false
set_option maxRecDepth 100000
set_option maxHeartbeats 0
namespace Go.Proofs.YtjjkbedlnbaccaaGreatDoor
open Go.Vc Go.Ab
theorem eApDone5 (a0 a1 : Int) : G3 [.v (.y a0 [(3, 2)]), .v (.y a1 [(4, 0)])] (AH.mk .e .h) yesK = some .n := by kernel_rfl
theorem eApDone6 (a0 a1 : Int) : G3 [.v (.y a0 [(3, 2)]), .v (.y a1 [(4, 1)])] (AH.mk .e .h) yesK = some .n := by kernel_rfl
theorem eApDone7 (a0 a1 : Int) : G3 [.v (.y a0 [(3, 2)]), .v (.y a1 [(4, 2)])] (AH.mk .e .h) yesK = some .n := by kernel_rfl
theorem eApDone8 (a0 a1 : Int) : G3 [.v (.y a0 [(3, 2)]), .v (.y a1 [(4, 3)])] (AH.mk .e .h) yesK = some .n := by kernel_rfl
end Go.Proofs.YtjjkbedlnbaccaaGreatDoor
