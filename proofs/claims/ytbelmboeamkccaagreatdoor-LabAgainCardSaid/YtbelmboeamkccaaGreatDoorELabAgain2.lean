/- The law LabAgain at cases of its arguments, reckoned by the abstract machine. -/
import Derived.Test.YtbelmboeamkccaaGreatDoorGgLabAgainD
import Derived.Test.YtbelmboeamkccaaGreatDoorAb17
set_option linter.unusedVariables false
set_option maxRecDepth 100000
set_option maxHeartbeats 0
namespace Go.Proofs.YtbelmboeamkccaaGreatDoor
open Go.Vc Go.Ab
theorem eLabAgain12 (a0 a1 : Int) : G3 [.v (.y a0 [(5, 2)]), .v (.y a1 [(5, 2)])] (AH.mk .e .h) yesK = some .n := by kernel_rfl
theorem eLabAgain13 (a0 a1 : Int) : G3 [.v (.y a0 [(5, 2)]), .v (.y a1 [(5, 3)])] (AH.mk .e .h) yesK = some .n := by kernel_rfl
theorem eLabAgain14 (a0 a1 : Int) : G3 [.v (.y a0 [(5, 2)]), .v (.y a1 [(5, 4)])] (AH.mk .e .h) yesK = some .n := by kernel_rfl
theorem eLabAgain15 (a0 a1 : Int) : G3 [.v (.y a0 [(5, 3)]), .v (.y a1 [(5, 0)])] (AH.mk .e .h) yesK = some .n := by kernel_rfl
theorem eLabAgain16 (a0 a1 : Int) : G3 [.v (.y a0 [(5, 3)]), .v (.y a1 [(5, 1)])] (AH.mk .e .h) yesK = some .n := by kernel_rfl
end Go.Proofs.YtbelmboeamkccaaGreatDoor
