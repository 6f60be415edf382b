/- The law LabSleeps at cases of its arguments, reckoned by the abstract machine. -/
import Derived.Test.YtbelmboeamkccaaGreatDoorGgLabSleepsD
import Derived.Test.YtbelmboeamkccaaGreatDoorAb17
set_option linter.unusedVariables false
set_option maxRecDepth 100000
set_option maxHeartbeats 0
namespace Go.Proofs.YtbelmboeamkccaaGreatDoor
open Go.Vc Go.Ab
theorem eLabSleeps15 (a0 a1 : Int) : G4 [.v (.y a0 [(6, 5)]), .v (.y a1 [(3, 0)])] (AH.mk .e .h) yesK = some .n := by kernel_rfl
theorem eLabSleeps16 (a0 a1 : Int) : G4 [.v (.y a0 [(6, 5)]), .v (.y a1 [(3, 1)])] (AH.mk .e .h) yesK = some .n := by kernel_rfl
theorem eLabSleeps17 (a0 a1 : Int) : G4 [.v (.y a0 [(6, 5)]), .v (.y a1 [(3, 2)])] (AH.mk .e .h) yesK = some .n := by kernel_rfl
end Go.Proofs.YtbelmboeamkccaaGreatDoor
