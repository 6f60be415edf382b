/- The law ApSessions at cases of its arguments, reckoned by the abstract machine. -/
import Derived.Test.YthooeildnkfpkaaGreatDoorGgApSessionsD
import Derived.Test.YthooeildnkfpkaaGreatDoorAb17
set_option linter.unusedVariables false
set_option maxRecDepth 100000
set_option maxHeartbeats 0
namespace Go.Proofs.YthooeildnkfpkaaGreatDoor
open Go.Vc Go.Ab
theorem eApSessions0 (a0 : Int) : G3 [.v (.y a0 [(10, 0)]), .v (.b true)] (AH.mk .e .h) yesK = some .n := by kernel_rfl
theorem eApSessions1 (a0 : Int) : G3 [.v (.y a0 [(10, 0)]), .v (.b false)] (AH.mk .e .h) yesK = some .n := by kernel_rfl
theorem eApSessions2 (a0 : Int) : G3 [.v (.y a0 [(10, 1)]), .v (.b true)] (AH.mk .e .h) yesK = some .n := by kernel_rfl
theorem eApSessions3 (a0 : Int) : G3 [.v (.y a0 [(10, 1)]), .v (.b false)] (AH.mk .e .h) yesK = some .n := by kernel_rfl
theorem eApSessions4 (a0 : Int) : G3 [.v (.y a0 [(10, 2)]), .v (.b true)] (AH.mk .e .h) yesK = some .n := by kernel_rfl
theorem eApSessions5 (a0 : Int) : G3 [.v (.y a0 [(10, 2)]), .v (.b false)] (AH.mk .e .h) yesK = some .n := by kernel_rfl
theorem eApSessions6 (a0 : Int) : G3 [.v (.y a0 [(10, 3)]), .v (.b true)] (AH.mk .e .h) yesK = some .n := by kernel_rfl
end Go.Proofs.YthooeildnkfpkaaGreatDoor
