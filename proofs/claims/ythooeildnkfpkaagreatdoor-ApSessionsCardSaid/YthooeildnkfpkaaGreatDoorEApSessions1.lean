/- The law ApSessions at cases of its arguments, reckoned by the abstract machine. -/
import Derived.Test.YthooeildnkfpkaaGreatDoorGgApSessionsD
import Derived.Test.YthooeildnkfpkaaGreatDoorAb17
set_option linter.unusedVariables false
set_option maxRecDepth 100000
set_option maxHeartbeats 0
namespace Go.Proofs.YthooeildnkfpkaaGreatDoor
open Go.Vc Go.Ab
theorem eApSessions7 (a0 : Int) : G3 [.v (.y a0 [(10, 3)]), .v (.b false)] (AH.mk .e .h) yesK = some .n := by kernel_rfl
theorem eApSessions8 (a0 : Int) : G3 [.v (.y a0 [(10, 4)]), .v (.b true)] (AH.mk .e .h) yesK = some .n := by kernel_rfl
theorem eApSessions9 (a0 : Int) : G3 [.v (.y a0 [(10, 4)]), .v (.b false)] (AH.mk .e .h) yesK = some .n := by kernel_rfl
theorem eApSessions10 (a0 : Int) : G3 [.v (.y a0 [(10, 5)]), .v (.b true)] (AH.mk .e .h) yesK = some .n := by kernel_rfl
theorem eApSessions11 (a0 : Int) : G3 [.v (.y a0 [(10, 5)]), .v (.b false)] (AH.mk .e .h) yesK = some .n := by kernel_rfl
theorem eApSessions12 (a0 : Int) : G3 [.v (.y a0 [(10, 6)]), .v (.b true)] (AH.mk .e .h) yesK = some .n := by kernel_rfl
theorem eApSessions13 (a0 : Int) : G3 [.v (.y a0 [(10, 6)]), .v (.b false)] (AH.mk .e .h) yesK = some .n := by kernel_rfl
end Go.Proofs.YthooeildnkfpkaaGreatDoor
