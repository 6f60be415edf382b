/- The law ApSessions at cases of its arguments, reckoned by the abstract machine. -/
import Derived.Test.YthooeildnkfpkaaGreatDoorGgApSessionsD
import Derived.Test.YthooeildnkfpkaaGreatDoorAb17
set_option linter.unusedVariables false
set_option maxRecDepth 100000
set_option maxHeartbeats 0
namespace Go.Proofs.YthooeildnkfpkaaGreatDoor
open Go.Vc Go.Ab
theorem eApSessions14 (a0 : Int) : G3 [.v (.y a0 [(10, 7)]), .v (.b true)] (AH.mk .e .h) yesK = some .n := by kernel_rfl
theorem eApSessions15 (a0 : Int) : G3 [.v (.y a0 [(10, 7)]), .v (.b false)] (AH.mk .e .h) yesK = some .n := by kernel_rfl
theorem eApSessions16 (a0 : Int) : G3 [.v (.y a0 [(10, 8)]), .v (.b true)] (AH.mk .e .h) yesK = some .n := by kernel_rfl
theorem eApSessions17 (a0 : Int) : G3 [.v (.y a0 [(10, 8)]), .v (.b false)] (AH.mk .e .h) yesK = some .n := by kernel_rfl
theorem eApSessions18 (a0 : Int) : G3 [.v (.y a0 [(10, 9)]), .v (.b true)] (AH.mk .e .h) yesK = some .n := by kernel_rfl
theorem eApSessions19 (a0 : Int) : G3 [.v (.y a0 [(10, 9)]), .v (.b false)] (AH.mk .e .h) yesK = some .n := by kernel_rfl
end Go.Proofs.YthooeildnkfpkaaGreatDoor
