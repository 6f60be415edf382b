/- The law ApBars at cases of its arguments, reckoned by the abstract machine. -/
import Derived.Test.YtcefbgcgldagfaaGreatDoorGgApBarsD
import Derived.Test.YtcefbgcgldagfaaGreatDoorAb17
set_option linter.unusedVariables false
set_option maxRecDepth 100000
set_option maxHeartbeats 0
namespace Go.Proofs.YtcefbgcgldagfaaGreatDoor
open Go.Vc Go.Ab
theorem eApBars0 (a0 a1 : Int) : G9 [.v (.y a0 [(6, 0)]), .v (.y a1 [(3, 0)])] (AH.mk .e .h) yesK = some .n := by kernel_rfl
theorem eApBars1 (a0 a1 : Int) : G9 [.v (.y a0 [(6, 0)]), .v (.y a1 [(3, 1)])] (AH.mk .e .h) yesK = some .n := by kernel_rfl
theorem eApBars2 (a0 a1 : Int) : G9 [.v (.y a0 [(6, 0)]), .v (.y a1 [(3, 2)])] (AH.mk .e .h) yesK = some .n := by kernel_rfl
theorem eApBars3 (a0 a1 : Int) : G9 [.v (.y a0 [(6, 1)]), .v (.y a1 [(3, 0)])] (AH.mk .e .h) yesK = some .n := by kernel_rfl
theorem eApBars4 (a0 a1 : Int) : G9 [.v (.y a0 [(6, 1)]), .v (.y a1 [(3, 1)])] (AH.mk .e .h) yesK = some .n := by kernel_rfl
theorem eApBars5 (a0 a1 : Int) : G9 [.v (.y a0 [(6, 1)]), .v (.y a1 [(3, 2)])] (AH.mk .e .h) yesK = some .n := by kernel_rfl
end Go.Proofs.YtcefbgcgldagfaaGreatDoor
