/- The law ApBars at cases of its arguments, reckoned by the abstract machine. -/
import Derived.Test.YtcefbgcgldagfaaGreatDoorGgApBarsD
import Derived.Test.YtcefbgcgldagfaaGreatDoorAb17
set_option linter.unusedVariables false
set_option maxRecDepth 100000
set_option maxHeartbeats 0
namespace Go.Proofs.YtcefbgcgldagfaaGreatDoor
open Go.Vc Go.Ab
theorem eApBars6 (a0 a1 : Int) : G9 [.v (.y a0 [(6, 2)]), .v (.y a1 [(3, 0)])] (AH.mk .e .h) yesK = some .n := by kernel_rfl
theorem eApBars7 (a0 a1 : Int) : G9 [.v (.y a0 [(6, 2)]), .v (.y a1 [(3, 1)])] (AH.mk .e .h) yesK = some .n := by kernel_rfl
theorem eApBars8 (a0 a1 : Int) : G9 [.v (.y a0 [(6, 2)]), .v (.y a1 [(3, 2)])] (AH.mk .e .h) yesK = some .n := by kernel_rfl
theorem eApBars9 (a0 a1 : Int) : G9 [.v (.y a0 [(6, 3)]), .v (.y a1 [(3, 0)])] (AH.mk .e .h) yesK = some .n := by kernel_rfl
theorem eApBars10 (a0 a1 : Int) : G9 [.v (.y a0 [(6, 3)]), .v (.y a1 [(3, 1)])] (AH.mk .e .h) yesK = some .n := by kernel_rfl
theorem eApBars11 (a0 a1 : Int) : G9 [.v (.y a0 [(6, 3)]), .v (.y a1 [(3, 2)])] (AH.mk .e .h) yesK = some .n := by kernel_rfl
end Go.Proofs.YtcefbgcgldagfaaGreatDoor
