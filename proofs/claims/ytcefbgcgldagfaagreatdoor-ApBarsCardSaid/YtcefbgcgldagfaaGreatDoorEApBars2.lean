/- The law ApBars at cases of its arguments, reckoned by the abstract machine. -/
import Derived.Test.YtcefbgcgldagfaaGreatDoorGgApBarsD
import Derived.Test.YtcefbgcgldagfaaGreatDoorAb17
set_option linter.unusedVariables false
set_option maxRecDepth 100000
set_option maxHeartbeats 0
namespace Go.Proofs.YtcefbgcgldagfaaGreatDoor
open Go.Vc Go.Ab
theorem eApBars12 (a0 a1 : Int) : G9 [.v (.y a0 [(6, 4)]), .v (.y a1 [(3, 0)])] (AH.mk .e .h) yesK = some .n := by kernel_rfl
theorem eApBars13 (a0 a1 : Int) : G9 [.v (.y a0 [(6, 4)]), .v (.y a1 [(3, 1)])] (AH.mk .e .h) yesK = some .n := by kernel_rfl
theorem eApBars14 (a0 a1 : Int) : G9 [.v (.y a0 [(6, 4)]), .v (.y a1 [(3, 2)])] (AH.mk .e .h) yesK = some .n := by kernel_rfl
theorem eApBars15 (a0 a1 : Int) : G9 [.v (.y a0 [(6, 5)]), .v (.y a1 [(3, 0)])] (AH.mk .e .h) yesK = some .n := by kernel_rfl
theorem eApBars16 (a0 a1 : Int) : G9 [.v (.y a0 [(6, 5)]), .v (.y a1 [(3, 1)])] (AH.mk .e .h) yesK = some .n := by kernel_rfl
theorem eApBars17 (a0 a1 : Int) : G9 [.v (.y a0 [(6, 5)]), .v (.y a1 [(3, 2)])] (AH.mk .e .h) yesK = some .n := by kernel_rfl
end Go.Proofs.YtcefbgcgldagfaaGreatDoor
