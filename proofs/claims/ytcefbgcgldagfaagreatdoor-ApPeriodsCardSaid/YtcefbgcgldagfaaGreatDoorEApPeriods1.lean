/- The law ApPeriods at cases of its arguments, reckoned by the abstract machine. -/
import Derived.Test.YtcefbgcgldagfaaGreatDoorGgApPeriodsD
import Derived.Test.YtcefbgcgldagfaaGreatDoorAb17
set_option linter.unusedVariables false
set_option maxRecDepth 100000
set_option maxHeartbeats 0
namespace Go.Proofs.YtcefbgcgldagfaaGreatDoor
open Go.Vc Go.Ab
theorem eApPeriods8 (a0 a1 : Int) : G5 [.v (.y a0 [(5, 2)]), .v (.y a1 [(3, 2)])] (AH.mk .e .h) yesK = some .n := by kernel_rfl
theorem eApPeriods9 (a0 a1 : Int) : G5 [.v (.y a0 [(5, 3)]), .v (.y a1 [(3, 0)])] (AH.mk .e .h) yesK = some .n := by kernel_rfl
theorem eApPeriods10 (a0 a1 : Int) : G5 [.v (.y a0 [(5, 3)]), .v (.y a1 [(3, 1)])] (AH.mk .e .h) yesK = some .n := by kernel_rfl
theorem eApPeriods11 (a0 a1 : Int) : G5 [.v (.y a0 [(5, 3)]), .v (.y a1 [(3, 2)])] (AH.mk .e .h) yesK = some .n := by kernel_rfl
theorem eApPeriods12 (a0 a1 : Int) : G5 [.v (.y a0 [(5, 4)]), .v (.y a1 [(3, 0)])] (AH.mk .e .h) yesK = some .n := by kernel_rfl
theorem eApPeriods13 (a0 a1 : Int) : G5 [.v (.y a0 [(5, 4)]), .v (.y a1 [(3, 1)])] (AH.mk .e .h) yesK = some .n := by kernel_rfl
theorem eApPeriods14 (a0 a1 : Int) : G5 [.v (.y a0 [(5, 4)]), .v (.y a1 [(3, 2)])] (AH.mk .e .h) yesK = some .n := by kernel_rfl
end Go.Proofs.YtcefbgcgldagfaaGreatDoor
