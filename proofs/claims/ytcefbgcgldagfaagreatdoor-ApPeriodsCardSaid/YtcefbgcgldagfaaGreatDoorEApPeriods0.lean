/- The law ApPeriods at cases of its arguments, reckoned by the abstract machine. -/
import Derived.Test.YtcefbgcgldagfaaGreatDoorGgApPeriodsD
import Derived.Test.YtcefbgcgldagfaaGreatDoorAb17
set_option linter.unusedVariables false
set_option maxRecDepth 100000
set_option maxHeartbeats 0
namespace Go.Proofs.YtcefbgcgldagfaaGreatDoor
open Go.Vc Go.Ab
theorem eApPeriods0 (a0 a1 : Int) : G5 [.v (.y a0 [(5, 0)]), .v (.y a1 [(3, 0)])] (AH.mk .e .h) yesK = some .n := by kernel_rfl
theorem eApPeriods1 (a0 a1 : Int) : G5 [.v (.y a0 [(5, 0)]), .v (.y a1 [(3, 1)])] (AH.mk .e .h) yesK = some .n := by kernel_rfl
theorem eApPeriods2 (a0 a1 : Int) : G5 [.v (.y a0 [(5, 0)]), .v (.y a1 [(3, 2)])] (AH.mk .e .h) yesK = some .n := by kernel_rfl
theorem eApPeriods3 (a0 a1 : Int) : G5 [.v (.y a0 [(5, 1)]), .v (.y a1 [(3, 0)])] (AH.mk .e .h) yesK = some .n := by kernel_rfl
theorem eApPeriods4 (a0 a1 : Int) : G5 [.v (.y a0 [(5, 1)]), .v (.y a1 [(3, 1)])] (AH.mk .e .h) yesK = some .n := by kernel_rfl
theorem eApPeriods5 (a0 a1 : Int) : G5 [.v (.y a0 [(5, 1)]), .v (.y a1 [(3, 2)])] (AH.mk .e .h) yesK = some .n := by kernel_rfl
theorem eApPeriods6 (a0 a1 : Int) : G5 [.v (.y a0 [(5, 2)]), .v (.y a1 [(3, 0)])] (AH.mk .e .h) yesK = some .n := by kernel_rfl
theorem eApPeriods7 (a0 a1 : Int) : G5 [.v (.y a0 [(5, 2)]), .v (.y a1 [(3, 1)])] (AH.mk .e .h) yesK = some .n := by kernel_rfl
end Go.Proofs.YtcefbgcgldagfaaGreatDoor
