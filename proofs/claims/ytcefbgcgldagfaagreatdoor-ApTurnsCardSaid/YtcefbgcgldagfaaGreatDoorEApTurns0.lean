/- The law ApTurns at cases of its arguments, reckoned by the abstract machine. -/
import Derived.Test.YtcefbgcgldagfaaGreatDoorGgApTurnsD
import Derived.Test.YtcefbgcgldagfaaGreatDoorAb17
set_option linter.unusedVariables false
set_option maxRecDepth 100000
set_option maxHeartbeats 0
namespace Go.Proofs.YtcefbgcgldagfaaGreatDoor
open Go.Vc Go.Ab
theorem eApTurns0 (a0 a1 : Int) : G3 [.v (.y a0 [(8, 0)]), .v (.y a1 [(8, 0)])] (AH.mk .e .h) yesK = some .n := by kernel_rfl
theorem eApTurns1 (a0 a1 : Int) : G3 [.v (.y a0 [(8, 0)]), .v (.y a1 [(8, 1)])] (AH.mk .e .h) yesK = some .n := by kernel_rfl
theorem eApTurns2 (a0 a1 : Int) : G3 [.v (.y a0 [(8, 0)]), .v (.y a1 [(8, 2)])] (AH.mk .e .h) yesK = some .n := by kernel_rfl
theorem eApTurns3 (a0 a1 : Int) : G3 [.v (.y a0 [(8, 0)]), .v (.y a1 [(8, 3)])] (AH.mk .e .h) yesK = some .n := by kernel_rfl
theorem eApTurns4 (a0 a1 : Int) : G3 [.v (.y a0 [(8, 0)]), .v (.y a1 [(8, 4)])] (AH.mk .e .h) yesK = some .n := by kernel_rfl
theorem eApTurns5 (a0 a1 : Int) : G3 [.v (.y a0 [(8, 0)]), .v (.y a1 [(8, 5)])] (AH.mk .e .h) yesK = some .n := by kernel_rfl
theorem eApTurns6 (a0 a1 : Int) : G3 [.v (.y a0 [(8, 0)]), .v (.y a1 [(8, 6)])] (AH.mk .e .h) yesK = some .n := by kernel_rfl
theorem eApTurns7 (a0 a1 : Int) : G3 [.v (.y a0 [(8, 0)]), .v (.y a1 [(8, 7)])] (AH.mk .e .h) yesK = some .n := by kernel_rfl
theorem eApTurns8 (a0 a1 : Int) : G3 [.v (.y a0 [(8, 1)]), .v (.y a1 [(8, 0)])] (AH.mk .e .h) yesK = some .n := by kernel_rfl
theorem eApTurns9 (a0 a1 : Int) : G3 [.v (.y a0 [(8, 1)]), .v (.y a1 [(8, 1)])] (AH.mk .e .h) yesK = some .n := by kernel_rfl
theorem eApTurns10 (a0 a1 : Int) : G3 [.v (.y a0 [(8, 1)]), .v (.y a1 [(8, 2)])] (AH.mk .e .h) yesK = some .n := by kernel_rfl
theorem eApTurns11 (a0 a1 : Int) : G3 [.v (.y a0 [(8, 1)]), .v (.y a1 [(8, 3)])] (AH.mk .e .h) yesK = some .n := by kernel_rfl
theorem eApTurns12 (a0 a1 : Int) : G3 [.v (.y a0 [(8, 1)]), .v (.y a1 [(8, 4)])] (AH.mk .e .h) yesK = some .n := by kernel_rfl
theorem eApTurns13 (a0 a1 : Int) : G3 [.v (.y a0 [(8, 1)]), .v (.y a1 [(8, 5)])] (AH.mk .e .h) yesK = some .n := by kernel_rfl
theorem eApTurns14 (a0 a1 : Int) : G3 [.v (.y a0 [(8, 1)]), .v (.y a1 [(8, 6)])] (AH.mk .e .h) yesK = some .n := by kernel_rfl
theorem eApTurns15 (a0 a1 : Int) : G3 [.v (.y a0 [(8, 1)]), .v (.y a1 [(8, 7)])] (AH.mk .e .h) yesK = some .n := by kernel_rfl
theorem eApTurns16 (a0 a1 : Int) : G3 [.v (.y a0 [(8, 2)]), .v (.y a1 [(8, 0)])] (AH.mk .e .h) yesK = some .n := by kernel_rfl
theorem eApTurns17 (a0 a1 : Int) : G3 [.v (.y a0 [(8, 2)]), .v (.y a1 [(8, 1)])] (AH.mk .e .h) yesK = some .n := by kernel_rfl
theorem eApTurns18 (a0 a1 : Int) : G3 [.v (.y a0 [(8, 2)]), .v (.y a1 [(8, 2)])] (AH.mk .e .h) yesK = some .n := by kernel_rfl
theorem eApTurns19 (a0 a1 : Int) : G3 [.v (.y a0 [(8, 2)]), .v (.y a1 [(8, 3)])] (AH.mk .e .h) yesK = some .n := by kernel_rfl
theorem eApTurns20 (a0 a1 : Int) : G3 [.v (.y a0 [(8, 2)]), .v (.y a1 [(8, 4)])] (AH.mk .e .h) yesK = some .n := by kernel_rfl
theorem eApTurns21 (a0 a1 : Int) : G3 [.v (.y a0 [(8, 2)]), .v (.y a1 [(8, 5)])] (AH.mk .e .h) yesK = some .n := by kernel_rfl
theorem eApTurns22 (a0 a1 : Int) : G3 [.v (.y a0 [(8, 2)]), .v (.y a1 [(8, 6)])] (AH.mk .e .h) yesK = some .n := by kernel_rfl
theorem eApTurns23 (a0 a1 : Int) : G3 [.v (.y a0 [(8, 2)]), .v (.y a1 [(8, 7)])] (AH.mk .e .h) yesK = some .n := by kernel_rfl
theorem eApTurns24 (a0 a1 : Int) : G3 [.v (.y a0 [(8, 3)]), .v (.y a1 [(8, 0)])] (AH.mk .e .h) yesK = some .n := by kernel_rfl
theorem eApTurns25 (a0 a1 : Int) : G3 [.v (.y a0 [(8, 3)]), .v (.y a1 [(8, 1)])] (AH.mk .e .h) yesK = some .n := by kernel_rfl
theorem eApTurns26 (a0 a1 : Int) : G3 [.v (.y a0 [(8, 3)]), .v (.y a1 [(8, 2)])] (AH.mk .e .h) yesK = some .n := by kernel_rfl
theorem eApTurns27 (a0 a1 : Int) : G3 [.v (.y a0 [(8, 3)]), .v (.y a1 [(8, 3)])] (AH.mk .e .h) yesK = some .n := by kernel_rfl
theorem eApTurns28 (a0 a1 : Int) : G3 [.v (.y a0 [(8, 3)]), .v (.y a1 [(8, 4)])] (AH.mk .e .h) yesK = some .n := by kernel_rfl
theorem eApTurns29 (a0 a1 : Int) : G3 [.v (.y a0 [(8, 3)]), .v (.y a1 [(8, 5)])] (AH.mk .e .h) yesK = some .n := by kernel_rfl
theorem eApTurns30 (a0 a1 : Int) : G3 [.v (.y a0 [(8, 3)]), .v (.y a1 [(8, 6)])] (AH.mk .e .h) yesK = some .n := by kernel_rfl
theorem eApTurns31 (a0 a1 : Int) : G3 [.v (.y a0 [(8, 3)]), .v (.y a1 [(8, 7)])] (AH.mk .e .h) yesK = some .n := by kernel_rfl
end Go.Proofs.YtcefbgcgldagfaaGreatDoor
