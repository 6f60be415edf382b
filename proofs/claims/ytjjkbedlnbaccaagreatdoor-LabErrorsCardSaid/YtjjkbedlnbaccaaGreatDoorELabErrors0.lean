/- The law LabErrors at cases of its arguments, reckoned by the abstract machine. -/
import Derived.Test.YtjjkbedlnbaccaaGreatDoorGgLabErrorsD
import Derived.Test.YtjjkbedlnbaccaaGreatDoorAb17
set_option linter.unusedVariables false
set_option maxRecDepth 100000
set_option maxHeartbeats 0
namespace Go.Proofs.YtjjkbedlnbaccaaGreatDoor
open Go.Vc Go.Ab
theorem eLabErrors0 (a0 a1 : Int) : G4 [.v (.y a0 [(6, 0)]), .v (.y a1 [(16, 0)])] (AH.mk .e .h) yesK = some .n := by kernel_rfl
theorem eLabErrors1 (a0 a1 : Int) : G4 [.v (.y a0 [(6, 0)]), .v (.y a1 [(16, 1)])] (AH.mk .e .h) yesK = some .n := by kernel_rfl
theorem eLabErrors2 (a0 a1 : Int) : G4 [.v (.y a0 [(6, 0)]), .v (.y a1 [(16, 2)])] (AH.mk .e .h) yesK = some .n := by kernel_rfl
theorem eLabErrors3 (a0 a1 : Int) : G4 [.v (.y a0 [(6, 0)]), .v (.y a1 [(16, 3)])] (AH.mk .e .h) yesK = some .n := by kernel_rfl
theorem eLabErrors4 (a0 a1 : Int) : G4 [.v (.y a0 [(6, 0)]), .v (.y a1 [(16, 4)])] (AH.mk .e .h) yesK = some .n := by kernel_rfl
theorem eLabErrors5 (a0 a1 : Int) : G4 [.v (.y a0 [(6, 0)]), .v (.y a1 [(16, 5)])] (AH.mk .e .h) yesK = some .n := by kernel_rfl
theorem eLabErrors6 (a0 a1 : Int) : G4 [.v (.y a0 [(6, 0)]), .v (.y a1 [(16, 6)])] (AH.mk .e .h) yesK = some .n := by kernel_rfl
theorem eLabErrors7 (a0 a1 : Int) : G4 [.v (.y a0 [(6, 0)]), .v (.y a1 [(16, 7)])] (AH.mk .e .h) yesK = some .n := by kernel_rfl
theorem eLabErrors8 (a0 a1 : Int) : G4 [.v (.y a0 [(6, 0)]), .v (.y a1 [(16, 8)])] (AH.mk .e .h) yesK = some .n := by kernel_rfl
theorem eLabErrors9 (a0 a1 : Int) : G4 [.v (.y a0 [(6, 0)]), .v (.y a1 [(16, 9)])] (AH.mk .e .h) yesK = some .n := by kernel_rfl
theorem eLabErrors10 (a0 a1 : Int) : G4 [.v (.y a0 [(6, 0)]), .v (.y a1 [(16, 10)])] (AH.mk .e .h) yesK = some .n := by kernel_rfl
theorem eLabErrors11 (a0 a1 : Int) : G4 [.v (.y a0 [(6, 0)]), .v (.y a1 [(16, 11)])] (AH.mk .e .h) yesK = some .n := by kernel_rfl
theorem eLabErrors12 (a0 a1 : Int) : G4 [.v (.y a0 [(6, 0)]), .v (.y a1 [(16, 12)])] (AH.mk .e .h) yesK = some .n := by kernel_rfl
theorem eLabErrors13 (a0 a1 : Int) : G4 [.v (.y a0 [(6, 0)]), .v (.y a1 [(16, 13)])] (AH.mk .e .h) yesK = some .n := by kernel_rfl
theorem eLabErrors14 (a0 a1 : Int) : G4 [.v (.y a0 [(6, 0)]), .v (.y a1 [(16, 14)])] (AH.mk .e .h) yesK = some .n := by kernel_rfl
theorem eLabErrors15 (a0 a1 : Int) : G4 [.v (.y a0 [(6, 0)]), .v (.y a1 [(16, 15)])] (AH.mk .e .h) yesK = some .n := by kernel_rfl
theorem eLabErrors16 (a0 a1 : Int) : G4 [.v (.y a0 [(6, 1)]), .v (.y a1 [(16, 0)])] (AH.mk .e .h) yesK = some .n := by kernel_rfl
theorem eLabErrors17 (a0 a1 : Int) : G4 [.v (.y a0 [(6, 1)]), .v (.y a1 [(16, 1)])] (AH.mk .e .h) yesK = some .n := by kernel_rfl
theorem eLabErrors18 (a0 a1 : Int) : G4 [.v (.y a0 [(6, 1)]), .v (.y a1 [(16, 2)])] (AH.mk .e .h) yesK = some .n := by kernel_rfl
theorem eLabErrors19 (a0 a1 : Int) : G4 [.v (.y a0 [(6, 1)]), .v (.y a1 [(16, 3)])] (AH.mk .e .h) yesK = some .n := by kernel_rfl
theorem eLabErrors20 (a0 a1 : Int) : G4 [.v (.y a0 [(6, 1)]), .v (.y a1 [(16, 4)])] (AH.mk .e .h) yesK = some .n := by kernel_rfl
theorem eLabErrors21 (a0 a1 : Int) : G4 [.v (.y a0 [(6, 1)]), .v (.y a1 [(16, 5)])] (AH.mk .e .h) yesK = some .n := by kernel_rfl
theorem eLabErrors22 (a0 a1 : Int) : G4 [.v (.y a0 [(6, 1)]), .v (.y a1 [(16, 6)])] (AH.mk .e .h) yesK = some .n := by kernel_rfl
theorem eLabErrors23 (a0 a1 : Int) : G4 [.v (.y a0 [(6, 1)]), .v (.y a1 [(16, 7)])] (AH.mk .e .h) yesK = some .n := by kernel_rfl
theorem eLabErrors24 (a0 a1 : Int) : G4 [.v (.y a0 [(6, 1)]), .v (.y a1 [(16, 8)])] (AH.mk .e .h) yesK = some .n := by kernel_rfl
theorem eLabErrors25 (a0 a1 : Int) : G4 [.v (.y a0 [(6, 1)]), .v (.y a1 [(16, 9)])] (AH.mk .e .h) yesK = some .n := by kernel_rfl
theorem eLabErrors26 (a0 a1 : Int) : G4 [.v (.y a0 [(6, 1)]), .v (.y a1 [(16, 10)])] (AH.mk .e .h) yesK = some .n := by kernel_rfl
theorem eLabErrors27 (a0 a1 : Int) : G4 [.v (.y a0 [(6, 1)]), .v (.y a1 [(16, 11)])] (AH.mk .e .h) yesK = some .n := by kernel_rfl
theorem eLabErrors28 (a0 a1 : Int) : G4 [.v (.y a0 [(6, 1)]), .v (.y a1 [(16, 12)])] (AH.mk .e .h) yesK = some .n := by kernel_rfl
theorem eLabErrors29 (a0 a1 : Int) : G4 [.v (.y a0 [(6, 1)]), .v (.y a1 [(16, 13)])] (AH.mk .e .h) yesK = some .n := by kernel_rfl
theorem eLabErrors30 (a0 a1 : Int) : G4 [.v (.y a0 [(6, 1)]), .v (.y a1 [(16, 14)])] (AH.mk .e .h) yesK = some .n := by kernel_rfl
theorem eLabErrors31 (a0 a1 : Int) : G4 [.v (.y a0 [(6, 1)]), .v (.y a1 [(16, 15)])] (AH.mk .e .h) yesK = some .n := by kernel_rfl
end Go.Proofs.YtjjkbedlnbaccaaGreatDoor
