/- The law LabErrors at cases of its arguments, reckoned by the abstract machine. -/
import Derived.Test.YtjjkbedlnbaccaaGreatDoorGgLabErrorsD
import Derived.Test.YtjjkbedlnbaccaaGreatDoorAb17
set_option linter.unusedVariables false
set_option maxRecDepth 100000
set_option maxHeartbeats 0
namespace Go.Proofs.YtjjkbedlnbaccaaGreatDoor
open Go.Vc Go.Ab
theorem eLabErrors32 (a0 a1 : Int) : G4 [.v (.y a0 [(6, 2)]), .v (.y a1 [(16, 0)])] (AH.mk .e .h) yesK = some .n := by kernel_rfl
theorem eLabErrors33 (a0 a1 : Int) : G4 [.v (.y a0 [(6, 2)]), .v (.y a1 [(16, 1)])] (AH.mk .e .h) yesK = some .n := by kernel_rfl
theorem eLabErrors34 (a0 a1 : Int) : G4 [.v (.y a0 [(6, 2)]), .v (.y a1 [(16, 2)])] (AH.mk .e .h) yesK = some .n := by kernel_rfl
theorem eLabErrors35 (a0 a1 : Int) : G4 [.v (.y a0 [(6, 2)]), .v (.y a1 [(16, 3)])] (AH.mk .e .h) yesK = some .n := by kernel_rfl
theorem eLabErrors36 (a0 a1 : Int) : G4 [.v (.y a0 [(6, 2)]), .v (.y a1 [(16, 4)])] (AH.mk .e .h) yesK = some .n := by kernel_rfl
theorem eLabErrors37 (a0 a1 : Int) : G4 [.v (.y a0 [(6, 2)]), .v (.y a1 [(16, 5)])] (AH.mk .e .h) yesK = some .n := by kernel_rfl
theorem eLabErrors38 (a0 a1 : Int) : G4 [.v (.y a0 [(6, 2)]), .v (.y a1 [(16, 6)])] (AH.mk .e .h) yesK = some .n := by kernel_rfl
theorem eLabErrors39 (a0 a1 : Int) : G4 [.v (.y a0 [(6, 2)]), .v (.y a1 [(16, 7)])] (AH.mk .e .h) yesK = some .n := by kernel_rfl
theorem eLabErrors40 (a0 a1 : Int) : G4 [.v (.y a0 [(6, 2)]), .v (.y a1 [(16, 8)])] (AH.mk .e .h) yesK = some .n := by kernel_rfl
theorem eLabErrors41 (a0 a1 : Int) : G4 [.v (.y a0 [(6, 2)]), .v (.y a1 [(16, 9)])] (AH.mk .e .h) yesK = some .n := by kernel_rfl
theorem eLabErrors42 (a0 a1 : Int) : G4 [.v (.y a0 [(6, 2)]), .v (.y a1 [(16, 10)])] (AH.mk .e .h) yesK = some .n := by kernel_rfl
theorem eLabErrors43 (a0 a1 : Int) : G4 [.v (.y a0 [(6, 2)]), .v (.y a1 [(16, 11)])] (AH.mk .e .h) yesK = some .n := by kernel_rfl
theorem eLabErrors44 (a0 a1 : Int) : G4 [.v (.y a0 [(6, 2)]), .v (.y a1 [(16, 12)])] (AH.mk .e .h) yesK = some .n := by kernel_rfl
theorem eLabErrors45 (a0 a1 : Int) : G4 [.v (.y a0 [(6, 2)]), .v (.y a1 [(16, 13)])] (AH.mk .e .h) yesK = some .n := by kernel_rfl
theorem eLabErrors46 (a0 a1 : Int) : G4 [.v (.y a0 [(6, 2)]), .v (.y a1 [(16, 14)])] (AH.mk .e .h) yesK = some .n := by kernel_rfl
theorem eLabErrors47 (a0 a1 : Int) : G4 [.v (.y a0 [(6, 2)]), .v (.y a1 [(16, 15)])] (AH.mk .e .h) yesK = some .n := by kernel_rfl
theorem eLabErrors48 (a0 a1 : Int) : G4 [.v (.y a0 [(6, 3)]), .v (.y a1 [(16, 0)])] (AH.mk .e .h) yesK = some .n := by kernel_rfl
theorem eLabErrors49 (a0 a1 : Int) : G4 [.v (.y a0 [(6, 3)]), .v (.y a1 [(16, 1)])] (AH.mk .e .h) yesK = some .n := by kernel_rfl
theorem eLabErrors50 (a0 a1 : Int) : G4 [.v (.y a0 [(6, 3)]), .v (.y a1 [(16, 2)])] (AH.mk .e .h) yesK = some .n := by kernel_rfl
theorem eLabErrors51 (a0 a1 : Int) : G4 [.v (.y a0 [(6, 3)]), .v (.y a1 [(16, 3)])] (AH.mk .e .h) yesK = some .n := by kernel_rfl
theorem eLabErrors52 (a0 a1 : Int) : G4 [.v (.y a0 [(6, 3)]), .v (.y a1 [(16, 4)])] (AH.mk .e .h) yesK = some .n := by kernel_rfl
theorem eLabErrors53 (a0 a1 : Int) : G4 [.v (.y a0 [(6, 3)]), .v (.y a1 [(16, 5)])] (AH.mk .e .h) yesK = some .n := by kernel_rfl
theorem eLabErrors54 (a0 a1 : Int) : G4 [.v (.y a0 [(6, 3)]), .v (.y a1 [(16, 6)])] (AH.mk .e .h) yesK = some .n := by kernel_rfl
theorem eLabErrors55 (a0 a1 : Int) : G4 [.v (.y a0 [(6, 3)]), .v (.y a1 [(16, 7)])] (AH.mk .e .h) yesK = some .n := by kernel_rfl
theorem eLabErrors56 (a0 a1 : Int) : G4 [.v (.y a0 [(6, 3)]), .v (.y a1 [(16, 8)])] (AH.mk .e .h) yesK = some .n := by kernel_rfl
theorem eLabErrors57 (a0 a1 : Int) : G4 [.v (.y a0 [(6, 3)]), .v (.y a1 [(16, 9)])] (AH.mk .e .h) yesK = some .n := by kernel_rfl
theorem eLabErrors58 (a0 a1 : Int) : G4 [.v (.y a0 [(6, 3)]), .v (.y a1 [(16, 10)])] (AH.mk .e .h) yesK = some .n := by kernel_rfl
theorem eLabErrors59 (a0 a1 : Int) : G4 [.v (.y a0 [(6, 3)]), .v (.y a1 [(16, 11)])] (AH.mk .e .h) yesK = some .n := by kernel_rfl
theorem eLabErrors60 (a0 a1 : Int) : G4 [.v (.y a0 [(6, 3)]), .v (.y a1 [(16, 12)])] (AH.mk .e .h) yesK = some .n := by kernel_rfl
theorem eLabErrors61 (a0 a1 : Int) : G4 [.v (.y a0 [(6, 3)]), .v (.y a1 [(16, 13)])] (AH.mk .e .h) yesK = some .n := by kernel_rfl
theorem eLabErrors62 (a0 a1 : Int) : G4 [.v (.y a0 [(6, 3)]), .v (.y a1 [(16, 14)])] (AH.mk .e .h) yesK = some .n := by kernel_rfl
theorem eLabErrors63 (a0 a1 : Int) : G4 [.v (.y a0 [(6, 3)]), .v (.y a1 [(16, 15)])] (AH.mk .e .h) yesK = some .n := by kernel_rfl
end Go.Proofs.YtjjkbedlnbaccaaGreatDoor
