/- The law LabErrors at cases of its arguments, reckoned by the abstract machine. -/
import Derived.Test.YtjjkbedlnbaccaaGreatDoorGgLabErrorsD
import Derived.Test.YtjjkbedlnbaccaaGreatDoorAb17
set_option linter.unusedVariables false
set_option maxRecDepth 100000
set_option maxHeartbeats 0
namespace Go.Proofs.YtjjkbedlnbaccaaGreatDoor
open Go.Vc Go.Ab
theorem eLabErrors64 (a0 a1 : Int) : G4 [.v (.y a0 [(6, 4)]), .v (.y a1 [(16, 0)])] (AH.mk .e .h) yesK = some .n := by kernel_rfl
theorem eLabErrors65 (a0 a1 : Int) : G4 [.v (.y a0 [(6, 4)]), .v (.y a1 [(16, 1)])] (AH.mk .e .h) yesK = some .n := by kernel_rfl
theorem eLabErrors66 (a0 a1 : Int) : G4 [.v (.y a0 [(6, 4)]), .v (.y a1 [(16, 2)])] (AH.mk .e .h) yesK = some .n := by kernel_rfl
theorem eLabErrors67 (a0 a1 : Int) : G4 [.v (.y a0 [(6, 4)]), .v (.y a1 [(16, 3)])] (AH.mk .e .h) yesK = some .n := by kernel_rfl
theorem eLabErrors68 (a0 a1 : Int) : G4 [.v (.y a0 [(6, 4)]), .v (.y a1 [(16, 4)])] (AH.mk .e .h) yesK = some .n := by kernel_rfl
theorem eLabErrors69 (a0 a1 : Int) : G4 [.v (.y a0 [(6, 4)]), .v (.y a1 [(16, 5)])] (AH.mk .e .h) yesK = some .n := by kernel_rfl
theorem eLabErrors70 (a0 a1 : Int) : G4 [.v (.y a0 [(6, 4)]), .v (.y a1 [(16, 6)])] (AH.mk .e .h) yesK = some .n := by kernel_rfl
theorem eLabErrors71 (a0 a1 : Int) : G4 [.v (.y a0 [(6, 4)]), .v (.y a1 [(16, 7)])] (AH.mk .e .h) yesK = some .n := by kernel_rfl
theorem eLabErrors72 (a0 a1 : Int) : G4 [.v (.y a0 [(6, 4)]), .v (.y a1 [(16, 8)])] (AH.mk .e .h) yesK = some .n := by kernel_rfl
theorem eLabErrors73 (a0 a1 : Int) : G4 [.v (.y a0 [(6, 4)]), .v (.y a1 [(16, 9)])] (AH.mk .e .h) yesK = some .n := by kernel_rfl
theorem eLabErrors74 (a0 a1 : Int) : G4 [.v (.y a0 [(6, 4)]), .v (.y a1 [(16, 10)])] (AH.mk .e .h) yesK = some .n := by kernel_rfl
theorem eLabErrors75 (a0 a1 : Int) : G4 [.v (.y a0 [(6, 4)]), .v (.y a1 [(16, 11)])] (AH.mk .e .h) yesK = some .n := by kernel_rfl
theorem eLabErrors76 (a0 a1 : Int) : G4 [.v (.y a0 [(6, 4)]), .v (.y a1 [(16, 12)])] (AH.mk .e .h) yesK = some .n := by kernel_rfl
theorem eLabErrors77 (a0 a1 : Int) : G4 [.v (.y a0 [(6, 4)]), .v (.y a1 [(16, 13)])] (AH.mk .e .h) yesK = some .n := by kernel_rfl
theorem eLabErrors78 (a0 a1 : Int) : G4 [.v (.y a0 [(6, 4)]), .v (.y a1 [(16, 14)])] (AH.mk .e .h) yesK = some .n := by kernel_rfl
theorem eLabErrors79 (a0 a1 : Int) : G4 [.v (.y a0 [(6, 4)]), .v (.y a1 [(16, 15)])] (AH.mk .e .h) yesK = some .n := by kernel_rfl
theorem eLabErrors80 (a0 a1 : Int) : G4 [.v (.y a0 [(6, 5)]), .v (.y a1 [(16, 0)])] (AH.mk .e .h) yesK = some .n := by kernel_rfl
theorem eLabErrors81 (a0 a1 : Int) : G4 [.v (.y a0 [(6, 5)]), .v (.y a1 [(16, 1)])] (AH.mk .e .h) yesK = some .n := by kernel_rfl
theorem eLabErrors82 (a0 a1 : Int) : G4 [.v (.y a0 [(6, 5)]), .v (.y a1 [(16, 2)])] (AH.mk .e .h) yesK = some .n := by kernel_rfl
theorem eLabErrors83 (a0 a1 : Int) : G4 [.v (.y a0 [(6, 5)]), .v (.y a1 [(16, 3)])] (AH.mk .e .h) yesK = some .n := by kernel_rfl
theorem eLabErrors84 (a0 a1 : Int) : G4 [.v (.y a0 [(6, 5)]), .v (.y a1 [(16, 4)])] (AH.mk .e .h) yesK = some .n := by kernel_rfl
theorem eLabErrors85 (a0 a1 : Int) : G4 [.v (.y a0 [(6, 5)]), .v (.y a1 [(16, 5)])] (AH.mk .e .h) yesK = some .n := by kernel_rfl
theorem eLabErrors86 (a0 a1 : Int) : G4 [.v (.y a0 [(6, 5)]), .v (.y a1 [(16, 6)])] (AH.mk .e .h) yesK = some .n := by kernel_rfl
theorem eLabErrors87 (a0 a1 : Int) : G4 [.v (.y a0 [(6, 5)]), .v (.y a1 [(16, 7)])] (AH.mk .e .h) yesK = some .n := by kernel_rfl
theorem eLabErrors88 (a0 a1 : Int) : G4 [.v (.y a0 [(6, 5)]), .v (.y a1 [(16, 8)])] (AH.mk .e .h) yesK = some .n := by kernel_rfl
theorem eLabErrors89 (a0 a1 : Int) : G4 [.v (.y a0 [(6, 5)]), .v (.y a1 [(16, 9)])] (AH.mk .e .h) yesK = some .n := by kernel_rfl
theorem eLabErrors90 (a0 a1 : Int) : G4 [.v (.y a0 [(6, 5)]), .v (.y a1 [(16, 10)])] (AH.mk .e .h) yesK = some .n := by kernel_rfl
theorem eLabErrors91 (a0 a1 : Int) : G4 [.v (.y a0 [(6, 5)]), .v (.y a1 [(16, 11)])] (AH.mk .e .h) yesK = some .n := by kernel_rfl
theorem eLabErrors92 (a0 a1 : Int) : G4 [.v (.y a0 [(6, 5)]), .v (.y a1 [(16, 12)])] (AH.mk .e .h) yesK = some .n := by kernel_rfl
theorem eLabErrors93 (a0 a1 : Int) : G4 [.v (.y a0 [(6, 5)]), .v (.y a1 [(16, 13)])] (AH.mk .e .h) yesK = some .n := by kernel_rfl
theorem eLabErrors94 (a0 a1 : Int) : G4 [.v (.y a0 [(6, 5)]), .v (.y a1 [(16, 14)])] (AH.mk .e .h) yesK = some .n := by kernel_rfl
theorem eLabErrors95 (a0 a1 : Int) : G4 [.v (.y a0 [(6, 5)]), .v (.y a1 [(16, 15)])] (AH.mk .e .h) yesK = some .n := by kernel_rfl
end Go.Proofs.YtjjkbedlnbaccaaGreatDoor
