/- The law ApSleeps at cases of its arguments, reckoned by the abstract machine. -/
import Derived.Test.YthooeildnkfpkaaGreatDoorGgApSleepsD
import Derived.Test.YthooeildnkfpkaaGreatDoorAb17
set_option linter.unusedVariables false
set_option maxRecDepth 100000
set_option maxHeartbeats 0
namespace Go.Proofs.YthooeildnkfpkaaGreatDoor
open Go.Vc Go.Ab
theorem eApSleeps96 (a0 a1 a2 : Int) : G4 [.v (.y a0 [(8, 4)]), .v (.y a1 [(8, 0)]), .v (.y a2 [(3, 0)])] (AH.mk .e .h) yesK = some .n := by kernel_rfl
theorem eApSleeps97 (a0 a1 a2 : Int) : G4 [.v (.y a0 [(8, 4)]), .v (.y a1 [(8, 0)]), .v (.y a2 [(3, 1)])] (AH.mk .e .h) yesK = some .n := by kernel_rfl
theorem eApSleeps98 (a0 a1 a2 : Int) : G4 [.v (.y a0 [(8, 4)]), .v (.y a1 [(8, 0)]), .v (.y a2 [(3, 2)])] (AH.mk .e .h) yesK = some .n := by kernel_rfl
theorem eApSleeps99 (a0 a1 a2 : Int) : G4 [.v (.y a0 [(8, 4)]), .v (.y a1 [(8, 1)]), .v (.y a2 [(3, 0)])] (AH.mk .e .h) yesK = some .n := by kernel_rfl
theorem eApSleeps100 (a0 a1 a2 : Int) : G4 [.v (.y a0 [(8, 4)]), .v (.y a1 [(8, 1)]), .v (.y a2 [(3, 1)])] (AH.mk .e .h) yesK = some .n := by kernel_rfl
theorem eApSleeps101 (a0 a1 a2 : Int) : G4 [.v (.y a0 [(8, 4)]), .v (.y a1 [(8, 1)]), .v (.y a2 [(3, 2)])] (AH.mk .e .h) yesK = some .n := by kernel_rfl
theorem eApSleeps102 (a0 a1 a2 : Int) : G4 [.v (.y a0 [(8, 4)]), .v (.y a1 [(8, 2)]), .v (.y a2 [(3, 0)])] (AH.mk .e .h) yesK = some .n := by kernel_rfl
theorem eApSleeps103 (a0 a1 a2 : Int) : G4 [.v (.y a0 [(8, 4)]), .v (.y a1 [(8, 2)]), .v (.y a2 [(3, 1)])] (AH.mk .e .h) yesK = some .n := by kernel_rfl
theorem eApSleeps104 (a0 a1 a2 : Int) : G4 [.v (.y a0 [(8, 4)]), .v (.y a1 [(8, 2)]), .v (.y a2 [(3, 2)])] (AH.mk .e .h) yesK = some .n := by kernel_rfl
theorem eApSleeps105 (a0 a1 a2 : Int) : G4 [.v (.y a0 [(8, 4)]), .v (.y a1 [(8, 3)]), .v (.y a2 [(3, 0)])] (AH.mk .e .h) yesK = some .n := by kernel_rfl
theorem eApSleeps106 (a0 a1 a2 : Int) : G4 [.v (.y a0 [(8, 4)]), .v (.y a1 [(8, 3)]), .v (.y a2 [(3, 1)])] (AH.mk .e .h) yesK = some .n := by kernel_rfl
theorem eApSleeps107 (a0 a1 a2 : Int) : G4 [.v (.y a0 [(8, 4)]), .v (.y a1 [(8, 3)]), .v (.y a2 [(3, 2)])] (AH.mk .e .h) yesK = some .n := by kernel_rfl
theorem eApSleeps108 (a0 a1 a2 : Int) : G4 [.v (.y a0 [(8, 4)]), .v (.y a1 [(8, 4)]), .v (.y a2 [(3, 0)])] (AH.mk .e .h) yesK = some .n := by kernel_rfl
theorem eApSleeps109 (a0 a1 a2 : Int) : G4 [.v (.y a0 [(8, 4)]), .v (.y a1 [(8, 4)]), .v (.y a2 [(3, 1)])] (AH.mk .e .h) yesK = some .n := by kernel_rfl
theorem eApSleeps110 (a0 a1 a2 : Int) : G4 [.v (.y a0 [(8, 4)]), .v (.y a1 [(8, 4)]), .v (.y a2 [(3, 2)])] (AH.mk .e .h) yesK = some .n := by kernel_rfl
theorem eApSleeps111 (a0 a1 a2 : Int) : G4 [.v (.y a0 [(8, 4)]), .v (.y a1 [(8, 5)]), .v (.y a2 [(3, 0)])] (AH.mk .e .h) yesK = some .n := by kernel_rfl
theorem eApSleeps112 (a0 a1 a2 : Int) : G4 [.v (.y a0 [(8, 4)]), .v (.y a1 [(8, 5)]), .v (.y a2 [(3, 1)])] (AH.mk .e .h) yesK = some .n := by kernel_rfl
theorem eApSleeps113 (a0 a1 a2 : Int) : G4 [.v (.y a0 [(8, 4)]), .v (.y a1 [(8, 5)]), .v (.y a2 [(3, 2)])] (AH.mk .e .h) yesK = some .n := by kernel_rfl
theorem eApSleeps114 (a0 a1 a2 : Int) : G4 [.v (.y a0 [(8, 4)]), .v (.y a1 [(8, 6)]), .v (.y a2 [(3, 0)])] (AH.mk .e .h) yesK = some .n := by kernel_rfl
theorem eApSleeps115 (a0 a1 a2 : Int) : G4 [.v (.y a0 [(8, 4)]), .v (.y a1 [(8, 6)]), .v (.y a2 [(3, 1)])] (AH.mk .e .h) yesK = some .n := by kernel_rfl
theorem eApSleeps116 (a0 a1 a2 : Int) : G4 [.v (.y a0 [(8, 4)]), .v (.y a1 [(8, 6)]), .v (.y a2 [(3, 2)])] (AH.mk .e .h) yesK = some .n := by kernel_rfl
theorem eApSleeps117 (a0 a1 a2 : Int) : G4 [.v (.y a0 [(8, 4)]), .v (.y a1 [(8, 7)]), .v (.y a2 [(3, 0)])] (AH.mk .e .h) yesK = some .n := by kernel_rfl
theorem eApSleeps118 (a0 a1 a2 : Int) : G4 [.v (.y a0 [(8, 4)]), .v (.y a1 [(8, 7)]), .v (.y a2 [(3, 1)])] (AH.mk .e .h) yesK = some .n := by kernel_rfl
theorem eApSleeps119 (a0 a1 a2 : Int) : G4 [.v (.y a0 [(8, 4)]), .v (.y a1 [(8, 7)]), .v (.y a2 [(3, 2)])] (AH.mk .e .h) yesK = some .n := by kernel_rfl
theorem eApSleeps120 (a0 a1 a2 : Int) : G4 [.v (.y a0 [(8, 5)]), .v (.y a1 [(8, 0)]), .v (.y a2 [(3, 0)])] (AH.mk .e .h) yesK = some .n := by kernel_rfl
theorem eApSleeps121 (a0 a1 a2 : Int) : G4 [.v (.y a0 [(8, 5)]), .v (.y a1 [(8, 0)]), .v (.y a2 [(3, 1)])] (AH.mk .e .h) yesK = some .n := by kernel_rfl
theorem eApSleeps122 (a0 a1 a2 : Int) : G4 [.v (.y a0 [(8, 5)]), .v (.y a1 [(8, 0)]), .v (.y a2 [(3, 2)])] (AH.mk .e .h) yesK = some .n := by kernel_rfl
theorem eApSleeps123 (a0 a1 a2 : Int) : G4 [.v (.y a0 [(8, 5)]), .v (.y a1 [(8, 1)]), .v (.y a2 [(3, 0)])] (AH.mk .e .h) yesK = some .n := by kernel_rfl
theorem eApSleeps124 (a0 a1 a2 : Int) : G4 [.v (.y a0 [(8, 5)]), .v (.y a1 [(8, 1)]), .v (.y a2 [(3, 1)])] (AH.mk .e .h) yesK = some .n := by kernel_rfl
theorem eApSleeps125 (a0 a1 a2 : Int) : G4 [.v (.y a0 [(8, 5)]), .v (.y a1 [(8, 1)]), .v (.y a2 [(3, 2)])] (AH.mk .e .h) yesK = some .n := by kernel_rfl
theorem eApSleeps126 (a0 a1 a2 : Int) : G4 [.v (.y a0 [(8, 5)]), .v (.y a1 [(8, 2)]), .v (.y a2 [(3, 0)])] (AH.mk .e .h) yesK = some .n := by kernel_rfl
theorem eApSleeps127 (a0 a1 a2 : Int) : G4 [.v (.y a0 [(8, 5)]), .v (.y a1 [(8, 2)]), .v (.y a2 [(3, 1)])] (AH.mk .e .h) yesK = some .n := by kernel_rfl
theorem eApSleeps128 (a0 a1 a2 : Int) : G4 [.v (.y a0 [(8, 5)]), .v (.y a1 [(8, 2)]), .v (.y a2 [(3, 2)])] (AH.mk .e .h) yesK = some .n := by kernel_rfl
theorem eApSleeps129 (a0 a1 a2 : Int) : G4 [.v (.y a0 [(8, 5)]), .v (.y a1 [(8, 3)]), .v (.y a2 [(3, 0)])] (AH.mk .e .h) yesK = some .n := by kernel_rfl
theorem eApSleeps130 (a0 a1 a2 : Int) : G4 [.v (.y a0 [(8, 5)]), .v (.y a1 [(8, 3)]), .v (.y a2 [(3, 1)])] (AH.mk .e .h) yesK = some .n := by kernel_rfl
theorem eApSleeps131 (a0 a1 a2 : Int) : G4 [.v (.y a0 [(8, 5)]), .v (.y a1 [(8, 3)]), .v (.y a2 [(3, 2)])] (AH.mk .e .h) yesK = some .n := by kernel_rfl
theorem eApSleeps132 (a0 a1 a2 : Int) : G4 [.v (.y a0 [(8, 5)]), .v (.y a1 [(8, 4)]), .v (.y a2 [(3, 0)])] (AH.mk .e .h) yesK = some .n := by kernel_rfl
theorem eApSleeps133 (a0 a1 a2 : Int) : G4 [.v (.y a0 [(8, 5)]), .v (.y a1 [(8, 4)]), .v (.y a2 [(3, 1)])] (AH.mk .e .h) yesK = some .n := by kernel_rfl
theorem eApSleeps134 (a0 a1 a2 : Int) : G4 [.v (.y a0 [(8, 5)]), .v (.y a1 [(8, 4)]), .v (.y a2 [(3, 2)])] (AH.mk .e .h) yesK = some .n := by kernel_rfl
theorem eApSleeps135 (a0 a1 a2 : Int) : G4 [.v (.y a0 [(8, 5)]), .v (.y a1 [(8, 5)]), .v (.y a2 [(3, 0)])] (AH.mk .e .h) yesK = some .n := by kernel_rfl
theorem eApSleeps136 (a0 a1 a2 : Int) : G4 [.v (.y a0 [(8, 5)]), .v (.y a1 [(8, 5)]), .v (.y a2 [(3, 1)])] (AH.mk .e .h) yesK = some .n := by kernel_rfl
theorem eApSleeps137 (a0 a1 a2 : Int) : G4 [.v (.y a0 [(8, 5)]), .v (.y a1 [(8, 5)]), .v (.y a2 [(3, 2)])] (AH.mk .e .h) yesK = some .n := by kernel_rfl
theorem eApSleeps138 (a0 a1 a2 : Int) : G4 [.v (.y a0 [(8, 5)]), .v (.y a1 [(8, 6)]), .v (.y a2 [(3, 0)])] (AH.mk .e .h) yesK = some .n := by kernel_rfl
theorem eApSleeps139 (a0 a1 a2 : Int) : G4 [.v (.y a0 [(8, 5)]), .v (.y a1 [(8, 6)]), .v (.y a2 [(3, 1)])] (AH.mk .e .h) yesK = some .n := by kernel_rfl
theorem eApSleeps140 (a0 a1 a2 : Int) : G4 [.v (.y a0 [(8, 5)]), .v (.y a1 [(8, 6)]), .v (.y a2 [(3, 2)])] (AH.mk .e .h) yesK = some .n := by kernel_rfl
theorem eApSleeps141 (a0 a1 a2 : Int) : G4 [.v (.y a0 [(8, 5)]), .v (.y a1 [(8, 7)]), .v (.y a2 [(3, 0)])] (AH.mk .e .h) yesK = some .n := by kernel_rfl
theorem eApSleeps142 (a0 a1 a2 : Int) : G4 [.v (.y a0 [(8, 5)]), .v (.y a1 [(8, 7)]), .v (.y a2 [(3, 1)])] (AH.mk .e .h) yesK = some .n := by kernel_rfl
theorem eApSleeps143 (a0 a1 a2 : Int) : G4 [.v (.y a0 [(8, 5)]), .v (.y a1 [(8, 7)]), .v (.y a2 [(3, 2)])] (AH.mk .e .h) yesK = some .n := by kernel_rfl
end Go.Proofs.YthooeildnkfpkaaGreatDoor
