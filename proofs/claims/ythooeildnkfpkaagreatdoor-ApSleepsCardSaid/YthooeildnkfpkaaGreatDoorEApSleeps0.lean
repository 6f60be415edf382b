/- The law ApSleeps at cases of its arguments, reckoned by the abstract machine. -/
import Derived.Test.YthooeildnkfpkaaGreatDoorGgApSleepsD
import Derived.Test.YthooeildnkfpkaaGreatDoorAb17
set_option linter.unusedVariables false
set_option maxRecDepth 100000
set_option maxHeartbeats 0
namespace Go.Proofs.YthooeildnkfpkaaGreatDoor
open Go.Vc Go.Ab
theorem eApSleeps0 (a0 a1 a2 : Int) : G4 [.v (.y a0 [(8, 0)]), .v (.y a1 [(8, 0)]), .v (.y a2 [(3, 0)])] (AH.mk .e .h) yesK = some .n := by kernel_rfl
theorem eApSleeps1 (a0 a1 a2 : Int) : G4 [.v (.y a0 [(8, 0)]), .v (.y a1 [(8, 0)]), .v (.y a2 [(3, 1)])] (AH.mk .e .h) yesK = some .n := by kernel_rfl
theorem eApSleeps2 (a0 a1 a2 : Int) : G4 [.v (.y a0 [(8, 0)]), .v (.y a1 [(8, 0)]), .v (.y a2 [(3, 2)])] (AH.mk .e .h) yesK = some .n := by kernel_rfl
theorem eApSleeps3 (a0 a1 a2 : Int) : G4 [.v (.y a0 [(8, 0)]), .v (.y a1 [(8, 1)]), .v (.y a2 [(3, 0)])] (AH.mk .e .h) yesK = some .n := by kernel_rfl
theorem eApSleeps4 (a0 a1 a2 : Int) : G4 [.v (.y a0 [(8, 0)]), .v (.y a1 [(8, 1)]), .v (.y a2 [(3, 1)])] (AH.mk .e .h) yesK = some .n := by kernel_rfl
theorem eApSleeps5 (a0 a1 a2 : Int) : G4 [.v (.y a0 [(8, 0)]), .v (.y a1 [(8, 1)]), .v (.y a2 [(3, 2)])] (AH.mk .e .h) yesK = some .n := by kernel_rfl
theorem eApSleeps6 (a0 a1 a2 : Int) : G4 [.v (.y a0 [(8, 0)]), .v (.y a1 [(8, 2)]), .v (.y a2 [(3, 0)])] (AH.mk .e .h) yesK = some .n := by kernel_rfl
theorem eApSleeps7 (a0 a1 a2 : Int) : G4 [.v (.y a0 [(8, 0)]), .v (.y a1 [(8, 2)]), .v (.y a2 [(3, 1)])] (AH.mk .e .h) yesK = some .n := by kernel_rfl
theorem eApSleeps8 (a0 a1 a2 : Int) : G4 [.v (.y a0 [(8, 0)]), .v (.y a1 [(8, 2)]), .v (.y a2 [(3, 2)])] (AH.mk .e .h) yesK = some .n := by kernel_rfl
theorem eApSleeps9 (a0 a1 a2 : Int) : G4 [.v (.y a0 [(8, 0)]), .v (.y a1 [(8, 3)]), .v (.y a2 [(3, 0)])] (AH.mk .e .h) yesK = some .n := by kernel_rfl
theorem eApSleeps10 (a0 a1 a2 : Int) : G4 [.v (.y a0 [(8, 0)]), .v (.y a1 [(8, 3)]), .v (.y a2 [(3, 1)])] (AH.mk .e .h) yesK = some .n := by kernel_rfl
theorem eApSleeps11 (a0 a1 a2 : Int) : G4 [.v (.y a0 [(8, 0)]), .v (.y a1 [(8, 3)]), .v (.y a2 [(3, 2)])] (AH.mk .e .h) yesK = some .n := by kernel_rfl
theorem eApSleeps12 (a0 a1 a2 : Int) : G4 [.v (.y a0 [(8, 0)]), .v (.y a1 [(8, 4)]), .v (.y a2 [(3, 0)])] (AH.mk .e .h) yesK = some .n := by kernel_rfl
theorem eApSleeps13 (a0 a1 a2 : Int) : G4 [.v (.y a0 [(8, 0)]), .v (.y a1 [(8, 4)]), .v (.y a2 [(3, 1)])] (AH.mk .e .h) yesK = some .n := by kernel_rfl
theorem eApSleeps14 (a0 a1 a2 : Int) : G4 [.v (.y a0 [(8, 0)]), .v (.y a1 [(8, 4)]), .v (.y a2 [(3, 2)])] (AH.mk .e .h) yesK = some .n := by kernel_rfl
theorem eApSleeps15 (a0 a1 a2 : Int) : G4 [.v (.y a0 [(8, 0)]), .v (.y a1 [(8, 5)]), .v (.y a2 [(3, 0)])] (AH.mk .e .h) yesK = some .n := by kernel_rfl
theorem eApSleeps16 (a0 a1 a2 : Int) : G4 [.v (.y a0 [(8, 0)]), .v (.y a1 [(8, 5)]), .v (.y a2 [(3, 1)])] (AH.mk .e .h) yesK = some .n := by kernel_rfl
theorem eApSleeps17 (a0 a1 a2 : Int) : G4 [.v (.y a0 [(8, 0)]), .v (.y a1 [(8, 5)]), .v (.y a2 [(3, 2)])] (AH.mk .e .h) yesK = some .n := by kernel_rfl
theorem eApSleeps18 (a0 a1 a2 : Int) : G4 [.v (.y a0 [(8, 0)]), .v (.y a1 [(8, 6)]), .v (.y a2 [(3, 0)])] (AH.mk .e .h) yesK = some .n := by kernel_rfl
theorem eApSleeps19 (a0 a1 a2 : Int) : G4 [.v (.y a0 [(8, 0)]), .v (.y a1 [(8, 6)]), .v (.y a2 [(3, 1)])] (AH.mk .e .h) yesK = some .n := by kernel_rfl
theorem eApSleeps20 (a0 a1 a2 : Int) : G4 [.v (.y a0 [(8, 0)]), .v (.y a1 [(8, 6)]), .v (.y a2 [(3, 2)])] (AH.mk .e .h) yesK = some .n := by kernel_rfl
theorem eApSleeps21 (a0 a1 a2 : Int) : G4 [.v (.y a0 [(8, 0)]), .v (.y a1 [(8, 7)]), .v (.y a2 [(3, 0)])] (AH.mk .e .h) yesK = some .n := by kernel_rfl
theorem eApSleeps22 (a0 a1 a2 : Int) : G4 [.v (.y a0 [(8, 0)]), .v (.y a1 [(8, 7)]), .v (.y a2 [(3, 1)])] (AH.mk .e .h) yesK = some .n := by kernel_rfl
theorem eApSleeps23 (a0 a1 a2 : Int) : G4 [.v (.y a0 [(8, 0)]), .v (.y a1 [(8, 7)]), .v (.y a2 [(3, 2)])] (AH.mk .e .h) yesK = some .n := by kernel_rfl
theorem eApSleeps24 (a0 a1 a2 : Int) : G4 [.v (.y a0 [(8, 1)]), .v (.y a1 [(8, 0)]), .v (.y a2 [(3, 0)])] (AH.mk .e .h) yesK = some .n := by kernel_rfl
theorem eApSleeps25 (a0 a1 a2 : Int) : G4 [.v (.y a0 [(8, 1)]), .v (.y a1 [(8, 0)]), .v (.y a2 [(3, 1)])] (AH.mk .e .h) yesK = some .n := by kernel_rfl
theorem eApSleeps26 (a0 a1 a2 : Int) : G4 [.v (.y a0 [(8, 1)]), .v (.y a1 [(8, 0)]), .v (.y a2 [(3, 2)])] (AH.mk .e .h) yesK = some .n := by kernel_rfl
theorem eApSleeps27 (a0 a1 a2 : Int) : G4 [.v (.y a0 [(8, 1)]), .v (.y a1 [(8, 1)]), .v (.y a2 [(3, 0)])] (AH.mk .e .h) yesK = some .n := by kernel_rfl
theorem eApSleeps28 (a0 a1 a2 : Int) : G4 [.v (.y a0 [(8, 1)]), .v (.y a1 [(8, 1)]), .v (.y a2 [(3, 1)])] (AH.mk .e .h) yesK = some .n := by kernel_rfl
theorem eApSleeps29 (a0 a1 a2 : Int) : G4 [.v (.y a0 [(8, 1)]), .v (.y a1 [(8, 1)]), .v (.y a2 [(3, 2)])] (AH.mk .e .h) yesK = some .n := by kernel_rfl
theorem eApSleeps30 (a0 a1 a2 : Int) : G4 [.v (.y a0 [(8, 1)]), .v (.y a1 [(8, 2)]), .v (.y a2 [(3, 0)])] (AH.mk .e .h) yesK = some .n := by kernel_rfl
theorem eApSleeps31 (a0 a1 a2 : Int) : G4 [.v (.y a0 [(8, 1)]), .v (.y a1 [(8, 2)]), .v (.y a2 [(3, 1)])] (AH.mk .e .h) yesK = some .n := by kernel_rfl
theorem eApSleeps32 (a0 a1 a2 : Int) : G4 [.v (.y a0 [(8, 1)]), .v (.y a1 [(8, 2)]), .v (.y a2 [(3, 2)])] (AH.mk .e .h) yesK = some .n := by kernel_rfl
theorem eApSleeps33 (a0 a1 a2 : Int) : G4 [.v (.y a0 [(8, 1)]), .v (.y a1 [(8, 3)]), .v (.y a2 [(3, 0)])] (AH.mk .e .h) yesK = some .n := by kernel_rfl
theorem eApSleeps34 (a0 a1 a2 : Int) : G4 [.v (.y a0 [(8, 1)]), .v (.y a1 [(8, 3)]), .v (.y a2 [(3, 1)])] (AH.mk .e .h) yesK = some .n := by kernel_rfl
theorem eApSleeps35 (a0 a1 a2 : Int) : G4 [.v (.y a0 [(8, 1)]), .v (.y a1 [(8, 3)]), .v (.y a2 [(3, 2)])] (AH.mk .e .h) yesK = some .n := by kernel_rfl
theorem eApSleeps36 (a0 a1 a2 : Int) : G4 [.v (.y a0 [(8, 1)]), .v (.y a1 [(8, 4)]), .v (.y a2 [(3, 0)])] (AH.mk .e .h) yesK = some .n := by kernel_rfl
theorem eApSleeps37 (a0 a1 a2 : Int) : G4 [.v (.y a0 [(8, 1)]), .v (.y a1 [(8, 4)]), .v (.y a2 [(3, 1)])] (AH.mk .e .h) yesK = some .n := by kernel_rfl
theorem eApSleeps38 (a0 a1 a2 : Int) : G4 [.v (.y a0 [(8, 1)]), .v (.y a1 [(8, 4)]), .v (.y a2 [(3, 2)])] (AH.mk .e .h) yesK = some .n := by kernel_rfl
theorem eApSleeps39 (a0 a1 a2 : Int) : G4 [.v (.y a0 [(8, 1)]), .v (.y a1 [(8, 5)]), .v (.y a2 [(3, 0)])] (AH.mk .e .h) yesK = some .n := by kernel_rfl
theorem eApSleeps40 (a0 a1 a2 : Int) : G4 [.v (.y a0 [(8, 1)]), .v (.y a1 [(8, 5)]), .v (.y a2 [(3, 1)])] (AH.mk .e .h) yesK = some .n := by kernel_rfl
theorem eApSleeps41 (a0 a1 a2 : Int) : G4 [.v (.y a0 [(8, 1)]), .v (.y a1 [(8, 5)]), .v (.y a2 [(3, 2)])] (AH.mk .e .h) yesK = some .n := by kernel_rfl
theorem eApSleeps42 (a0 a1 a2 : Int) : G4 [.v (.y a0 [(8, 1)]), .v (.y a1 [(8, 6)]), .v (.y a2 [(3, 0)])] (AH.mk .e .h) yesK = some .n := by kernel_rfl
theorem eApSleeps43 (a0 a1 a2 : Int) : G4 [.v (.y a0 [(8, 1)]), .v (.y a1 [(8, 6)]), .v (.y a2 [(3, 1)])] (AH.mk .e .h) yesK = some .n := by kernel_rfl
theorem eApSleeps44 (a0 a1 a2 : Int) : G4 [.v (.y a0 [(8, 1)]), .v (.y a1 [(8, 6)]), .v (.y a2 [(3, 2)])] (AH.mk .e .h) yesK = some .n := by kernel_rfl
theorem eApSleeps45 (a0 a1 a2 : Int) : G4 [.v (.y a0 [(8, 1)]), .v (.y a1 [(8, 7)]), .v (.y a2 [(3, 0)])] (AH.mk .e .h) yesK = some .n := by kernel_rfl
theorem eApSleeps46 (a0 a1 a2 : Int) : G4 [.v (.y a0 [(8, 1)]), .v (.y a1 [(8, 7)]), .v (.y a2 [(3, 1)])] (AH.mk .e .h) yesK = some .n := by kernel_rfl
theorem eApSleeps47 (a0 a1 a2 : Int) : G4 [.v (.y a0 [(8, 1)]), .v (.y a1 [(8, 7)]), .v (.y a2 [(3, 2)])] (AH.mk .e .h) yesK = some .n := by kernel_rfl
end Go.Proofs.YthooeildnkfpkaaGreatDoor
