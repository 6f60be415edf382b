/- The law ApSleeps at cases of its arguments, reckoned by the abstract machine. -/
import Derived.Test.YthooeildnkfpkaaGreatDoorGgApSleepsD
import Derived.Test.YthooeildnkfpkaaGreatDoorAb17
set_option linter.unusedVariables false
set_option maxRecDepth 100000
set_option maxHeartbeats 0
namespace Go.Proofs.YthooeildnkfpkaaGreatDoor
open Go.Vc Go.Ab
theorem eApSleeps48 (a0 a1 a2 : Int) : G4 [.v (.y a0 [(8, 2)]), .v (.y a1 [(8, 0)]), .v (.y a2 [(3, 0)])] (AH.mk .e .h) yesK = some .n := by kernel_rfl
theorem eApSleeps49 (a0 a1 a2 : Int) : G4 [.v (.y a0 [(8, 2)]), .v (.y a1 [(8, 0)]), .v (.y a2 [(3, 1)])] (AH.mk .e .h) yesK = some .n := by kernel_rfl
theorem eApSleeps50 (a0 a1 a2 : Int) : G4 [.v (.y a0 [(8, 2)]), .v (.y a1 [(8, 0)]), .v (.y a2 [(3, 2)])] (AH.mk .e .h) yesK = some .n := by kernel_rfl
theorem eApSleeps51 (a0 a1 a2 : Int) : G4 [.v (.y a0 [(8, 2)]), .v (.y a1 [(8, 1)]), .v (.y a2 [(3, 0)])] (AH.mk .e .h) yesK = some .n := by kernel_rfl
theorem eApSleeps52 (a0 a1 a2 : Int) : G4 [.v (.y a0 [(8, 2)]), .v (.y a1 [(8, 1)]), .v (.y a2 [(3, 1)])] (AH.mk .e .h) yesK = some .n := by kernel_rfl
theorem eApSleeps53 (a0 a1 a2 : Int) : G4 [.v (.y a0 [(8, 2)]), .v (.y a1 [(8, 1)]), .v (.y a2 [(3, 2)])] (AH.mk .e .h) yesK = some .n := by kernel_rfl
theorem eApSleeps54 (a0 a1 a2 : Int) : G4 [.v (.y a0 [(8, 2)]), .v (.y a1 [(8, 2)]), .v (.y a2 [(3, 0)])] (AH.mk .e .h) yesK = some .n := by kernel_rfl
theorem eApSleeps55 (a0 a1 a2 : Int) : G4 [.v (.y a0 [(8, 2)]), .v (.y a1 [(8, 2)]), .v (.y a2 [(3, 1)])] (AH.mk .e .h) yesK = some .n := by kernel_rfl
theorem eApSleeps56 (a0 a1 a2 : Int) : G4 [.v (.y a0 [(8, 2)]), .v (.y a1 [(8, 2)]), .v (.y a2 [(3, 2)])] (AH.mk .e .h) yesK = some .n := by kernel_rfl
theorem eApSleeps57 (a0 a1 a2 : Int) : G4 [.v (.y a0 [(8, 2)]), .v (.y a1 [(8, 3)]), .v (.y a2 [(3, 0)])] (AH.mk .e .h) yesK = some .n := by kernel_rfl
theorem eApSleeps58 (a0 a1 a2 : Int) : G4 [.v (.y a0 [(8, 2)]), .v (.y a1 [(8, 3)]), .v (.y a2 [(3, 1)])] (AH.mk .e .h) yesK = some .n := by kernel_rfl
theorem eApSleeps59 (a0 a1 a2 : Int) : G4 [.v (.y a0 [(8, 2)]), .v (.y a1 [(8, 3)]), .v (.y a2 [(3, 2)])] (AH.mk .e .h) yesK = some .n := by kernel_rfl
theorem eApSleeps60 (a0 a1 a2 : Int) : G4 [.v (.y a0 [(8, 2)]), .v (.y a1 [(8, 4)]), .v (.y a2 [(3, 0)])] (AH.mk .e .h) yesK = some .n := by kernel_rfl
theorem eApSleeps61 (a0 a1 a2 : Int) : G4 [.v (.y a0 [(8, 2)]), .v (.y a1 [(8, 4)]), .v (.y a2 [(3, 1)])] (AH.mk .e .h) yesK = some .n := by kernel_rfl
theorem eApSleeps62 (a0 a1 a2 : Int) : G4 [.v (.y a0 [(8, 2)]), .v (.y a1 [(8, 4)]), .v (.y a2 [(3, 2)])] (AH.mk .e .h) yesK = some .n := by kernel_rfl
theorem eApSleeps63 (a0 a1 a2 : Int) : G4 [.v (.y a0 [(8, 2)]), .v (.y a1 [(8, 5)]), .v (.y a2 [(3, 0)])] (AH.mk .e .h) yesK = some .n := by kernel_rfl
theorem eApSleeps64 (a0 a1 a2 : Int) : G4 [.v (.y a0 [(8, 2)]), .v (.y a1 [(8, 5)]), .v (.y a2 [(3, 1)])] (AH.mk .e .h) yesK = some .n := by kernel_rfl
theorem eApSleeps65 (a0 a1 a2 : Int) : G4 [.v (.y a0 [(8, 2)]), .v (.y a1 [(8, 5)]), .v (.y a2 [(3, 2)])] (AH.mk .e .h) yesK = some .n := by kernel_rfl
theorem eApSleeps66 (a0 a1 a2 : Int) : G4 [.v (.y a0 [(8, 2)]), .v (.y a1 [(8, 6)]), .v (.y a2 [(3, 0)])] (AH.mk .e .h) yesK = some .n := by kernel_rfl
theorem eApSleeps67 (a0 a1 a2 : Int) : G4 [.v (.y a0 [(8, 2)]), .v (.y a1 [(8, 6)]), .v (.y a2 [(3, 1)])] (AH.mk .e .h) yesK = some .n := by kernel_rfl
theorem eApSleeps68 (a0 a1 a2 : Int) : G4 [.v (.y a0 [(8, 2)]), .v (.y a1 [(8, 6)]), .v (.y a2 [(3, 2)])] (AH.mk .e .h) yesK = some .n := by kernel_rfl
theorem eApSleeps69 (a0 a1 a2 : Int) : G4 [.v (.y a0 [(8, 2)]), .v (.y a1 [(8, 7)]), .v (.y a2 [(3, 0)])] (AH.mk .e .h) yesK = some .n := by kernel_rfl
theorem eApSleeps70 (a0 a1 a2 : Int) : G4 [.v (.y a0 [(8, 2)]), .v (.y a1 [(8, 7)]), .v (.y a2 [(3, 1)])] (AH.mk .e .h) yesK = some .n := by kernel_rfl
theorem eApSleeps71 (a0 a1 a2 : Int) : G4 [.v (.y a0 [(8, 2)]), .v (.y a1 [(8, 7)]), .v (.y a2 [(3, 2)])] (AH.mk .e .h) yesK = some .n := by kernel_rfl
theorem eApSleeps72 (a0 a1 a2 : Int) : G4 [.v (.y a0 [(8, 3)]), .v (.y a1 [(8, 0)]), .v (.y a2 [(3, 0)])] (AH.mk .e .h) yesK = some .n := by kernel_rfl
theorem eApSleeps73 (a0 a1 a2 : Int) : G4 [.v (.y a0 [(8, 3)]), .v (.y a1 [(8, 0)]), .v (.y a2 [(3, 1)])] (AH.mk .e .h) yesK = some .n := by kernel_rfl
theorem eApSleeps74 (a0 a1 a2 : Int) : G4 [.v (.y a0 [(8, 3)]), .v (.y a1 [(8, 0)]), .v (.y a2 [(3, 2)])] (AH.mk .e .h) yesK = some .n := by kernel_rfl
theorem eApSleeps75 (a0 a1 a2 : Int) : G4 [.v (.y a0 [(8, 3)]), .v (.y a1 [(8, 1)]), .v (.y a2 [(3, 0)])] (AH.mk .e .h) yesK = some .n := by kernel_rfl
theorem eApSleeps76 (a0 a1 a2 : Int) : G4 [.v (.y a0 [(8, 3)]), .v (.y a1 [(8, 1)]), .v (.y a2 [(3, 1)])] (AH.mk .e .h) yesK = some .n := by kernel_rfl
theorem eApSleeps77 (a0 a1 a2 : Int) : G4 [.v (.y a0 [(8, 3)]), .v (.y a1 [(8, 1)]), .v (.y a2 [(3, 2)])] (AH.mk .e .h) yesK = some .n := by kernel_rfl
theorem eApSleeps78 (a0 a1 a2 : Int) : G4 [.v (.y a0 [(8, 3)]), .v (.y a1 [(8, 2)]), .v (.y a2 [(3, 0)])] (AH.mk .e .h) yesK = some .n := by kernel_rfl
theorem eApSleeps79 (a0 a1 a2 : Int) : G4 [.v (.y a0 [(8, 3)]), .v (.y a1 [(8, 2)]), .v (.y a2 [(3, 1)])] (AH.mk .e .h) yesK = some .n := by kernel_rfl
theorem eApSleeps80 (a0 a1 a2 : Int) : G4 [.v (.y a0 [(8, 3)]), .v (.y a1 [(8, 2)]), .v (.y a2 [(3, 2)])] (AH.mk .e .h) yesK = some .n := by kernel_rfl
theorem eApSleeps81 (a0 a1 a2 : Int) : G4 [.v (.y a0 [(8, 3)]), .v (.y a1 [(8, 3)]), .v (.y a2 [(3, 0)])] (AH.mk .e .h) yesK = some .n := by kernel_rfl
theorem eApSleeps82 (a0 a1 a2 : Int) : G4 [.v (.y a0 [(8, 3)]), .v (.y a1 [(8, 3)]), .v (.y a2 [(3, 1)])] (AH.mk .e .h) yesK = some .n := by kernel_rfl
theorem eApSleeps83 (a0 a1 a2 : Int) : G4 [.v (.y a0 [(8, 3)]), .v (.y a1 [(8, 3)]), .v (.y a2 [(3, 2)])] (AH.mk .e .h) yesK = some .n := by kernel_rfl
theorem eApSleeps84 (a0 a1 a2 : Int) : G4 [.v (.y a0 [(8, 3)]), .v (.y a1 [(8, 4)]), .v (.y a2 [(3, 0)])] (AH.mk .e .h) yesK = some .n := by kernel_rfl
theorem eApSleeps85 (a0 a1 a2 : Int) : G4 [.v (.y a0 [(8, 3)]), .v (.y a1 [(8, 4)]), .v (.y a2 [(3, 1)])] (AH.mk .e .h) yesK = some .n := by kernel_rfl
theorem eApSleeps86 (a0 a1 a2 : Int) : G4 [.v (.y a0 [(8, 3)]), .v (.y a1 [(8, 4)]), .v (.y a2 [(3, 2)])] (AH.mk .e .h) yesK = some .n := by kernel_rfl
theorem eApSleeps87 (a0 a1 a2 : Int) : G4 [.v (.y a0 [(8, 3)]), .v (.y a1 [(8, 5)]), .v (.y a2 [(3, 0)])] (AH.mk .e .h) yesK = some .n := by kernel_rfl
theorem eApSleeps88 (a0 a1 a2 : Int) : G4 [.v (.y a0 [(8, 3)]), .v (.y a1 [(8, 5)]), .v (.y a2 [(3, 1)])] (AH.mk .e .h) yesK = some .n := by kernel_rfl
theorem eApSleeps89 (a0 a1 a2 : Int) : G4 [.v (.y a0 [(8, 3)]), .v (.y a1 [(8, 5)]), .v (.y a2 [(3, 2)])] (AH.mk .e .h) yesK = some .n := by kernel_rfl
theorem eApSleeps90 (a0 a1 a2 : Int) : G4 [.v (.y a0 [(8, 3)]), .v (.y a1 [(8, 6)]), .v (.y a2 [(3, 0)])] (AH.mk .e .h) yesK = some .n := by kernel_rfl
theorem eApSleeps91 (a0 a1 a2 : Int) : G4 [.v (.y a0 [(8, 3)]), .v (.y a1 [(8, 6)]), .v (.y a2 [(3, 1)])] (AH.mk .e .h) yesK = some .n := by kernel_rfl
theorem eApSleeps92 (a0 a1 a2 : Int) : G4 [.v (.y a0 [(8, 3)]), .v (.y a1 [(8, 6)]), .v (.y a2 [(3, 2)])] (AH.mk .e .h) yesK = some .n := by kernel_rfl
theorem eApSleeps93 (a0 a1 a2 : Int) : G4 [.v (.y a0 [(8, 3)]), .v (.y a1 [(8, 7)]), .v (.y a2 [(3, 0)])] (AH.mk .e .h) yesK = some .n := by kernel_rfl
theorem eApSleeps94 (a0 a1 a2 : Int) : G4 [.v (.y a0 [(8, 3)]), .v (.y a1 [(8, 7)]), .v (.y a2 [(3, 1)])] (AH.mk .e .h) yesK = some .n := by kernel_rfl
theorem eApSleeps95 (a0 a1 a2 : Int) : G4 [.v (.y a0 [(8, 3)]), .v (.y a1 [(8, 7)]), .v (.y a2 [(3, 2)])] (AH.mk .e .h) yesK = some .n := by kernel_rfl
end Go.Proofs.YthooeildnkfpkaaGreatDoor
