/- The law DeskErrors at cases of its arguments, reckoned by the abstract machine. -/
import Derived.Test.YtdkopdoicepgmaaGreatDoorGgDeskErrorsD
import Derived.Test.YtdkopdoicepgmaaGreatDoorAb17
set_option linter.unusedVariables false
set_option maxRecDepth 100000
set_option maxHeartbeats 0
namespace Go.Proofs.YtdkopdoicepgmaaGreatDoor
open Go.Vc Go.Ab
theorem eDeskErrors32 (a0 : Int) : G3 [.v (.y a0 [(16, 0), (8, 0), (6, 2)])] (AH.mk .e .h) yesK = some .n := by kernel_rfl
theorem eDeskErrors33 (a0 : Int) : G3 [.v (.y a0 [(16, 1), (8, 1), (6, 3)])] (AH.mk .e .h) yesK = some .n := by kernel_rfl
theorem eDeskErrors34 (a0 : Int) : G3 [.v (.y a0 [(16, 2), (8, 2), (6, 4)])] (AH.mk .e .h) yesK = some .n := by kernel_rfl
theorem eDeskErrors35 (a0 : Int) : G3 [.v (.y a0 [(16, 3), (8, 3), (6, 5)])] (AH.mk .e .h) yesK = some .n := by kernel_rfl
theorem eDeskErrors36 (a0 : Int) : G3 [.v (.y a0 [(16, 4), (8, 4), (6, 0)])] (AH.mk .e .h) yesK = some .n := by kernel_rfl
theorem eDeskErrors37 (a0 : Int) : G3 [.v (.y a0 [(16, 5), (8, 5), (6, 1)])] (AH.mk .e .h) yesK = some .n := by kernel_rfl
theorem eDeskErrors38 (a0 : Int) : G3 [.v (.y a0 [(16, 6), (8, 6), (6, 2)])] (AH.mk .e .h) yesK = some .n := by kernel_rfl
theorem eDeskErrors39 (a0 : Int) : G3 [.v (.y a0 [(16, 7), (8, 7), (6, 3)])] (AH.mk .e .h) yesK = some .n := by kernel_rfl
theorem eDeskErrors40 (a0 : Int) : G3 [.v (.y a0 [(16, 8), (8, 0), (6, 4)])] (AH.mk .e .h) yesK = some .n := by kernel_rfl
theorem eDeskErrors41 (a0 : Int) : G3 [.v (.y a0 [(16, 9), (8, 1), (6, 5)])] (AH.mk .e .h) yesK = some .n := by kernel_rfl
theorem eDeskErrors42 (a0 : Int) : G3 [.v (.y a0 [(16, 10), (8, 2), (6, 0)])] (AH.mk .e .h) yesK = some .n := by kernel_rfl
theorem eDeskErrors43 (a0 : Int) : G3 [.v (.y a0 [(16, 11), (8, 3), (6, 1)])] (AH.mk .e .h) yesK = some .n := by kernel_rfl
theorem eDeskErrors44 (a0 : Int) : G3 [.v (.y a0 [(16, 12), (8, 4), (6, 2)])] (AH.mk .e .h) yesK = some .n := by kernel_rfl
theorem eDeskErrors45 (a0 : Int) : G3 [.v (.y a0 [(16, 13), (8, 5), (6, 3)])] (AH.mk .e .h) yesK = some .n := by kernel_rfl
theorem eDeskErrors46 (a0 : Int) : G3 [.v (.y a0 [(16, 14), (8, 6), (6, 4)])] (AH.mk .e .h) yesK = some .n := by kernel_rfl
theorem eDeskErrors47 (a0 : Int) : G3 [.v (.y a0 [(16, 15), (8, 7), (6, 5)])] (AH.mk .e .h) yesK = some .n := by kernel_rfl
end Go.Proofs.YtdkopdoicepgmaaGreatDoor
