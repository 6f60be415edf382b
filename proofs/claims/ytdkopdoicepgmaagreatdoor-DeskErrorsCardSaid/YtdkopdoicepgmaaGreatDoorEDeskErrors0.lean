/- The law DeskErrors at cases of its arguments, reckoned by the abstract machine. -/
import Derived.Test.YtdkopdoicepgmaaGreatDoorGgDeskErrorsD
import Derived.Test.YtdkopdoicepgmaaGreatDoorAb17
set_option linter.unusedVariables false
set_option maxRecDepth 100000
set_option maxHeartbeats 0
namespace Go.Proofs.YtdkopdoicepgmaaGreatDoor
open Go.Vc Go.Ab
theorem eDeskErrors0 (a0 : Int) : G3 [.v (.y a0 [(16, 0), (8, 0), (6, 0)])] (AH.mk .e .h) yesK = some .n := by kernel_rfl
theorem eDeskErrors1 (a0 : Int) : G3 [.v (.y a0 [(16, 1), (8, 1), (6, 1)])] (AH.mk .e .h) yesK = some .n := by kernel_rfl
theorem eDeskErrors2 (a0 : Int) : G3 [.v (.y a0 [(16, 2), (8, 2), (6, 2)])] (AH.mk .e .h) yesK = some .n := by kernel_rfl
theorem eDeskErrors3 (a0 : Int) : G3 [.v (.y a0 [(16, 3), (8, 3), (6, 3)])] (AH.mk .e .h) yesK = some .n := by kernel_rfl
theorem eDeskErrors4 (a0 : Int) : G3 [.v (.y a0 [(16, 4), (8, 4), (6, 4)])] (AH.mk .e .h) yesK = some .n := by kernel_rfl
theorem eDeskErrors5 (a0 : Int) : G3 [.v (.y a0 [(16, 5), (8, 5), (6, 5)])] (AH.mk .e .h) yesK = some .n := by kernel_rfl
theorem eDeskErrors6 (a0 : Int) : G3 [.v (.y a0 [(16, 6), (8, 6), (6, 0)])] (AH.mk .e .h) yesK = some .n := by kernel_rfl
theorem eDeskErrors7 (a0 : Int) : G3 [.v (.y a0 [(16, 7), (8, 7), (6, 1)])] (AH.mk .e .h) yesK = some .n := by kernel_rfl
theorem eDeskErrors8 (a0 : Int) : G3 [.v (.y a0 [(16, 8), (8, 0), (6, 2)])] (AH.mk .e .h) yesK = some .n := by kernel_rfl
theorem eDeskErrors9 (a0 : Int) : G3 [.v (.y a0 [(16, 9), (8, 1), (6, 3)])] (AH.mk .e .h) yesK = some .n := by kernel_rfl
theorem eDeskErrors10 (a0 : Int) : G3 [.v (.y a0 [(16, 10), (8, 2), (6, 4)])] (AH.mk .e .h) yesK = some .n := by kernel_rfl
theorem eDeskErrors11 (a0 : Int) : G3 [.v (.y a0 [(16, 11), (8, 3), (6, 5)])] (AH.mk .e .h) yesK = some .n := by kernel_rfl
theorem eDeskErrors12 (a0 : Int) : G3 [.v (.y a0 [(16, 12), (8, 4), (6, 0)])] (AH.mk .e .h) yesK = some .n := by kernel_rfl
theorem eDeskErrors13 (a0 : Int) : G3 [.v (.y a0 [(16, 13), (8, 5), (6, 1)])] (AH.mk .e .h) yesK = some .n := by kernel_rfl
theorem eDeskErrors14 (a0 : Int) : G3 [.v (.y a0 [(16, 14), (8, 6), (6, 2)])] (AH.mk .e .h) yesK = some .n := by kernel_rfl
theorem eDeskErrors15 (a0 : Int) : G3 [.v (.y a0 [(16, 15), (8, 7), (6, 3)])] (AH.mk .e .h) yesK = some .n := by kernel_rfl
end Go.Proofs.YtdkopdoicepgmaaGreatDoor
