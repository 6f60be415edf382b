/- The law DeskErrors at cases of its arguments, reckoned by the abstract machine. -/
import Derived.Test.YtdkopdoicepgmaaGreatDoorGgDeskErrorsD
import Derived.Test.YtdkopdoicepgmaaGreatDoorAb17
set_option linter.unusedVariables false
set_option maxRecDepth 100000
set_option maxHeartbeats 0
namespace Go.Proofs.YtdkopdoicepgmaaGreatDoor
open Go.Vc Go.Ab
theorem eDeskErrors16 (a0 : Int) : G3 [.v (.y a0 [(16, 0), (8, 0), (6, 4)])] (AH.mk .e .h) yesK = some .n := by kernel_rfl
theorem eDeskErrors17 (a0 : Int) : G3 [.v (.y a0 [(16, 1), (8, 1), (6, 5)])] (AH.mk .e .h) yesK = some .n := by kernel_rfl
theorem eDeskErrors18 (a0 : Int) : G3 [.v (.y a0 [(16, 2), (8, 2), (6, 0)])] (AH.mk .e .h) yesK = some .n := by kernel_rfl
theorem eDeskErrors19 (a0 : Int) : G3 [.v (.y a0 [(16, 3), (8, 3), (6, 1)])] (AH.mk .e .h) yesK = some .n := by kernel_rfl
theorem eDeskErrors20 (a0 : Int) : G3 [.v (.y a0 [(16, 4), (8, 4), (6, 2)])] (AH.mk .e .h) yesK = some .n := by kernel_rfl
theorem eDeskErrors21 (a0 : Int) : G3 [.v (.y a0 [(16, 5), (8, 5), (6, 3)])] (AH.mk .e .h) yesK = some .n := by kernel_rfl
theorem eDeskErrors22 (a0 : Int) : G3 [.v (.y a0 [(16, 6), (8, 6), (6, 4)])] (AH.mk .e .h) yesK = some .n := by kernel_rfl
theorem eDeskErrors23 (a0 : Int) : G3 [.v (.y a0 [(16, 7), (8, 7), (6, 5)])] (AH.mk .e .h) yesK = some .n := by kernel_rfl
theorem eDeskErrors24 (a0 : Int) : G3 [.v (.y a0 [(16, 8), (8, 0), (6, 0)])] (AH.mk .e .h) yesK = some .n := by kernel_rfl
theorem eDeskErrors25 (a0 : Int) : G3 [.v (.y a0 [(16, 9), (8, 1), (6, 1)])] (AH.mk .e .h) yesK = some .n := by kernel_rfl
theorem eDeskErrors26 (a0 : Int) : G3 [.v (.y a0 [(16, 10), (8, 2), (6, 2)])] (AH.mk .e .h) yesK = some .n := by kernel_rfl
theorem eDeskErrors27 (a0 : Int) : G3 [.v (.y a0 [(16, 11), (8, 3), (6, 3)])] (AH.mk .e .h) yesK = some .n := by kernel_rfl
theorem eDeskErrors28 (a0 : Int) : G3 [.v (.y a0 [(16, 12), (8, 4), (6, 4)])] (AH.mk .e .h) yesK = some .n := by kernel_rfl
theorem eDeskErrors29 (a0 : Int) : G3 [.v (.y a0 [(16, 13), (8, 5), (6, 5)])] (AH.mk .e .h) yesK = some .n := by kernel_rfl
theorem eDeskErrors30 (a0 : Int) : G3 [.v (.y a0 [(16, 14), (8, 6), (6, 0)])] (AH.mk .e .h) yesK = some .n := by kernel_rfl
theorem eDeskErrors31 (a0 : Int) : G3 [.v (.y a0 [(16, 15), (8, 7), (6, 1)])] (AH.mk .e .h) yesK = some .n := by kernel_rfl
end Go.Proofs.YtdkopdoicepgmaaGreatDoor
