/- The law ApHandles at cases of its arguments, reckoned by the abstract machine. -/
import Derived.Test.YtmdcbepepiabmaaGreatDoorGg3
import Derived.Test.YtmdcbepepiabmaaGreatDoorAb17
set_option linter.unusedVariables false
set_option maxRecDepth 100000
set_option maxHeartbeats 0
namespace Go.Proofs.YtmdcbepepiabmaaGreatDoor
open Go.Vc Go.Ab
theorem eApHandles0 (a0 : Int) : G11 [.v (.y a0 [(12, 0)])] (AH.mk .e .h) yesK = some () := by kernel_rfl
theorem eApHandles1 (a0 : Int) : G11 [.v (.y a0 [(12, 1)])] (AH.mk .e .h) yesK = some () := by kernel_rfl
theorem eApHandles2 (a0 : Int) : G11 [.v (.y a0 [(12, 2)])] (AH.mk .e .h) yesK = some () := by kernel_rfl
theorem eApHandles3 (a0 : Int) : G11 [.v (.y a0 [(12, 3)])] (AH.mk .e .h) yesK = some () := by kernel_rfl
theorem eApHandles4 (a0 : Int) : G11 [.v (.y a0 [(12, 4)])] (AH.mk .e .h) yesK = some () := by kernel_rfl
theorem eApHandles5 (a0 : Int) : G11 [.v (.y a0 [(12, 5)])] (AH.mk .e .h) yesK = some () := by kernel_rfl
theorem eApHandles6 (a0 : Int) : G11 [.v (.y a0 [(12, 6)])] (AH.mk .e .h) yesK = some () := by kernel_rfl
theorem eApHandles7 (a0 : Int) : G11 [.v (.y a0 [(12, 7)])] (AH.mk .e .h) yesK = some () := by kernel_rfl
theorem eApHandles8 (a0 : Int) : G11 [.v (.y a0 [(12, 8)])] (AH.mk .e .h) yesK = some () := by kernel_rfl
theorem eApHandles9 (a0 : Int) : G11 [.v (.y a0 [(12, 9)])] (AH.mk .e .h) yesK = some () := by kernel_rfl
theorem eApHandles10 (a0 : Int) : G11 [.v (.y a0 [(12, 10)])] (AH.mk .e .h) yesK = some () := by kernel_rfl
theorem eApHandles11 (a0 : Int) : G11 [.v (.y a0 [(12, 11)])] (AH.mk .e .h) yesK = some () := by kernel_rfl
end Go.Proofs.YtmdcbepepiabmaaGreatDoor
