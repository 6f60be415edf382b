/- The law ApLimits at cases of its arguments, reckoned by the abstract machine. -/
import Derived.Test.YthooeildnkfpkaaGreatDoorGgApLimitsD
import Derived.Test.YthooeildnkfpkaaGreatDoorAb17
set_option linter.unusedVariables false
set_option maxRecDepth 100000
set_option maxHeartbeats 0
namespace Go.Proofs.YthooeildnkfpkaaGreatDoor
open Go.Vc Go.Ab
theorem eApLimits208 (a0 a1 : Int) : G5 [.v (.y a0 [(30, 26)]), .v (.y a1 [(8, 0)])] (AH.mk .e .h) yesK = some .n := by kernel_rfl
theorem eApLimits209 (a0 a1 : Int) : G5 [.v (.y a0 [(30, 26)]), .v (.y a1 [(8, 1)])] (AH.mk .e .h) yesK = some .n := by kernel_rfl
theorem eApLimits210 (a0 a1 : Int) : G5 [.v (.y a0 [(30, 26)]), .v (.y a1 [(8, 2)])] (AH.mk .e .h) yesK = some .n := by kernel_rfl
theorem eApLimits211 (a0 a1 : Int) : G5 [.v (.y a0 [(30, 26)]), .v (.y a1 [(8, 3)])] (AH.mk .e .h) yesK = some .n := by kernel_rfl
theorem eApLimits212 (a0 a1 : Int) : G5 [.v (.y a0 [(30, 26)]), .v (.y a1 [(8, 4)])] (AH.mk .e .h) yesK = some .n := by kernel_rfl
theorem eApLimits213 (a0 a1 : Int) : G5 [.v (.y a0 [(30, 26)]), .v (.y a1 [(8, 5)])] (AH.mk .e .h) yesK = some .n := by kernel_rfl
theorem eApLimits214 (a0 a1 : Int) : G5 [.v (.y a0 [(30, 26)]), .v (.y a1 [(8, 6)])] (AH.mk .e .h) yesK = some .n := by kernel_rfl
theorem eApLimits215 (a0 a1 : Int) : G5 [.v (.y a0 [(30, 26)]), .v (.y a1 [(8, 7)])] (AH.mk .e .h) yesK = some .n := by kernel_rfl
theorem eApLimits216 (a0 a1 : Int) : G5 [.v (.y a0 [(30, 27)]), .v (.y a1 [(8, 0)])] (AH.mk .e .h) yesK = some .n := by kernel_rfl
theorem eApLimits217 (a0 a1 : Int) : G5 [.v (.y a0 [(30, 27)]), .v (.y a1 [(8, 1)])] (AH.mk .e .h) yesK = some .n := by kernel_rfl
theorem eApLimits218 (a0 a1 : Int) : G5 [.v (.y a0 [(30, 27)]), .v (.y a1 [(8, 2)])] (AH.mk .e .h) yesK = some .n := by kernel_rfl
theorem eApLimits219 (a0 a1 : Int) : G5 [.v (.y a0 [(30, 27)]), .v (.y a1 [(8, 3)])] (AH.mk .e .h) yesK = some .n := by kernel_rfl
theorem eApLimits220 (a0 a1 : Int) : G5 [.v (.y a0 [(30, 27)]), .v (.y a1 [(8, 4)])] (AH.mk .e .h) yesK = some .n := by kernel_rfl
theorem eApLimits221 (a0 a1 : Int) : G5 [.v (.y a0 [(30, 27)]), .v (.y a1 [(8, 5)])] (AH.mk .e .h) yesK = some .n := by kernel_rfl
theorem eApLimits222 (a0 a1 : Int) : G5 [.v (.y a0 [(30, 27)]), .v (.y a1 [(8, 6)])] (AH.mk .e .h) yesK = some .n := by kernel_rfl
theorem eApLimits223 (a0 a1 : Int) : G5 [.v (.y a0 [(30, 27)]), .v (.y a1 [(8, 7)])] (AH.mk .e .h) yesK = some .n := by kernel_rfl
theorem eApLimits224 (a0 a1 : Int) : G5 [.v (.y a0 [(30, 28)]), .v (.y a1 [(8, 0)])] (AH.mk .e .h) yesK = some .n := by kernel_rfl
theorem eApLimits225 (a0 a1 : Int) : G5 [.v (.y a0 [(30, 28)]), .v (.y a1 [(8, 1)])] (AH.mk .e .h) yesK = some .n := by kernel_rfl
theorem eApLimits226 (a0 a1 : Int) : G5 [.v (.y a0 [(30, 28)]), .v (.y a1 [(8, 2)])] (AH.mk .e .h) yesK = some .n := by kernel_rfl
theorem eApLimits227 (a0 a1 : Int) : G5 [.v (.y a0 [(30, 28)]), .v (.y a1 [(8, 3)])] (AH.mk .e .h) yesK = some .n := by kernel_rfl
theorem eApLimits228 (a0 a1 : Int) : G5 [.v (.y a0 [(30, 28)]), .v (.y a1 [(8, 4)])] (AH.mk .e .h) yesK = some .n := by kernel_rfl
theorem eApLimits229 (a0 a1 : Int) : G5 [.v (.y a0 [(30, 28)]), .v (.y a1 [(8, 5)])] (AH.mk .e .h) yesK = some .n := by kernel_rfl
theorem eApLimits230 (a0 a1 : Int) : G5 [.v (.y a0 [(30, 28)]), .v (.y a1 [(8, 6)])] (AH.mk .e .h) yesK = some .n := by kernel_rfl
theorem eApLimits231 (a0 a1 : Int) : G5 [.v (.y a0 [(30, 28)]), .v (.y a1 [(8, 7)])] (AH.mk .e .h) yesK = some .n := by kernel_rfl
theorem eApLimits232 (a0 a1 : Int) : G5 [.v (.y a0 [(30, 29)]), .v (.y a1 [(8, 0)])] (AH.mk .e .h) yesK = some .n := by kernel_rfl
theorem eApLimits233 (a0 a1 : Int) : G5 [.v (.y a0 [(30, 29)]), .v (.y a1 [(8, 1)])] (AH.mk .e .h) yesK = some .n := by kernel_rfl
theorem eApLimits234 (a0 a1 : Int) : G5 [.v (.y a0 [(30, 29)]), .v (.y a1 [(8, 2)])] (AH.mk .e .h) yesK = some .n := by kernel_rfl
theorem eApLimits235 (a0 a1 : Int) : G5 [.v (.y a0 [(30, 29)]), .v (.y a1 [(8, 3)])] (AH.mk .e .h) yesK = some .n := by kernel_rfl
theorem eApLimits236 (a0 a1 : Int) : G5 [.v (.y a0 [(30, 29)]), .v (.y a1 [(8, 4)])] (AH.mk .e .h) yesK = some .n := by kernel_rfl
theorem eApLimits237 (a0 a1 : Int) : G5 [.v (.y a0 [(30, 29)]), .v (.y a1 [(8, 5)])] (AH.mk .e .h) yesK = some .n := by kernel_rfl
theorem eApLimits238 (a0 a1 : Int) : G5 [.v (.y a0 [(30, 29)]), .v (.y a1 [(8, 6)])] (AH.mk .e .h) yesK = some .n := by kernel_rfl
theorem eApLimits239 (a0 a1 : Int) : G5 [.v (.y a0 [(30, 29)]), .v (.y a1 [(8, 7)])] (AH.mk .e .h) yesK = some .n := by kernel_rfl
end Go.Proofs.YthooeildnkfpkaaGreatDoor
