/- The law ApLimits at cases of its arguments, reckoned by the abstract machine. -/
import Derived.Test.YthooeildnkfpkaaGreatDoorGgApLimitsD
import Derived.Test.YthooeildnkfpkaaGreatDoorAb17
set_option linter.unusedVariables false
set_option maxRecDepth 100000
set_option maxHeartbeats 0
namespace Go.Proofs.YthooeildnkfpkaaGreatDoor
open Go.Vc Go.Ab
theorem eApLimits0 (a0 a1 : Int) : G5 [.v (.y a0 [(30, 0)]), .v (.y a1 [(8, 0)])] (AH.mk .e .h) yesK = some .n := by kernel_rfl
theorem eApLimits1 (a0 a1 : Int) : G5 [.v (.y a0 [(30, 0)]), .v (.y a1 [(8, 1)])] (AH.mk .e .h) yesK = some .n := by kernel_rfl
theorem eApLimits2 (a0 a1 : Int) : G5 [.v (.y a0 [(30, 0)]), .v (.y a1 [(8, 2)])] (AH.mk .e .h) yesK = some .n := by kernel_rfl
theorem eApLimits3 (a0 a1 : Int) : G5 [.v (.y a0 [(30, 0)]), .v (.y a1 [(8, 3)])] (AH.mk .e .h) yesK = some .n := by kernel_rfl
theorem eApLimits4 (a0 a1 : Int) : G5 [.v (.y a0 [(30, 0)]), .v (.y a1 [(8, 4)])] (AH.mk .e .h) yesK = some .n := by kernel_rfl
theorem eApLimits5 (a0 a1 : Int) : G5 [.v (.y a0 [(30, 0)]), .v (.y a1 [(8, 5)])] (AH.mk .e .h) yesK = some .n := by kernel_rfl
theorem eApLimits6 (a0 a1 : Int) : G5 [.v (.y a0 [(30, 0)]), .v (.y a1 [(8, 6)])] (AH.mk .e .h) yesK = some .n := by kernel_rfl
theorem eApLimits7 (a0 a1 : Int) : G5 [.v (.y a0 [(30, 0)]), .v (.y a1 [(8, 7)])] (AH.mk .e .h) yesK = some .n := by kernel_rfl
theorem eApLimits8 (a0 a1 : Int) : G5 [.v (.y a0 [(30, 1)]), .v (.y a1 [(8, 0)])] (AH.mk .e .h) yesK = some .n := by kernel_rfl
theorem eApLimits9 (a0 a1 : Int) : G5 [.v (.y a0 [(30, 1)]), .v (.y a1 [(8, 1)])] (AH.mk .e .h) yesK = some .n := by kernel_rfl
theorem eApLimits10 (a0 a1 : Int) : G5 [.v (.y a0 [(30, 1)]), .v (.y a1 [(8, 2)])] (AH.mk .e .h) yesK = some .n := by kernel_rfl
theorem eApLimits11 (a0 a1 : Int) : G5 [.v (.y a0 [(30, 1)]), .v (.y a1 [(8, 3)])] (AH.mk .e .h) yesK = some .n := by kernel_rfl
theorem eApLimits12 (a0 a1 : Int) : G5 [.v (.y a0 [(30, 1)]), .v (.y a1 [(8, 4)])] (AH.mk .e .h) yesK = some .n := by kernel_rfl
theorem eApLimits13 (a0 a1 : Int) : G5 [.v (.y a0 [(30, 1)]), .v (.y a1 [(8, 5)])] (AH.mk .e .h) yesK = some .n := by kernel_rfl
theorem eApLimits14 (a0 a1 : Int) : G5 [.v (.y a0 [(30, 1)]), .v (.y a1 [(8, 6)])] (AH.mk .e .h) yesK = some .n := by kernel_rfl
theorem eApLimits15 (a0 a1 : Int) : G5 [.v (.y a0 [(30, 1)]), .v (.y a1 [(8, 7)])] (AH.mk .e .h) yesK = some .n := by kernel_rfl
theorem eApLimits16 (a0 a1 : Int) : G5 [.v (.y a0 [(30, 2)]), .v (.y a1 [(8, 0)])] (AH.mk .e .h) yesK = some .n := by kernel_rfl
theorem eApLimits17 (a0 a1 : Int) : G5 [.v (.y a0 [(30, 2)]), .v (.y a1 [(8, 1)])] (AH.mk .e .h) yesK = some .n := by kernel_rfl
theorem eApLimits18 (a0 a1 : Int) : G5 [.v (.y a0 [(30, 2)]), .v (.y a1 [(8, 2)])] (AH.mk .e .h) yesK = some .n := by kernel_rfl
theorem eApLimits19 (a0 a1 : Int) : G5 [.v (.y a0 [(30, 2)]), .v (.y a1 [(8, 3)])] (AH.mk .e .h) yesK = some .n := by kernel_rfl
theorem eApLimits20 (a0 a1 : Int) : G5 [.v (.y a0 [(30, 2)]), .v (.y a1 [(8, 4)])] (AH.mk .e .h) yesK = some .n := by kernel_rfl
theorem eApLimits21 (a0 a1 : Int) : G5 [.v (.y a0 [(30, 2)]), .v (.y a1 [(8, 5)])] (AH.mk .e .h) yesK = some .n := by kernel_rfl
theorem eApLimits22 (a0 a1 : Int) : G5 [.v (.y a0 [(30, 2)]), .v (.y a1 [(8, 6)])] (AH.mk .e .h) yesK = some .n := by kernel_rfl
theorem eApLimits23 (a0 a1 : Int) : G5 [.v (.y a0 [(30, 2)]), .v (.y a1 [(8, 7)])] (AH.mk .e .h) yesK = some .n := by kernel_rfl
theorem eApLimits24 (a0 a1 : Int) : G5 [.v (.y a0 [(30, 3)]), .v (.y a1 [(8, 0)])] (AH.mk .e .h) yesK = some .n := by kernel_rfl
theorem eApLimits25 (a0 a1 : Int) : G5 [.v (.y a0 [(30, 3)]), .v (.y a1 [(8, 1)])] (AH.mk .e .h) yesK = some .n := by kernel_rfl
theorem eApLimits26 (a0 a1 : Int) : G5 [.v (.y a0 [(30, 3)]), .v (.y a1 [(8, 2)])] (AH.mk .e .h) yesK = some .n := by kernel_rfl
theorem eApLimits27 (a0 a1 : Int) : G5 [.v (.y a0 [(30, 3)]), .v (.y a1 [(8, 3)])] (AH.mk .e .h) yesK = some .n := by kernel_rfl
theorem eApLimits28 (a0 a1 : Int) : G5 [.v (.y a0 [(30, 3)]), .v (.y a1 [(8, 4)])] (AH.mk .e .h) yesK = some .n := by kernel_rfl
theorem eApLimits29 (a0 a1 : Int) : G5 [.v (.y a0 [(30, 3)]), .v (.y a1 [(8, 5)])] (AH.mk .e .h) yesK = some .n := by kernel_rfl
theorem eApLimits30 (a0 a1 : Int) : G5 [.v (.y a0 [(30, 3)]), .v (.y a1 [(8, 6)])] (AH.mk .e .h) yesK = some .n := by kernel_rfl
theorem eApLimits31 (a0 a1 : Int) : G5 [.v (.y a0 [(30, 3)]), .v (.y a1 [(8, 7)])] (AH.mk .e .h) yesK = some .n := by kernel_rfl
theorem eApLimits32 (a0 a1 : Int) : G5 [.v (.y a0 [(30, 4)]), .v (.y a1 [(8, 0)])] (AH.mk .e .h) yesK = some .n := by kernel_rfl
theorem eApLimits33 (a0 a1 : Int) : G5 [.v (.y a0 [(30, 4)]), .v (.y a1 [(8, 1)])] (AH.mk .e .h) yesK = some .n := by kernel_rfl
theorem eApLimits34 (a0 a1 : Int) : G5 [.v (.y a0 [(30, 4)]), .v (.y a1 [(8, 2)])] (AH.mk .e .h) yesK = some .n := by kernel_rfl
theorem eApLimits35 (a0 a1 : Int) : G5 [.v (.y a0 [(30, 4)]), .v (.y a1 [(8, 3)])] (AH.mk .e .h) yesK = some .n := by kernel_rfl
theorem eApLimits36 (a0 a1 : Int) : G5 [.v (.y a0 [(30, 4)]), .v (.y a1 [(8, 4)])] (AH.mk .e .h) yesK = some .n := by kernel_rfl
theorem eApLimits37 (a0 a1 : Int) : G5 [.v (.y a0 [(30, 4)]), .v (.y a1 [(8, 5)])] (AH.mk .e .h) yesK = some .n := by kernel_rfl
theorem eApLimits38 (a0 a1 : Int) : G5 [.v (.y a0 [(30, 4)]), .v (.y a1 [(8, 6)])] (AH.mk .e .h) yesK = some .n := by kernel_rfl
theorem eApLimits39 (a0 a1 : Int) : G5 [.v (.y a0 [(30, 4)]), .v (.y a1 [(8, 7)])] (AH.mk .e .h) yesK = some .n := by kernel_rfl
theorem eApLimits40 (a0 a1 : Int) : G5 [.v (.y a0 [(30, 5)]), .v (.y a1 [(8, 0)])] (AH.mk .e .h) yesK = some .n := by kernel_rfl
theorem eApLimits41 (a0 a1 : Int) : G5 [.v (.y a0 [(30, 5)]), .v (.y a1 [(8, 1)])] (AH.mk .e .h) yesK = some .n := by kernel_rfl
theorem eApLimits42 (a0 a1 : Int) : G5 [.v (.y a0 [(30, 5)]), .v (.y a1 [(8, 2)])] (AH.mk .e .h) yesK = some .n := by kernel_rfl
theorem eApLimits43 (a0 a1 : Int) : G5 [.v (.y a0 [(30, 5)]), .v (.y a1 [(8, 3)])] (AH.mk .e .h) yesK = some .n := by kernel_rfl
theorem eApLimits44 (a0 a1 : Int) : G5 [.v (.y a0 [(30, 5)]), .v (.y a1 [(8, 4)])] (AH.mk .e .h) yesK = some .n := by kernel_rfl
theorem eApLimits45 (a0 a1 : Int) : G5 [.v (.y a0 [(30, 5)]), .v (.y a1 [(8, 5)])] (AH.mk .e .h) yesK = some .n := by kernel_rfl
theorem eApLimits46 (a0 a1 : Int) : G5 [.v (.y a0 [(30, 5)]), .v (.y a1 [(8, 6)])] (AH.mk .e .h) yesK = some .n := by kernel_rfl
theorem eApLimits47 (a0 a1 : Int) : G5 [.v (.y a0 [(30, 5)]), .v (.y a1 [(8, 7)])] (AH.mk .e .h) yesK = some .n := by kernel_rfl
end Go.Proofs.YthooeildnkfpkaaGreatDoor
