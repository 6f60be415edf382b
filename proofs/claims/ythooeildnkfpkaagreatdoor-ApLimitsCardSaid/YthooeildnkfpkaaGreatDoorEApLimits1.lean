/- The law ApLimits at cases of its arguments, reckoned by the abstract machine. -/
import Derived.Test.YthooeildnkfpkaaGreatDoorGgApLimitsD
import Derived.Test.YthooeildnkfpkaaGreatDoorAb17
set_option linter.unusedVariables false
set_option maxRecDepth 100000
set_option maxHeartbeats 0
namespace Go.Proofs.YthooeildnkfpkaaGreatDoor
open Go.Vc Go.Ab
theorem eApLimits48 (a0 a1 : Int) : G5 [.v (.y a0 [(30, 6)]), .v (.y a1 [(8, 0)])] (AH.mk .e .h) yesK = some .n := by kernel_rfl
theorem eApLimits49 (a0 a1 : Int) : G5 [.v (.y a0 [(30, 6)]), .v (.y a1 [(8, 1)])] (AH.mk .e .h) yesK = some .n := by kernel_rfl
theorem eApLimits50 (a0 a1 : Int) : G5 [.v (.y a0 [(30, 6)]), .v (.y a1 [(8, 2)])] (AH.mk .e .h) yesK = some .n := by kernel_rfl
theorem eApLimits51 (a0 a1 : Int) : G5 [.v (.y a0 [(30, 6)]), .v (.y a1 [(8, 3)])] (AH.mk .e .h) yesK = some .n := by kernel_rfl
theorem eApLimits52 (a0 a1 : Int) : G5 [.v (.y a0 [(30, 6)]), .v (.y a1 [(8, 4)])] (AH.mk .e .h) yesK = some .n := by kernel_rfl
theorem eApLimits53 (a0 a1 : Int) : G5 [.v (.y a0 [(30, 6)]), .v (.y a1 [(8, 5)])] (AH.mk .e .h) yesK = some .n := by kernel_rfl
theorem eApLimits54 (a0 a1 : Int) : G5 [.v (.y a0 [(30, 6)]), .v (.y a1 [(8, 6)])] (AH.mk .e .h) yesK = some .n := by kernel_rfl
theorem eApLimits55 (a0 a1 : Int) : G5 [.v (.y a0 [(30, 6)]), .v (.y a1 [(8, 7)])] (AH.mk .e .h) yesK = some .n := by kernel_rfl
theorem eApLimits56 (a0 a1 : Int) : G5 [.v (.y a0 [(30, 7)]), .v (.y a1 [(8, 0)])] (AH.mk .e .h) yesK = some .n := by kernel_rfl
theorem eApLimits57 (a0 a1 : Int) : G5 [.v (.y a0 [(30, 7)]), .v (.y a1 [(8, 1)])] (AH.mk .e .h) yesK = some .n := by kernel_rfl
theorem eApLimits58 (a0 a1 : Int) : G5 [.v (.y a0 [(30, 7)]), .v (.y a1 [(8, 2)])] (AH.mk .e .h) yesK = some .n := by kernel_rfl
theorem eApLimits59 (a0 a1 : Int) : G5 [.v (.y a0 [(30, 7)]), .v (.y a1 [(8, 3)])] (AH.mk .e .h) yesK = some .n := by kernel_rfl
theorem eApLimits60 (a0 a1 : Int) : G5 [.v (.y a0 [(30, 7)]), .v (.y a1 [(8, 4)])] (AH.mk .e .h) yesK = some .n := by kernel_rfl
theorem eApLimits61 (a0 a1 : Int) : G5 [.v (.y a0 [(30, 7)]), .v (.y a1 [(8, 5)])] (AH.mk .e .h) yesK = some .n := by kernel_rfl
theorem eApLimits62 (a0 a1 : Int) : G5 [.v (.y a0 [(30, 7)]), .v (.y a1 [(8, 6)])] (AH.mk .e .h) yesK = some .n := by kernel_rfl
theorem eApLimits63 (a0 a1 : Int) : G5 [.v (.y a0 [(30, 7)]), .v (.y a1 [(8, 7)])] (AH.mk .e .h) yesK = some .n := by kernel_rfl
theorem eApLimits64 (a0 a1 : Int) : G5 [.v (.y a0 [(30, 8)]), .v (.y a1 [(8, 0)])] (AH.mk .e .h) yesK = some .n := by kernel_rfl
theorem eApLimits65 (a0 a1 : Int) : G5 [.v (.y a0 [(30, 8)]), .v (.y a1 [(8, 1)])] (AH.mk .e .h) yesK = some .n := by kernel_rfl
theorem eApLimits66 (a0 a1 : Int) : G5 [.v (.y a0 [(30, 8)]), .v (.y a1 [(8, 2)])] (AH.mk .e .h) yesK = some .n := by kernel_rfl
theorem eApLimits67 (a0 a1 : Int) : G5 [.v (.y a0 [(30, 8)]), .v (.y a1 [(8, 3)])] (AH.mk .e .h) yesK = some .n := by kernel_rfl
theorem eApLimits68 (a0 a1 : Int) : G5 [.v (.y a0 [(30, 8)]), .v (.y a1 [(8, 4)])] (AH.mk .e .h) yesK = some .n := by kernel_rfl
theorem eApLimits69 (a0 a1 : Int) : G5 [.v (.y a0 [(30, 8)]), .v (.y a1 [(8, 5)])] (AH.mk .e .h) yesK = some .n := by kernel_rfl
theorem eApLimits70 (a0 a1 : Int) : G5 [.v (.y a0 [(30, 8)]), .v (.y a1 [(8, 6)])] (AH.mk .e .h) yesK = some .n := by kernel_rfl
theorem eApLimits71 (a0 a1 : Int) : G5 [.v (.y a0 [(30, 8)]), .v (.y a1 [(8, 7)])] (AH.mk .e .h) yesK = some .n := by kernel_rfl
theorem eApLimits72 (a0 a1 : Int) : G5 [.v (.y a0 [(30, 9)]), .v (.y a1 [(8, 0)])] (AH.mk .e .h) yesK = some .n := by kernel_rfl
theorem eApLimits73 (a0 a1 : Int) : G5 [.v (.y a0 [(30, 9)]), .v (.y a1 [(8, 1)])] (AH.mk .e .h) yesK = some .n := by kernel_rfl
theorem eApLimits74 (a0 a1 : Int) : G5 [.v (.y a0 [(30, 9)]), .v (.y a1 [(8, 2)])] (AH.mk .e .h) yesK = some .n := by kernel_rfl
theorem eApLimits75 (a0 a1 : Int) : G5 [.v (.y a0 [(30, 9)]), .v (.y a1 [(8, 3)])] (AH.mk .e .h) yesK = some .n := by kernel_rfl
theorem eApLimits76 (a0 a1 : Int) : G5 [.v (.y a0 [(30, 9)]), .v (.y a1 [(8, 4)])] (AH.mk .e .h) yesK = some .n := by kernel_rfl
theorem eApLimits77 (a0 a1 : Int) : G5 [.v (.y a0 [(30, 9)]), .v (.y a1 [(8, 5)])] (AH.mk .e .h) yesK = some .n := by kernel_rfl
theorem eApLimits78 (a0 a1 : Int) : G5 [.v (.y a0 [(30, 9)]), .v (.y a1 [(8, 6)])] (AH.mk .e .h) yesK = some .n := by kernel_rfl
theorem eApLimits79 (a0 a1 : Int) : G5 [.v (.y a0 [(30, 9)]), .v (.y a1 [(8, 7)])] (AH.mk .e .h) yesK = some .n := by kernel_rfl
theorem eApLimits80 (a0 a1 : Int) : G5 [.v (.y a0 [(30, 10)]), .v (.y a1 [(8, 0)])] (AH.mk .e .h) yesK = some .n := by kernel_rfl
theorem eApLimits81 (a0 a1 : Int) : G5 [.v (.y a0 [(30, 10)]), .v (.y a1 [(8, 1)])] (AH.mk .e .h) yesK = some .n := by kernel_rfl
theorem eApLimits82 (a0 a1 : Int) : G5 [.v (.y a0 [(30, 10)]), .v (.y a1 [(8, 2)])] (AH.mk .e .h) yesK = some .n := by kernel_rfl
theorem eApLimits83 (a0 a1 : Int) : G5 [.v (.y a0 [(30, 10)]), .v (.y a1 [(8, 3)])] (AH.mk .e .h) yesK = some .n := by kernel_rfl
theorem eApLimits84 (a0 a1 : Int) : G5 [.v (.y a0 [(30, 10)]), .v (.y a1 [(8, 4)])] (AH.mk .e .h) yesK = some .n := by kernel_rfl
theorem eApLimits85 (a0 a1 : Int) : G5 [.v (.y a0 [(30, 10)]), .v (.y a1 [(8, 5)])] (AH.mk .e .h) yesK = some .n := by kernel_rfl
theorem eApLimits86 (a0 a1 : Int) : G5 [.v (.y a0 [(30, 10)]), .v (.y a1 [(8, 6)])] (AH.mk .e .h) yesK = some .n := by kernel_rfl
theorem eApLimits87 (a0 a1 : Int) : G5 [.v (.y a0 [(30, 10)]), .v (.y a1 [(8, 7)])] (AH.mk .e .h) yesK = some .n := by kernel_rfl
theorem eApLimits88 (a0 a1 : Int) : G5 [.v (.y a0 [(30, 11)]), .v (.y a1 [(8, 0)])] (AH.mk .e .h) yesK = some .n := by kernel_rfl
theorem eApLimits89 (a0 a1 : Int) : G5 [.v (.y a0 [(30, 11)]), .v (.y a1 [(8, 1)])] (AH.mk .e .h) yesK = some .n := by kernel_rfl
theorem eApLimits90 (a0 a1 : Int) : G5 [.v (.y a0 [(30, 11)]), .v (.y a1 [(8, 2)])] (AH.mk .e .h) yesK = some .n := by kernel_rfl
theorem eApLimits91 (a0 a1 : Int) : G5 [.v (.y a0 [(30, 11)]), .v (.y a1 [(8, 3)])] (AH.mk .e .h) yesK = some .n := by kernel_rfl
theorem eApLimits92 (a0 a1 : Int) : G5 [.v (.y a0 [(30, 11)]), .v (.y a1 [(8, 4)])] (AH.mk .e .h) yesK = some .n := by kernel_rfl
theorem eApLimits93 (a0 a1 : Int) : G5 [.v (.y a0 [(30, 11)]), .v (.y a1 [(8, 5)])] (AH.mk .e .h) yesK = some .n := by kernel_rfl
theorem eApLimits94 (a0 a1 : Int) : G5 [.v (.y a0 [(30, 11)]), .v (.y a1 [(8, 6)])] (AH.mk .e .h) yesK = some .n := by kernel_rfl
theorem eApLimits95 (a0 a1 : Int) : G5 [.v (.y a0 [(30, 11)]), .v (.y a1 [(8, 7)])] (AH.mk .e .h) yesK = some .n := by kernel_rfl
end Go.Proofs.YthooeildnkfpkaaGreatDoor
