/- The law ApLimits at cases of its arguments, reckoned by the abstract machine. -/
import Derived.Test.YthooeildnkfpkaaGreatDoorGgApLimitsD
import Derived.Test.YthooeildnkfpkaaGreatDoorAb17
set_option linter.unusedVariables false
set_option maxRecDepth 100000
set_option maxHeartbeats 0
namespace Go.Proofs.YthooeildnkfpkaaGreatDoor
open Go.Vc Go.Ab
theorem eApLimits96 (a0 a1 : Int) : G5 [.v (.y a0 [(30, 12)]), .v (.y a1 [(8, 0)])] (AH.mk .e .h) yesK = some .n := by kernel_rfl
theorem eApLimits97 (a0 a1 : Int) : G5 [.v (.y a0 [(30, 12)]), .v (.y a1 [(8, 1)])] (AH.mk .e .h) yesK = some .n := by kernel_rfl
theorem eApLimits98 (a0 a1 : Int) : G5 [.v (.y a0 [(30, 12)]), .v (.y a1 [(8, 2)])] (AH.mk .e .h) yesK = some .n := by kernel_rfl
theorem eApLimits99 (a0 a1 : Int) : G5 [.v (.y a0 [(30, 12)]), .v (.y a1 [(8, 3)])] (AH.mk .e .h) yesK = some .n := by kernel_rfl
theorem eApLimits100 (a0 a1 : Int) : G5 [.v (.y a0 [(30, 12)]), .v (.y a1 [(8, 4)])] (AH.mk .e .h) yesK = some .n := by kernel_rfl
theorem eApLimits101 (a0 a1 : Int) : G5 [.v (.y a0 [(30, 12)]), .v (.y a1 [(8, 5)])] (AH.mk .e .h) yesK = some .n := by kernel_rfl
theorem eApLimits102 (a0 a1 : Int) : G5 [.v (.y a0 [(30, 12)]), .v (.y a1 [(8, 6)])] (AH.mk .e .h) yesK = some .n := by kernel_rfl
theorem eApLimits103 (a0 a1 : Int) : G5 [.v (.y a0 [(30, 12)]), .v (.y a1 [(8, 7)])] (AH.mk .e .h) yesK = some .n := by kernel_rfl
theorem eApLimits104 (a0 a1 : Int) : G5 [.v (.y a0 [(30, 13)]), .v (.y a1 [(8, 0)])] (AH.mk .e .h) yesK = some .n := by kernel_rfl
theorem eApLimits105 (a0 a1 : Int) : G5 [.v (.y a0 [(30, 13)]), .v (.y a1 [(8, 1)])] (AH.mk .e .h) yesK = some .n := by kernel_rfl
theorem eApLimits106 (a0 a1 : Int) : G5 [.v (.y a0 [(30, 13)]), .v (.y a1 [(8, 2)])] (AH.mk .e .h) yesK = some .n := by kernel_rfl
theorem eApLimits107 (a0 a1 : Int) : G5 [.v (.y a0 [(30, 13)]), .v (.y a1 [(8, 3)])] (AH.mk .e .h) yesK = some .n := by kernel_rfl
theorem eApLimits108 (a0 a1 : Int) : G5 [.v (.y a0 [(30, 13)]), .v (.y a1 [(8, 4)])] (AH.mk .e .h) yesK = some .n := by kernel_rfl
theorem eApLimits109 (a0 a1 : Int) : G5 [.v (.y a0 [(30, 13)]), .v (.y a1 [(8, 5)])] (AH.mk .e .h) yesK = some .n := by kernel_rfl
theorem eApLimits110 (a0 a1 : Int) : G5 [.v (.y a0 [(30, 13)]), .v (.y a1 [(8, 6)])] (AH.mk .e .h) yesK = some .n := by kernel_rfl
theorem eApLimits111 (a0 a1 : Int) : G5 [.v (.y a0 [(30, 13)]), .v (.y a1 [(8, 7)])] (AH.mk .e .h) yesK = some .n := by kernel_rfl
theorem eApLimits112 (a0 a1 : Int) : G5 [.v (.y a0 [(30, 14)]), .v (.y a1 [(8, 0)])] (AH.mk .e .h) yesK = some .n := by kernel_rfl
theorem eApLimits113 (a0 a1 : Int) : G5 [.v (.y a0 [(30, 14)]), .v (.y a1 [(8, 1)])] (AH.mk .e .h) yesK = some .n := by kernel_rfl
theorem eApLimits114 (a0 a1 : Int) : G5 [.v (.y a0 [(30, 14)]), .v (.y a1 [(8, 2)])] (AH.mk .e .h) yesK = some .n := by kernel_rfl
theorem eApLimits115 (a0 a1 : Int) : G5 [.v (.y a0 [(30, 14)]), .v (.y a1 [(8, 3)])] (AH.mk .e .h) yesK = some .n := by kernel_rfl
theorem eApLimits116 (a0 a1 : Int) : G5 [.v (.y a0 [(30, 14)]), .v (.y a1 [(8, 4)])] (AH.mk .e .h) yesK = some .n := by kernel_rfl
theorem eApLimits117 (a0 a1 : Int) : G5 [.v (.y a0 [(30, 14)]), .v (.y a1 [(8, 5)])] (AH.mk .e .h) yesK = some .n := by kernel_rfl
theorem eApLimits118 (a0 a1 : Int) : G5 [.v (.y a0 [(30, 14)]), .v (.y a1 [(8, 6)])] (AH.mk .e .h) yesK = some .n := by kernel_rfl
theorem eApLimits119 (a0 a1 : Int) : G5 [.v (.y a0 [(30, 14)]), .v (.y a1 [(8, 7)])] (AH.mk .e .h) yesK = some .n := by kernel_rfl
theorem eApLimits120 (a0 a1 : Int) : G5 [.v (.y a0 [(30, 15)]), .v (.y a1 [(8, 0)])] (AH.mk .e .h) yesK = some .n := by kernel_rfl
theorem eApLimits121 (a0 a1 : Int) : G5 [.v (.y a0 [(30, 15)]), .v (.y a1 [(8, 1)])] (AH.mk .e .h) yesK = some .n := by kernel_rfl
theorem eApLimits122 (a0 a1 : Int) : G5 [.v (.y a0 [(30, 15)]), .v (.y a1 [(8, 2)])] (AH.mk .e .h) yesK = some .n := by kernel_rfl
theorem eApLimits123 (a0 a1 : Int) : G5 [.v (.y a0 [(30, 15)]), .v (.y a1 [(8, 3)])] (AH.mk .e .h) yesK = some .n := by kernel_rfl
theorem eApLimits124 (a0 a1 : Int) : G5 [.v (.y a0 [(30, 15)]), .v (.y a1 [(8, 4)])] (AH.mk .e .h) yesK = some .n := by kernel_rfl
theorem eApLimits125 (a0 a1 : Int) : G5 [.v (.y a0 [(30, 15)]), .v (.y a1 [(8, 5)])] (AH.mk .e .h) yesK = some .n := by kernel_rfl
theorem eApLimits126 (a0 a1 : Int) : G5 [.v (.y a0 [(30, 15)]), .v (.y a1 [(8, 6)])] (AH.mk .e .h) yesK = some .n := by kernel_rfl
theorem eApLimits127 (a0 a1 : Int) : G5 [.v (.y a0 [(30, 15)]), .v (.y a1 [(8, 7)])] (AH.mk .e .h) yesK = some .n := by kernel_rfl
theorem eApLimits128 (a0 a1 : Int) : G5 [.v (.y a0 [(30, 16)]), .v (.y a1 [(8, 0)])] (AH.mk .e .h) yesK = some .n := by kernel_rfl
theorem eApLimits129 (a0 a1 : Int) : G5 [.v (.y a0 [(30, 16)]), .v (.y a1 [(8, 1)])] (AH.mk .e .h) yesK = some .n := by kernel_rfl
theorem eApLimits130 (a0 a1 : Int) : G5 [.v (.y a0 [(30, 16)]), .v (.y a1 [(8, 2)])] (AH.mk .e .h) yesK = some .n := by kernel_rfl
theorem eApLimits131 (a0 a1 : Int) : G5 [.v (.y a0 [(30, 16)]), .v (.y a1 [(8, 3)])] (AH.mk .e .h) yesK = some .n := by kernel_rfl
theorem eApLimits132 (a0 a1 : Int) : G5 [.v (.y a0 [(30, 16)]), .v (.y a1 [(8, 4)])] (AH.mk .e .h) yesK = some .n := by kernel_rfl
theorem eApLimits133 (a0 a1 : Int) : G5 [.v (.y a0 [(30, 16)]), .v (.y a1 [(8, 5)])] (AH.mk .e .h) yesK = some .n := by kernel_rfl
theorem eApLimits134 (a0 a1 : Int) : G5 [.v (.y a0 [(30, 16)]), .v (.y a1 [(8, 6)])] (AH.mk .e .h) yesK = some .n := by kernel_rfl
theorem eApLimits135 (a0 a1 : Int) : G5 [.v (.y a0 [(30, 16)]), .v (.y a1 [(8, 7)])] (AH.mk .e .h) yesK = some .n := by kernel_rfl
theorem eApLimits136 (a0 a1 : Int) : G5 [.v (.y a0 [(30, 17)]), .v (.y a1 [(8, 0)])] (AH.mk .e .h) yesK = some .n := by kernel_rfl
theorem eApLimits137 (a0 a1 : Int) : G5 [.v (.y a0 [(30, 17)]), .v (.y a1 [(8, 1)])] (AH.mk .e .h) yesK = some .n := by kernel_rfl
theorem eApLimits138 (a0 a1 : Int) : G5 [.v (.y a0 [(30, 17)]), .v (.y a1 [(8, 2)])] (AH.mk .e .h) yesK = some .n := by kernel_rfl
theorem eApLimits139 (a0 a1 : Int) : G5 [.v (.y a0 [(30, 17)]), .v (.y a1 [(8, 3)])] (AH.mk .e .h) yesK = some .n := by kernel_rfl
theorem eApLimits140 (a0 a1 : Int) : G5 [.v (.y a0 [(30, 17)]), .v (.y a1 [(8, 4)])] (AH.mk .e .h) yesK = some .n := by kernel_rfl
theorem eApLimits141 (a0 a1 : Int) : G5 [.v (.y a0 [(30, 17)]), .v (.y a1 [(8, 5)])] (AH.mk .e .h) yesK = some .n := by kernel_rfl
theorem eApLimits142 (a0 a1 : Int) : G5 [.v (.y a0 [(30, 17)]), .v (.y a1 [(8, 6)])] (AH.mk .e .h) yesK = some .n := by kernel_rfl
theorem eApLimits143 (a0 a1 : Int) : G5 [.v (.y a0 [(30, 17)]), .v (.y a1 [(8, 7)])] (AH.mk .e .h) yesK = some .n := by kernel_rfl
end Go.Proofs.YthooeildnkfpkaaGreatDoor
