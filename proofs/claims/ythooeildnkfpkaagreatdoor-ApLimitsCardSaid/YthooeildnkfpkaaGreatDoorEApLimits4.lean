/- The law ApLimits at cases of its arguments, reckoned by the abstract machine. -/
import Derived.Test.YthooeildnkfpkaaGreatDoorGgApLimitsD
import Derived.Test.YthooeildnkfpkaaGreatDoorAb17
set_option linter.unusedVariables false
set_option maxRecDepth 100000
set_option maxHeartbeats 0
namespace Go.Proofs.YthooeildnkfpkaaGreatDoor
open Go.Vc Go.Ab
theorem eApLimits176 (a0 a1 : Int) : G5 [.v (.y a0 [(30, 22)]), .v (.y a1 [(8, 0)])] (AH.mk .e .h) yesK = some .n := by kernel_rfl
theorem eApLimits177 (a0 a1 : Int) : G5 [.v (.y a0 [(30, 22)]), .v (.y a1 [(8, 1)])] (AH.mk .e .h) yesK = some .n := by kernel_rfl
theorem eApLimits178 (a0 a1 : Int) : G5 [.v (.y a0 [(30, 22)]), .v (.y a1 [(8, 2)])] (AH.mk .e .h) yesK = some .n := by kernel_rfl
theorem eApLimits179 (a0 a1 : Int) : G5 [.v (.y a0 [(30, 22)]), .v (.y a1 [(8, 3)])] (AH.mk .e .h) yesK = some .n := by kernel_rfl
theorem eApLimits180 (a0 a1 : Int) : G5 [.v (.y a0 [(30, 22)]), .v (.y a1 [(8, 4)])] (AH.mk .e .h) yesK = some .n := by kernel_rfl
theorem eApLimits181 (a0 a1 : Int) : G5 [.v (.y a0 [(30, 22)]), .v (.y a1 [(8, 5)])] (AH.mk .e .h) yesK = some .n := by kernel_rfl
theorem eApLimits182 (a0 a1 : Int) : G5 [.v (.y a0 [(30, 22)]), .v (.y a1 [(8, 6)])] (AH.mk .e .h) yesK = some .n := by kernel_rfl
theorem eApLimits183 (a0 a1 : Int) : G5 [.v (.y a0 [(30, 22)]), .v (.y a1 [(8, 7)])] (AH.mk .e .h) yesK = some .n := by kernel_rfl
theorem eApLimits184 (a0 a1 : Int) : G5 [.v (.y a0 [(30, 23)]), .v (.y a1 [(8, 0)])] (AH.mk .e .h) yesK = some .n := by kernel_rfl
theorem eApLimits185 (a0 a1 : Int) : G5 [.v (.y a0 [(30, 23)]), .v (.y a1 [(8, 1)])] (AH.mk .e .h) yesK = some .n := by kernel_rfl
theorem eApLimits186 (a0 a1 : Int) : G5 [.v (.y a0 [(30, 23)]), .v (.y a1 [(8, 2)])] (AH.mk .e .h) yesK = some .n := by kernel_rfl
theorem eApLimits187 (a0 a1 : Int) : G5 [.v (.y a0 [(30, 23)]), .v (.y a1 [(8, 3)])] (AH.mk .e .h) yesK = some .n := by kernel_rfl
theorem eApLimits188 (a0 a1 : Int) : G5 [.v (.y a0 [(30, 23)]), .v (.y a1 [(8, 4)])] (AH.mk .e .h) yesK = some .n := by kernel_rfl
theorem eApLimits189 (a0 a1 : Int) : G5 [.v (.y a0 [(30, 23)]), .v (.y a1 [(8, 5)])] (AH.mk .e .h) yesK = some .n := by kernel_rfl
theorem eApLimits190 (a0 a1 : Int) : G5 [.v (.y a0 [(30, 23)]), .v (.y a1 [(8, 6)])] (AH.mk .e .h) yesK = some .n := by kernel_rfl
theorem eApLimits191 (a0 a1 : Int) : G5 [.v (.y a0 [(30, 23)]), .v (.y a1 [(8, 7)])] (AH.mk .e .h) yesK = some .n := by kernel_rfl
theorem eApLimits192 (a0 a1 : Int) : G5 [.v (.y a0 [(30, 24)]), .v (.y a1 [(8, 0)])] (AH.mk .e .h) yesK = some .n := by kernel_rfl
theorem eApLimits193 (a0 a1 : Int) : G5 [.v (.y a0 [(30, 24)]), .v (.y a1 [(8, 1)])] (AH.mk .e .h) yesK = some .n := by kernel_rfl
theorem eApLimits194 (a0 a1 : Int) : G5 [.v (.y a0 [(30, 24)]), .v (.y a1 [(8, 2)])] (AH.mk .e .h) yesK = some .n := by kernel_rfl
theorem eApLimits195 (a0 a1 : Int) : G5 [.v (.y a0 [(30, 24)]), .v (.y a1 [(8, 3)])] (AH.mk .e .h) yesK = some .n := by kernel_rfl
theorem eApLimits196 (a0 a1 : Int) : G5 [.v (.y a0 [(30, 24)]), .v (.y a1 [(8, 4)])] (AH.mk .e .h) yesK = some .n := by kernel_rfl
theorem eApLimits197 (a0 a1 : Int) : G5 [.v (.y a0 [(30, 24)]), .v (.y a1 [(8, 5)])] (AH.mk .e .h) yesK = some .n := by kernel_rfl
theorem eApLimits198 (a0 a1 : Int) : G5 [.v (.y a0 [(30, 24)]), .v (.y a1 [(8, 6)])] (AH.mk .e .h) yesK = some .n := by kernel_rfl
theorem eApLimits199 (a0 a1 : Int) : G5 [.v (.y a0 [(30, 24)]), .v (.y a1 [(8, 7)])] (AH.mk .e .h) yesK = some .n := by kernel_rfl
theorem eApLimits200 (a0 a1 : Int) : G5 [.v (.y a0 [(30, 25)]), .v (.y a1 [(8, 0)])] (AH.mk .e .h) yesK = some .n := by kernel_rfl
theorem eApLimits201 (a0 a1 : Int) : G5 [.v (.y a0 [(30, 25)]), .v (.y a1 [(8, 1)])] (AH.mk .e .h) yesK = some .n := by kernel_rfl
theorem eApLimits202 (a0 a1 : Int) : G5 [.v (.y a0 [(30, 25)]), .v (.y a1 [(8, 2)])] (AH.mk .e .h) yesK = some .n := by kernel_rfl
theorem eApLimits203 (a0 a1 : Int) : G5 [.v (.y a0 [(30, 25)]), .v (.y a1 [(8, 3)])] (AH.mk .e .h) yesK = some .n := by kernel_rfl
theorem eApLimits204 (a0 a1 : Int) : G5 [.v (.y a0 [(30, 25)]), .v (.y a1 [(8, 4)])] (AH.mk .e .h) yesK = some .n := by kernel_rfl
theorem eApLimits205 (a0 a1 : Int) : G5 [.v (.y a0 [(30, 25)]), .v (.y a1 [(8, 5)])] (AH.mk .e .h) yesK = some .n := by kernel_rfl
theorem eApLimits206 (a0 a1 : Int) : G5 [.v (.y a0 [(30, 25)]), .v (.y a1 [(8, 6)])] (AH.mk .e .h) yesK = some .n := by kernel_rfl
theorem eApLimits207 (a0 a1 : Int) : G5 [.v (.y a0 [(30, 25)]), .v (.y a1 [(8, 7)])] (AH.mk .e .h) yesK = some .n := by kernel_rfl
end Go.Proofs.YthooeildnkfpkaaGreatDoor
