/- The law ApLimits at cases of its arguments, reckoned by the abstract machine. -/
import Derived.Test.YthooeildnkfpkaaGreatDoorGgApLimitsD
import Derived.Test.YthooeildnkfpkaaGreatDoorAb17
set_option linter.unusedVariables false
set_option maxRecDepth 100000
set_option maxHeartbeats 0
namespace Go.Proofs.YthooeildnkfpkaaGreatDoor
open Go.Vc Go.Ab
theorem eApLimits144 (a0 a1 : Int) : G5 [.v (.y a0 [(30, 18)]), .v (.y a1 [(8, 0)])] (AH.mk .e .h) yesK = some .n := by kernel_rfl
theorem eApLimits145 (a0 a1 : Int) : G5 [.v (.y a0 [(30, 18)]), .v (.y a1 [(8, 1)])] (AH.mk .e .h) yesK = some .n := by kernel_rfl
theorem eApLimits146 (a0 a1 : Int) : G5 [.v (.y a0 [(30, 18)]), .v (.y a1 [(8, 2)])] (AH.mk .e .h) yesK = some .n := by kernel_rfl
theorem eApLimits147 (a0 a1 : Int) : G5 [.v (.y a0 [(30, 18)]), .v (.y a1 [(8, 3)])] (AH.mk .e .h) yesK = some .n := by kernel_rfl
theorem eApLimits148 (a0 a1 : Int) : G5 [.v (.y a0 [(30, 18)]), .v (.y a1 [(8, 4)])] (AH.mk .e .h) yesK = some .n := by kernel_rfl
theorem eApLimits149 (a0 a1 : Int) : G5 [.v (.y a0 [(30, 18)]), .v (.y a1 [(8, 5)])] (AH.mk .e .h) yesK = some .n := by kernel_rfl
theorem eApLimits150 (a0 a1 : Int) : G5 [.v (.y a0 [(30, 18)]), .v (.y a1 [(8, 6)])] (AH.mk .e .h) yesK = some .n := by kernel_rfl
theorem eApLimits151 (a0 a1 : Int) : G5 [.v (.y a0 [(30, 18)]), .v (.y a1 [(8, 7)])] (AH.mk .e .h) yesK = some .n := by kernel_rfl
theorem eApLimits152 (a0 a1 : Int) : G5 [.v (.y a0 [(30, 19)]), .v (.y a1 [(8, 0)])] (AH.mk .e .h) yesK = some .n := by kernel_rfl
theorem eApLimits153 (a0 a1 : Int) : G5 [.v (.y a0 [(30, 19)]), .v (.y a1 [(8, 1)])] (AH.mk .e .h) yesK = some .n := by kernel_rfl
theorem eApLimits154 (a0 a1 : Int) : G5 [.v (.y a0 [(30, 19)]), .v (.y a1 [(8, 2)])] (AH.mk .e .h) yesK = some .n := by kernel_rfl
theorem eApLimits155 (a0 a1 : Int) : G5 [.v (.y a0 [(30, 19)]), .v (.y a1 [(8, 3)])] (AH.mk .e .h) yesK = some .n := by kernel_rfl
theorem eApLimits156 (a0 a1 : Int) : G5 [.v (.y a0 [(30, 19)]), .v (.y a1 [(8, 4)])] (AH.mk .e .h) yesK = some .n := by kernel_rfl
theorem eApLimits157 (a0 a1 : Int) : G5 [.v (.y a0 [(30, 19)]), .v (.y a1 [(8, 5)])] (AH.mk .e .h) yesK = some .n := by kernel_rfl
theorem eApLimits158 (a0 a1 : Int) : G5 [.v (.y a0 [(30, 19)]), .v (.y a1 [(8, 6)])] (AH.mk .e .h) yesK = some .n := by kernel_rfl
theorem eApLimits159 (a0 a1 : Int) : G5 [.v (.y a0 [(30, 19)]), .v (.y a1 [(8, 7)])] (AH.mk .e .h) yesK = some .n := by kernel_rfl
theorem eApLimits160 (a0 a1 : Int) : G5 [.v (.y a0 [(30, 20)]), .v (.y a1 [(8, 0)])] (AH.mk .e .h) yesK = some .n := by kernel_rfl
theorem eApLimits161 (a0 a1 : Int) : G5 [.v (.y a0 [(30, 20)]), .v (.y a1 [(8, 1)])] (AH.mk .e .h) yesK = some .n := by kernel_rfl
theorem eApLimits162 (a0 a1 : Int) : G5 [.v (.y a0 [(30, 20)]), .v (.y a1 [(8, 2)])] (AH.mk .e .h) yesK = some .n := by kernel_rfl
theorem eApLimits163 (a0 a1 : Int) : G5 [.v (.y a0 [(30, 20)]), .v (.y a1 [(8, 3)])] (AH.mk .e .h) yesK = some .n := by kernel_rfl
theorem eApLimits164 (a0 a1 : Int) : G5 [.v (.y a0 [(30, 20)]), .v (.y a1 [(8, 4)])] (AH.mk .e .h) yesK = some .n := by kernel_rfl
theorem eApLimits165 (a0 a1 : Int) : G5 [.v (.y a0 [(30, 20)]), .v (.y a1 [(8, 5)])] (AH.mk .e .h) yesK = some .n := by kernel_rfl
theorem eApLimits166 (a0 a1 : Int) : G5 [.v (.y a0 [(30, 20)]), .v (.y a1 [(8, 6)])] (AH.mk .e .h) yesK = some .n := by kernel_rfl
theorem eApLimits167 (a0 a1 : Int) : G5 [.v (.y a0 [(30, 20)]), .v (.y a1 [(8, 7)])] (AH.mk .e .h) yesK = some .n := by kernel_rfl
theorem eApLimits168 (a0 a1 : Int) : G5 [.v (.y a0 [(30, 21)]), .v (.y a1 [(8, 0)])] (AH.mk .e .h) yesK = some .n := by kernel_rfl
theorem eApLimits169 (a0 a1 : Int) : G5 [.v (.y a0 [(30, 21)]), .v (.y a1 [(8, 1)])] (AH.mk .e .h) yesK = some .n := by kernel_rfl
theorem eApLimits170 (a0 a1 : Int) : G5 [.v (.y a0 [(30, 21)]), .v (.y a1 [(8, 2)])] (AH.mk .e .h) yesK = some .n := by kernel_rfl
theorem eApLimits171 (a0 a1 : Int) : G5 [.v (.y a0 [(30, 21)]), .v (.y a1 [(8, 3)])] (AH.mk .e .h) yesK = some .n := by kernel_rfl
theorem eApLimits172 (a0 a1 : Int) : G5 [.v (.y a0 [(30, 21)]), .v (.y a1 [(8, 4)])] (AH.mk .e .h) yesK = some .n := by kernel_rfl
theorem eApLimits173 (a0 a1 : Int) : G5 [.v (.y a0 [(30, 21)]), .v (.y a1 [(8, 5)])] (AH.mk .e .h) yesK = some .n := by kernel_rfl
theorem eApLimits174 (a0 a1 : Int) : G5 [.v (.y a0 [(30, 21)]), .v (.y a1 [(8, 6)])] (AH.mk .e .h) yesK = some .n := by kernel_rfl
theorem eApLimits175 (a0 a1 : Int) : G5 [.v (.y a0 [(30, 21)]), .v (.y a1 [(8, 7)])] (AH.mk .e .h) yesK = some .n := by kernel_rfl
end Go.Proofs.YthooeildnkfpkaaGreatDoor
