/- The law ApSleeps at cases of its arguments, reckoned by the abstract machine. -/
import Derived.Test.YthooeildnkfpkaaGreatDoorGgApSleepsD
import Derived.Test.YthooeildnkfpkaaGreatDoorAb17
set_option linter.unusedVariables false
set_option maxRecDepth 100000
set_option maxHeartbeats 0
namespace Go.Proofs.YthooeildnkfpkaaGreatDoor
open Go.Vc Go.Ab
theorem eApSleeps144 (a0 a1 a2 : Int) : G4 [.v (.y a0 [(8, 6)]), .v (.y a1 [(8, 0)]), .v (.y a2 [(3, 0)])] (AH.mk .e .h) yesK = some .n := by kernel_rfl
theorem eApSleeps145 (a0 a1 a2 : Int) : G4 [.v (.y a0 [(8, 6)]), .v (.y a1 [(8, 0)]), .v (.y a2 [(3, 1)])] (AH.mk .e .h) yesK = some .n := by kernel_rfl
theorem eApSleeps146 (a0 a1 a2 : Int) : G4 [.v (.y a0 [(8, 6)]), .v (.y a1 [(8, 0)]), .v (.y a2 [(3, 2)])] (AH.mk .e .h) yesK = some .n := by kernel_rfl
theorem eApSleeps147 (a0 a1 a2 : Int) : G4 [.v (.y a0 [(8, 6)]), .v (.y a1 [(8, 1)]), .v (.y a2 [(3, 0)])] (AH.mk .e .h) yesK = some .n := by kernel_rfl
theorem eApSleeps148 (a0 a1 a2 : Int) : G4 [.v (.y a0 [(8, 6)]), .v (.y a1 [(8, 1)]), .v (.y a2 [(3, 1)])] (AH.mk .e .h) yesK = some .n := by kernel_rfl
theorem eApSleeps149 (a0 a1 a2 : Int) : G4 [.v (.y a0 [(8, 6)]), .v (.y a1 [(8, 1)]), .v (.y a2 [(3, 2)])] (AH.mk .e .h) yesK = some .n := by kernel_rfl
theorem eApSleeps150 (a0 a1 a2 : Int) : G4 [.v (.y a0 [(8, 6)]), .v (.y a1 [(8, 2)]), .v (.y a2 [(3, 0)])] (AH.mk .e .h) yesK = some .n := by kernel_rfl
theorem eApSleeps151 (a0 a1 a2 : Int) : G4 [.v (.y a0 [(8, 6)]), .v (.y a1 [(8, 2)]), .v (.y a2 [(3, 1)])] (AH.mk .e .h) yesK = some .n := by kernel_rfl
theorem eApSleeps152 (a0 a1 a2 : Int) : G4 [.v (.y a0 [(8, 6)]), .v (.y a1 [(8, 2)]), .v (.y a2 [(3, 2)])] (AH.mk .e .h) yesK = some .n := by kernel_rfl
theorem eApSleeps153 (a0 a1 a2 : Int) : G4 [.v (.y a0 [(8, 6)]), .v (.y a1 [(8, 3)]), .v (.y a2 [(3, 0)])] (AH.mk .e .h) yesK = some .n := by kernel_rfl
theorem eApSleeps154 (a0 a1 a2 : Int) : G4 [.v (.y a0 [(8, 6)]), .v (.y a1 [(8, 3)]), .v (.y a2 [(3, 1)])] (AH.mk .e .h) yesK = some .n := by kernel_rfl
theorem eApSleeps155 (a0 a1 a2 : Int) : G4 [.v (.y a0 [(8, 6)]), .v (.y a1 [(8, 3)]), .v (.y a2 [(3, 2)])] (AH.mk .e .h) yesK = some .n := by kernel_rfl
theorem eApSleeps156 (a0 a1 a2 : Int) : G4 [.v (.y a0 [(8, 6)]), .v (.y a1 [(8, 4)]), .v (.y a2 [(3, 0)])] (AH.mk .e .h) yesK = some .n := by kernel_rfl
theorem eApSleeps157 (a0 a1 a2 : Int) : G4 [.v (.y a0 [(8, 6)]), .v (.y a1 [(8, 4)]), .v (.y a2 [(3, 1)])] (AH.mk .e .h) yesK = some .n := by kernel_rfl
theorem eApSleeps158 (a0 a1 a2 : Int) : G4 [.v (.y a0 [(8, 6)]), .v (.y a1 [(8, 4)]), .v (.y a2 [(3, 2)])] (AH.mk .e .h) yesK = some .n := by kernel_rfl
theorem eApSleeps159 (a0 a1 a2 : Int) : G4 [.v (.y a0 [(8, 6)]), .v (.y a1 [(8, 5)]), .v (.y a2 [(3, 0)])] (AH.mk .e .h) yesK = some .n := by kernel_rfl
theorem eApSleeps160 (a0 a1 a2 : Int) : G4 [.v (.y a0 [(8, 6)]), .v (.y a1 [(8, 5)]), .v (.y a2 [(3, 1)])] (AH.mk .e .h) yesK = some .n := by kernel_rfl
theorem eApSleeps161 (a0 a1 a2 : Int) : G4 [.v (.y a0 [(8, 6)]), .v (.y a1 [(8, 5)]), .v (.y a2 [(3, 2)])] (AH.mk .e .h) yesK = some .n := by kernel_rfl
theorem eApSleeps162 (a0 a1 a2 : Int) : G4 [.v (.y a0 [(8, 6)]), .v (.y a1 [(8, 6)]), .v (.y a2 [(3, 0)])] (AH.mk .e .h) yesK = some .n := by kernel_rfl
theorem eApSleeps163 (a0 a1 a2 : Int) : G4 [.v (.y a0 [(8, 6)]), .v (.y a1 [(8, 6)]), .v (.y a2 [(3, 1)])] (AH.mk .e .h) yesK = some .n := by kernel_rfl
theorem eApSleeps164 (a0 a1 a2 : Int) : G4 [.v (.y a0 [(8, 6)]), .v (.y a1 [(8, 6)]), .v (.y a2 [(3, 2)])] (AH.mk .e .h) yesK = some .n := by kernel_rfl
theorem eApSleeps165 (a0 a1 a2 : Int) : G4 [.v (.y a0 [(8, 6)]), .v (.y a1 [(8, 7)]), .v (.y a2 [(3, 0)])] (AH.mk .e .h) yesK = some .n := by kernel_rfl
theorem eApSleeps166 (a0 a1 a2 : Int) : G4 [.v (.y a0 [(8, 6)]), .v (.y a1 [(8, 7)]), .v (.y a2 [(3, 1)])] (AH.mk .e .h) yesK = some .n := by kernel_rfl
theorem eApSleeps167 (a0 a1 a2 : Int) : G4 [.v (.y a0 [(8, 6)]), .v (.y a1 [(8, 7)]), .v (.y a2 [(3, 2)])] (AH.mk .e .h) yesK = some .n := by kernel_rfl
theorem eApSleeps168 (a0 a1 a2 : Int) : G4 [.v (.y a0 [(8, 7)]), .v (.y a1 [(8, 0)]), .v (.y a2 [(3, 0)])] (AH.mk .e .h) yesK = some .n := by kernel_rfl
theorem eApSleeps169 (a0 a1 a2 : Int) : G4 [.v (.y a0 [(8, 7)]), .v (.y a1 [(8, 0)]), .v (.y a2 [(3, 1)])] (AH.mk .e .h) yesK = some .n := by kernel_rfl
theorem eApSleeps170 (a0 a1 a2 : Int) : G4 [.v (.y a0 [(8, 7)]), .v (.y a1 [(8, 0)]), .v (.y a2 [(3, 2)])] (AH.mk .e .h) yesK = some .n := by kernel_rfl
theorem eApSleeps171 (a0 a1 a2 : Int) : G4 [.v (.y a0 [(8, 7)]), .v (.y a1 [(8, 1)]), .v (.y a2 [(3, 0)])] (AH.mk .e .h) yesK = some .n := by kernel_rfl
theorem eApSleeps172 (a0 a1 a2 : Int) : G4 [.v (.y a0 [(8, 7)]), .v (.y a1 [(8, 1)]), .v (.y a2 [(3, 1)])] (AH.mk .e .h) yesK = some .n := by kernel_rfl
theorem eApSleeps173 (a0 a1 a2 : Int) : G4 [.v (.y a0 [(8, 7)]), .v (.y a1 [(8, 1)]), .v (.y a2 [(3, 2)])] (AH.mk .e .h) yesK = some .n := by kernel_rfl
theorem eApSleeps174 (a0 a1 a2 : Int) : G4 [.v (.y a0 [(8, 7)]), .v (.y a1 [(8, 2)]), .v (.y a2 [(3, 0)])] (AH.mk .e .h) yesK = some .n := by kernel_rfl
theorem eApSleeps175 (a0 a1 a2 : Int) : G4 [.v (.y a0 [(8, 7)]), .v (.y a1 [(8, 2)]), .v (.y a2 [(3, 1)])] (AH.mk .e .h) yesK = some .n := by kernel_rfl
theorem eApSleeps176 (a0 a1 a2 : Int) : G4 [.v (.y a0 [(8, 7)]), .v (.y a1 [(8, 2)]), .v (.y a2 [(3, 2)])] (AH.mk .e .h) yesK = some .n := by kernel_rfl
theorem eApSleeps177 (a0 a1 a2 : Int) : G4 [.v (.y a0 [(8, 7)]), .v (.y a1 [(8, 3)]), .v (.y a2 [(3, 0)])] (AH.mk .e .h) yesK = some .n := by kernel_rfl
theorem eApSleeps178 (a0 a1 a2 : Int) : G4 [.v (.y a0 [(8, 7)]), .v (.y a1 [(8, 3)]), .v (.y a2 [(3, 1)])] (AH.mk .e .h) yesK = some .n := by kernel_rfl
theorem eApSleeps179 (a0 a1 a2 : Int) : G4 [.v (.y a0 [(8, 7)]), .v (.y a1 [(8, 3)]), .v (.y a2 [(3, 2)])] (AH.mk .e .h) yesK = some .n := by kernel_rfl
theorem eApSleeps180 (a0 a1 a2 : Int) : G4 [.v (.y a0 [(8, 7)]), .v (.y a1 [(8, 4)]), .v (.y a2 [(3, 0)])] (AH.mk .e .h) yesK = some .n := by kernel_rfl
theorem eApSleeps181 (a0 a1 a2 : Int) : G4 [.v (.y a0 [(8, 7)]), .v (.y a1 [(8, 4)]), .v (.y a2 [(3, 1)])] (AH.mk .e .h) yesK = some .n := by kernel_rfl
theorem eApSleeps182 (a0 a1 a2 : Int) : G4 [.v (.y a0 [(8, 7)]), .v (.y a1 [(8, 4)]), .v (.y a2 [(3, 2)])] (AH.mk .e .h) yesK = some .n := by kernel_rfl
theorem eApSleeps183 (a0 a1 a2 : Int) : G4 [.v (.y a0 [(8, 7)]), .v (.y a1 [(8, 5)]), .v (.y a2 [(3, 0)])] (AH.mk .e .h) yesK = some .n := by kernel_rfl
theorem eApSleeps184 (a0 a1 a2 : Int) : G4 [.v (.y a0 [(8, 7)]), .v (.y a1 [(8, 5)]), .v (.y a2 [(3, 1)])] (AH.mk .e .h) yesK = some .n := by kernel_rfl
theorem eApSleeps185 (a0 a1 a2 : Int) : G4 [.v (.y a0 [(8, 7)]), .v (.y a1 [(8, 5)]), .v (.y a2 [(3, 2)])] (AH.mk .e .h) yesK = some .n := by kernel_rfl
theorem eApSleeps186 (a0 a1 a2 : Int) : G4 [.v (.y a0 [(8, 7)]), .v (.y a1 [(8, 6)]), .v (.y a2 [(3, 0)])] (AH.mk .e .h) yesK = some .n := by kernel_rfl
theorem eApSleeps187 (a0 a1 a2 : Int) : G4 [.v (.y a0 [(8, 7)]), .v (.y a1 [(8, 6)]), .v (.y a2 [(3, 1)])] (AH.mk .e .h) yesK = some .n := by kernel_rfl
theorem eApSleeps188 (a0 a1 a2 : Int) : G4 [.v (.y a0 [(8, 7)]), .v (.y a1 [(8, 6)]), .v (.y a2 [(3, 2)])] (AH.mk .e .h) yesK = some .n := by kernel_rfl
theorem eApSleeps189 (a0 a1 a2 : Int) : G4 [.v (.y a0 [(8, 7)]), .v (.y a1 [(8, 7)]), .v (.y a2 [(3, 0)])] (AH.mk .e .h) yesK = some .n := by kernel_rfl
theorem eApSleeps190 (a0 a1 a2 : Int) : G4 [.v (.y a0 [(8, 7)]), .v (.y a1 [(8, 7)]), .v (.y a2 [(3, 1)])] (AH.mk .e .h) yesK = some .n := by kernel_rfl
theorem eApSleeps191 (a0 a1 a2 : Int) : G4 [.v (.y a0 [(8, 7)]), .v (.y a1 [(8, 7)]), .v (.y a2 [(3, 2)])] (AH.mk .e .h) yesK = some .n := by kernel_rfl
end Go.Proofs.YthooeildnkfpkaaGreatDoor
