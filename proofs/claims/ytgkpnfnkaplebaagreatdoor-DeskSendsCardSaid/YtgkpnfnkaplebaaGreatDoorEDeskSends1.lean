/- The law DeskSends at cases of its arguments, reckoned by the abstract machine. -/
import Derived.Test.YtgkpnfnkaplebaaGreatDoorGgDeskSendsD
import Derived.Test.YtgkpnfnkaplebaaGreatDoorAb17
set_option linter.unusedVariables false
set_option maxRecDepth 100000
set_option maxHeartbeats 0
namespace Go.Proofs.YtgkpnfnkaplebaaGreatDoor
open Go.Vc Go.Ab
theorem eDeskSends22 (a0 a1 : Int) : G3 [.v (.y a0 [(8, 2)]), .v (.y a1 [(8, 6)])] (AH.mk .e .h) yesK = some .n := by kernel_rfl
theorem eDeskSends23 (a0 a1 : Int) : G3 [.v (.y a0 [(8, 2)]), .v (.y a1 [(8, 7)])] (AH.mk .e .h) yesK = some .n := by kernel_rfl
theorem eDeskSends24 (a0 a1 : Int) : G3 [.v (.y a0 [(8, 3)]), .v (.y a1 [(8, 0)])] (AH.mk .e .h) yesK = some .n := by kernel_rfl
theorem eDeskSends25 (a0 a1 : Int) : G3 [.v (.y a0 [(8, 3)]), .v (.y a1 [(8, 1)])] (AH.mk .e .h) yesK = some .n := by kernel_rfl
theorem eDeskSends26 (a0 a1 : Int) : G3 [.v (.y a0 [(8, 3)]), .v (.y a1 [(8, 2)])] (AH.mk .e .h) yesK = some .n := by kernel_rfl
theorem eDeskSends27 (a0 a1 : Int) : G3 [.v (.y a0 [(8, 3)]), .v (.y a1 [(8, 3)])] (AH.mk .e .h) yesK = some .n := by kernel_rfl
theorem eDeskSends28 (a0 a1 : Int) : G3 [.v (.y a0 [(8, 3)]), .v (.y a1 [(8, 4)])] (AH.mk .e .h) yesK = some .n := by kernel_rfl
theorem eDeskSends29 (a0 a1 : Int) : G3 [.v (.y a0 [(8, 3)]), .v (.y a1 [(8, 5)])] (AH.mk .e .h) yesK = some .n := by kernel_rfl
theorem eDeskSends30 (a0 a1 : Int) : G3 [.v (.y a0 [(8, 3)]), .v (.y a1 [(8, 6)])] (AH.mk .e .h) yesK = some .n := by kernel_rfl
theorem eDeskSends31 (a0 a1 : Int) : G3 [.v (.y a0 [(8, 3)]), .v (.y a1 [(8, 7)])] (AH.mk .e .h) yesK = some .n := by kernel_rfl
theorem eDeskSends32 (a0 a1 : Int) : G3 [.v (.y a0 [(8, 4)]), .v (.y a1 [(8, 0)])] (AH.mk .e .h) yesK = some .n := by kernel_rfl
theorem eDeskSends33 (a0 a1 : Int) : G3 [.v (.y a0 [(8, 4)]), .v (.y a1 [(8, 1)])] (AH.mk .e .h) yesK = some .n := by kernel_rfl
theorem eDeskSends34 (a0 a1 : Int) : G3 [.v (.y a0 [(8, 4)]), .v (.y a1 [(8, 2)])] (AH.mk .e .h) yesK = some .n := by kernel_rfl
theorem eDeskSends35 (a0 a1 : Int) : G3 [.v (.y a0 [(8, 4)]), .v (.y a1 [(8, 3)])] (AH.mk .e .h) yesK = some .n := by kernel_rfl
theorem eDeskSends36 (a0 a1 : Int) : G3 [.v (.y a0 [(8, 4)]), .v (.y a1 [(8, 4)])] (AH.mk .e .h) yesK = some .n := by kernel_rfl
theorem eDeskSends37 (a0 a1 : Int) : G3 [.v (.y a0 [(8, 4)]), .v (.y a1 [(8, 5)])] (AH.mk .e .h) yesK = some .n := by kernel_rfl
theorem eDeskSends38 (a0 a1 : Int) : G3 [.v (.y a0 [(8, 4)]), .v (.y a1 [(8, 6)])] (AH.mk .e .h) yesK = some .n := by kernel_rfl
theorem eDeskSends39 (a0 a1 : Int) : G3 [.v (.y a0 [(8, 4)]), .v (.y a1 [(8, 7)])] (AH.mk .e .h) yesK = some .n := by kernel_rfl
theorem eDeskSends40 (a0 a1 : Int) : G3 [.v (.y a0 [(8, 5)]), .v (.y a1 [(8, 0)])] (AH.mk .e .h) yesK = some .n := by kernel_rfl
theorem eDeskSends41 (a0 a1 : Int) : G3 [.v (.y a0 [(8, 5)]), .v (.y a1 [(8, 1)])] (AH.mk .e .h) yesK = some .n := by kernel_rfl
theorem eDeskSends42 (a0 a1 : Int) : G3 [.v (.y a0 [(8, 5)]), .v (.y a1 [(8, 2)])] (AH.mk .e .h) yesK = some .n := by kernel_rfl
end Go.Proofs.YtgkpnfnkaplebaaGreatDoor
