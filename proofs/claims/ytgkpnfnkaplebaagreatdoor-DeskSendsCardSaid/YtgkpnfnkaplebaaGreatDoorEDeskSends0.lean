/- The law DeskSends at cases of its arguments, reckoned by the abstract machine. -/
import Derived.Test.YtgkpnfnkaplebaaGreatDoorGgDeskSendsD
import Derived.Test.YtgkpnfnkaplebaaGreatDoorAb17
set_option linter.unusedVariables false
set_option maxRecDepth 100000
set_option maxHeartbeats 0
namespace Go.Proofs.YtgkpnfnkaplebaaGreatDoor
open Go.Vc Go.Ab
theorem eDeskSends0 (a0 a1 : Int) : G3 [.v (.y a0 [(8, 0)]), .v (.y a1 [(8, 0)])] (AH.mk .e .h) yesK = some .n := by kernel_rfl
theorem eDeskSends1 (a0 a1 : Int) : G3 [.v (.y a0 [(8, 0)]), .v (.y a1 [(8, 1)])] (AH.mk .e .h) yesK = some .n := by kernel_rfl
theorem eDeskSends2 (a0 a1 : Int) : G3 [.v (.y a0 [(8, 0)]), .v (.y a1 [(8, 2)])] (AH.mk .e .h) yesK = some .n := by kernel_rfl
theorem eDeskSends3 (a0 a1 : Int) : G3 [.v (.y a0 [(8, 0)]), .v (.y a1 [(8, 3)])] (AH.mk .e .h) yesK = some .n := by kernel_rfl
theorem eDeskSends4 (a0 a1 : Int) : G3 [.v (.y a0 [(8, 0)]), .v (.y a1 [(8, 4)])] (AH.mk .e .h) yesK = some .n := by kernel_rfl
theorem eDeskSends5 (a0 a1 : Int) : G3 [.v (.y a0 [(8, 0)]), .v (.y a1 [(8, 5)])] (AH.mk .e .h) yesK = some .n := by kernel_rfl
theorem eDeskSends6 (a0 a1 : Int) : G3 [.v (.y a0 [(8, 0)]), .v (.y a1 [(8, 6)])] (AH.mk .e .h) yesK = some .n := by kernel_rfl
theorem eDeskSends7 (a0 a1 : Int) : G3 [.v (.y a0 [(8, 0)]), .v (.y a1 [(8, 7)])] (AH.mk .e .h) yesK = some .n := by kernel_rfl
theorem eDeskSends8 (a0 a1 : Int) : G3 [.v (.y a0 [(8, 1)]), .v (.y a1 [(8, 0)])] (AH.mk .e .h) yesK = some .n := by kernel_rfl
theorem eDeskSends9 (a0 a1 : Int) : G3 [.v (.y a0 [(8, 1)]), .v (.y a1 [(8, 1)])] (AH.mk .e .h) yesK = some .n := by kernel_rfl
theorem eDeskSends10 (a0 a1 : Int) : G3 [.v (.y a0 [(8, 1)]), .v (.y a1 [(8, 2)])] (AH.mk .e .h) yesK = some .n := by kernel_rfl
theorem eDeskSends11 (a0 a1 : Int) : G3 [.v (.y a0 [(8, 1)]), .v (.y a1 [(8, 3)])] (AH.mk .e .h) yesK = some .n := by kernel_rfl
theorem eDeskSends12 (a0 a1 : Int) : G3 [.v (.y a0 [(8, 1)]), .v (.y a1 [(8, 4)])] (AH.mk .e .h) yesK = some .n := by kernel_rfl
theorem eDeskSends13 (a0 a1 : Int) : G3 [.v (.y a0 [(8, 1)]), .v (.y a1 [(8, 5)])] (AH.mk .e .h) yesK = some .n := by kernel_rfl
theorem eDeskSends14 (a0 a1 : Int) : G3 [.v (.y a0 [(8, 1)]), .v (.y a1 [(8, 6)])] (AH.mk .e .h) yesK = some .n := by kernel_rfl
theorem eDeskSends15 (a0 a1 : Int) : G3 [.v (.y a0 [(8, 1)]), .v (.y a1 [(8, 7)])] (AH.mk .e .h) yesK = some .n := by kernel_rfl
theorem eDeskSends16 (a0 a1 : Int) : G3 [.v (.y a0 [(8, 2)]), .v (.y a1 [(8, 0)])] (AH.mk .e .h) yesK = some .n := by kernel_rfl
theorem eDeskSends17 (a0 a1 : Int) : G3 [.v (.y a0 [(8, 2)]), .v (.y a1 [(8, 1)])] (AH.mk .e .h) yesK = some .n := by kernel_rfl
theorem eDeskSends18 (a0 a1 : Int) : G3 [.v (.y a0 [(8, 2)]), .v (.y a1 [(8, 2)])] (AH.mk .e .h) yesK = some .n := by kernel_rfl
theorem eDeskSends19 (a0 a1 : Int) : G3 [.v (.y a0 [(8, 2)]), .v (.y a1 [(8, 3)])] (AH.mk .e .h) yesK = some .n := by kernel_rfl
theorem eDeskSends20 (a0 a1 : Int) : G3 [.v (.y a0 [(8, 2)]), .v (.y a1 [(8, 4)])] (AH.mk .e .h) yesK = some .n := by kernel_rfl
theorem eDeskSends21 (a0 a1 : Int) : G3 [.v (.y a0 [(8, 2)]), .v (.y a1 [(8, 5)])] (AH.mk .e .h) yesK = some .n := by kernel_rfl
end Go.Proofs.YtgkpnfnkaplebaaGreatDoor
