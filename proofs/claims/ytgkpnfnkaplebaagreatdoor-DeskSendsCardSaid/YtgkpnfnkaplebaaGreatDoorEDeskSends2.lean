/- The law DeskSends at cases of its arguments, reckoned by the abstract machine. -/
import Derived.Test.YtgkpnfnkaplebaaGreatDoorGgDeskSendsD
import Derived.Test.YtgkpnfnkaplebaaGreatDoorAb17
set_option linter.unusedVariables false
set_option maxRecDepth 100000
set_option maxHeartbeats 0
namespace Go.Proofs.YtgkpnfnkaplebaaGreatDoor
open Go.Vc Go.Ab
theorem eDeskSends43 (a0 a1 : Int) : G3 [.v (.y a0 [(8, 5)]), .v (.y a1 [(8, 3)])] (AH.mk .e .h) yesK = some .n := by kernel_rfl
theorem eDeskSends44 (a0 a1 : Int) : G3 [.v (.y a0 [(8, 5)]), .v (.y a1 [(8, 4)])] (AH.mk .e .h) yesK = some .n := by kernel_rfl
theorem eDeskSends45 (a0 a1 : Int) : G3 [.v (.y a0 [(8, 5)]), .v (.y a1 [(8, 5)])] (AH.mk .e .h) yesK = some .n := by kernel_rfl
theorem eDeskSends46 (a0 a1 : Int) : G3 [.v (.y a0 [(8, 5)]), .v (.y a1 [(8, 6)])] (AH.mk .e .h) yesK = some .n := by kernel_rfl
theorem eDeskSends47 (a0 a1 : Int) : G3 [.v (.y a0 [(8, 5)]), .v (.y a1 [(8, 7)])] (AH.mk .e .h) yesK = some .n := by kernel_rfl
theorem eDeskSends48 (a0 a1 : Int) : G3 [.v (.y a0 [(8, 6)]), .v (.y a1 [(8, 0)])] (AH.mk .e .h) yesK = some .n := by kernel_rfl
theorem eDeskSends49 (a0 a1 : Int) : G3 [.v (.y a0 [(8, 6)]), .v (.y a1 [(8, 1)])] (AH.mk .e .h) yesK = some .n := by kernel_rfl
theorem eDeskSends50 (a0 a1 : Int) : G3 [.v (.y a0 [(8, 6)]), .v (.y a1 [(8, 2)])] (AH.mk .e .h) yesK = some .n := by kernel_rfl
theorem eDeskSends51 (a0 a1 : Int) : G3 [.v (.y a0 [(8, 6)]), .v (.y a1 [(8, 3)])] (AH.mk .e .h) yesK = some .n := by kernel_rfl
theorem eDeskSends52 (a0 a1 : Int) : G3 [.v (.y a0 [(8, 6)]), .v (.y a1 [(8, 4)])] (AH.mk .e .h) yesK = some .n := by kernel_rfl
theorem eDeskSends53 (a0 a1 : Int) : G3 [.v (.y a0 [(8, 6)]), .v (.y a1 [(8, 5)])] (AH.mk .e .h) yesK = some .n := by kernel_rfl
theorem eDeskSends54 (a0 a1 : Int) : G3 [.v (.y a0 [(8, 6)]), .v (.y a1 [(8, 6)])] (AH.mk .e .h) yesK = some .n := by kernel_rfl
theorem eDeskSends55 (a0 a1 : Int) : G3 [.v (.y a0 [(8, 6)]), .v (.y a1 [(8, 7)])] (AH.mk .e .h) yesK = some .n := by kernel_rfl
theorem eDeskSends56 (a0 a1 : Int) : G3 [.v (.y a0 [(8, 7)]), .v (.y a1 [(8, 0)])] (AH.mk .e .h) yesK = some .n := by kernel_rfl
theorem eDeskSends57 (a0 a1 : Int) : G3 [.v (.y a0 [(8, 7)]), .v (.y a1 [(8, 1)])] (AH.mk .e .h) yesK = some .n := by kernel_rfl
theorem eDeskSends58 (a0 a1 : Int) : G3 [.v (.y a0 [(8, 7)]), .v (.y a1 [(8, 2)])] (AH.mk .e .h) yesK = some .n := by kernel_rfl
theorem eDeskSends59 (a0 a1 : Int) : G3 [.v (.y a0 [(8, 7)]), .v (.y a1 [(8, 3)])] (AH.mk .e .h) yesK = some .n := by kernel_rfl
theorem eDeskSends60 (a0 a1 : Int) : G3 [.v (.y a0 [(8, 7)]), .v (.y a1 [(8, 4)])] (AH.mk .e .h) yesK = some .n := by kernel_rfl
theorem eDeskSends61 (a0 a1 : Int) : G3 [.v (.y a0 [(8, 7)]), .v (.y a1 [(8, 5)])] (AH.mk .e .h) yesK = some .n := by kernel_rfl
theorem eDeskSends62 (a0 a1 : Int) : G3 [.v (.y a0 [(8, 7)]), .v (.y a1 [(8, 6)])] (AH.mk .e .h) yesK = some .n := by kernel_rfl
theorem eDeskSends63 (a0 a1 : Int) : G3 [.v (.y a0 [(8, 7)]), .v (.y a1 [(8, 7)])] (AH.mk .e .h) yesK = some .n := by kernel_rfl
end Go.Proofs.YtgkpnfnkaplebaaGreatDoor
