/- The law ApRetries at cases of its arguments, reckoned by the abstract machine. -/
import Derived.Test.YtcefbgcgldagfaaGreatDoorGgApRetriesD
import Derived.Test.YtcefbgcgldagfaaGreatDoorAb17
set_option linter.unusedVariables false
set_option maxRecDepth 100000
set_option maxHeartbeats 0
namespace Go.Proofs.YtcefbgcgldagfaaGreatDoor
open Go.Vc Go.Ab
theorem eApRetries11 (a0 a1 : Int) : G10 [.v (.y a0 [(8, 2)]), .v (.y a1 [(4, 3)])] (AH.mk .e .h) yesK = some .n := by kernel_rfl
theorem eApRetries12 (a0 a1 : Int) : G10 [.v (.y a0 [(8, 3)]), .v (.y a1 [(4, 0)])] (AH.mk .e .h) yesK = some .n := by kernel_rfl
theorem eApRetries13 (a0 a1 : Int) : G10 [.v (.y a0 [(8, 3)]), .v (.y a1 [(4, 1)])] (AH.mk .e .h) yesK = some .n := by kernel_rfl
theorem eApRetries14 (a0 a1 : Int) : G10 [.v (.y a0 [(8, 3)]), .v (.y a1 [(4, 2)])] (AH.mk .e .h) yesK = some .n := by kernel_rfl
theorem eApRetries15 (a0 a1 : Int) : G10 [.v (.y a0 [(8, 3)]), .v (.y a1 [(4, 3)])] (AH.mk .e .h) yesK = some .n := by kernel_rfl
theorem eApRetries16 (a0 a1 : Int) : G10 [.v (.y a0 [(8, 4)]), .v (.y a1 [(4, 0)])] (AH.mk .e .h) yesK = some .n := by kernel_rfl
theorem eApRetries17 (a0 a1 : Int) : G10 [.v (.y a0 [(8, 4)]), .v (.y a1 [(4, 1)])] (AH.mk .e .h) yesK = some .n := by kernel_rfl
theorem eApRetries18 (a0 a1 : Int) : G10 [.v (.y a0 [(8, 4)]), .v (.y a1 [(4, 2)])] (AH.mk .e .h) yesK = some .n := by kernel_rfl
theorem eApRetries19 (a0 a1 : Int) : G10 [.v (.y a0 [(8, 4)]), .v (.y a1 [(4, 3)])] (AH.mk .e .h) yesK = some .n := by kernel_rfl
theorem eApRetries20 (a0 a1 : Int) : G10 [.v (.y a0 [(8, 5)]), .v (.y a1 [(4, 0)])] (AH.mk .e .h) yesK = some .n := by kernel_rfl
theorem eApRetries21 (a0 a1 : Int) : G10 [.v (.y a0 [(8, 5)]), .v (.y a1 [(4, 1)])] (AH.mk .e .h) yesK = some .n := by kernel_rfl
end Go.Proofs.YtcefbgcgldagfaaGreatDoor
