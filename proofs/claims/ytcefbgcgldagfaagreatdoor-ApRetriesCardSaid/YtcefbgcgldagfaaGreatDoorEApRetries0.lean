/- The law ApRetries at cases of its arguments, reckoned by the abstract machine. -/
import Derived.Test.YtcefbgcgldagfaaGreatDoorGgApRetriesD
import Derived.Test.YtcefbgcgldagfaaGreatDoorAb17
set_option linter.unusedVariables false
set_option maxRecDepth 100000
set_option maxHeartbeats 0
namespace Go.Proofs.YtcefbgcgldagfaaGreatDoor
open Go.Vc Go.Ab
theorem eApRetries0 (a0 a1 : Int) : G10 [.v (.y a0 [(8, 0)]), .v (.y a1 [(4, 0)])] (AH.mk .e .h) yesK = some .n := by kernel_rfl
theorem eApRetries1 (a0 a1 : Int) : G10 [.v (.y a0 [(8, 0)]), .v (.y a1 [(4, 1)])] (AH.mk .e .h) yesK = some .n := by kernel_rfl
theorem eApRetries2 (a0 a1 : Int) : G10 [.v (.y a0 [(8, 0)]), .v (.y a1 [(4, 2)])] (AH.mk .e .h) yesK = some .n := by kernel_rfl
theorem eApRetries3 (a0 a1 : Int) : G10 [.v (.y a0 [(8, 0)]), .v (.y a1 [(4, 3)])] (AH.mk .e .h) yesK = some .n := by kernel_rfl
theorem eApRetries4 (a0 a1 : Int) : G10 [.v (.y a0 [(8, 1)]), .v (.y a1 [(4, 0)])] (AH.mk .e .h) yesK = some .n := by kernel_rfl
theorem eApRetries5 (a0 a1 : Int) : G10 [.v (.y a0 [(8, 1)]), .v (.y a1 [(4, 1)])] (AH.mk .e .h) yesK = some .n := by kernel_rfl
theorem eApRetries6 (a0 a1 : Int) : G10 [.v (.y a0 [(8, 1)]), .v (.y a1 [(4, 2)])] (AH.mk .e .h) yesK = some .n := by kernel_rfl
theorem eApRetries7 (a0 a1 : Int) : G10 [.v (.y a0 [(8, 1)]), .v (.y a1 [(4, 3)])] (AH.mk .e .h) yesK = some .n := by kernel_rfl
theorem eApRetries8 (a0 a1 : Int) : G10 [.v (.y a0 [(8, 2)]), .v (.y a1 [(4, 0)])] (AH.mk .e .h) yesK = some .n := by kernel_rfl
theorem eApRetries9 (a0 a1 : Int) : G10 [.v (.y a0 [(8, 2)]), .v (.y a1 [(4, 1)])] (AH.mk .e .h) yesK = some .n := by kernel_rfl
theorem eApRetries10 (a0 a1 : Int) : G10 [.v (.y a0 [(8, 2)]), .v (.y a1 [(4, 2)])] (AH.mk .e .h) yesK = some .n := by kernel_rfl
end Go.Proofs.YtcefbgcgldagfaaGreatDoor
