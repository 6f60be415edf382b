/- The law ApRetries at cases of its arguments, reckoned by the abstract machine. -/
import Derived.Test.YtcefbgcgldagfaaGreatDoorGgApRetriesD
import Derived.Test.YtcefbgcgldagfaaGreatDoorAb17
set_option linter.unusedVariables false
set_option maxRecDepth 100000
set_option maxHeartbeats 0
namespace Go.Proofs.YtcefbgcgldagfaaGreatDoor
open Go.Vc Go.Ab
theorem eApRetries22 (a0 a1 : Int) : G10 [.v (.y a0 [(8, 5)]), .v (.y a1 [(4, 2)])] (AH.mk .e .h) yesK = some .n := by kernel_rfl
theorem eApRetries23 (a0 a1 : Int) : G10 [.v (.y a0 [(8, 5)]), .v (.y a1 [(4, 3)])] (AH.mk .e .h) yesK = some .n := by kernel_rfl
theorem eApRetries24 (a0 a1 : Int) : G10 [.v (.y a0 [(8, 6)]), .v (.y a1 [(4, 0)])] (AH.mk .e .h) yesK = some .n := by kernel_rfl
theorem eApRetries25 (a0 a1 : Int) : G10 [.v (.y a0 [(8, 6)]), .v (.y a1 [(4, 1)])] (AH.mk .e .h) yesK = some .n := by kernel_rfl
theorem eApRetries26 (a0 a1 : Int) : G10 [.v (.y a0 [(8, 6)]), .v (.y a1 [(4, 2)])] (AH.mk .e .h) yesK = some .n := by kernel_rfl
theorem eApRetries27 (a0 a1 : Int) : G10 [.v (.y a0 [(8, 6)]), .v (.y a1 [(4, 3)])] (AH.mk .e .h) yesK = some .n := by kernel_rfl
theorem eApRetries28 (a0 a1 : Int) : G10 [.v (.y a0 [(8, 7)]), .v (.y a1 [(4, 0)])] (AH.mk .e .h) yesK = some .n := by kernel_rfl
theorem eApRetries29 (a0 a1 : Int) : G10 [.v (.y a0 [(8, 7)]), .v (.y a1 [(4, 1)])] (AH.mk .e .h) yesK = some .n := by kernel_rfl
theorem eApRetries30 (a0 a1 : Int) : G10 [.v (.y a0 [(8, 7)]), .v (.y a1 [(4, 2)])] (AH.mk .e .h) yesK = some .n := by kernel_rfl
theorem eApRetries31 (a0 a1 : Int) : G10 [.v (.y a0 [(8, 7)]), .v (.y a1 [(4, 3)])] (AH.mk .e .h) yesK = some .n := by kernel_rfl
end Go.Proofs.YtcefbgcgldagfaaGreatDoor
