/- The law ApTurns at cases of its arguments, reckoned by the abstract machine. -/
import Derived.Test.YtcefbgcgldagfaaGreatDoorGgApTurnsD
import Derived.Test.YtcefbgcgldagfaaGreatDoorAb17
set_option linter.unusedVariables false
set_option maxRecDepth 100000
set_option maxHeartbeats 0
namespace Go.Proofs.YtcefbgcgldagfaaGreatDoor
open Go.Vc Go.Ab
theorem eApTurns32 (a0 a1 : Int) : G3 [.v (.y a0 [(8, 4)]), .v (.y a1 [(8, 0)])] (AH.mk .e .h) yesK = some .n := by kernel_rfl
theorem eApTurns33 (a0 a1 : Int) : G3 [.v (.y a0 [(8, 4)]), .v (.y a1 [(8, 1)])] (AH.mk .e .h) yesK = some .n := by kernel_rfl
theorem eApTurns34 (a0 a1 : Int) : G3 [.v (.y a0 [(8, 4)]), .v (.y a1 [(8, 2)])] (AH.mk .e .h) yesK = some .n := by kernel_rfl
theorem eApTurns35 (a0 a1 : Int) : G3 [.v (.y a0 [(8, 4)]), .v (.y a1 [(8, 3)])] (AH.mk .e .h) yesK = some .n := by kernel_rfl
theorem eApTurns36 (a0 a1 : Int) : G3 [.v (.y a0 [(8, 4)]), .v (.y a1 [(8, 4)])] (AH.mk .e .h) yesK = some .n := by kernel_rfl
theorem eApTurns37 (a0 a1 : Int) : G3 [.v (.y a0 [(8, 4)]), .v (.y a1 [(8, 5)])] (AH.mk .e .h) yesK = some .n := by kernel_rfl
theorem eApTurns38 (a0 a1 : Int) : G3 [.v (.y a0 [(8, 4)]), .v (.y a1 [(8, 6)])] (AH.mk .e .h) yesK = some .n := by kernel_rfl
theorem eApTurns39 (a0 a1 : Int) : G3 [.v (.y a0 [(8, 4)]), .v (.y a1 [(8, 7)])] (AH.mk .e .h) yesK = some .n := by kernel_rfl
theorem eApTurns40 (a0 a1 : Int) : G3 [.v (.y a0 [(8, 5)]), .v (.y a1 [(8, 0)])] (AH.mk .e .h) yesK = some .n := by kernel_rfl
theorem eApTurns41 (a0 a1 : Int) : G3 [.v (.y a0 [(8, 5)]), .v (.y a1 [(8, 1)])] (AH.mk .e .h) yesK = some .n := by kernel_rfl
theorem eApTurns42 (a0 a1 : Int) : G3 [.v (.y a0 [(8, 5)]), .v (.y a1 [(8, 2)])] (AH.mk .e .h) yesK = some .n := by kernel_rfl
theorem eApTurns43 (a0 a1 : Int) : G3 [.v (.y a0 [(8, 5)]), .v (.y a1 [(8, 3)])] (AH.mk .e .h) yesK = some .n := by kernel_rfl
theorem eApTurns44 (a0 a1 : Int) : G3 [.v (.y a0 [(8, 5)]), .v (.y a1 [(8, 4)])] (AH.mk .e .h) yesK = some .n := by kernel_rfl
theorem eApTurns45 (a0 a1 : Int) : G3 [.v (.y a0 [(8, 5)]), .v (.y a1 [(8, 5)])] (AH.mk .e .h) yesK = some .n := by kernel_rfl
theorem eApTurns46 (a0 a1 : Int) : G3 [.v (.y a0 [(8, 5)]), .v (.y a1 [(8, 6)])] (AH.mk .e .h) yesK = some .n := by kernel_rfl
theorem eApTurns47 (a0 a1 : Int) : G3 [.v (.y a0 [(8, 5)]), .v (.y a1 [(8, 7)])] (AH.mk .e .h) yesK = some .n := by kernel_rfl
theorem eApTurns48 (a0 a1 : Int) : G3 [.v (.y a0 [(8, 6)]), .v (.y a1 [(8, 0)])] (AH.mk .e .h) yesK = some .n := by kernel_rfl
theorem eApTurns49 (a0 a1 : Int) : G3 [.v (.y a0 [(8, 6)]), .v (.y a1 [(8, 1)])] (AH.mk .e .h) yesK = some .n := by kernel_rfl
theorem eApTurns50 (a0 a1 : Int) : G3 [.v (.y a0 [(8, 6)]), .v (.y a1 [(8, 2)])] (AH.mk .e .h) yesK = some .n := by kernel_rfl
theorem eApTurns51 (a0 a1 : Int) : G3 [.v (.y a0 [(8, 6)]), .v (.y a1 [(8, 3)])] (AH.mk .e .h) yesK = some .n := by kernel_rfl
theorem eApTurns52 (a0 a1 : Int) : G3 [.v (.y a0 [(8, 6)]), .v (.y a1 [(8, 4)])] (AH.mk .e .h) yesK = some .n := by kernel_rfl
theorem eApTurns53 (a0 a1 : Int) : G3 [.v (.y a0 [(8, 6)]), .v (.y a1 [(8, 5)])] (AH.mk .e .h) yesK = some .n := by kernel_rfl
theorem eApTurns54 (a0 a1 : Int) : G3 [.v (.y a0 [(8, 6)]), .v (.y a1 [(8, 6)])] (AH.mk .e .h) yesK = some .n := by kernel_rfl
theorem eApTurns55 (a0 a1 : Int) : G3 [.v (.y a0 [(8, 6)]), .v (.y a1 [(8, 7)])] (AH.mk .e .h) yesK = some .n := by kernel_rfl
theorem eApTurns56 (a0 a1 : Int) : G3 [.v (.y a0 [(8, 7)]), .v (.y a1 [(8, 0)])] (AH.mk .e .h) yesK = some .n := by kernel_rfl
theorem eApTurns57 (a0 a1 : Int) : G3 [.v (.y a0 [(8, 7)]), .v (.y a1 [(8, 1)])] (AH.mk .e .h) yesK = some .n := by kernel_rfl
theorem eApTurns58 (a0 a1 : Int) : G3 [.v (.y a0 [(8, 7)]), .v (.y a1 [(8, 2)])] (AH.mk .e .h) yesK = some .n := by kernel_rfl
theorem eApTurns59 (a0 a1 : Int) : G3 [.v (.y a0 [(8, 7)]), .v (.y a1 [(8, 3)])] (AH.mk .e .h) yesK = some .n := by kernel_rfl
theorem eApTurns60 (a0 a1 : Int) : G3 [.v (.y a0 [(8, 7)]), .v (.y a1 [(8, 4)])] (AH.mk .e .h) yesK = some .n := by kernel_rfl
theorem eApTurns61 (a0 a1 : Int) : G3 [.v (.y a0 [(8, 7)]), .v (.y a1 [(8, 5)])] (AH.mk .e .h) yesK = some .n := by kernel_rfl
theorem eApTurns62 (a0 a1 : Int) : G3 [.v (.y a0 [(8, 7)]), .v (.y a1 [(8, 6)])] (AH.mk .e .h) yesK = some .n := by kernel_rfl
theorem eApTurns63 (a0 a1 : Int) : G3 [.v (.y a0 [(8, 7)]), .v (.y a1 [(8, 7)])] (AH.mk .e .h) yesK = some .n := by kernel_rfl
end Go.Proofs.YtcefbgcgldagfaaGreatDoor
