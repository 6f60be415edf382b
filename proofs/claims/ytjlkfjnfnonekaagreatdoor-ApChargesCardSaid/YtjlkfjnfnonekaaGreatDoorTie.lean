/-
  DERIVED. GIVEN WITH THE SEED: THE PROGRAM's TIES (one call each: nine closed facts by the kernel) AND EACH ROW's TIE, after the 31st guide's Derived/Test/Toyas{Tie, Card}.lean. No idea stands in it: it is a product of the set-up. Laid BY PROGRAM, IN A SANDBOX (cutbox-door.mjs). By AI agents, Wed Nov 11 2026. No macro, syntax, notation, axiom, sorry.
-/
import Derived.Test.YtjlkfjnfnonekaaGreatDoorRows
import Derived.LaidByTextLater
import Derived.SevenTiedAt
import Derived.LaidSub
import Derived.LaidOnce
namespace Go.Proofs.YtjlkfjnfnonekaaGreatDoor
open Go
set_option maxRecDepth 100000
theorem seatTie1 : Tryz.prog.laidByTextLater [("muezzin/api.ErrEnd", Rows.laid_muezzin_api_ErrEnd), ("muezzin/api.ErrShape", Rows.laid_muezzin_api_ErrShape), ("muezzin/api.ErrRange", Rows.laid_muezzin_api_ErrRange), ("muezzin/api.ErrMany", Rows.laid_muezzin_api_ErrMany), ("muezzin/api.ErrKind", Rows.laid_muezzin_api_ErrKind), ("muezzin/api.ErrSum", Rows.laid_muezzin_api_ErrSum), ("muezzin/api.ErrNone", Rows.laid_muezzin_api_ErrNone), ("muezzin/api.ErrTwice", Rows.laid_muezzin_api_ErrTwice), ("muezzin/api.ErrFull", Rows.laid_muezzin_api_ErrFull), ("muezzin/api.ErrState", Rows.laid_muezzin_api_ErrState), ("muezzin/api.ErrSeq", Rows.laid_muezzin_api_ErrSeq), ("muezzin/api.ErrLong", Rows.laid_muezzin_api_ErrLong)] [.sentinel, .sentinel, .sentinel, .sentinel, .sentinel, .sentinel, .sentinel, .sentinel, .sentinel, .sentinel, .sentinel, .sentinel] true :=
  Program.laidByTextLater_by_one 237 8 2 (by kernel_rfl) (by kernel_rfl) (by kernel_rfl) (by kernel_rfl) (by kernel_rfl) (by kernel_rfl) (fun _ _ => by kernel_rfl)
theorem noOwnUnsafe : Tryz.pinned.checked.prog.headLifts.contains "ownunsafe" = false := by kernel_rfl
theorem tie : Tryz.prog.laidByTextLater [("muezzin/api.ErrEnd", Rows.laid_muezzin_api_ErrEnd), ("muezzin/api.ErrShape", Rows.laid_muezzin_api_ErrShape), ("muezzin/api.ErrRange", Rows.laid_muezzin_api_ErrRange), ("muezzin/api.ErrMany", Rows.laid_muezzin_api_ErrMany), ("muezzin/api.ErrKind", Rows.laid_muezzin_api_ErrKind), ("muezzin/api.ErrSum", Rows.laid_muezzin_api_ErrSum), ("muezzin/api.ErrNone", Rows.laid_muezzin_api_ErrNone), ("muezzin/api.ErrTwice", Rows.laid_muezzin_api_ErrTwice), ("muezzin/api.ErrFull", Rows.laid_muezzin_api_ErrFull), ("muezzin/api.ErrState", Rows.laid_muezzin_api_ErrState), ("muezzin/api.ErrSeq", Rows.laid_muezzin_api_ErrSeq), ("muezzin/api.ErrLong", Rows.laid_muezzin_api_ErrLong)] [.sentinel, .sentinel, .sentinel, .sentinel, .sentinel, .sentinel, .sentinel, .sentinel, .sentinel, .sentinel, .sentinel, .sentinel] true :=
  Program.laidByTextLater.sub seatTie1 ["muezzin/api.ErrEnd", "muezzin/api.ErrShape", "muezzin/api.ErrRange", "muezzin/api.ErrMany", "muezzin/api.ErrKind", "muezzin/api.ErrSum", "muezzin/api.ErrNone", "muezzin/api.ErrTwice", "muezzin/api.ErrFull", "muezzin/api.ErrState", "muezzin/api.ErrSeq", "muezzin/api.ErrLong"] (by kernel_rfl) (by kernel_rfl)
theorem apCharges_row_tie : Rows.apChargesRow.laidByTextAt .later Tryz.pinned [.sentinel, .sentinel, .sentinel, .sentinel, .sentinel, .sentinel, .sentinel, .sentinel, .sentinel, .sentinel, .sentinel, .sentinel] true :=
  OpenClaim.laidByTextAt_later rfl rfl tie noOwnUnsafe
theorem apChargesUpto_row_tie : Rows.apChargesUptoRow.laidByTextAt .later Tryz.pinned [.sentinel, .sentinel, .sentinel, .sentinel, .sentinel, .sentinel, .sentinel, .sentinel, .sentinel, .sentinel, .sentinel, .sentinel] true :=
  OpenClaim.laidByTextAt_later rfl rfl tie noOwnUnsafe
end Go.Proofs.YtjlkfjnfnonekaaGreatDoor
