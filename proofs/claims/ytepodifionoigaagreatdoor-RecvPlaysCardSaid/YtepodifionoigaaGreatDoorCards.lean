/-
  DERIVED. GIVEN WITH THE SEED: THE CARDS: each row of YtepodifionoigaaGreatDoorRows.lean that lists a variable, with what it lists TIED to the program's text (the seventh form; the later family's looks); each row that meets fmt, with fmt's text TOLD by the authors' own Lean function (tested against real Go, not proved from fmt's source: count such statements apart). THE CARD IS WHAT COUNTS. Prove the row's statement (the work); the ties are given (YtepodifionoigaaGreatDoorTie.lean); close each card by the builder's one call (the guide's Derived/Test/ToyasCard.lean, 'card_holds'). Laid BY PROGRAM, IN A SANDBOX (cutbox-door.mjs). By AI agents, Wed Nov 11 2026. No macro, syntax, notation, axiom, sorry.
-/
import Derived.Test.YtepodifionoigaaGreatDoorRows
import GoSem.ClaimSeven
namespace Go.Proofs.YtepodifionoigaaGreatDoor
namespace Rows

/-- THE TIED CARD OF 'muezzinlaw24.RecvPlays'. -/
def recvPlaysCard : Claim7 := { stood := { row := recvPlaysRow, standIns := [], harness := (true, "0928ba816e77e20e96278792eb3a6ef5badb02dd6004e6b6be95edab34560768"), looks := true }, kinds := [], alts := [], laidByText := true, laidKinds := [.sentinel, .sentinel, .sentinel, .sentinel, .sentinel, .sentinel, .sentinel, .sentinel, .sentinel, .sentinel, .sentinel, .sentinel, .sentinel, .sentinel], laidTests := true, laidLooks := .later }
def RecvPlaysCardSaid : Prop := Claim7.holds Tryz.pinned (.plain (OpenSpec.ofChange recvPlaysSpec)) recvPlaysCard

/-- THE SECOND FORM's CARD OF 'muezzinlaw24.RecvPlays'. -/
def recvPlaysUptoCard : Claim7 := { stood := { row := recvPlaysUptoRow, standIns := [], harness := (true, "0928ba816e77e20e96278792eb3a6ef5badb02dd6004e6b6be95edab34560768"), looks := true }, kinds := [], alts := [], laidByText := true, laidKinds := [.sentinel, .sentinel, .sentinel, .sentinel, .sentinel, .sentinel, .sentinel, .sentinel, .sentinel, .sentinel, .sentinel, .sentinel, .sentinel, .sentinel], laidTests := true, laidLooks := .later }
def RecvPlaysUptoCardSaid : Prop := Claim7.holds Tryz.pinned (.plain (OpenSpec.upto recvPlaysSpec)) recvPlaysUptoCard
end Rows
end Go.Proofs.YtepodifionoigaaGreatDoor
