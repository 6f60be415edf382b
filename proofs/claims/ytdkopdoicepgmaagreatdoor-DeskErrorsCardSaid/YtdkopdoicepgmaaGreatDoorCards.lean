/-
  DERIVED. GIVEN WITH THE SEED: THE CARDS: each row of YtdkopdoicepgmaaGreatDoorRows.lean that lists a variable, with what it lists TIED to the program's text (the seventh form; the later family's looks); each row that meets fmt, with fmt's text TOLD by the authors' own Lean function (tested against real Go, not proved from fmt's source: count such statements apart). THE CARD IS WHAT COUNTS. Prove the row's statement (the work); the ties are given (YtdkopdoicepgmaaGreatDoorTie.lean); close each card by the builder's one call (the guide's Derived/Test/ToyasCard.lean, 'card_holds'). Laid BY PROGRAM, IN A SANDBOX (cutbox-door.mjs). By AI agents, Wed Nov 11 2026. No macro, syntax, notation, axiom, sorry.
-/
import Derived.Test.YtdkopdoicepgmaaGreatDoorRows
import GoSem.ClaimSeven
namespace Go.Proofs.YtdkopdoicepgmaaGreatDoor
namespace Rows

/-- THE TIED CARD OF 'muezzinlaw28.DeskErrors'. -/
def deskErrorsCard : Claim7 := { stood := { row := deskErrorsRow, standIns := [], harness := (true, "32d6616ea7fa8775d861834737d732f7972f252361666351b867f94423fc6c68"), looks := true }, kinds := [], alts := [], laidByText := true, laidKinds := [.data, .data, .data, .data, .sentinel, .sentinel, .sentinel, .sentinel, .sentinel, .sentinel, .sentinel, .sentinel, .sentinel, .sentinel, .sentinel, .sentinel, .sentinel, .sentinel, .sentinel, .sentinel, .pinned], laidTests := true, laidLooks := .later }
def DeskErrorsCardSaid : Prop := Claim7.holds Tryz.pinned (.plain (OpenSpec.ofChange deskErrorsSpec)) deskErrorsCard

/-- THE SECOND FORM's CARD OF 'muezzinlaw28.DeskErrors'. -/
def deskErrorsUptoCard : Claim7 := { stood := { row := deskErrorsUptoRow, standIns := [], harness := (true, "32d6616ea7fa8775d861834737d732f7972f252361666351b867f94423fc6c68"), looks := true }, kinds := [], alts := [], laidByText := true, laidKinds := [.data, .data, .data, .data, .sentinel, .sentinel, .sentinel, .sentinel, .sentinel, .sentinel, .sentinel, .sentinel, .sentinel, .sentinel, .sentinel, .sentinel, .sentinel, .sentinel, .sentinel, .sentinel, .pinned], laidTests := true, laidLooks := .later }
def DeskErrorsUptoCardSaid : Prop := Claim7.holds Tryz.pinned (.plain (OpenSpec.upto deskErrorsSpec)) deskErrorsUptoCard
end Rows
end Go.Proofs.YtdkopdoicepgmaaGreatDoor
