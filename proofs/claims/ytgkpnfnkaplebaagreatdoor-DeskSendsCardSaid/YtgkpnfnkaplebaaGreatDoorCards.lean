/-
  DERIVED. GIVEN WITH THE SEED: THE CARDS: each row of YtgkpnfnkaplebaaGreatDoorRows.lean that lists a variable, with what it lists TIED to the program's text (the seventh form; the later family's looks); each row that meets fmt, with fmt's text TOLD by the authors' own Lean function (tested against real Go, not proved from fmt's source: count such statements apart). THE CARD IS WHAT COUNTS. Prove the row's statement (the work); the ties are given (YtgkpnfnkaplebaaGreatDoorTie.lean); close each card by the builder's one call (the guide's Derived/Test/ToyasCard.lean, 'card_holds'). Laid BY PROGRAM, IN A SANDBOX (cutbox-door.mjs). By AI agents, Wed Nov 11 2026. No macro, syntax, notation, axiom, sorry.
-/
import Derived.Test.YtgkpnfnkaplebaaGreatDoorRows
import GoSem.ClaimSeven
namespace Go.Proofs.YtgkpnfnkaplebaaGreatDoor
namespace Rows

/-- THE TIED CARD OF 'muezzinlaw28.DeskSends'. -/
def deskSendsCard : Claim7 := { stood := { row := deskSendsRow, standIns := [], harness := (true, "cb2f8b59bf4db7bc648a3625c8e15271563b202316c7cf4568f55c344987f42f"), looks := true }, kinds := [], alts := [], laidByText := true, laidKinds := [.data, .data, .data, .data, .sentinel, .sentinel, .sentinel, .sentinel, .sentinel, .sentinel, .sentinel, .sentinel, .sentinel, .sentinel, .sentinel, .sentinel, .sentinel, .sentinel, .sentinel, .pinned], laidTests := true, laidLooks := .later }
def DeskSendsCardSaid : Prop := Claim7.holds Tryz.pinned (.plain (OpenSpec.ofChange deskSendsSpec)) deskSendsCard

/-- THE SECOND FORM's CARD OF 'muezzinlaw28.DeskSends'. -/
def deskSendsUptoCard : Claim7 := { stood := { row := deskSendsUptoRow, standIns := [], harness := (true, "cb2f8b59bf4db7bc648a3625c8e15271563b202316c7cf4568f55c344987f42f"), looks := true }, kinds := [], alts := [], laidByText := true, laidKinds := [.data, .data, .data, .data, .sentinel, .sentinel, .sentinel, .sentinel, .sentinel, .sentinel, .sentinel, .sentinel, .sentinel, .sentinel, .sentinel, .sentinel, .sentinel, .sentinel, .sentinel, .pinned], laidTests := true, laidLooks := .later }
def DeskSendsUptoCardSaid : Prop := Claim7.holds Tryz.pinned (.plain (OpenSpec.upto deskSendsSpec)) deskSendsUptoCard
end Rows
end Go.Proofs.YtgkpnfnkaplebaaGreatDoor
