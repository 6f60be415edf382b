/-
  DERIVED. GIVEN WITH THE SEED: THE CARDS: each row of YtbelmboeamkccaaGreatDoorRows.lean that lists a variable, with what it lists TIED to the program's text (the seventh form; the later family's looks); each row that meets fmt, with fmt's text TOLD by the authors' own Lean function (tested against real Go, not proved from fmt's source: count such statements apart). THE CARD IS WHAT COUNTS. Prove the row's statement (the work); the ties are given (YtbelmboeamkccaaGreatDoorTie.lean); close each card by the builder's one call (the guide's Derived/Test/ToyasCard.lean, 'card_holds'). Laid BY PROGRAM, IN A SANDBOX (cutbox-door.mjs). By AI agents, Wed Nov 11 2026. No macro, syntax, notation, axiom, sorry.
-/
import Derived.Test.YtbelmboeamkccaaGreatDoorRows
import GoSem.ClaimSeven
namespace Go.Proofs.YtbelmboeamkccaaGreatDoor
namespace Rows

/-- THE TIED CARD OF 'muezzinlaw27.LabAgain'. -/
def labAgainCard : Claim7 := { stood := { row := labAgainRow, standIns := [], harness := (true, "45b513064cb3b1249f3562101e8ee77f160d1e1c4c065621b050c2f1eb6efd4d"), looks := true }, kinds := [], alts := [], laidByText := true, laidKinds := [.sentinel, .sentinel, .sentinel, .sentinel, .sentinel, .sentinel, .sentinel, .sentinel, .sentinel, .sentinel, .sentinel], laidTests := true, laidLooks := .later }
def LabAgainCardSaid : Prop := Claim7.holds Tryz.pinned (.plain (OpenSpec.ofChange labAgainSpec)) labAgainCard

/-- THE TIED CARD OF 'muezzinlaw27.LabSleeps'. -/
def labSleepsCard : Claim7 := { stood := { row := labSleepsRow, standIns := [], harness := (true, "45b513064cb3b1249f3562101e8ee77f160d1e1c4c065621b050c2f1eb6efd4d"), looks := true }, kinds := [], alts := [], laidByText := true, laidKinds := [.sentinel, .sentinel, .sentinel, .sentinel, .sentinel, .sentinel, .sentinel, .sentinel, .sentinel, .sentinel, .sentinel], laidTests := true, laidLooks := .later }
def LabSleepsCardSaid : Prop := Claim7.holds Tryz.pinned (.plain (OpenSpec.ofChange labSleepsSpec)) labSleepsCard

/-- THE SECOND FORM's CARD OF 'muezzinlaw27.LabAgain'. -/
def labAgainUptoCard : Claim7 := { stood := { row := labAgainUptoRow, standIns := [], harness := (true, "45b513064cb3b1249f3562101e8ee77f160d1e1c4c065621b050c2f1eb6efd4d"), looks := true }, kinds := [], alts := [], laidByText := true, laidKinds := [.sentinel, .sentinel, .sentinel, .sentinel, .sentinel, .sentinel, .sentinel, .sentinel, .sentinel, .sentinel, .sentinel], laidTests := true, laidLooks := .later }
def LabAgainUptoCardSaid : Prop := Claim7.holds Tryz.pinned (.plain (OpenSpec.upto labAgainSpec)) labAgainUptoCard

/-- THE SECOND FORM's CARD OF 'muezzinlaw27.LabSleeps'. -/
def labSleepsUptoCard : Claim7 := { stood := { row := labSleepsUptoRow, standIns := [], harness := (true, "45b513064cb3b1249f3562101e8ee77f160d1e1c4c065621b050c2f1eb6efd4d"), looks := true }, kinds := [], alts := [], laidByText := true, laidKinds := [.sentinel, .sentinel, .sentinel, .sentinel, .sentinel, .sentinel, .sentinel, .sentinel, .sentinel, .sentinel, .sentinel], laidTests := true, laidLooks := .later }
def LabSleepsUptoCardSaid : Prop := Claim7.holds Tryz.pinned (.plain (OpenSpec.upto labSleepsSpec)) labSleepsUptoCard
end Rows
end Go.Proofs.YtbelmboeamkccaaGreatDoor
