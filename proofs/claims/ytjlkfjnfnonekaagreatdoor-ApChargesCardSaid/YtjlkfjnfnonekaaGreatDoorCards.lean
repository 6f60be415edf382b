/-
  DERIVED. GIVEN WITH THE SEED: THE CARDS: each row of YtjlkfjnfnonekaaGreatDoorRows.lean that lists a variable, with what it lists TIED to the program's text (the seventh form; the later family's looks); each row that meets fmt, with fmt's text TOLD by the authors' own Lean function (tested against real Go, not proved from fmt's source: count such statements apart). THE CARD IS WHAT COUNTS. Prove the row's statement (the work); the ties are given (YtjlkfjnfnonekaaGreatDoorTie.lean); close each card by the builder's one call (the guide's Derived/Test/ToyasCard.lean, 'card_holds'). Laid BY PROGRAM, IN A SANDBOX (cutbox-door.mjs). By AI agents, Wed Nov 11 2026. No macro, syntax, notation, axiom, sorry.
-/
import Derived.Test.YtjlkfjnfnonekaaGreatDoorRows
import GoSem.ClaimSeven
namespace Go.Proofs.YtjlkfjnfnonekaaGreatDoor
namespace Rows

/-- THE TIED CARD OF 'muezzinlaw26.ApCharges'. -/
def apChargesCard : Claim7 := { stood := { row := apChargesRow, standIns := [], harness := (true, "9c8b539e5f24452baeb2e597a04057e47093bf9c1598ba829760205443f63464"), looks := true }, kinds := [], alts := [], laidByText := true, laidKinds := [.sentinel, .sentinel, .sentinel, .sentinel, .sentinel, .sentinel, .sentinel, .sentinel, .sentinel, .sentinel, .sentinel, .sentinel], laidTests := true, laidLooks := .later }
def ApChargesCardSaid : Prop := Claim7.holds Tryz.pinned (.plain (OpenSpec.ofChange apChargesSpec)) apChargesCard

/-- THE SECOND FORM's CARD OF 'muezzinlaw26.ApCharges'. -/
def apChargesUptoCard : Claim7 := { stood := { row := apChargesUptoRow, standIns := [], harness := (true, "9c8b539e5f24452baeb2e597a04057e47093bf9c1598ba829760205443f63464"), looks := true }, kinds := [], alts := [], laidByText := true, laidKinds := [.sentinel, .sentinel, .sentinel, .sentinel, .sentinel, .sentinel, .sentinel, .sentinel, .sentinel, .sentinel, .sentinel, .sentinel], laidTests := true, laidLooks := .later }
def ApChargesUptoCardSaid : Prop := Claim7.holds Tryz.pinned (.plain (OpenSpec.upto apChargesSpec)) apChargesUptoCard
end Rows
end Go.Proofs.YtjlkfjnfnonekaaGreatDoor
