/-
  DERIVED. GIVEN WITH THE SEED: THE CARDS: each row of YtgjbgcgjcamlgaaGreatDoorRows.lean that lists a variable, with what it lists TIED to the program's text (the seventh form; the later family's looks); each row that meets fmt, with fmt's text TOLD by the authors' own Lean function (tested against real Go, not proved from fmt's source: count such statements apart). THE CARD IS WHAT COUNTS. Prove the row's statement (the work); the ties are given (YtgjbgcgjcamlgaaGreatDoorTie.lean); close each card by the builder's one call (the guide's Derived/Test/ToyasCard.lean, 'card_holds'). Laid BY PROGRAM, IN A SANDBOX (cutbox-door.mjs). By AI agents, Wed Nov 11 2026. No macro, syntax, notation, axiom, sorry.
-/
import Derived.Test.YtgjbgcgjcamlgaaGreatDoorRows
import GoSem.ClaimSeven
namespace Go.Proofs.YtgjbgcgjcamlgaaGreatDoor
namespace Rows

/-- THE TIED CARD OF 'muezzinlaw26.ApNew'. -/
def apNewCard : Claim7 := { stood := { row := apNewRow, standIns := [], harness := (true, "ab82a1f03e10dcc7db689f3b29db6ae2752fc1cfa41dd5e0f94dc91b2437f689"), looks := true }, kinds := [], alts := [], laidByText := true, laidKinds := [.sentinel, .sentinel, .sentinel, .sentinel, .sentinel, .sentinel, .sentinel, .sentinel, .sentinel, .sentinel, .sentinel, .sentinel, .sentinel, .sentinel], laidTests := true, laidLooks := .later }
def ApNewCardSaid : Prop := Claim7.holds Tryz.pinned (.plain (OpenSpec.ofChange apNewSpec)) apNewCard

/-- THE TIED CARD OF 'muezzinlaw26.ApJoins'. -/
def apJoinsCard : Claim7 := { stood := { row := apJoinsRow, standIns := [], harness := (true, "ab82a1f03e10dcc7db689f3b29db6ae2752fc1cfa41dd5e0f94dc91b2437f689"), looks := true }, kinds := [], alts := [], laidByText := true, laidKinds := [.sentinel, .sentinel, .sentinel, .sentinel, .sentinel, .sentinel, .sentinel, .sentinel, .sentinel, .sentinel, .sentinel, .sentinel, .sentinel, .sentinel], laidTests := true, laidLooks := .later }
def ApJoinsCardSaid : Prop := Claim7.holds Tryz.pinned (.plain (OpenSpec.ofChange apJoinsSpec)) apJoinsCard

/-- THE SECOND FORM's CARD OF 'muezzinlaw26.ApNew'. -/
def apNewUptoCard : Claim7 := { stood := { row := apNewUptoRow, standIns := [], harness := (true, "ab82a1f03e10dcc7db689f3b29db6ae2752fc1cfa41dd5e0f94dc91b2437f689"), looks := true }, kinds := [], alts := [], laidByText := true, laidKinds := [.sentinel, .sentinel, .sentinel, .sentinel, .sentinel, .sentinel, .sentinel, .sentinel, .sentinel, .sentinel, .sentinel, .sentinel, .sentinel, .sentinel], laidTests := true, laidLooks := .later }
def ApNewUptoCardSaid : Prop := Claim7.holds Tryz.pinned (.plain (OpenSpec.upto apNewSpec)) apNewUptoCard

/-- THE SECOND FORM's CARD OF 'muezzinlaw26.ApJoins'. -/
def apJoinsUptoCard : Claim7 := { stood := { row := apJoinsUptoRow, standIns := [], harness := (true, "ab82a1f03e10dcc7db689f3b29db6ae2752fc1cfa41dd5e0f94dc91b2437f689"), looks := true }, kinds := [], alts := [], laidByText := true, laidKinds := [.sentinel, .sentinel, .sentinel, .sentinel, .sentinel, .sentinel, .sentinel, .sentinel, .sentinel, .sentinel, .sentinel, .sentinel, .sentinel, .sentinel], laidTests := true, laidLooks := .later }
def ApJoinsUptoCardSaid : Prop := Claim7.holds Tryz.pinned (.plain (OpenSpec.upto apJoinsSpec)) apJoinsUptoCard
end Rows
end Go.Proofs.YtgjbgcgjcamlgaaGreatDoor
