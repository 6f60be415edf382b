/-
  DERIVED. GIVEN WITH THE SEED: THE CARDS: each row of YtjjkbedlnbaccaaGreatDoorRows.lean that lists a variable, with what it lists TIED to the program's text (the seventh form; the later family's looks); each row that meets fmt, with fmt's text TOLD by the authors' own Lean function (tested against real Go, not proved from fmt's source: count such statements apart). THE CARD IS WHAT COUNTS. Prove the row's statement (the work); the ties are given (YtjjkbedlnbaccaaGreatDoorTie.lean); close each card by the builder's one call (the guide's Derived/Test/ToyasCard.lean, 'card_holds'). Laid BY PROGRAM, IN A SANDBOX (cutbox-door.mjs). By AI agents, Wed Nov 11 2026. No macro, syntax, notation, axiom, sorry.
-/
import Derived.Test.YtjjkbedlnbaccaaGreatDoorRows
import GoSem.ClaimSeven
namespace Go.Proofs.YtjjkbedlnbaccaaGreatDoor
namespace Rows

/-- THE TIED CARD OF 'muezzinlaw26.ApDone'. -/
def apDoneCard : Claim7 := { stood := { row := apDoneRow, standIns := [], harness := (true, "6d6c6557d733f06a0db14d1118455d58d81d4369313b7ccd42c6ddd7a70e25fa"), looks := true }, kinds := [], alts := [], laidByText := true, laidKinds := [.sentinel, .sentinel, .sentinel, .sentinel, .sentinel, .sentinel, .sentinel, .sentinel, .sentinel, .sentinel, .sentinel, .sentinel, .sentinel, .sentinel], laidTests := true, laidLooks := .later }
def ApDoneCardSaid : Prop := Claim7.holds Tryz.pinned (.plain (OpenSpec.ofChange apDoneSpec)) apDoneCard

/-- THE TIED CARD OF 'muezzinlaw27.LabErrors'. -/
def labErrorsCard : Claim7 := { stood := { row := labErrorsRow, standIns := [], harness := (true, "6d6c6557d733f06a0db14d1118455d58d81d4369313b7ccd42c6ddd7a70e25fa"), looks := true }, kinds := [], alts := [], laidByText := true, laidKinds := [.sentinel, .sentinel, .sentinel, .sentinel, .sentinel, .sentinel, .sentinel, .sentinel, .sentinel, .sentinel, .sentinel, .sentinel, .sentinel, .sentinel], laidTests := true, laidLooks := .later }
def LabErrorsCardSaid : Prop := Claim7.holds Tryz.pinned (.plain (OpenSpec.ofChange labErrorsSpec)) labErrorsCard

/-- THE SECOND FORM's CARD OF 'muezzinlaw26.ApDone'. -/
def apDoneUptoCard : Claim7 := { stood := { row := apDoneUptoRow, standIns := [], harness := (true, "6d6c6557d733f06a0db14d1118455d58d81d4369313b7ccd42c6ddd7a70e25fa"), looks := true }, kinds := [], alts := [], laidByText := true, laidKinds := [.sentinel, .sentinel, .sentinel, .sentinel, .sentinel, .sentinel, .sentinel, .sentinel, .sentinel, .sentinel, .sentinel, .sentinel, .sentinel, .sentinel], laidTests := true, laidLooks := .later }
def ApDoneUptoCardSaid : Prop := Claim7.holds Tryz.pinned (.plain (OpenSpec.upto apDoneSpec)) apDoneUptoCard

/-- THE SECOND FORM's CARD OF 'muezzinlaw27.LabErrors'. -/
def labErrorsUptoCard : Claim7 := { stood := { row := labErrorsUptoRow, standIns := [], harness := (true, "6d6c6557d733f06a0db14d1118455d58d81d4369313b7ccd42c6ddd7a70e25fa"), looks := true }, kinds := [], alts := [], laidByText := true, laidKinds := [.sentinel, .sentinel, .sentinel, .sentinel, .sentinel, .sentinel, .sentinel, .sentinel, .sentinel, .sentinel, .sentinel, .sentinel, .sentinel, .sentinel], laidTests := true, laidLooks := .later }
def LabErrorsUptoCardSaid : Prop := Claim7.holds Tryz.pinned (.plain (OpenSpec.upto labErrorsSpec)) labErrorsUptoCard
end Rows
end Go.Proofs.YtjjkbedlnbaccaaGreatDoor
