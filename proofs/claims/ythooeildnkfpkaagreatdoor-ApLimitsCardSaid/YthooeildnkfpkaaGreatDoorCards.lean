/-
  DERIVED. GIVEN WITH THE SEED: THE CARDS: each row of YthooeildnkfpkaaGreatDoorRows.lean that lists a variable, with what it lists TIED to the program's text (the seventh form; the later family's looks); each row that meets fmt, with fmt's text TOLD by the authors' own Lean function (tested against real Go, not proved from fmt's source: count such statements apart). THE CARD IS WHAT COUNTS. Prove the row's statement (the work); the ties are given (YthooeildnkfpkaaGreatDoorTie.lean); close each card by the builder's one call (the guide's Derived/Test/ToyasCard.lean, 'card_holds'). Laid BY PROGRAM, IN A SANDBOX (cutbox-door.mjs). By AI agents, Wed Nov 11 2026. No macro, syntax, notation, axiom, sorry.
-/
import Derived.Test.YthooeildnkfpkaaGreatDoorRows
import GoSem.ClaimSeven
namespace Go.Proofs.YthooeildnkfpkaaGreatDoor
namespace Rows

/-- THE TIED CARD OF 'muezzinlaw26.ApSessions'. -/
def apSessionsCard : Claim7 := { stood := { row := apSessionsRow, standIns := [], harness := (true, "654e735b7a9f67a1df0af09a4c770bc439713c5124a4a6d49724dc322166a09e"), looks := true }, kinds := [], alts := [], laidByText := true, laidKinds := [.sentinel, .sentinel, .sentinel, .sentinel, .sentinel, .sentinel, .sentinel, .sentinel, .sentinel, .sentinel, .sentinel, .sentinel], laidTests := true, laidLooks := .later }
def ApSessionsCardSaid : Prop := Claim7.holds Tryz.pinned (.plain (OpenSpec.ofChange apSessionsSpec)) apSessionsCard

/-- THE TIED CARD OF 'muezzinlaw26.ApSleeps'. -/
def apSleepsCard : Claim7 := { stood := { row := apSleepsRow, standIns := [], harness := (true, "654e735b7a9f67a1df0af09a4c770bc439713c5124a4a6d49724dc322166a09e"), looks := true }, kinds := [], alts := [], laidByText := true, laidKinds := [.sentinel, .sentinel, .sentinel, .sentinel, .sentinel, .sentinel, .sentinel, .sentinel, .sentinel, .sentinel, .sentinel, .sentinel], laidTests := true, laidLooks := .later }
def ApSleepsCardSaid : Prop := Claim7.holds Tryz.pinned (.plain (OpenSpec.ofChange apSleepsSpec)) apSleepsCard

/-- THE TIED CARD OF 'muezzinlaw26.ApLimits'. -/
def apLimitsCard : Claim7 := { stood := { row := apLimitsRow, standIns := [], harness := (true, "654e735b7a9f67a1df0af09a4c770bc439713c5124a4a6d49724dc322166a09e"), looks := true }, kinds := [], alts := [], laidByText := true, laidKinds := [.sentinel, .sentinel, .sentinel, .sentinel, .sentinel, .sentinel, .sentinel, .sentinel, .sentinel, .sentinel, .sentinel, .sentinel], laidTests := true, laidLooks := .later }
def ApLimitsCardSaid : Prop := Claim7.holds Tryz.pinned (.plain (OpenSpec.ofChange apLimitsSpec)) apLimitsCard

/-- THE SECOND FORM's CARD OF 'muezzinlaw26.ApSessions'. -/
def apSessionsUptoCard : Claim7 := { stood := { row := apSessionsUptoRow, standIns := [], harness := (true, "654e735b7a9f67a1df0af09a4c770bc439713c5124a4a6d49724dc322166a09e"), looks := true }, kinds := [], alts := [], laidByText := true, laidKinds := [.sentinel, .sentinel, .sentinel, .sentinel, .sentinel, .sentinel, .sentinel, .sentinel, .sentinel, .sentinel, .sentinel, .sentinel], laidTests := true, laidLooks := .later }
def ApSessionsUptoCardSaid : Prop := Claim7.holds Tryz.pinned (.plain (OpenSpec.upto apSessionsSpec)) apSessionsUptoCard

/-- THE SECOND FORM's CARD OF 'muezzinlaw26.ApSleeps'. -/
def apSleepsUptoCard : Claim7 := { stood := { row := apSleepsUptoRow, standIns := [], harness := (true, "654e735b7a9f67a1df0af09a4c770bc439713c5124a4a6d49724dc322166a09e"), looks := true }, kinds := [], alts := [], laidByText := true, laidKinds := [.sentinel, .sentinel, .sentinel, .sentinel, .sentinel, .sentinel, .sentinel, .sentinel, .sentinel, .sentinel, .sentinel, .sentinel], laidTests := true, laidLooks := .later }
def ApSleepsUptoCardSaid : Prop := Claim7.holds Tryz.pinned (.plain (OpenSpec.upto apSleepsSpec)) apSleepsUptoCard

/-- THE SECOND FORM's CARD OF 'muezzinlaw26.ApLimits'. -/
def apLimitsUptoCard : Claim7 := { stood := { row := apLimitsUptoRow, standIns := [], harness := (true, "654e735b7a9f67a1df0af09a4c770bc439713c5124a4a6d49724dc322166a09e"), looks := true }, kinds := [], alts := [], laidByText := true, laidKinds := [.sentinel, .sentinel, .sentinel, .sentinel, .sentinel, .sentinel, .sentinel, .sentinel, .sentinel, .sentinel, .sentinel, .sentinel], laidTests := true, laidLooks := .later }
def ApLimitsUptoCardSaid : Prop := Claim7.holds Tryz.pinned (.plain (OpenSpec.upto apLimitsSpec)) apLimitsUptoCard
end Rows
end Go.Proofs.YthooeildnkfpkaaGreatDoor
