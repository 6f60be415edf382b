/-
  DERIVED. GIVEN WITH THE SEED: THE CARDS: each row of YtcefbgcgldagfaaGreatDoorRows.lean that lists a variable, with what it lists TIED to the program's text (the seventh form; the later family's looks); each row that meets fmt, with fmt's text TOLD by the authors' own Lean function (tested against real Go, not proved from fmt's source: count such statements apart). THE CARD IS WHAT COUNTS. Prove the row's statement (the work); the ties are given (YtcefbgcgldagfaaGreatDoorTie.lean); close each card by the builder's one call (the guide's Derived/Test/ToyasCard.lean, 'card_holds'). Laid BY PROGRAM, IN A SANDBOX (cutbox-door.mjs). By AI agents, Wed Nov 11 2026. No macro, syntax, notation, axiom, sorry.
-/
import Derived.Test.YtcefbgcgldagfaaGreatDoorRows
import GoSem.ClaimSeven
namespace Go.Proofs.YtcefbgcgldagfaaGreatDoor
namespace Rows

/-- THE TIED CARD OF 'muezzinlaw26.ApTurns'. -/
def apTurnsCard : Claim7 := { stood := { row := apTurnsRow, standIns := [], harness := (true, "4204cc51ab5890cea95abb657299f8375e177014bffcda3e0fdd92e46d44f3d9"), looks := true }, kinds := [], alts := [], laidByText := true, laidKinds := [.sentinel, .sentinel, .sentinel, .sentinel, .sentinel, .sentinel, .sentinel, .sentinel, .sentinel, .sentinel, .sentinel, .sentinel], laidTests := true, laidLooks := .later }
def ApTurnsCardSaid : Prop := Claim7.holds Tryz.pinned (.plain (OpenSpec.ofChange apTurnsSpec)) apTurnsCard

/-- THE TIED CARD OF 'muezzinlaw26.ApSessions'. -/
def apSessionsCard : Claim7 := { stood := { row := apSessionsRow, standIns := [], harness := (true, "4204cc51ab5890cea95abb657299f8375e177014bffcda3e0fdd92e46d44f3d9"), looks := true }, kinds := [], alts := [], laidByText := true, laidKinds := [.sentinel, .sentinel, .sentinel, .sentinel, .sentinel, .sentinel, .sentinel, .sentinel, .sentinel, .sentinel, .sentinel, .sentinel], laidTests := true, laidLooks := .later }
def ApSessionsCardSaid : Prop := Claim7.holds Tryz.pinned (.plain (OpenSpec.ofChange apSessionsSpec)) apSessionsCard

/-- THE TIED CARD OF 'muezzinlaw26.ApPeriods'. -/
def apPeriodsCard : Claim7 := { stood := { row := apPeriodsRow, standIns := [], harness := (true, "4204cc51ab5890cea95abb657299f8375e177014bffcda3e0fdd92e46d44f3d9"), looks := true }, kinds := [], alts := [], laidByText := true, laidKinds := [.sentinel, .sentinel, .sentinel, .sentinel, .sentinel, .sentinel, .sentinel, .sentinel, .sentinel, .sentinel, .sentinel, .sentinel], laidTests := true, laidLooks := .later }
def ApPeriodsCardSaid : Prop := Claim7.holds Tryz.pinned (.plain (OpenSpec.ofChange apPeriodsSpec)) apPeriodsCard

/-- THE TIED CARD OF 'muezzinlaw26.ApCharges'. -/
def apChargesCard : Claim7 := { stood := { row := apChargesRow, standIns := [], harness := (true, "4204cc51ab5890cea95abb657299f8375e177014bffcda3e0fdd92e46d44f3d9"), looks := true }, kinds := [], alts := [], laidByText := true, laidKinds := [.sentinel, .sentinel, .sentinel, .sentinel, .sentinel, .sentinel, .sentinel, .sentinel, .sentinel, .sentinel, .sentinel, .sentinel], laidTests := true, laidLooks := .later }
def ApChargesCardSaid : Prop := Claim7.holds Tryz.pinned (.plain (OpenSpec.ofChange apChargesSpec)) apChargesCard

/-- THE TIED CARD OF 'muezzinlaw26.ApDone'. -/
def apDoneCard : Claim7 := { stood := { row := apDoneRow, standIns := [], harness := (true, "4204cc51ab5890cea95abb657299f8375e177014bffcda3e0fdd92e46d44f3d9"), looks := true }, kinds := [], alts := [], laidByText := true, laidKinds := [.sentinel, .sentinel, .sentinel, .sentinel, .sentinel, .sentinel, .sentinel, .sentinel, .sentinel, .sentinel, .sentinel, .sentinel, .sentinel, .sentinel], laidTests := true, laidLooks := .later }
def ApDoneCardSaid : Prop := Claim7.holds Tryz.pinned (.plain (OpenSpec.ofChange apDoneSpec)) apDoneCard

/-- THE TIED CARD OF 'muezzinlaw26.ApSleeps'. -/
def apSleepsCard : Claim7 := { stood := { row := apSleepsRow, standIns := [], harness := (true, "4204cc51ab5890cea95abb657299f8375e177014bffcda3e0fdd92e46d44f3d9"), looks := true }, kinds := [], alts := [], laidByText := true, laidKinds := [.sentinel, .sentinel, .sentinel, .sentinel, .sentinel, .sentinel, .sentinel, .sentinel, .sentinel, .sentinel, .sentinel, .sentinel], laidTests := true, laidLooks := .later }
def ApSleepsCardSaid : Prop := Claim7.holds Tryz.pinned (.plain (OpenSpec.ofChange apSleepsSpec)) apSleepsCard

/-- THE TIED CARD OF 'muezzinlaw26.ApBars'. -/
def apBarsCard : Claim7 := { stood := { row := apBarsRow, standIns := [], harness := (true, "4204cc51ab5890cea95abb657299f8375e177014bffcda3e0fdd92e46d44f3d9"), looks := true }, kinds := [], alts := [], laidByText := true, laidKinds := [.sentinel, .sentinel, .sentinel, .sentinel, .sentinel, .sentinel, .sentinel, .sentinel, .sentinel, .sentinel, .sentinel, .sentinel], laidTests := true, laidLooks := .later }
def ApBarsCardSaid : Prop := Claim7.holds Tryz.pinned (.plain (OpenSpec.ofChange apBarsSpec)) apBarsCard

/-- THE TIED CARD OF 'muezzinlaw26.ApRetries'. -/
def apRetriesCard : Claim7 := { stood := { row := apRetriesRow, standIns := [], harness := (true, "4204cc51ab5890cea95abb657299f8375e177014bffcda3e0fdd92e46d44f3d9"), looks := true }, kinds := [], alts := [], laidByText := true, laidKinds := [.sentinel, .sentinel, .sentinel, .sentinel, .sentinel, .sentinel, .sentinel, .sentinel, .sentinel, .sentinel, .sentinel, .sentinel], laidTests := true, laidLooks := .later }
def ApRetriesCardSaid : Prop := Claim7.holds Tryz.pinned (.plain (OpenSpec.ofChange apRetriesSpec)) apRetriesCard

/-- THE TIED CARD OF 'muezzinlaw26.ApLimits'. -/
def apLimitsCard : Claim7 := { stood := { row := apLimitsRow, standIns := [], harness := (true, "4204cc51ab5890cea95abb657299f8375e177014bffcda3e0fdd92e46d44f3d9"), looks := true }, kinds := [], alts := [], laidByText := true, laidKinds := [.sentinel, .sentinel, .sentinel, .sentinel, .sentinel, .sentinel, .sentinel, .sentinel, .sentinel, .sentinel, .sentinel, .sentinel], laidTests := true, laidLooks := .later }
def ApLimitsCardSaid : Prop := Claim7.holds Tryz.pinned (.plain (OpenSpec.ofChange apLimitsSpec)) apLimitsCard

/-- THE SECOND FORM's CARD OF 'muezzinlaw26.ApTurns'. -/
def apTurnsUptoCard : Claim7 := { stood := { row := apTurnsUptoRow, standIns := [], harness := (true, "4204cc51ab5890cea95abb657299f8375e177014bffcda3e0fdd92e46d44f3d9"), looks := true }, kinds := [], alts := [], laidByText := true, laidKinds := [.sentinel, .sentinel, .sentinel, .sentinel, .sentinel, .sentinel, .sentinel, .sentinel, .sentinel, .sentinel, .sentinel, .sentinel], laidTests := true, laidLooks := .later }
def ApTurnsUptoCardSaid : Prop := Claim7.holds Tryz.pinned (.plain (OpenSpec.upto apTurnsSpec)) apTurnsUptoCard

/-- THE SECOND FORM's CARD OF 'muezzinlaw26.ApSessions'. -/
def apSessionsUptoCard : Claim7 := { stood := { row := apSessionsUptoRow, standIns := [], harness := (true, "4204cc51ab5890cea95abb657299f8375e177014bffcda3e0fdd92e46d44f3d9"), looks := true }, kinds := [], alts := [], laidByText := true, laidKinds := [.sentinel, .sentinel, .sentinel, .sentinel, .sentinel, .sentinel, .sentinel, .sentinel, .sentinel, .sentinel, .sentinel, .sentinel], laidTests := true, laidLooks := .later }
def ApSessionsUptoCardSaid : Prop := Claim7.holds Tryz.pinned (.plain (OpenSpec.upto apSessionsSpec)) apSessionsUptoCard

/-- THE SECOND FORM's CARD OF 'muezzinlaw26.ApPeriods'. -/
def apPeriodsUptoCard : Claim7 := { stood := { row := apPeriodsUptoRow, standIns := [], harness := (true, "4204cc51ab5890cea95abb657299f8375e177014bffcda3e0fdd92e46d44f3d9"), looks := true }, kinds := [], alts := [], laidByText := true, laidKinds := [.sentinel, .sentinel, .sentinel, .sentinel, .sentinel, .sentinel, .sentinel, .sentinel, .sentinel, .sentinel, .sentinel, .sentinel], laidTests := true, laidLooks := .later }
def ApPeriodsUptoCardSaid : Prop := Claim7.holds Tryz.pinned (.plain (OpenSpec.upto apPeriodsSpec)) apPeriodsUptoCard

/-- THE SECOND FORM's CARD OF 'muezzinlaw26.ApCharges'. -/
def apChargesUptoCard : Claim7 := { stood := { row := apChargesUptoRow, standIns := [], harness := (true, "4204cc51ab5890cea95abb657299f8375e177014bffcda3e0fdd92e46d44f3d9"), looks := true }, kinds := [], alts := [], laidByText := true, laidKinds := [.sentinel, .sentinel, .sentinel, .sentinel, .sentinel, .sentinel, .sentinel, .sentinel, .sentinel, .sentinel, .sentinel, .sentinel], laidTests := true, laidLooks := .later }
def ApChargesUptoCardSaid : Prop := Claim7.holds Tryz.pinned (.plain (OpenSpec.upto apChargesSpec)) apChargesUptoCard

/-- THE SECOND FORM's CARD OF 'muezzinlaw26.ApDone'. -/
def apDoneUptoCard : Claim7 := { stood := { row := apDoneUptoRow, standIns := [], harness := (true, "4204cc51ab5890cea95abb657299f8375e177014bffcda3e0fdd92e46d44f3d9"), looks := true }, kinds := [], alts := [], laidByText := true, laidKinds := [.sentinel, .sentinel, .sentinel, .sentinel, .sentinel, .sentinel, .sentinel, .sentinel, .sentinel, .sentinel, .sentinel, .sentinel, .sentinel, .sentinel], laidTests := true, laidLooks := .later }
def ApDoneUptoCardSaid : Prop := Claim7.holds Tryz.pinned (.plain (OpenSpec.upto apDoneSpec)) apDoneUptoCard

/-- THE SECOND FORM's CARD OF 'muezzinlaw26.ApSleeps'. -/
def apSleepsUptoCard : Claim7 := { stood := { row := apSleepsUptoRow, standIns := [], harness := (true, "4204cc51ab5890cea95abb657299f8375e177014bffcda3e0fdd92e46d44f3d9"), looks := true }, kinds := [], alts := [], laidByText := true, laidKinds := [.sentinel, .sentinel, .sentinel, .sentinel, .sentinel, .sentinel, .sentinel, .sentinel, .sentinel, .sentinel, .sentinel, .sentinel], laidTests := true, laidLooks := .later }
def ApSleepsUptoCardSaid : Prop := Claim7.holds Tryz.pinned (.plain (OpenSpec.upto apSleepsSpec)) apSleepsUptoCard

/-- THE SECOND FORM's CARD OF 'muezzinlaw26.ApBars'. -/
def apBarsUptoCard : Claim7 := { stood := { row := apBarsUptoRow, standIns := [], harness := (true, "4204cc51ab5890cea95abb657299f8375e177014bffcda3e0fdd92e46d44f3d9"), looks := true }, kinds := [], alts := [], laidByText := true, laidKinds := [.sentinel, .sentinel, .sentinel, .sentinel, .sentinel, .sentinel, .sentinel, .sentinel, .sentinel, .sentinel, .sentinel, .sentinel], laidTests := true, laidLooks := .later }
def ApBarsUptoCardSaid : Prop := Claim7.holds Tryz.pinned (.plain (OpenSpec.upto apBarsSpec)) apBarsUptoCard

/-- THE SECOND FORM's CARD OF 'muezzinlaw26.ApRetries'. -/
def apRetriesUptoCard : Claim7 := { stood := { row := apRetriesUptoRow, standIns := [], harness := (true, "4204cc51ab5890cea95abb657299f8375e177014bffcda3e0fdd92e46d44f3d9"), looks := true }, kinds := [], alts := [], laidByText := true, laidKinds := [.sentinel, .sentinel, .sentinel, .sentinel, .sentinel, .sentinel, .sentinel, .sentinel, .sentinel, .sentinel, .sentinel, .sentinel], laidTests := true, laidLooks := .later }
def ApRetriesUptoCardSaid : Prop := Claim7.holds Tryz.pinned (.plain (OpenSpec.upto apRetriesSpec)) apRetriesUptoCard

/-- THE SECOND FORM's CARD OF 'muezzinlaw26.ApLimits'. -/
def apLimitsUptoCard : Claim7 := { stood := { row := apLimitsUptoRow, standIns := [], harness := (true, "4204cc51ab5890cea95abb657299f8375e177014bffcda3e0fdd92e46d44f3d9"), looks := true }, kinds := [], alts := [], laidByText := true, laidKinds := [.sentinel, .sentinel, .sentinel, .sentinel, .sentinel, .sentinel, .sentinel, .sentinel, .sentinel, .sentinel, .sentinel, .sentinel], laidTests := true, laidLooks := .later }
def ApLimitsUptoCardSaid : Prop := Claim7.holds Tryz.pinned (.plain (OpenSpec.upto apLimitsSpec)) apLimitsUptoCard
end Rows
end Go.Proofs.YtcefbgcgldagfaaGreatDoor
