/-
  DERIVED. GIVEN WITH THE SEED: THE CARDS: each row of YthnmgpmgfhilhaaDoorRows.lean that lists a variable, with what it lists TIED to the program's text (the seventh form; the later family's looks); each row that meets fmt, with fmt's text TOLD by the authors' own Lean function (tested against real Go, not proved from fmt's source: count such statements apart). THE CARD IS WHAT COUNTS. Prove the row's statement (the work); the ties are given (YthnmgpmgfhilhaaDoorTie.lean); close each card by the builder's one call (the guide's Derived/Test/ToyasCard.lean, 'card_holds'). Laid BY PROGRAM, IN A SANDBOX (cutbox-door.mjs). By AI agents, Wed Nov 11 2026. No macro, syntax, notation, axiom, sorry.
-/
import Derived.Test.YthnmgpmgfhilhaaDoorRows
import GoSem.ClaimSeven
namespace Go.Proofs.YthnmgpmgfhilhaaDoor
namespace Rows

/-- THE TIED CARD OF 'muezzinlaw20.SchedFair'. -/
def schedFairCard : Claim7 := { stood := { row := schedFairRow, standIns := [], harness := (true, "6d18e3ad5fde2758ddf545efed3fc6841c91190f21cdc5d7cdee280eacca020f"), looks := true }, kinds := [], alts := [], laidByText := true, laidKinds := [.sentinel, .sentinel, .sentinel], laidTests := true, laidLooks := .later }
def SchedFairCardSaid : Prop := Claim7.holds Tryd.pinned (.plain (OpenSpec.ofChange schedFairSpec)) schedFairCard

/-- THE TIED CARD OF 'muezzinlaw20.SchedComes'. -/
def schedComesCard : Claim7 := { stood := { row := schedComesRow, standIns := [], harness := (true, "6d18e3ad5fde2758ddf545efed3fc6841c91190f21cdc5d7cdee280eacca020f"), looks := true }, kinds := [], alts := [], laidByText := true, laidKinds := [.sentinel, .sentinel, .sentinel], laidTests := true, laidLooks := .later }
def SchedComesCardSaid : Prop := Claim7.holds Tryd.pinned (.plain (OpenSpec.ofChange schedComesSpec)) schedComesCard

/-- THE TIED CARD OF 'muezzinlaw20.SchedWeights'. -/
def schedWeightsCard : Claim7 := { stood := { row := schedWeightsRow, standIns := [], harness := (true, "6d18e3ad5fde2758ddf545efed3fc6841c91190f21cdc5d7cdee280eacca020f"), looks := true }, kinds := [], alts := [], laidByText := true, laidKinds := [.sentinel, .sentinel, .sentinel, .sentinel, .sentinel, .sentinel, .sentinel, .sentinel, .sentinel, .sentinel, .sentinel, .sentinel, .sentinel, .sentinel], laidTests := true, laidLooks := .later }
def SchedWeightsCardSaid : Prop := Claim7.holds Tryd.pinned (.plain (OpenSpec.ofChange schedWeightsSpec)) schedWeightsCard

/-- THE TIED CARD OF 'muezzinlaw20.SchedOrder'. -/
def schedOrderCard : Claim7 := { stood := { row := schedOrderRow, standIns := [], harness := (true, "6d18e3ad5fde2758ddf545efed3fc6841c91190f21cdc5d7cdee280eacca020f"), looks := true }, kinds := [], alts := [], laidByText := true, laidKinds := [.sentinel, .sentinel, .sentinel, .sentinel, .sentinel, .sentinel, .sentinel, .sentinel, .sentinel, .sentinel, .sentinel, .sentinel, .sentinel, .sentinel], laidTests := true, laidLooks := .later }
def SchedOrderCardSaid : Prop := Claim7.holds Tryd.pinned (.plain (OpenSpec.ofChange schedOrderSpec)) schedOrderCard

/-- THE TIED CARD OF 'muezzinlaw20.SchedPlays'. -/
def schedPlaysCard : Claim7 := { stood := { row := schedPlaysRow, standIns := [], harness := (true, "6d18e3ad5fde2758ddf545efed3fc6841c91190f21cdc5d7cdee280eacca020f"), looks := true }, kinds := [], alts := [], laidByText := true, laidKinds := [.sentinel, .sentinel, .sentinel, .sentinel, .sentinel, .sentinel, .sentinel, .sentinel, .sentinel, .sentinel, .sentinel, .sentinel, .sentinel, .sentinel], laidTests := true, laidLooks := .later }
def SchedPlaysCardSaid : Prop := Claim7.holds Tryd.pinned (.plain (OpenSpec.ofChange schedPlaysSpec)) schedPlaysCard

/-- THE SECOND FORM's CARD OF 'muezzinlaw20.SchedFair'. -/
def schedFairUptoCard : Claim7 := { stood := { row := schedFairUptoRow, standIns := [], harness := (true, "6d18e3ad5fde2758ddf545efed3fc6841c91190f21cdc5d7cdee280eacca020f"), looks := true }, kinds := [], alts := [], laidByText := true, laidKinds := [.sentinel, .sentinel, .sentinel], laidTests := true, laidLooks := .later }
def SchedFairUptoCardSaid : Prop := Claim7.holds Tryd.pinned (.plain (OpenSpec.upto schedFairSpec)) schedFairUptoCard

/-- THE SECOND FORM's CARD OF 'muezzinlaw20.SchedComes'. -/
def schedComesUptoCard : Claim7 := { stood := { row := schedComesUptoRow, standIns := [], harness := (true, "6d18e3ad5fde2758ddf545efed3fc6841c91190f21cdc5d7cdee280eacca020f"), looks := true }, kinds := [], alts := [], laidByText := true, laidKinds := [.sentinel, .sentinel, .sentinel], laidTests := true, laidLooks := .later }
def SchedComesUptoCardSaid : Prop := Claim7.holds Tryd.pinned (.plain (OpenSpec.upto schedComesSpec)) schedComesUptoCard

/-- THE SECOND FORM's CARD OF 'muezzinlaw20.SchedWeights'. -/
def schedWeightsUptoCard : Claim7 := { stood := { row := schedWeightsUptoRow, standIns := [], harness := (true, "6d18e3ad5fde2758ddf545efed3fc6841c91190f21cdc5d7cdee280eacca020f"), looks := true }, kinds := [], alts := [], laidByText := true, laidKinds := [.sentinel, .sentinel, .sentinel, .sentinel, .sentinel, .sentinel, .sentinel, .sentinel, .sentinel, .sentinel, .sentinel, .sentinel, .sentinel, .sentinel], laidTests := true, laidLooks := .later }
def SchedWeightsUptoCardSaid : Prop := Claim7.holds Tryd.pinned (.plain (OpenSpec.upto schedWeightsSpec)) schedWeightsUptoCard

/-- THE SECOND FORM's CARD OF 'muezzinlaw20.SchedOrder'. -/
def schedOrderUptoCard : Claim7 := { stood := { row := schedOrderUptoRow, standIns := [], harness := (true, "6d18e3ad5fde2758ddf545efed3fc6841c91190f21cdc5d7cdee280eacca020f"), looks := true }, kinds := [], alts := [], laidByText := true, laidKinds := [.sentinel, .sentinel, .sentinel, .sentinel, .sentinel, .sentinel, .sentinel, .sentinel, .sentinel, .sentinel, .sentinel, .sentinel, .sentinel, .sentinel], laidTests := true, laidLooks := .later }
def SchedOrderUptoCardSaid : Prop := Claim7.holds Tryd.pinned (.plain (OpenSpec.upto schedOrderSpec)) schedOrderUptoCard

/-- THE SECOND FORM's CARD OF 'muezzinlaw20.SchedPlays'. -/
def schedPlaysUptoCard : Claim7 := { stood := { row := schedPlaysUptoRow, standIns := [], harness := (true, "6d18e3ad5fde2758ddf545efed3fc6841c91190f21cdc5d7cdee280eacca020f"), looks := true }, kinds := [], alts := [], laidByText := true, laidKinds := [.sentinel, .sentinel, .sentinel, .sentinel, .sentinel, .sentinel, .sentinel, .sentinel, .sentinel, .sentinel, .sentinel, .sentinel, .sentinel, .sentinel], laidTests := true, laidLooks := .later }
def SchedPlaysUptoCardSaid : Prop := Claim7.holds Tryd.pinned (.plain (OpenSpec.upto schedPlaysSpec)) schedPlaysUptoCard
end Rows
end Go.Proofs.YthnmgpmgfhilhaaDoor
