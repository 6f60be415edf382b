/-
  DERIVED. GIVEN WITH THE SEED: THE CARDS: each row of YtpcilleldanfmaaDoorRows.lean that lists a variable, with what it lists TIED to the program's text (the seventh form; the later family's looks); each row that meets fmt, with fmt's text TOLD by the authors' own Lean function (tested against real Go, not proved from fmt's source: count such statements apart). THE CARD IS WHAT COUNTS. Prove the row's statement (the work); the ties are given (YtpcilleldanfmaaDoorTie.lean); close each card by the builder's one call (the guide's Derived/Test/ToyasCard.lean, 'card_holds'). Laid BY PROGRAM, IN A SANDBOX (cutbox-door.mjs). By AI agents, Wed Nov 11 2026. No macro, syntax, notation, axiom, sorry.
-/
import Derived.Test.YtpcilleldanfmaaDoorRows
import GoSem.ClaimSeven
namespace Go.Proofs.YtpcilleldanfmaaDoor
namespace Rows

/-- THE TIED CARD OF 'muezzinlaw14.PoolFattest'. -/
def poolFattestCard : Claim7 := { stood := { row := poolFattestRow, standIns := [], harness := (true, "54dd717753ee04073205d019106d0c5bc0f6de1446478b7c32c1f175f669c04e"), looks := true }, kinds := [], alts := [], laidByText := true, laidKinds := [.sentinel], laidTests := true, laidLooks := .later }
def PoolFattestCardSaid : Prop := Claim7.holds Tryd.pinned (.plain (OpenSpec.ofChange poolFattestSpec)) poolFattestCard

/-- THE TIED CARD OF 'muezzinlaw14.PoolLimits'. -/
def poolLimitsCard : Claim7 := { stood := { row := poolLimitsRow, standIns := [], harness := (true, "54dd717753ee04073205d019106d0c5bc0f6de1446478b7c32c1f175f669c04e"), looks := true }, kinds := [], alts := [], laidByText := true, laidKinds := [.sentinel], laidTests := true, laidLooks := .later }
def PoolLimitsCardSaid : Prop := Claim7.holds Tryd.pinned (.plain (OpenSpec.ofChange poolLimitsSpec)) poolLimitsCard

/-- THE TIED CARD OF 'muezzinlaw14.PoolApart'. -/
def poolApartCard : Claim7 := { stood := { row := poolApartRow, standIns := [], harness := (true, "54dd717753ee04073205d019106d0c5bc0f6de1446478b7c32c1f175f669c04e"), looks := true }, kinds := [], alts := [], laidByText := true, laidKinds := [.sentinel, .sentinel, .sentinel, .sentinel, .sentinel, .sentinel, .sentinel, .sentinel, .sentinel, .sentinel, .sentinel, .sentinel, .sentinel, .sentinel], laidTests := true, laidLooks := .later }
def PoolApartCardSaid : Prop := Claim7.holds Tryd.pinned (.plain (OpenSpec.ofChange poolApartSpec)) poolApartCard

/-- THE TIED CARD OF 'muezzinlaw14.PoolPlays'. -/
def poolPlaysCard : Claim7 := { stood := { row := poolPlaysRow, standIns := [], harness := (true, "54dd717753ee04073205d019106d0c5bc0f6de1446478b7c32c1f175f669c04e"), looks := true }, kinds := [], alts := [], laidByText := true, laidKinds := [.sentinel, .sentinel, .sentinel, .sentinel, .sentinel, .sentinel, .sentinel, .sentinel, .sentinel, .sentinel, .sentinel, .sentinel, .sentinel, .sentinel], laidTests := true, laidLooks := .later }
def PoolPlaysCardSaid : Prop := Claim7.holds Tryd.pinned (.plain (OpenSpec.ofChange poolPlaysSpec)) poolPlaysCard

/-- THE SECOND FORM's CARD OF 'muezzinlaw14.PoolFattest'. -/
def poolFattestUptoCard : Claim7 := { stood := { row := poolFattestUptoRow, standIns := [], harness := (true, "54dd717753ee04073205d019106d0c5bc0f6de1446478b7c32c1f175f669c04e"), looks := true }, kinds := [], alts := [], laidByText := true, laidKinds := [.sentinel], laidTests := true, laidLooks := .later }
def PoolFattestUptoCardSaid : Prop := Claim7.holds Tryd.pinned (.plain (OpenSpec.upto poolFattestSpec)) poolFattestUptoCard

/-- THE SECOND FORM's CARD OF 'muezzinlaw14.PoolLimits'. -/
def poolLimitsUptoCard : Claim7 := { stood := { row := poolLimitsUptoRow, standIns := [], harness := (true, "54dd717753ee04073205d019106d0c5bc0f6de1446478b7c32c1f175f669c04e"), looks := true }, kinds := [], alts := [], laidByText := true, laidKinds := [.sentinel], laidTests := true, laidLooks := .later }
def PoolLimitsUptoCardSaid : Prop := Claim7.holds Tryd.pinned (.plain (OpenSpec.upto poolLimitsSpec)) poolLimitsUptoCard

/-- THE SECOND FORM's CARD OF 'muezzinlaw14.PoolApart'. -/
def poolApartUptoCard : Claim7 := { stood := { row := poolApartUptoRow, standIns := [], harness := (true, "54dd717753ee04073205d019106d0c5bc0f6de1446478b7c32c1f175f669c04e"), looks := true }, kinds := [], alts := [], laidByText := true, laidKinds := [.sentinel, .sentinel, .sentinel, .sentinel, .sentinel, .sentinel, .sentinel, .sentinel, .sentinel, .sentinel, .sentinel, .sentinel, .sentinel, .sentinel], laidTests := true, laidLooks := .later }
def PoolApartUptoCardSaid : Prop := Claim7.holds Tryd.pinned (.plain (OpenSpec.upto poolApartSpec)) poolApartUptoCard

/-- THE SECOND FORM's CARD OF 'muezzinlaw14.PoolPlays'. -/
def poolPlaysUptoCard : Claim7 := { stood := { row := poolPlaysUptoRow, standIns := [], harness := (true, "54dd717753ee04073205d019106d0c5bc0f6de1446478b7c32c1f175f669c04e"), looks := true }, kinds := [], alts := [], laidByText := true, laidKinds := [.sentinel, .sentinel, .sentinel, .sentinel, .sentinel, .sentinel, .sentinel, .sentinel, .sentinel, .sentinel, .sentinel, .sentinel, .sentinel, .sentinel], laidTests := true, laidLooks := .later }
def PoolPlaysUptoCardSaid : Prop := Claim7.holds Tryd.pinned (.plain (OpenSpec.upto poolPlaysSpec)) poolPlaysUptoCard
end Rows
end Go.Proofs.YtpcilleldanfmaaDoor
