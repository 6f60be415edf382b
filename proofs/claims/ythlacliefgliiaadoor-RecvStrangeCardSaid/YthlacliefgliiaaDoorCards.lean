/-
  DERIVED. GIVEN WITH THE SEED: THE CARDS: each row of YthlacliefgliiaaDoorRows.lean that lists a variable, with what it lists TIED to the program's text (the seventh form; the later family's looks); each row that meets fmt, with fmt's text TOLD by the authors' own Lean function (tested against real Go, not proved from fmt's source: count such statements apart). THE CARD IS WHAT COUNTS. Prove the row's statement (the work); the ties are given (YthlacliefgliiaaDoorTie.lean); close each card by the builder's one call (the guide's Derived/Test/ToyasCard.lean, 'card_holds'). Laid BY PROGRAM, IN A SANDBOX (cutbox-door.mjs). By AI agents, Wed Nov 11 2026. No macro, syntax, notation, axiom, sorry.
-/
import Derived.Test.YthlacliefgliiaaDoorRows
import GoSem.ClaimSeven
namespace Go.Proofs.YthlacliefgliiaaDoor
namespace Rows

/-- THE TIED CARD OF 'muezzinlaw24.RecvSingle'. -/
def recvSingleCard : Claim7 := { stood := { row := recvSingleRow, standIns := [], harness := (true, "af35b5e6b0e8f0d2ea519ea7d0ad981d028476a64a3261fccf7dd71181e6e8ac"), looks := false }, kinds := [], alts := [], laidByText := true, laidKinds := [.sentinel, .sentinel, .sentinel, .sentinel, .sentinel], laidTests := true, laidLooks := .later }
def RecvSingleCardSaid : Prop := Claim7.holds Tryd.pinned (.plain (OpenSpec.ofChange recvSingleSpec)) recvSingleCard

/-- THE TIED CARD OF 'muezzinlaw24.RecvStrange'. -/
def recvStrangeCard : Claim7 := { stood := { row := recvStrangeRow, standIns := [], harness := (true, "af35b5e6b0e8f0d2ea519ea7d0ad981d028476a64a3261fccf7dd71181e6e8ac"), looks := false }, kinds := [], alts := [], laidByText := true, laidKinds := [.sentinel, .sentinel, .sentinel, .sentinel, .sentinel], laidTests := true, laidLooks := .later }
def RecvStrangeCardSaid : Prop := Claim7.holds Tryd.pinned (.plain (OpenSpec.ofChange recvStrangeSpec)) recvStrangeCard

/-- THE TIED CARD OF 'muezzinlaw24.RecvOrder'. -/
def recvOrderCard : Claim7 := { stood := { row := recvOrderRow, standIns := [], harness := (true, "af35b5e6b0e8f0d2ea519ea7d0ad981d028476a64a3261fccf7dd71181e6e8ac"), looks := false }, kinds := [], alts := [], laidByText := true, laidKinds := [.sentinel, .sentinel, .sentinel, .sentinel, .sentinel], laidTests := true, laidLooks := .later }
def RecvOrderCardSaid : Prop := Claim7.holds Tryd.pinned (.plain (OpenSpec.ofChange recvOrderSpec)) recvOrderCard

/-- THE TIED CARD OF 'muezzinlaw24.RecvBars'. -/
def recvBarsCard : Claim7 := { stood := { row := recvBarsRow, standIns := [], harness := (true, "af35b5e6b0e8f0d2ea519ea7d0ad981d028476a64a3261fccf7dd71181e6e8ac"), looks := false }, kinds := [], alts := [], laidByText := true, laidKinds := [.sentinel, .sentinel, .sentinel, .sentinel, .sentinel], laidTests := true, laidLooks := .later }
def RecvBarsCardSaid : Prop := Claim7.holds Tryd.pinned (.plain (OpenSpec.ofChange recvBarsSpec)) recvBarsCard

/-- THE TIED CARD OF 'muezzinlaw24.RecvPushes'. -/
def recvPushesCard : Claim7 := { stood := { row := recvPushesRow, standIns := [], harness := (true, "af35b5e6b0e8f0d2ea519ea7d0ad981d028476a64a3261fccf7dd71181e6e8ac"), looks := false }, kinds := [], alts := [], laidByText := true, laidKinds := [.sentinel, .sentinel, .sentinel, .sentinel, .sentinel], laidTests := true, laidLooks := .later }
def RecvPushesCardSaid : Prop := Claim7.holds Tryd.pinned (.plain (OpenSpec.ofChange recvPushesSpec)) recvPushesCard

/-- THE TIED CARD OF 'muezzinlaw24.RecvAsks'. -/
def recvAsksCard : Claim7 := { stood := { row := recvAsksRow, standIns := [], harness := (true, "af35b5e6b0e8f0d2ea519ea7d0ad981d028476a64a3261fccf7dd71181e6e8ac"), looks := false }, kinds := [], alts := [], laidByText := true, laidKinds := [.sentinel, .sentinel, .sentinel, .sentinel, .sentinel], laidTests := true, laidLooks := .later }
def RecvAsksCardSaid : Prop := Claim7.holds Tryd.pinned (.plain (OpenSpec.ofChange recvAsksSpec)) recvAsksCard

/-- THE SECOND FORM's CARD OF 'muezzinlaw24.RecvSingle'. -/
def recvSingleUptoCard : Claim7 := { stood := { row := recvSingleUptoRow, standIns := [], harness := (true, "af35b5e6b0e8f0d2ea519ea7d0ad981d028476a64a3261fccf7dd71181e6e8ac"), looks := false }, kinds := [], alts := [], laidByText := true, laidKinds := [.sentinel, .sentinel, .sentinel, .sentinel, .sentinel], laidTests := true, laidLooks := .later }
def RecvSingleUptoCardSaid : Prop := Claim7.holds Tryd.pinned (.plain (OpenSpec.upto recvSingleSpec)) recvSingleUptoCard

/-- THE SECOND FORM's CARD OF 'muezzinlaw24.RecvStrange'. -/
def recvStrangeUptoCard : Claim7 := { stood := { row := recvStrangeUptoRow, standIns := [], harness := (true, "af35b5e6b0e8f0d2ea519ea7d0ad981d028476a64a3261fccf7dd71181e6e8ac"), looks := false }, kinds := [], alts := [], laidByText := true, laidKinds := [.sentinel, .sentinel, .sentinel, .sentinel, .sentinel], laidTests := true, laidLooks := .later }
def RecvStrangeUptoCardSaid : Prop := Claim7.holds Tryd.pinned (.plain (OpenSpec.upto recvStrangeSpec)) recvStrangeUptoCard

/-- THE SECOND FORM's CARD OF 'muezzinlaw24.RecvOrder'. -/
def recvOrderUptoCard : Claim7 := { stood := { row := recvOrderUptoRow, standIns := [], harness := (true, "af35b5e6b0e8f0d2ea519ea7d0ad981d028476a64a3261fccf7dd71181e6e8ac"), looks := false }, kinds := [], alts := [], laidByText := true, laidKinds := [.sentinel, .sentinel, .sentinel, .sentinel, .sentinel], laidTests := true, laidLooks := .later }
def RecvOrderUptoCardSaid : Prop := Claim7.holds Tryd.pinned (.plain (OpenSpec.upto recvOrderSpec)) recvOrderUptoCard

/-- THE SECOND FORM's CARD OF 'muezzinlaw24.RecvBars'. -/
def recvBarsUptoCard : Claim7 := { stood := { row := recvBarsUptoRow, standIns := [], harness := (true, "af35b5e6b0e8f0d2ea519ea7d0ad981d028476a64a3261fccf7dd71181e6e8ac"), looks := false }, kinds := [], alts := [], laidByText := true, laidKinds := [.sentinel, .sentinel, .sentinel, .sentinel, .sentinel], laidTests := true, laidLooks := .later }
def RecvBarsUptoCardSaid : Prop := Claim7.holds Tryd.pinned (.plain (OpenSpec.upto recvBarsSpec)) recvBarsUptoCard

/-- THE SECOND FORM's CARD OF 'muezzinlaw24.RecvPushes'. -/
def recvPushesUptoCard : Claim7 := { stood := { row := recvPushesUptoRow, standIns := [], harness := (true, "af35b5e6b0e8f0d2ea519ea7d0ad981d028476a64a3261fccf7dd71181e6e8ac"), looks := false }, kinds := [], alts := [], laidByText := true, laidKinds := [.sentinel, .sentinel, .sentinel, .sentinel, .sentinel], laidTests := true, laidLooks := .later }
def RecvPushesUptoCardSaid : Prop := Claim7.holds Tryd.pinned (.plain (OpenSpec.upto recvPushesSpec)) recvPushesUptoCard

/-- THE SECOND FORM's CARD OF 'muezzinlaw24.RecvAsks'. -/
def recvAsksUptoCard : Claim7 := { stood := { row := recvAsksUptoRow, standIns := [], harness := (true, "af35b5e6b0e8f0d2ea519ea7d0ad981d028476a64a3261fccf7dd71181e6e8ac"), looks := false }, kinds := [], alts := [], laidByText := true, laidKinds := [.sentinel, .sentinel, .sentinel, .sentinel, .sentinel], laidTests := true, laidLooks := .later }
def RecvAsksUptoCardSaid : Prop := Claim7.holds Tryd.pinned (.plain (OpenSpec.upto recvAsksSpec)) recvAsksUptoCard
end Rows
end Go.Proofs.YthlacliefgliiaaDoor
