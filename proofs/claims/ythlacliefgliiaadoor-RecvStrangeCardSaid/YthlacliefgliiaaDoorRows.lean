/-
  NARROWER THAN 'FOR EVERY INPUT', by the rows' own cells (each row's printed sentence says how): RecvSingle: laid · RecvStrange: laid · RecvOrder: laid · RecvBars: laid · RecvPushes: laid · RecvAsks: laid.
  DERIVED. THE GIVEN ROWS OF THIS SEAT. 6 by the template 'for every input the law returns true; each argument reads behind the call as it read before'; 0 by the template 'total and deterministic' (their statements: YthlacliefgliiaaDoorTotals.lean).
  GIVEN WITH THE SEED: the statements are not yours to turn. If you find one false, say at which input.
  Laid BY PROGRAM, IN A SANDBOX (cutbox-rows.mjs): the forced cells as the released guide's own fill.sh prints them over the translation ba011ae8cad9d9e8… (all of the seat's roots in one cut). By AI agents, Wed Nov 11 2026. No macro, syntax, notation, axiom, sorry.
-/
import Derived.Test.YthlacliefgliiaaDoorChecked
import GoSem.Claim
import GoSem.ClaimJoined
import GoSem.ClaimMapViews
import Derived.JoinedTies
import Derived.KernelRfl
namespace Go.Proofs.YthlacliefgliiaaDoor
/- THE CELL 'sum', in the pinned program and in every row, IS THE sha256 OF THE DUMP (.gsa) THAT YthlacliefgliiaaDoorProg.lean LOADS. Nothing in Lean hashes anything: it is a label: what it is worth is what the hold of that sum in a sandbox is worth. -/
noncomputable def Tryd.pinned : Pinned := { name := "ythlacliefgliiaadoor", sum := "ba011ae8cad9d9e8e11d79d94a3dfc9384cb4e13e1176b199517b58f4684f950", checked := Tryd.checked }
namespace Rows
def none {H : Type} : Left H := { results := [], args := [] }

/- WHAT THE LISTED PACKAGE-LEVEL VARIABLES READ AS WHEN THE CALL BEGINS. Each datum BY PROGRAM (the guide's laid-datum.mjs) off the statement by which the dump's own 'gosem.cut.vars' lays the variable. In a bare row this is a premise. The card (YthlacliefgliiaaDoorCards.lean) ties it to the program's text. -/
def laid_muezzin_api_ErrEnd {H : Type} : DataW H := .iface "*errors.errorString" (.ptr (.agg [.lit (.string [105, 116, 32, 101, 110, 100, 115, 32, 116, 111, 111, 32, 101, 97, 114, 108, 121])]))
def laid_muezzin_api_ErrShape {H : Type} : DataW H := .iface "*errors.errorString" (.ptr (.agg [.lit (.string [110, 111, 116, 32, 97, 115, 32, 105, 116, 32, 104, 97, 115, 32, 116, 111, 32, 98, 101])]))
def laid_muezzin_api_ErrRange {H : Type} : DataW H := .iface "*errors.errorString" (.ptr (.agg [.lit (.string [97, 32, 110, 117, 109, 98, 101, 114, 32, 111, 117, 116, 32, 111, 102, 32, 105, 116, 115, 32, 114, 97, 110, 103, 101])]))
def laid_muezzin_api_ErrKind {H : Type} : DataW H := .iface "*errors.errorString" (.ptr (.agg [.lit (.string [97, 32, 102, 114, 97, 109, 101, 32, 111, 102, 32, 97, 110, 111, 116, 104, 101, 114, 32, 107, 105, 110, 100])]))
def laid_muezzin_api_ErrSum {H : Type} : DataW H := .iface "*errors.errorString" (.ptr (.agg [.lit (.string [97, 32, 115, 117, 109, 32, 116, 104, 97, 116, 32, 100, 111, 101, 115, 32, 110, 111, 116, 32, 102, 105, 116])]))

/-- 'muezzinlaw24.RecvSingle': WHATEVER THE INPUT: true; the input reads as it did. -/
def recvSingleSpec : ChangeSpec := { name := "recvSingle", fn := fun _ => fun
  | [d1, d2] => { results := [.lit (.bool true)], args := [d1, d2] }
  | _ => none }
def recvSingleRow : OpenClaim := { program := "ythlacliefgliiaadoor", sum := "ba011ae8cad9d9e8e11d79d94a3dfc9384cb4e13e1176b199517b58f4684f950", func := "muezzin/muezzinlaw24.RecvSingle", spec := "recvSingle", unfollowed := true, recurses := true, named := ["muezzin/api.ErrRange", "muezzin/api.ErrEnd", "muezzin/api.ErrSum", "muezzin/api.ErrShape", "muezzin/api.ErrKind"], apart := false, laid := [("muezzin/api.ErrEnd", laid_muezzin_api_ErrEnd), ("muezzin/api.ErrShape", laid_muezzin_api_ErrShape), ("muezzin/api.ErrRange", laid_muezzin_api_ErrRange), ("muezzin/api.ErrKind", laid_muezzin_api_ErrKind), ("muezzin/api.ErrSum", laid_muezzin_api_ErrSum)] }
def RecvSingleSaid : Prop := recvSingleRow.holds Tryd.pinned (OpenSpec.ofChange recvSingleSpec)

/-- ITS FALSE NEIGHBOUR: 'it returns false'. Refute it at one input. -/
def recvSingleWrong : ChangeSpec := { name := "recvSingle", fn := fun _ => fun
  | [d1, d2] => { results := [.lit (.bool false)], args := [d1, d2] }
  | _ => none }
def RecvSingleWrongFalsely : Prop := recvSingleRow.holds Tryd.pinned (OpenSpec.ofChange recvSingleWrong)

/-- 'muezzinlaw24.RecvStrange': WHATEVER THE INPUT: true; the input reads as it did. -/
def recvStrangeSpec : ChangeSpec := { name := "recvStrange", fn := fun _ => fun
  | [d1, d2, d3] => { results := [.lit (.bool true)], args := [d1, d2, d3] }
  | _ => none }
def recvStrangeRow : OpenClaim := { program := "ythlacliefgliiaadoor", sum := "ba011ae8cad9d9e8e11d79d94a3dfc9384cb4e13e1176b199517b58f4684f950", func := "muezzin/muezzinlaw24.RecvStrange", spec := "recvStrange", inPlace := ["internal/bytealg.IndexByte"], unfollowed := true, recurses := true, named := ["muezzin/api.ErrRange", "muezzin/api.ErrEnd", "muezzin/api.ErrSum", "muezzin/api.ErrShape", "muezzin/api.ErrKind"], apart := false, laid := [("muezzin/api.ErrEnd", laid_muezzin_api_ErrEnd), ("muezzin/api.ErrShape", laid_muezzin_api_ErrShape), ("muezzin/api.ErrRange", laid_muezzin_api_ErrRange), ("muezzin/api.ErrKind", laid_muezzin_api_ErrKind), ("muezzin/api.ErrSum", laid_muezzin_api_ErrSum)] }
def RecvStrangeSaid : Prop := recvStrangeRow.holds Tryd.pinned (OpenSpec.ofChange recvStrangeSpec)

/-- ITS FALSE NEIGHBOUR: 'it returns false'. Refute it at one input. -/
def recvStrangeWrong : ChangeSpec := { name := "recvStrange", fn := fun _ => fun
  | [d1, d2, d3] => { results := [.lit (.bool false)], args := [d1, d2, d3] }
  | _ => none }
def RecvStrangeWrongFalsely : Prop := recvStrangeRow.holds Tryd.pinned (OpenSpec.ofChange recvStrangeWrong)

/-- 'muezzinlaw24.RecvOrder': WHATEVER THE INPUT: true; the input reads as it did. -/
def recvOrderSpec : ChangeSpec := { name := "recvOrder", fn := fun _ => fun
  | [d1, d2] => { results := [.lit (.bool true)], args := [d1, d2] }
  | _ => none }
def recvOrderRow : OpenClaim := { program := "ythlacliefgliiaadoor", sum := "ba011ae8cad9d9e8e11d79d94a3dfc9384cb4e13e1176b199517b58f4684f950", func := "muezzin/muezzinlaw24.RecvOrder", spec := "recvOrder", inPlace := ["internal/bytealg.IndexByte"], unfollowed := true, recurses := true, named := ["muezzin/api.ErrRange", "muezzin/api.ErrEnd", "muezzin/api.ErrSum", "muezzin/api.ErrShape", "muezzin/api.ErrKind"], apart := false, laid := [("muezzin/api.ErrEnd", laid_muezzin_api_ErrEnd), ("muezzin/api.ErrShape", laid_muezzin_api_ErrShape), ("muezzin/api.ErrRange", laid_muezzin_api_ErrRange), ("muezzin/api.ErrKind", laid_muezzin_api_ErrKind), ("muezzin/api.ErrSum", laid_muezzin_api_ErrSum)] }
def RecvOrderSaid : Prop := recvOrderRow.holds Tryd.pinned (OpenSpec.ofChange recvOrderSpec)

/-- ITS FALSE NEIGHBOUR: 'it returns false'. Refute it at one input. -/
def recvOrderWrong : ChangeSpec := { name := "recvOrder", fn := fun _ => fun
  | [d1, d2] => { results := [.lit (.bool false)], args := [d1, d2] }
  | _ => none }
def RecvOrderWrongFalsely : Prop := recvOrderRow.holds Tryd.pinned (OpenSpec.ofChange recvOrderWrong)

/-- 'muezzinlaw24.RecvBars': WHATEVER THE INPUT: true; the input reads as it did. -/
def recvBarsSpec : ChangeSpec := { name := "recvBars", fn := fun _ => fun
  | [d1, d2, d3] => { results := [.lit (.bool true)], args := [d1, d2, d3] }
  | _ => none }
def recvBarsRow : OpenClaim := { program := "ythlacliefgliiaadoor", sum := "ba011ae8cad9d9e8e11d79d94a3dfc9384cb4e13e1176b199517b58f4684f950", func := "muezzin/muezzinlaw24.RecvBars", spec := "recvBars", inPlace := ["internal/bytealg.IndexByte"], unfollowed := true, recurses := true, named := ["muezzin/api.ErrRange", "muezzin/api.ErrEnd", "muezzin/api.ErrSum", "muezzin/api.ErrShape", "muezzin/api.ErrKind"], apart := false, laid := [("muezzin/api.ErrEnd", laid_muezzin_api_ErrEnd), ("muezzin/api.ErrShape", laid_muezzin_api_ErrShape), ("muezzin/api.ErrRange", laid_muezzin_api_ErrRange), ("muezzin/api.ErrKind", laid_muezzin_api_ErrKind), ("muezzin/api.ErrSum", laid_muezzin_api_ErrSum)] }
def RecvBarsSaid : Prop := recvBarsRow.holds Tryd.pinned (OpenSpec.ofChange recvBarsSpec)

/-- ITS FALSE NEIGHBOUR: 'it returns false'. Refute it at one input. -/
def recvBarsWrong : ChangeSpec := { name := "recvBars", fn := fun _ => fun
  | [d1, d2, d3] => { results := [.lit (.bool false)], args := [d1, d2, d3] }
  | _ => none }
def RecvBarsWrongFalsely : Prop := recvBarsRow.holds Tryd.pinned (OpenSpec.ofChange recvBarsWrong)

/-- 'muezzinlaw24.RecvPushes': WHATEVER THE INPUT: true; the input reads as it did. -/
def recvPushesSpec : ChangeSpec := { name := "recvPushes", fn := fun _ => fun
  | [d1, d2, d3, d4] => { results := [.lit (.bool true)], args := [d1, d2, d3, d4] }
  | _ => none }
def recvPushesRow : OpenClaim := { program := "ythlacliefgliiaadoor", sum := "ba011ae8cad9d9e8e11d79d94a3dfc9384cb4e13e1176b199517b58f4684f950", func := "muezzin/muezzinlaw24.RecvPushes", spec := "recvPushes", inPlace := ["internal/bytealg.IndexByte"], unfollowed := true, recurses := true, named := ["muezzin/api.ErrRange", "muezzin/api.ErrEnd", "muezzin/api.ErrSum", "muezzin/api.ErrShape", "muezzin/api.ErrKind"], apart := false, laid := [("muezzin/api.ErrEnd", laid_muezzin_api_ErrEnd), ("muezzin/api.ErrShape", laid_muezzin_api_ErrShape), ("muezzin/api.ErrRange", laid_muezzin_api_ErrRange), ("muezzin/api.ErrKind", laid_muezzin_api_ErrKind), ("muezzin/api.ErrSum", laid_muezzin_api_ErrSum)] }
def RecvPushesSaid : Prop := recvPushesRow.holds Tryd.pinned (OpenSpec.ofChange recvPushesSpec)

/-- ITS FALSE NEIGHBOUR: 'it returns false'. Refute it at one input. -/
def recvPushesWrong : ChangeSpec := { name := "recvPushes", fn := fun _ => fun
  | [d1, d2, d3, d4] => { results := [.lit (.bool false)], args := [d1, d2, d3, d4] }
  | _ => none }
def RecvPushesWrongFalsely : Prop := recvPushesRow.holds Tryd.pinned (OpenSpec.ofChange recvPushesWrong)

/-- 'muezzinlaw24.RecvAsks': WHATEVER THE INPUT: true; the input reads as it did. -/
def recvAsksSpec : ChangeSpec := { name := "recvAsks", fn := fun _ => fun
  | [d1, d2, d3, d4] => { results := [.lit (.bool true)], args := [d1, d2, d3, d4] }
  | _ => none }
def recvAsksRow : OpenClaim := { program := "ythlacliefgliiaadoor", sum := "ba011ae8cad9d9e8e11d79d94a3dfc9384cb4e13e1176b199517b58f4684f950", func := "muezzin/muezzinlaw24.RecvAsks", spec := "recvAsks", inPlace := ["internal/bytealg.IndexByte"], unfollowed := true, recurses := true, named := ["muezzin/api.ErrRange", "muezzin/api.ErrEnd", "muezzin/api.ErrSum", "muezzin/api.ErrShape", "muezzin/api.ErrKind"], apart := false, laid := [("muezzin/api.ErrEnd", laid_muezzin_api_ErrEnd), ("muezzin/api.ErrShape", laid_muezzin_api_ErrShape), ("muezzin/api.ErrRange", laid_muezzin_api_ErrRange), ("muezzin/api.ErrKind", laid_muezzin_api_ErrKind), ("muezzin/api.ErrSum", laid_muezzin_api_ErrSum)] }
def RecvAsksSaid : Prop := recvAsksRow.holds Tryd.pinned (OpenSpec.ofChange recvAsksSpec)

/-- ITS FALSE NEIGHBOUR: 'it returns false'. Refute it at one input. -/
def recvAsksWrong : ChangeSpec := { name := "recvAsks", fn := fun _ => fun
  | [d1, d2, d3, d4] => { results := [.lit (.bool false)], args := [d1, d2, d3, d4] }
  | _ => none }
def RecvAsksWrongFalsely : Prop := recvAsksRow.holds Tryd.pinned (OpenSpec.ofChange recvAsksWrong)

/- THE SECOND FORM. 'bulk': how many values and letters a reading holds, each counted each time it is reached (what is shared counts as often as it is met; a slice's spare places count too). A statement '..UptoSaid' is the law's where the arguments, and the package variables that the reading takes, are together of bulk at most 1048576: NARROWER than '..Said'. Prove '..Said' where nothing that the law and all that it calls make is longer than what came in: it says more and counts as full. Else prove '..UptoSaid'. A law counts once. -/
mutual
def uptoBulk {H : Type} : DataW H → Nat
  | .lit (.string bytes) => bytes.length + 1
  | .lit _ => 1
  | .nil => 1
  | .ptr d => uptoBulk d + 1
  | .slice elems spare => uptoBulkAll elems + uptoBulkAll spare + 1
  | .agg parts => uptoBulkAll parts + 1
  | .iface _ d => uptoBulk d + 1
  | .map entries => uptoBulkEntries entries + 1
  | .held _ => 1
def uptoBulkAll {H : Type} : List (DataW H) → Nat
  | [] => 0
  | d :: r => uptoBulk d + uptoBulkAll r
def uptoBulkEntries {H : Type} : List (Lit × DataW H) → Nat
  | [] => 0
  | x :: r => uptoBulkEntry x + uptoBulkEntries r
def uptoBulkEntry {H : Type} : Lit × DataW H → Nat
  | (.string bytes, d) => bytes.length + uptoBulk d + 1
  | (_, d) => uptoBulk d + 1
 end
def uptoSmall : (H : Type) → List (DataW H) → Bool := fun _ ds => decide (uptoBulkAll ds ≤ 1048576)
def OpenSpec.upto (s : _root_.Go.ChangeSpec) : _root_.Go.OpenSpec := { _root_.Go.OpenSpec.ofChange s with cond := some uptoSmall }

/-- 'muezzinlaw24.RecvSingle', WHERE WHAT IT READS IS OF BULK AT MOST 1048576: true; the input reads as it did. -/
def recvSingleUptoRow : OpenClaim := { program := "ythlacliefgliiaadoor", sum := "ba011ae8cad9d9e8e11d79d94a3dfc9384cb4e13e1176b199517b58f4684f950", func := "muezzin/muezzinlaw24.RecvSingle", spec := "recvSingle", unfollowed := true, recurses := true, named := ["muezzin/api.ErrRange", "muezzin/api.ErrEnd", "muezzin/api.ErrSum", "muezzin/api.ErrShape", "muezzin/api.ErrKind"], apart := false, laid := [("muezzin/api.ErrEnd", laid_muezzin_api_ErrEnd), ("muezzin/api.ErrShape", laid_muezzin_api_ErrShape), ("muezzin/api.ErrRange", laid_muezzin_api_ErrRange), ("muezzin/api.ErrKind", laid_muezzin_api_ErrKind), ("muezzin/api.ErrSum", laid_muezzin_api_ErrSum)], narrowed := true }
def RecvSingleUptoSaid : Prop := recvSingleUptoRow.holds Tryd.pinned (OpenSpec.upto recvSingleSpec)

/-- 'muezzinlaw24.RecvStrange', WHERE WHAT IT READS IS OF BULK AT MOST 1048576: true; the input reads as it did. -/
def recvStrangeUptoRow : OpenClaim := { program := "ythlacliefgliiaadoor", sum := "ba011ae8cad9d9e8e11d79d94a3dfc9384cb4e13e1176b199517b58f4684f950", func := "muezzin/muezzinlaw24.RecvStrange", spec := "recvStrange", inPlace := ["internal/bytealg.IndexByte"], unfollowed := true, recurses := true, named := ["muezzin/api.ErrRange", "muezzin/api.ErrEnd", "muezzin/api.ErrSum", "muezzin/api.ErrShape", "muezzin/api.ErrKind"], apart := false, laid := [("muezzin/api.ErrEnd", laid_muezzin_api_ErrEnd), ("muezzin/api.ErrShape", laid_muezzin_api_ErrShape), ("muezzin/api.ErrRange", laid_muezzin_api_ErrRange), ("muezzin/api.ErrKind", laid_muezzin_api_ErrKind), ("muezzin/api.ErrSum", laid_muezzin_api_ErrSum)], narrowed := true }
def RecvStrangeUptoSaid : Prop := recvStrangeUptoRow.holds Tryd.pinned (OpenSpec.upto recvStrangeSpec)

/-- 'muezzinlaw24.RecvOrder', WHERE WHAT IT READS IS OF BULK AT MOST 1048576: true; the input reads as it did. -/
def recvOrderUptoRow : OpenClaim := { program := "ythlacliefgliiaadoor", sum := "ba011ae8cad9d9e8e11d79d94a3dfc9384cb4e13e1176b199517b58f4684f950", func := "muezzin/muezzinlaw24.RecvOrder", spec := "recvOrder", inPlace := ["internal/bytealg.IndexByte"], unfollowed := true, recurses := true, named := ["muezzin/api.ErrRange", "muezzin/api.ErrEnd", "muezzin/api.ErrSum", "muezzin/api.ErrShape", "muezzin/api.ErrKind"], apart := false, laid := [("muezzin/api.ErrEnd", laid_muezzin_api_ErrEnd), ("muezzin/api.ErrShape", laid_muezzin_api_ErrShape), ("muezzin/api.ErrRange", laid_muezzin_api_ErrRange), ("muezzin/api.ErrKind", laid_muezzin_api_ErrKind), ("muezzin/api.ErrSum", laid_muezzin_api_ErrSum)], narrowed := true }
def RecvOrderUptoSaid : Prop := recvOrderUptoRow.holds Tryd.pinned (OpenSpec.upto recvOrderSpec)

/-- 'muezzinlaw24.RecvBars', WHERE WHAT IT READS IS OF BULK AT MOST 1048576: true; the input reads as it did. -/
def recvBarsUptoRow : OpenClaim := { program := "ythlacliefgliiaadoor", sum := "ba011ae8cad9d9e8e11d79d94a3dfc9384cb4e13e1176b199517b58f4684f950", func := "muezzin/muezzinlaw24.RecvBars", spec := "recvBars", inPlace := ["internal/bytealg.IndexByte"], unfollowed := true, recurses := true, named := ["muezzin/api.ErrRange", "muezzin/api.ErrEnd", "muezzin/api.ErrSum", "muezzin/api.ErrShape", "muezzin/api.ErrKind"], apart := false, laid := [("muezzin/api.ErrEnd", laid_muezzin_api_ErrEnd), ("muezzin/api.ErrShape", laid_muezzin_api_ErrShape), ("muezzin/api.ErrRange", laid_muezzin_api_ErrRange), ("muezzin/api.ErrKind", laid_muezzin_api_ErrKind), ("muezzin/api.ErrSum", laid_muezzin_api_ErrSum)], narrowed := true }
def RecvBarsUptoSaid : Prop := recvBarsUptoRow.holds Tryd.pinned (OpenSpec.upto recvBarsSpec)

/-- 'muezzinlaw24.RecvPushes', WHERE WHAT IT READS IS OF BULK AT MOST 1048576: true; the input reads as it did. -/
def recvPushesUptoRow : OpenClaim := { program := "ythlacliefgliiaadoor", sum := "ba011ae8cad9d9e8e11d79d94a3dfc9384cb4e13e1176b199517b58f4684f950", func := "muezzin/muezzinlaw24.RecvPushes", spec := "recvPushes", inPlace := ["internal/bytealg.IndexByte"], unfollowed := true, recurses := true, named := ["muezzin/api.ErrRange", "muezzin/api.ErrEnd", "muezzin/api.ErrSum", "muezzin/api.ErrShape", "muezzin/api.ErrKind"], apart := false, laid := [("muezzin/api.ErrEnd", laid_muezzin_api_ErrEnd), ("muezzin/api.ErrShape", laid_muezzin_api_ErrShape), ("muezzin/api.ErrRange", laid_muezzin_api_ErrRange), ("muezzin/api.ErrKind", laid_muezzin_api_ErrKind), ("muezzin/api.ErrSum", laid_muezzin_api_ErrSum)], narrowed := true }
def RecvPushesUptoSaid : Prop := recvPushesUptoRow.holds Tryd.pinned (OpenSpec.upto recvPushesSpec)

/-- 'muezzinlaw24.RecvAsks', WHERE WHAT IT READS IS OF BULK AT MOST 1048576: true; the input reads as it did. -/
def recvAsksUptoRow : OpenClaim := { program := "ythlacliefgliiaadoor", sum := "ba011ae8cad9d9e8e11d79d94a3dfc9384cb4e13e1176b199517b58f4684f950", func := "muezzin/muezzinlaw24.RecvAsks", spec := "recvAsks", inPlace := ["internal/bytealg.IndexByte"], unfollowed := true, recurses := true, named := ["muezzin/api.ErrRange", "muezzin/api.ErrEnd", "muezzin/api.ErrSum", "muezzin/api.ErrShape", "muezzin/api.ErrKind"], apart := false, laid := [("muezzin/api.ErrEnd", laid_muezzin_api_ErrEnd), ("muezzin/api.ErrShape", laid_muezzin_api_ErrShape), ("muezzin/api.ErrRange", laid_muezzin_api_ErrRange), ("muezzin/api.ErrKind", laid_muezzin_api_ErrKind), ("muezzin/api.ErrSum", laid_muezzin_api_ErrSum)], narrowed := true }
def RecvAsksUptoSaid : Prop := recvAsksUptoRow.holds Tryd.pinned (OpenSpec.upto recvAsksSpec)

end Rows
end Go.Proofs.YthlacliefgliiaaDoor
