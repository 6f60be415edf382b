/-
  NARROWER THAN 'FOR EVERY INPUT', by the rows' own cells (each row's printed sentence says how): ApCharges: laid.
  DERIVED. THE GIVEN ROWS OF THIS SEAT. 1 by the template 'for every input the law returns true; each argument reads behind the call as it read before'; 0 by the template 'total and deterministic' (their statements: YtjlkfjnfnonekaaGreatDoorTotals.lean).
  GIVEN WITH THE SEED: the statements are not yours to turn. If you find one false, say at which input.
  Laid BY PROGRAM, IN A SANDBOX (cutbox-rows.mjs): the forced cells as the released guide's own fill.sh prints them over the translation 4f43e93b8d727412… (all of the seat's roots in one cut). By AI agents, Wed Nov 11 2026. No macro, syntax, notation, axiom, sorry.
-/
import Derived.Test.YtjlkfjnfnonekaaGreatDoorChecked
import GoSem.Claim
import GoSem.ClaimJoined
import GoSem.ClaimMapViews
import Derived.JoinedTies
import Derived.KernelRfl
namespace Go.Proofs.YtjlkfjnfnonekaaGreatDoor
/- THE CELL 'sum', in the pinned program and in every row, IS THE sha256 OF THE DUMP (.gsa) THAT YtjlkfjnfnonekaaGreatDoorProg.lean LOADS. Nothing in Lean hashes anything: it is a label: what it is worth is what the hold of that sum in a sandbox is worth. -/
noncomputable def Tryz.pinned : Pinned := { name := "ytjlkfjnfnonekaagreatdoor", sum := "4f43e93b8d72741254f10b24f5ddd590db1042de98adc860b0399115c8f72bbf", checked := Tryz.checked }
namespace Rows
def none {H : Type} : Left H := { results := [], args := [] }

/- WHAT THE LISTED PACKAGE-LEVEL VARIABLES READ AS WHEN THE CALL BEGINS. Each datum BY PROGRAM (the guide's laid-datum.mjs) off the statement by which the dump's own 'gosem.cut.vars' lays the variable. In a bare row this is a premise. The card (YtjlkfjnfnonekaaGreatDoorCards.lean) ties it to the program's text. -/
def laid_muezzin_api_ErrEnd {H : Type} : DataW H := .iface "*errors.errorString" (.ptr (.agg [.lit (.string [105, 116, 32, 101, 110, 100, 115, 32, 116, 111, 111, 32, 101, 97, 114, 108, 121])]))
def laid_muezzin_api_ErrShape {H : Type} : DataW H := .iface "*errors.errorString" (.ptr (.agg [.lit (.string [110, 111, 116, 32, 97, 115, 32, 105, 116, 32, 104, 97, 115, 32, 116, 111, 32, 98, 101])]))
def laid_muezzin_api_ErrRange {H : Type} : DataW H := .iface "*errors.errorString" (.ptr (.agg [.lit (.string [97, 32, 110, 117, 109, 98, 101, 114, 32, 111, 117, 116, 32, 111, 102, 32, 105, 116, 115, 32, 114, 97, 110, 103, 101])]))
def laid_muezzin_api_ErrMany {H : Type} : DataW H := .iface "*errors.errorString" (.ptr (.agg [.lit (.string [116, 111, 111, 32, 109, 97, 110, 121])]))
def laid_muezzin_api_ErrKind {H : Type} : DataW H := .iface "*errors.errorString" (.ptr (.agg [.lit (.string [97, 32, 102, 114, 97, 109, 101, 32, 111, 102, 32, 97, 110, 111, 116, 104, 101, 114, 32, 107, 105, 110, 100])]))
def laid_muezzin_api_ErrSum {H : Type} : DataW H := .iface "*errors.errorString" (.ptr (.agg [.lit (.string [97, 32, 115, 117, 109, 32, 116, 104, 97, 116, 32, 100, 111, 101, 115, 32, 110, 111, 116, 32, 102, 105, 116])]))
def laid_muezzin_api_ErrNone {H : Type} : DataW H := .iface "*errors.errorString" (.ptr (.agg [.lit (.string [116, 104, 101, 114, 101, 32, 105, 115, 32, 110, 111, 110, 101])]))
def laid_muezzin_api_ErrTwice {H : Type} : DataW H := .iface "*errors.errorString" (.ptr (.agg [.lit (.string [116, 104, 101, 114, 101, 32, 105, 115, 32, 111, 110, 101])]))
def laid_muezzin_api_ErrFull {H : Type} : DataW H := .iface "*errors.errorString" (.ptr (.agg [.lit (.string [116, 104, 101, 114, 101, 32, 105, 115, 32, 110, 111, 32, 114, 111, 111, 109])]))
def laid_muezzin_api_ErrState {H : Type} : DataW H := .iface "*errors.errorString" (.ptr (.agg [.lit (.string [110, 111, 116, 32, 97, 115, 32, 105, 116, 32, 105, 115, 32, 110, 111, 119])]))
def laid_muezzin_api_ErrSeq {H : Type} : DataW H := .iface "*errors.errorString" (.ptr (.agg [.lit (.string [111, 117, 116, 115, 105, 100, 101, 32, 111, 102, 32, 116, 104, 101, 32, 119, 105, 110, 100, 111, 119])]))
def laid_muezzin_api_ErrLong {H : Type} : DataW H := .iface "*errors.errorString" (.ptr (.agg [.lit (.string [105, 116, 32, 119, 111, 117, 108, 100, 32, 116, 97, 107, 101, 32, 116, 111, 111, 32, 108, 111, 110, 103])]))

/-- 'muezzinlaw26.ApCharges': WHATEVER THE INPUT: true; the input reads as it did. -/
def apChargesSpec : ChangeSpec := { name := "apCharges", fn := fun _ => fun
  | [d1, d2, d3] => { results := [.lit (.bool true)], args := [d1, d2, d3] }
  | _ => none }
def apChargesRow : OpenClaim := { program := "ytjlkfjnfnonekaagreatdoor", sum := "4f43e93b8d72741254f10b24f5ddd590db1042de98adc860b0399115c8f72bbf", func := "muezzin/muezzinlaw26.ApCharges", spec := "apCharges", inPlace := ["internal/bytealg.IndexByte"], unfollowed := true, recurses := true, named := ["muezzin/api.ErrRange", "muezzin/api.ErrNone", "muezzin/api.ErrState", "math/bits.divideError", "math/bits.overflowError", "muezzin/api.ErrFull", "muezzin/api.ErrMany", "muezzin/api.ErrTwice", "muezzin/api.ErrShape", "muezzin/api.ErrEnd", "muezzin/api.ErrSum", "muezzin/api.ErrKind", "muezzin/api.ErrSeq", "muezzin/api.ErrLong"], apart := false, laid := [("muezzin/api.ErrEnd", laid_muezzin_api_ErrEnd), ("muezzin/api.ErrShape", laid_muezzin_api_ErrShape), ("muezzin/api.ErrRange", laid_muezzin_api_ErrRange), ("muezzin/api.ErrMany", laid_muezzin_api_ErrMany), ("muezzin/api.ErrKind", laid_muezzin_api_ErrKind), ("muezzin/api.ErrSum", laid_muezzin_api_ErrSum), ("muezzin/api.ErrNone", laid_muezzin_api_ErrNone), ("muezzin/api.ErrTwice", laid_muezzin_api_ErrTwice), ("muezzin/api.ErrFull", laid_muezzin_api_ErrFull), ("muezzin/api.ErrState", laid_muezzin_api_ErrState), ("muezzin/api.ErrSeq", laid_muezzin_api_ErrSeq), ("muezzin/api.ErrLong", laid_muezzin_api_ErrLong)] }
def ApChargesSaid : Prop := apChargesRow.holds Tryz.pinned (OpenSpec.ofChange apChargesSpec)

/-- ITS FALSE NEIGHBOUR: 'it returns false'. Refute it at one input. -/
def apChargesWrong : ChangeSpec := { name := "apCharges", fn := fun _ => fun
  | [d1, d2, d3] => { results := [.lit (.bool false)], args := [d1, d2, d3] }
  | _ => none }
def ApChargesWrongFalsely : Prop := apChargesRow.holds Tryz.pinned (OpenSpec.ofChange apChargesWrong)

/- THE SECOND FORM. 'bulk': how many values and letters a reading holds, each counted each time it is reached (what is shared counts as often as it is met; a slice's spare places count too). A statement '..UptoSaid' is the law's where the arguments, and the package variables that the reading takes, are together of bulk at most 1048576: NARROWER than '..Said'. Prove '..Said' where nothing that the law and all that it calls make is longer than what came in: it says more and counts as full. Else prove '..UptoSaid'. A law counts once. -/
mutual
def uptoBulk {H : Type} : DataW H → Nat
  | .lit (.string bytes) => bytes.length + 1
  | .lit _ => 1
  | .nil => 1
  | .ptr d => uptoBulk d + 1
  | .slice elems spare => uptoBulkAll elems + uptoBulkAll spare + 1
  | .agg parts => uptoBulkAll parts + 1
  | .iface _ d => uptoBulk d + 1
  | .map entries => uptoBulkEntries entries + 1
  | .held _ => 1
def uptoBulkAll {H : Type} : List (DataW H) → Nat
  | [] => 0
  | d :: r => uptoBulk d + uptoBulkAll r
def uptoBulkEntries {H : Type} : List (Lit × DataW H) → Nat
  | [] => 0
  | x :: r => uptoBulkEntry x + uptoBulkEntries r
def uptoBulkEntry {H : Type} : Lit × DataW H → Nat
  | (.string bytes, d) => bytes.length + uptoBulk d + 1
  | (_, d) => uptoBulk d + 1
 end
def uptoSmall : (H : Type) → List (DataW H) → Bool := fun _ ds => decide (uptoBulkAll ds ≤ 1048576)
def OpenSpec.upto (s : _root_.Go.ChangeSpec) : _root_.Go.OpenSpec := { _root_.Go.OpenSpec.ofChange s with cond := some uptoSmall }

/-- 'muezzinlaw26.ApCharges', WHERE WHAT IT READS IS OF BULK AT MOST 1048576: true; the input reads as it did. -/
def apChargesUptoRow : OpenClaim := { program := "ytjlkfjnfnonekaagreatdoor", sum := "4f43e93b8d72741254f10b24f5ddd590db1042de98adc860b0399115c8f72bbf", func := "muezzin/muezzinlaw26.ApCharges", spec := "apCharges", inPlace := ["internal/bytealg.IndexByte"], unfollowed := true, recurses := true, named := ["muezzin/api.ErrRange", "muezzin/api.ErrNone", "muezzin/api.ErrState", "math/bits.divideError", "math/bits.overflowError", "muezzin/api.ErrFull", "muezzin/api.ErrMany", "muezzin/api.ErrTwice", "muezzin/api.ErrShape", "muezzin/api.ErrEnd", "muezzin/api.ErrSum", "muezzin/api.ErrKind", "muezzin/api.ErrSeq", "muezzin/api.ErrLong"], apart := false, laid := [("muezzin/api.ErrEnd", laid_muezzin_api_ErrEnd), ("muezzin/api.ErrShape", laid_muezzin_api_ErrShape), ("muezzin/api.ErrRange", laid_muezzin_api_ErrRange), ("muezzin/api.ErrMany", laid_muezzin_api_ErrMany), ("muezzin/api.ErrKind", laid_muezzin_api_ErrKind), ("muezzin/api.ErrSum", laid_muezzin_api_ErrSum), ("muezzin/api.ErrNone", laid_muezzin_api_ErrNone), ("muezzin/api.ErrTwice", laid_muezzin_api_ErrTwice), ("muezzin/api.ErrFull", laid_muezzin_api_ErrFull), ("muezzin/api.ErrState", laid_muezzin_api_ErrState), ("muezzin/api.ErrSeq", laid_muezzin_api_ErrSeq), ("muezzin/api.ErrLong", laid_muezzin_api_ErrLong)], narrowed := true }
def ApChargesUptoSaid : Prop := apChargesUptoRow.holds Tryz.pinned (OpenSpec.upto apChargesSpec)

end Rows
end Go.Proofs.YtjlkfjnfnonekaaGreatDoor
