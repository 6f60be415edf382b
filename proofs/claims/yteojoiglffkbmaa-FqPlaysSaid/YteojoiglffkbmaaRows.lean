/-
  No cell of these rows narrows 'for every input' (looked for: loops, veiled, ifaces, maps, wideKeys, modest, calm, conditions, laid).
  DERIVED. THE GIVEN ROWS OF THIS SEAT. 6 by the template 'for every input the law returns true; each argument reads behind the call as it read before'; 0 by the template 'total and deterministic' (their statements: YteojoiglffkbmaaTotals.lean).
  GIVEN WITH THE SEED: the statements are not yours to turn. If you find one false, say at which input.
  Laid BY PROGRAM, IN A SANDBOX (cutbox-rows.mjs): the forced cells as the released guide's own fill.sh prints them over the translation 315fb53873256dd6… (all of the seat's roots in one cut). By AI agents, Wed Nov 11 2026. No macro, syntax, notation, axiom, sorry.
-/
import Derived.Test.YteojoiglffkbmaaChecked
import GoSem.Claim
import GoSem.ClaimJoined
import GoSem.ClaimMapViews
import Derived.JoinedTies
import Derived.KernelRfl
namespace Go.Proofs.Yteojoiglffkbmaa
/- THE CELL 'sum', in the pinned program and in every row, IS THE sha256 OF THE DUMP (.gsa) THAT YteojoiglffkbmaaProg.lean LOADS. Nothing in Lean hashes anything: it is a label: what it is worth is what the hold of that sum in a sandbox is worth. -/
noncomputable def Try.pinned : Pinned := { name := "yteojoiglffkbmaa", sum := "315fb53873256dd6562342c5a5ab6eef5033ccdbffd9d660427349299cd2b83f", checked := Try.checked }
namespace Rows
def none {H : Type} : Left H := { results := [], args := [] }

/-- 'muezzinlaw13.FqFair': WHATEVER THE INPUT: true; the input reads as it did. -/
def fqFairSpec : ChangeSpec := { name := "fqFair", fn := fun _ => fun
  | [d1, d2, d3] => { results := [.lit (.bool true)], args := [d1, d2, d3] }
  | _ => none }
def fqFairRow : OpenClaim := { program := "yteojoiglffkbmaa", sum := "315fb53873256dd6562342c5a5ab6eef5033ccdbffd9d660427349299cd2b83f", func := "muezzin/muezzinlaw13.FqFair", spec := "fqFair", unfollowed := true, recurses := true, named := ["math/bits.divideError", "math/bits.overflowError"], apart := false }
def FqFairSaid : Prop := fqFairRow.holds Try.pinned (OpenSpec.ofChange fqFairSpec)

/-- ITS FALSE NEIGHBOUR: 'it returns false'. Refute it at one input. -/
def fqFairWrong : ChangeSpec := { name := "fqFair", fn := fun _ => fun
  | [d1, d2, d3] => { results := [.lit (.bool false)], args := [d1, d2, d3] }
  | _ => none }
def FqFairWrongFalsely : Prop := fqFairRow.holds Try.pinned (OpenSpec.ofChange fqFairWrong)

/-- 'muezzinlaw13.FqFresh': WHATEVER THE INPUT: true; the input reads as it did. -/
def fqFreshSpec : ChangeSpec := { name := "fqFresh", fn := fun _ => fun
  | [d1, d2] => { results := [.lit (.bool true)], args := [d1, d2] }
  | _ => none }
def fqFreshRow : OpenClaim := { program := "yteojoiglffkbmaa", sum := "315fb53873256dd6562342c5a5ab6eef5033ccdbffd9d660427349299cd2b83f", func := "muezzin/muezzinlaw13.FqFresh", spec := "fqFresh", unfollowed := true, recurses := true, named := ["math/bits.divideError", "math/bits.overflowError"], apart := false }
def FqFreshSaid : Prop := fqFreshRow.holds Try.pinned (OpenSpec.ofChange fqFreshSpec)

/-- ITS FALSE NEIGHBOUR: 'it returns false'. Refute it at one input. -/
def fqFreshWrong : ChangeSpec := { name := "fqFresh", fn := fun _ => fun
  | [d1, d2] => { results := [.lit (.bool false)], args := [d1, d2] }
  | _ => none }
def FqFreshWrongFalsely : Prop := fqFreshRow.holds Try.pinned (OpenSpec.ofChange fqFreshWrong)

/-- 'muezzinlaw13.FqOrder': WHATEVER THE INPUT: true; the input reads as it did. -/
def fqOrderSpec : ChangeSpec := { name := "fqOrder", fn := fun _ => fun
  | [d1, d2, d3, d4] => { results := [.lit (.bool true)], args := [d1, d2, d3, d4] }
  | _ => none }
def fqOrderRow : OpenClaim := { program := "yteojoiglffkbmaa", sum := "315fb53873256dd6562342c5a5ab6eef5033ccdbffd9d660427349299cd2b83f", func := "muezzin/muezzinlaw13.FqOrder", spec := "fqOrder", unfollowed := true, recurses := true, named := ["math/bits.divideError", "math/bits.overflowError"], apart := false }
def FqOrderSaid : Prop := fqOrderRow.holds Try.pinned (OpenSpec.ofChange fqOrderSpec)

/-- ITS FALSE NEIGHBOUR: 'it returns false'. Refute it at one input. -/
def fqOrderWrong : ChangeSpec := { name := "fqOrder", fn := fun _ => fun
  | [d1, d2, d3, d4] => { results := [.lit (.bool false)], args := [d1, d2, d3, d4] }
  | _ => none }
def FqOrderWrongFalsely : Prop := fqOrderRow.holds Try.pinned (OpenSpec.ofChange fqOrderWrong)

/-- 'muezzinlaw13.FqOwn': WHATEVER THE INPUT: true; the input reads as it did. -/
def fqOwnSpec : ChangeSpec := { name := "fqOwn", fn := fun _ => fun
  | [d1, d2] => { results := [.lit (.bool true)], args := [d1, d2] }
  | _ => none }
def fqOwnRow : OpenClaim := { program := "yteojoiglffkbmaa", sum := "315fb53873256dd6562342c5a5ab6eef5033ccdbffd9d660427349299cd2b83f", func := "muezzin/muezzinlaw13.FqOwn", spec := "fqOwn", unfollowed := true, recurses := true, named := ["math/bits.divideError", "math/bits.overflowError"], apart := false }
def FqOwnSaid : Prop := fqOwnRow.holds Try.pinned (OpenSpec.ofChange fqOwnSpec)

/-- ITS FALSE NEIGHBOUR: 'it returns false'. Refute it at one input. -/
def fqOwnWrong : ChangeSpec := { name := "fqOwn", fn := fun _ => fun
  | [d1, d2] => { results := [.lit (.bool false)], args := [d1, d2] }
  | _ => none }
def FqOwnWrongFalsely : Prop := fqOwnRow.holds Try.pinned (OpenSpec.ofChange fqOwnWrong)

/-- 'muezzinlaw13.FqPlays': WHATEVER THE INPUT: true; the input reads as it did. -/
def fqPlaysSpec : ChangeSpec := { name := "fqPlays", fn := fun _ => fun
  | [d1, d2, d3, d4] => { results := [.lit (.bool true)], args := [d1, d2, d3, d4] }
  | _ => none }
def fqPlaysRow : OpenClaim := { program := "yteojoiglffkbmaa", sum := "315fb53873256dd6562342c5a5ab6eef5033ccdbffd9d660427349299cd2b83f", func := "muezzin/muezzinlaw13.FqPlays", spec := "fqPlays", unfollowed := true, recurses := true, named := ["math/bits.divideError", "math/bits.overflowError"], apart := false }
def FqPlaysSaid : Prop := fqPlaysRow.holds Try.pinned (OpenSpec.ofChange fqPlaysSpec)

/-- ITS FALSE NEIGHBOUR: 'it returns false'. Refute it at one input. -/
def fqPlaysWrong : ChangeSpec := { name := "fqPlays", fn := fun _ => fun
  | [d1, d2, d3, d4] => { results := [.lit (.bool false)], args := [d1, d2, d3, d4] }
  | _ => none }
def FqPlaysWrongFalsely : Prop := fqPlaysRow.holds Try.pinned (OpenSpec.ofChange fqPlaysWrong)

/-- 'muezzinlaw1.SeqSorts': WHATEVER THE INPUT: true; the input reads as it did. -/
def seqSortsSpec : ChangeSpec := { name := "seqSorts", fn := fun _ => fun
  | [d1, d2] => { results := [.lit (.bool true)], args := [d1, d2] }
  | _ => none }
def seqSortsRow : OpenClaim := { program := "yteojoiglffkbmaa", sum := "315fb53873256dd6562342c5a5ab6eef5033ccdbffd9d660427349299cd2b83f", func := "muezzin/muezzinlaw1.SeqSorts", spec := "seqSorts", unfollowed := true, recurses := true, apart := false }
def SeqSortsSaid : Prop := seqSortsRow.holds Try.pinned (OpenSpec.ofChange seqSortsSpec)

/-- ITS FALSE NEIGHBOUR: 'it returns false'. Refute it at one input. -/
def seqSortsWrong : ChangeSpec := { name := "seqSorts", fn := fun _ => fun
  | [d1, d2] => { results := [.lit (.bool false)], args := [d1, d2] }
  | _ => none }
def SeqSortsWrongFalsely : Prop := seqSortsRow.holds Try.pinned (OpenSpec.ofChange seqSortsWrong)

/- THE SECOND FORM. 'bulk': how many values and letters a reading holds, each counted each time it is reached (what is shared counts as often as it is met; a slice's spare places count too). A statement '..UptoSaid' is the law's where the arguments, and the package variables that the reading takes, are together of bulk at most 1048576: NARROWER than '..Said'. Prove '..Said' where nothing that the law and all that it calls make is longer than what came in: it says more and counts as full. Else prove '..UptoSaid'. A law counts once. -/
mutual
def uptoBulk {H : Type} : DataW H → Nat
  | .lit (.string bytes) => bytes.length + 1
  | .lit _ => 1
  | .nil => 1
  | .ptr d => uptoBulk d + 1
  | .slice elems spare => uptoBulkAll elems + uptoBulkAll spare + 1
  | .agg parts => uptoBulkAll parts + 1
  | .iface _ d => uptoBulk d + 1
  | .map entries => uptoBulkEntries entries + 1
  | .held _ => 1
def uptoBulkAll {H : Type} : List (DataW H) → Nat
  | [] => 0
  | d :: r => uptoBulk d + uptoBulkAll r
def uptoBulkEntries {H : Type} : List (Lit × DataW H) → Nat
  | [] => 0
  | x :: r => uptoBulkEntry x + uptoBulkEntries r
def uptoBulkEntry {H : Type} : Lit × DataW H → Nat
  | (.string bytes, d) => bytes.length + uptoBulk d + 1
  | (_, d) => uptoBulk d + 1
 end
def uptoSmall : (H : Type) → List (DataW H) → Bool := fun _ ds => decide (uptoBulkAll ds ≤ 1048576)
def OpenSpec.upto (s : _root_.Go.ChangeSpec) : _root_.Go.OpenSpec := { _root_.Go.OpenSpec.ofChange s with cond := some uptoSmall }

/-- 'muezzinlaw13.FqFair', WHERE WHAT IT READS IS OF BULK AT MOST 1048576: true; the input reads as it did. -/
def fqFairUptoRow : OpenClaim := { program := "yteojoiglffkbmaa", sum := "315fb53873256dd6562342c5a5ab6eef5033ccdbffd9d660427349299cd2b83f", func := "muezzin/muezzinlaw13.FqFair", spec := "fqFair", unfollowed := true, recurses := true, named := ["math/bits.divideError", "math/bits.overflowError"], apart := false, narrowed := true }
def FqFairUptoSaid : Prop := fqFairUptoRow.holds Try.pinned (OpenSpec.upto fqFairSpec)

/-- 'muezzinlaw13.FqFresh', WHERE WHAT IT READS IS OF BULK AT MOST 1048576: true; the input reads as it did. -/
def fqFreshUptoRow : OpenClaim := { program := "yteojoiglffkbmaa", sum := "315fb53873256dd6562342c5a5ab6eef5033ccdbffd9d660427349299cd2b83f", func := "muezzin/muezzinlaw13.FqFresh", spec := "fqFresh", unfollowed := true, recurses := true, named := ["math/bits.divideError", "math/bits.overflowError"], apart := false, narrowed := true }
def FqFreshUptoSaid : Prop := fqFreshUptoRow.holds Try.pinned (OpenSpec.upto fqFreshSpec)

/-- 'muezzinlaw13.FqOrder', WHERE WHAT IT READS IS OF BULK AT MOST 1048576: true; the input reads as it did. -/
def fqOrderUptoRow : OpenClaim := { program := "yteojoiglffkbmaa", sum := "315fb53873256dd6562342c5a5ab6eef5033ccdbffd9d660427349299cd2b83f", func := "muezzin/muezzinlaw13.FqOrder", spec := "fqOrder", unfollowed := true, recurses := true, named := ["math/bits.divideError", "math/bits.overflowError"], apart := false, narrowed := true }
def FqOrderUptoSaid : Prop := fqOrderUptoRow.holds Try.pinned (OpenSpec.upto fqOrderSpec)

/-- 'muezzinlaw13.FqOwn', WHERE WHAT IT READS IS OF BULK AT MOST 1048576: true; the input reads as it did. -/
def fqOwnUptoRow : OpenClaim := { program := "yteojoiglffkbmaa", sum := "315fb53873256dd6562342c5a5ab6eef5033ccdbffd9d660427349299cd2b83f", func := "muezzin/muezzinlaw13.FqOwn", spec := "fqOwn", unfollowed := true, recurses := true, named := ["math/bits.divideError", "math/bits.overflowError"], apart := false, narrowed := true }
def FqOwnUptoSaid : Prop := fqOwnUptoRow.holds Try.pinned (OpenSpec.upto fqOwnSpec)

/-- 'muezzinlaw13.FqPlays', WHERE WHAT IT READS IS OF BULK AT MOST 1048576: true; the input reads as it did. -/
def fqPlaysUptoRow : OpenClaim := { program := "yteojoiglffkbmaa", sum := "315fb53873256dd6562342c5a5ab6eef5033ccdbffd9d660427349299cd2b83f", func := "muezzin/muezzinlaw13.FqPlays", spec := "fqPlays", unfollowed := true, recurses := true, named := ["math/bits.divideError", "math/bits.overflowError"], apart := false, narrowed := true }
def FqPlaysUptoSaid : Prop := fqPlaysUptoRow.holds Try.pinned (OpenSpec.upto fqPlaysSpec)

/-- 'muezzinlaw1.SeqSorts', WHERE WHAT IT READS IS OF BULK AT MOST 1048576: true; the input reads as it did. -/
def seqSortsUptoRow : OpenClaim := { program := "yteojoiglffkbmaa", sum := "315fb53873256dd6562342c5a5ab6eef5033ccdbffd9d660427349299cd2b83f", func := "muezzin/muezzinlaw1.SeqSorts", spec := "seqSorts", unfollowed := true, recurses := true, apart := false, narrowed := true }
def SeqSortsUptoSaid : Prop := seqSortsUptoRow.holds Try.pinned (OpenSpec.upto seqSortsSpec)

end Rows
end Go.Proofs.Yteojoiglffkbmaa
