/-
  No cell of these rows narrows 'for every input' (looked for: loops, veiled, ifaces, maps, wideKeys, modest, calm, conditions, laid).
  DERIVED. THE GIVEN ROWS OF THIS SEAT. 6 by the template 'for every input the law returns true; each argument reads behind the call as it read before'; 0 by the template 'total and deterministic' (their statements: YtpecigkicmgbdaaTotals.lean).
  GIVEN WITH THE SEED: the statements are not yours to turn. If you find one false, say at which input.
  Laid BY PROGRAM, IN A SANDBOX (cutbox-rows.mjs): the forced cells as the released guide's own fill.sh prints them over the translation 7d5ca6a090e8ffc6… (all of the seat's roots in one cut). By AI agents, Wed Nov 11 2026. No macro, syntax, notation, axiom, sorry.
-/
import Derived.Test.YtpecigkicmgbdaaChecked
import GoSem.Claim
import GoSem.ClaimJoined
import GoSem.ClaimMapViews
import Derived.JoinedTies
import Derived.KernelRfl
namespace Go.Proofs.Ytpecigkicmgbdaa
/- THE CELL 'sum', in the pinned program and in every row, IS THE sha256 OF THE DUMP (.gsa) THAT YtpecigkicmgbdaaProg.lean LOADS. Nothing in Lean hashes anything: it is a label: what it is worth is what the hold of that sum in a sandbox is worth. -/
noncomputable def Try.pinned : Pinned := { name := "ytpecigkicmgbdaa", sum := "7d5ca6a090e8ffc67ee9d039010e8ca903789bd282ad1a8d6cc63dbb5b2670c2", checked := Try.checked }
namespace Rows
def none {H : Type} : Left H := { results := [], args := [] }

/-- 'muezzinlaw11.CodelCalm': WHATEVER THE INPUT: true; the input reads as it did. -/
def codelCalmSpec : ChangeSpec := { name := "codelCalm", fn := fun _ => fun
  | [d1, d2, d3, d4] => { results := [.lit (.bool true)], args := [d1, d2, d3, d4] }
  | _ => none }
def codelCalmRow : OpenClaim := { program := "ytpecigkicmgbdaa", sum := "7d5ca6a090e8ffc67ee9d039010e8ca903789bd282ad1a8d6cc63dbb5b2670c2", func := "muezzin/muezzinlaw11.CodelCalm", spec := "codelCalm", unfollowed := true, recurses := true, named := ["math/bits.divideError", "math/bits.overflowError"], apart := false }
def CodelCalmSaid : Prop := codelCalmRow.holds Try.pinned (OpenSpec.ofChange codelCalmSpec)

/-- ITS FALSE NEIGHBOUR: 'it returns false'. Refute it at one input. -/
def codelCalmWrong : ChangeSpec := { name := "codelCalm", fn := fun _ => fun
  | [d1, d2, d3, d4] => { results := [.lit (.bool false)], args := [d1, d2, d3, d4] }
  | _ => none }
def CodelCalmWrongFalsely : Prop := codelCalmRow.holds Try.pinned (OpenSpec.ofChange codelCalmWrong)

/-- 'muezzinlaw11.CodelStands': WHATEVER THE INPUT: true; the input reads as it did. -/
def codelStandsSpec : ChangeSpec := { name := "codelStands", fn := fun _ => fun
  | [d1, d2] => { results := [.lit (.bool true)], args := [d1, d2] }
  | _ => none }
def codelStandsRow : OpenClaim := { program := "ytpecigkicmgbdaa", sum := "7d5ca6a090e8ffc67ee9d039010e8ca903789bd282ad1a8d6cc63dbb5b2670c2", func := "muezzin/muezzinlaw11.CodelStands", spec := "codelStands", unfollowed := true, recurses := true, named := ["math/bits.divideError", "math/bits.overflowError"], apart := false }
def CodelStandsSaid : Prop := codelStandsRow.holds Try.pinned (OpenSpec.ofChange codelStandsSpec)

/-- ITS FALSE NEIGHBOUR: 'it returns false'. Refute it at one input. -/
def codelStandsWrong : ChangeSpec := { name := "codelStands", fn := fun _ => fun
  | [d1, d2] => { results := [.lit (.bool false)], args := [d1, d2] }
  | _ => none }
def CodelStandsWrongFalsely : Prop := codelStandsRow.holds Try.pinned (OpenSpec.ofChange codelStandsWrong)

/-- 'muezzinlaw11.CodelFirst': WHATEVER THE INPUT: true; the input reads as it did. -/
def codelFirstSpec : ChangeSpec := { name := "codelFirst", fn := fun _ => fun
  | [d1, d2, d3, d4, d5, d6] => { results := [.lit (.bool true)], args := [d1, d2, d3, d4, d5, d6] }
  | _ => none }
def codelFirstRow : OpenClaim := { program := "ytpecigkicmgbdaa", sum := "7d5ca6a090e8ffc67ee9d039010e8ca903789bd282ad1a8d6cc63dbb5b2670c2", func := "muezzin/muezzinlaw11.CodelFirst", spec := "codelFirst", unfollowed := true, recurses := true, named := ["math/bits.divideError", "math/bits.overflowError"], apart := false }
def CodelFirstSaid : Prop := codelFirstRow.holds Try.pinned (OpenSpec.ofChange codelFirstSpec)

/-- ITS FALSE NEIGHBOUR: 'it returns false'. Refute it at one input. -/
def codelFirstWrong : ChangeSpec := { name := "codelFirst", fn := fun _ => fun
  | [d1, d2, d3, d4, d5, d6] => { results := [.lit (.bool false)], args := [d1, d2, d3, d4, d5, d6] }
  | _ => none }
def CodelFirstWrongFalsely : Prop := codelFirstRow.holds Try.pinned (OpenSpec.ofChange codelFirstWrong)

/-- 'muezzinlaw11.CodelMeans': WHATEVER THE INPUT: true; the input reads as it did. -/
def codelMeansSpec : ChangeSpec := { name := "codelMeans", fn := fun _ => fun
  | [d1, d2, d3] => { results := [.lit (.bool true)], args := [d1, d2, d3] }
  | _ => none }
def codelMeansRow : OpenClaim := { program := "ytpecigkicmgbdaa", sum := "7d5ca6a090e8ffc67ee9d039010e8ca903789bd282ad1a8d6cc63dbb5b2670c2", func := "muezzin/muezzinlaw11.CodelMeans", spec := "codelMeans", unfollowed := true, recurses := true, named := ["math/bits.divideError", "math/bits.overflowError"], apart := false }
def CodelMeansSaid : Prop := codelMeansRow.holds Try.pinned (OpenSpec.ofChange codelMeansSpec)

/-- ITS FALSE NEIGHBOUR: 'it returns false'. Refute it at one input. -/
def codelMeansWrong : ChangeSpec := { name := "codelMeans", fn := fun _ => fun
  | [d1, d2, d3] => { results := [.lit (.bool false)], args := [d1, d2, d3] }
  | _ => none }
def CodelMeansWrongFalsely : Prop := codelMeansRow.holds Try.pinned (OpenSpec.ofChange codelMeansWrong)

/-- 'muezzinlaw11.CodelSays': WHATEVER THE INPUT: true; the input reads as it did. -/
def codelSaysSpec : ChangeSpec := { name := "codelSays", fn := fun _ => fun
  | [d1, d2, d3, d4, d5, d6] => { results := [.lit (.bool true)], args := [d1, d2, d3, d4, d5, d6] }
  | _ => none }
def codelSaysRow : OpenClaim := { program := "ytpecigkicmgbdaa", sum := "7d5ca6a090e8ffc67ee9d039010e8ca903789bd282ad1a8d6cc63dbb5b2670c2", func := "muezzin/muezzinlaw11.CodelSays", spec := "codelSays", unfollowed := true, recurses := true, named := ["math/bits.divideError", "math/bits.overflowError"], apart := false }
def CodelSaysSaid : Prop := codelSaysRow.holds Try.pinned (OpenSpec.ofChange codelSaysSpec)

/-- ITS FALSE NEIGHBOUR: 'it returns false'. Refute it at one input. -/
def codelSaysWrong : ChangeSpec := { name := "codelSays", fn := fun _ => fun
  | [d1, d2, d3, d4, d5, d6] => { results := [.lit (.bool false)], args := [d1, d2, d3, d4, d5, d6] }
  | _ => none }
def CodelSaysWrongFalsely : Prop := codelSaysRow.holds Try.pinned (OpenSpec.ofChange codelSaysWrong)

/-- 'muezzinlaw11.CodelRuns': WHATEVER THE INPUT: true; the input reads as it did. -/
def codelRunsSpec : ChangeSpec := { name := "codelRuns", fn := fun _ => fun
  | [d1, d2, d3, d4] => { results := [.lit (.bool true)], args := [d1, d2, d3, d4] }
  | _ => none }
def codelRunsRow : OpenClaim := { program := "ytpecigkicmgbdaa", sum := "7d5ca6a090e8ffc67ee9d039010e8ca903789bd282ad1a8d6cc63dbb5b2670c2", func := "muezzin/muezzinlaw11.CodelRuns", spec := "codelRuns", unfollowed := true, recurses := true, named := ["math/bits.divideError", "math/bits.overflowError"], apart := false }
def CodelRunsSaid : Prop := codelRunsRow.holds Try.pinned (OpenSpec.ofChange codelRunsSpec)

/-- ITS FALSE NEIGHBOUR: 'it returns false'. Refute it at one input. -/
def codelRunsWrong : ChangeSpec := { name := "codelRuns", fn := fun _ => fun
  | [d1, d2, d3, d4] => { results := [.lit (.bool false)], args := [d1, d2, d3, d4] }
  | _ => none }
def CodelRunsWrongFalsely : Prop := codelRunsRow.holds Try.pinned (OpenSpec.ofChange codelRunsWrong)

/- THE SECOND FORM. 'bulk': how many values and letters a reading holds, each counted each time it is reached (what is shared counts as often as it is met; a slice's spare places count too). A statement '..UptoSaid' is the law's where the arguments, and the package variables that the reading takes, are together of bulk at most 1048576: NARROWER than '..Said'. Prove '..Said' where nothing that the law and all that it calls make is longer than what came in: it says more and counts as full. Else prove '..UptoSaid'. A law counts once. -/
mutual
def uptoBulk {H : Type} : DataW H → Nat
  | .lit (.string bytes) => bytes.length + 1
  | .lit _ => 1
  | .nil => 1
  | .ptr d => uptoBulk d + 1
  | .slice elems spare => uptoBulkAll elems + uptoBulkAll spare + 1
  | .agg parts => uptoBulkAll parts + 1
  | .iface _ d => uptoBulk d + 1
  | .map entries => uptoBulkEntries entries + 1
  | .held _ => 1
def uptoBulkAll {H : Type} : List (DataW H) → Nat
  | [] => 0
  | d :: r => uptoBulk d + uptoBulkAll r
def uptoBulkEntries {H : Type} : List (Lit × DataW H) → Nat
  | [] => 0
  | x :: r => uptoBulkEntry x + uptoBulkEntries r
def uptoBulkEntry {H : Type} : Lit × DataW H → Nat
  | (.string bytes, d) => bytes.length + uptoBulk d + 1
  | (_, d) => uptoBulk d + 1
 end
def uptoSmall : (H : Type) → List (DataW H) → Bool := fun _ ds => decide (uptoBulkAll ds ≤ 1048576)
def OpenSpec.upto (s : _root_.Go.ChangeSpec) : _root_.Go.OpenSpec := { _root_.Go.OpenSpec.ofChange s with cond := some uptoSmall }

/-- 'muezzinlaw11.CodelCalm', WHERE WHAT IT READS IS OF BULK AT MOST 1048576: true; the input reads as it did. -/
def codelCalmUptoRow : OpenClaim := { program := "ytpecigkicmgbdaa", sum := "7d5ca6a090e8ffc67ee9d039010e8ca903789bd282ad1a8d6cc63dbb5b2670c2", func := "muezzin/muezzinlaw11.CodelCalm", spec := "codelCalm", unfollowed := true, recurses := true, named := ["math/bits.divideError", "math/bits.overflowError"], apart := false, narrowed := true }
def CodelCalmUptoSaid : Prop := codelCalmUptoRow.holds Try.pinned (OpenSpec.upto codelCalmSpec)

/-- 'muezzinlaw11.CodelStands', WHERE WHAT IT READS IS OF BULK AT MOST 1048576: true; the input reads as it did. -/
def codelStandsUptoRow : OpenClaim := { program := "ytpecigkicmgbdaa", sum := "7d5ca6a090e8ffc67ee9d039010e8ca903789bd282ad1a8d6cc63dbb5b2670c2", func := "muezzin/muezzinlaw11.CodelStands", spec := "codelStands", unfollowed := true, recurses := true, named := ["math/bits.divideError", "math/bits.overflowError"], apart := false, narrowed := true }
def CodelStandsUptoSaid : Prop := codelStandsUptoRow.holds Try.pinned (OpenSpec.upto codelStandsSpec)

/-- 'muezzinlaw11.CodelFirst', WHERE WHAT IT READS IS OF BULK AT MOST 1048576: true; the input reads as it did. -/
def codelFirstUptoRow : OpenClaim := { program := "ytpecigkicmgbdaa", sum := "7d5ca6a090e8ffc67ee9d039010e8ca903789bd282ad1a8d6cc63dbb5b2670c2", func := "muezzin/muezzinlaw11.CodelFirst", spec := "codelFirst", unfollowed := true, recurses := true, named := ["math/bits.divideError", "math/bits.overflowError"], apart := false, narrowed := true }
def CodelFirstUptoSaid : Prop := codelFirstUptoRow.holds Try.pinned (OpenSpec.upto codelFirstSpec)

/-- 'muezzinlaw11.CodelMeans', WHERE WHAT IT READS IS OF BULK AT MOST 1048576: true; the input reads as it did. -/
def codelMeansUptoRow : OpenClaim := { program := "ytpecigkicmgbdaa", sum := "7d5ca6a090e8ffc67ee9d039010e8ca903789bd282ad1a8d6cc63dbb5b2670c2", func := "muezzin/muezzinlaw11.CodelMeans", spec := "codelMeans", unfollowed := true, recurses := true, named := ["math/bits.divideError", "math/bits.overflowError"], apart := false, narrowed := true }
def CodelMeansUptoSaid : Prop := codelMeansUptoRow.holds Try.pinned (OpenSpec.upto codelMeansSpec)

/-- 'muezzinlaw11.CodelSays', WHERE WHAT IT READS IS OF BULK AT MOST 1048576: true; the input reads as it did. -/
def codelSaysUptoRow : OpenClaim := { program := "ytpecigkicmgbdaa", sum := "7d5ca6a090e8ffc67ee9d039010e8ca903789bd282ad1a8d6cc63dbb5b2670c2", func := "muezzin/muezzinlaw11.CodelSays", spec := "codelSays", unfollowed := true, recurses := true, named := ["math/bits.divideError", "math/bits.overflowError"], apart := false, narrowed := true }
def CodelSaysUptoSaid : Prop := codelSaysUptoRow.holds Try.pinned (OpenSpec.upto codelSaysSpec)

/-- 'muezzinlaw11.CodelRuns', WHERE WHAT IT READS IS OF BULK AT MOST 1048576: true; the input reads as it did. -/
def codelRunsUptoRow : OpenClaim := { program := "ytpecigkicmgbdaa", sum := "7d5ca6a090e8ffc67ee9d039010e8ca903789bd282ad1a8d6cc63dbb5b2670c2", func := "muezzin/muezzinlaw11.CodelRuns", spec := "codelRuns", unfollowed := true, recurses := true, named := ["math/bits.divideError", "math/bits.overflowError"], apart := false, narrowed := true }
def CodelRunsUptoSaid : Prop := codelRunsUptoRow.holds Try.pinned (OpenSpec.upto codelRunsSpec)

end Rows
end Go.Proofs.Ytpecigkicmgbdaa
