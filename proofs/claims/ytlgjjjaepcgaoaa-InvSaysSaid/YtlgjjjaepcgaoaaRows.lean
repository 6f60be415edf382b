/-
  No cell of these rows narrows 'for every input' (looked for: loops, veiled, ifaces, maps, wideKeys, modest, calm, conditions, laid).
  DERIVED. THE GIVEN ROWS OF THIS SEAT. 9 by the template 'for every input the law returns true; each argument reads behind the call as it read before'; 0 by the template 'total and deterministic' (their statements: YtlgjjjaepcgaoaaTotals.lean).
  GIVEN WITH THE SEED: the statements are not yours to turn. If you find one false, say at which input.
  Laid BY PROGRAM, IN A SANDBOX (cutbox-rows.mjs): the forced cells as the released guide's own fill.sh prints them over the translation 9e665917126d5840… (all of the seat's roots in one cut). By AI agents, Wed Nov 11 2026. No macro, syntax, notation, axiom, sorry.
-/
import Derived.Test.YtlgjjjaepcgaoaaChecked
import GoSem.Claim
import GoSem.ClaimJoined
import GoSem.ClaimMapViews
import Derived.JoinedTies
import Derived.KernelRfl
namespace Go.Proofs.Ytlgjjjaepcgaoaa
/- THE CELL 'sum', in the pinned program and in every row, IS THE sha256 OF THE DUMP (.gsa) THAT YtlgjjjaepcgaoaaProg.lean LOADS. Nothing in Lean hashes anything: it is a label: what it is worth is what the hold of that sum in a sandbox is worth. -/
noncomputable def Try.pinned : Pinned := { name := "ytlgjjjaepcgaoaa", sum := "9e665917126d5840dc311b08ebe4413070e3668ce87713e6eb13e88cd414b4a3", checked := Try.checked }
namespace Rows
def none {H : Type} : Left H := { results := [], args := [] }

/-- 'muezzinlaw1.SeqChains': WHATEVER THE INPUT: true; the input reads as it did. -/
def seqChainsSpec : ChangeSpec := { name := "seqChains", fn := fun _ => fun
  | [d1, d2] => { results := [.lit (.bool true)], args := [d1, d2] }
  | _ => none }
def seqChainsRow : OpenClaim := { program := "ytlgjjjaepcgaoaa", sum := "9e665917126d5840dc311b08ebe4413070e3668ce87713e6eb13e88cd414b4a3", func := "muezzin/muezzinlaw1.SeqChains", spec := "seqChains", apart := false }
def SeqChainsSaid : Prop := seqChainsRow.holds Try.pinned (OpenSpec.ofChange seqChainsSpec)

/-- ITS FALSE NEIGHBOUR: 'it returns false'. Refute it at one input. -/
def seqChainsWrong : ChangeSpec := { name := "seqChains", fn := fun _ => fun
  | [d1, d2] => { results := [.lit (.bool false)], args := [d1, d2] }
  | _ => none }
def SeqChainsWrongFalsely : Prop := seqChainsRow.holds Try.pinned (OpenSpec.ofChange seqChainsWrong)

/-- 'muezzinlaw1.SeqRound': WHATEVER THE INPUT: true; the input reads as it did. -/
def seqRoundSpec : ChangeSpec := { name := "seqRound", fn := fun _ => fun
  | [d1, d2, d3] => { results := [.lit (.bool true)], args := [d1, d2, d3] }
  | _ => none }
def seqRoundRow : OpenClaim := { program := "ytlgjjjaepcgaoaa", sum := "9e665917126d5840dc311b08ebe4413070e3668ce87713e6eb13e88cd414b4a3", func := "muezzin/muezzinlaw1.SeqRound", spec := "seqRound", apart := false }
def SeqRoundSaid : Prop := seqRoundRow.holds Try.pinned (OpenSpec.ofChange seqRoundSpec)

/-- ITS FALSE NEIGHBOUR: 'it returns false'. Refute it at one input. -/
def seqRoundWrong : ChangeSpec := { name := "seqRound", fn := fun _ => fun
  | [d1, d2, d3] => { results := [.lit (.bool false)], args := [d1, d2, d3] }
  | _ => none }
def SeqRoundWrongFalsely : Prop := seqRoundRow.holds Try.pinned (OpenSpec.ofChange seqRoundWrong)

/-- 'muezzinlaw12.HashSays': WHATEVER THE INPUT: true; the input reads as it did. -/
def hashSaysSpec : ChangeSpec := { name := "hashSays", fn := fun _ => fun
  | [d1, d2] => { results := [.lit (.bool true)], args := [d1, d2] }
  | _ => none }
def hashSaysRow : OpenClaim := { program := "ytlgjjjaepcgaoaa", sum := "9e665917126d5840dc311b08ebe4413070e3668ce87713e6eb13e88cd414b4a3", func := "muezzin/muezzinlaw12.HashSays", spec := "hashSays", apart := false }
def HashSaysSaid : Prop := hashSaysRow.holds Try.pinned (OpenSpec.ofChange hashSaysSpec)

/-- ITS FALSE NEIGHBOUR: 'it returns false'. Refute it at one input. -/
def hashSaysWrong : ChangeSpec := { name := "hashSays", fn := fun _ => fun
  | [d1, d2] => { results := [.lit (.bool false)], args := [d1, d2] }
  | _ => none }
def HashSaysWrongFalsely : Prop := hashSaysRow.holds Try.pinned (OpenSpec.ofChange hashSaysWrong)

/-- 'muezzinlaw12.HashApart': WHATEVER THE INPUT: true; the input reads as it did. -/
def hashApartSpec : ChangeSpec := { name := "hashApart", fn := fun _ => fun
  | [d1, d2, d3] => { results := [.lit (.bool true)], args := [d1, d2, d3] }
  | _ => none }
def hashApartRow : OpenClaim := { program := "ytlgjjjaepcgaoaa", sum := "9e665917126d5840dc311b08ebe4413070e3668ce87713e6eb13e88cd414b4a3", func := "muezzin/muezzinlaw12.HashApart", spec := "hashApart", apart := false }
def HashApartSaid : Prop := hashApartRow.holds Try.pinned (OpenSpec.ofChange hashApartSpec)

/-- ITS FALSE NEIGHBOUR: 'it returns false'. Refute it at one input. -/
def hashApartWrong : ChangeSpec := { name := "hashApart", fn := fun _ => fun
  | [d1, d2, d3] => { results := [.lit (.bool false)], args := [d1, d2, d3] }
  | _ => none }
def HashApartWrongFalsely : Prop := hashApartRow.holds Try.pinned (OpenSpec.ofChange hashApartWrong)

/-- 'muezzinlaw12.HashSpreads': WHATEVER THE INPUT: true; the input reads as it did. -/
def hashSpreadsSpec : ChangeSpec := { name := "hashSpreads", fn := fun _ => fun
  | [d1, d2, d3] => { results := [.lit (.bool true)], args := [d1, d2, d3] }
  | _ => none }
def hashSpreadsRow : OpenClaim := { program := "ytlgjjjaepcgaoaa", sum := "9e665917126d5840dc311b08ebe4413070e3668ce87713e6eb13e88cd414b4a3", func := "muezzin/muezzinlaw12.HashSpreads", spec := "hashSpreads", apart := false }
def HashSpreadsSaid : Prop := hashSpreadsRow.holds Try.pinned (OpenSpec.ofChange hashSpreadsSpec)

/-- ITS FALSE NEIGHBOUR: 'it returns false'. Refute it at one input. -/
def hashSpreadsWrong : ChangeSpec := { name := "hashSpreads", fn := fun _ => fun
  | [d1, d2, d3] => { results := [.lit (.bool false)], args := [d1, d2, d3] }
  | _ => none }
def HashSpreadsWrongFalsely : Prop := hashSpreadsRow.holds Try.pinned (OpenSpec.ofChange hashSpreadsWrong)

/-- 'muezzinlaw10.InvRoots': WHATEVER THE INPUT: true; the input reads as it did. -/
def invRootsSpec : ChangeSpec := { name := "invRoots", fn := fun _ => fun
  | [d] => { results := [.lit (.bool true)], args := [d] }
  | _ => none }
def invRootsRow : OpenClaim := { program := "ytlgjjjaepcgaoaa", sum := "9e665917126d5840dc311b08ebe4413070e3668ce87713e6eb13e88cd414b4a3", func := "muezzin/muezzinlaw10.InvRoots", spec := "invRoots", named := ["math/bits.divideError", "math/bits.overflowError"], apart := false }
def InvRootsSaid : Prop := invRootsRow.holds Try.pinned (OpenSpec.ofChange invRootsSpec)

/-- ITS FALSE NEIGHBOUR: 'it returns false'. Refute it at one input. -/
def invRootsWrong : ChangeSpec := { name := "invRoots", fn := fun _ => fun
  | [d] => { results := [.lit (.bool false)], args := [d] }
  | _ => none }
def InvRootsWrongFalsely : Prop := invRootsRow.holds Try.pinned (OpenSpec.ofChange invRootsWrong)

/-- 'muezzinlaw10.InvFalls': WHATEVER THE INPUT: true; the input reads as it did. -/
def invFallsSpec : ChangeSpec := { name := "invFalls", fn := fun _ => fun
  | [d1, d2, d3, d4] => { results := [.lit (.bool true)], args := [d1, d2, d3, d4] }
  | _ => none }
def invFallsRow : OpenClaim := { program := "ytlgjjjaepcgaoaa", sum := "9e665917126d5840dc311b08ebe4413070e3668ce87713e6eb13e88cd414b4a3", func := "muezzin/muezzinlaw10.InvFalls", spec := "invFalls", named := ["math/bits.divideError", "math/bits.overflowError"], apart := false }
def InvFallsSaid : Prop := invFallsRow.holds Try.pinned (OpenSpec.ofChange invFallsSpec)

/-- ITS FALSE NEIGHBOUR: 'it returns false'. Refute it at one input. -/
def invFallsWrong : ChangeSpec := { name := "invFalls", fn := fun _ => fun
  | [d1, d2, d3, d4] => { results := [.lit (.bool false)], args := [d1, d2, d3, d4] }
  | _ => none }
def InvFallsWrongFalsely : Prop := invFallsRow.holds Try.pinned (OpenSpec.ofChange invFallsWrong)

/-- 'muezzinlaw10.InvPowers': WHATEVER THE INPUT: true; the input reads as it did. -/
def invPowersSpec : ChangeSpec := { name := "invPowers", fn := fun _ => fun
  | [d1, d2, d3] => { results := [.lit (.bool true)], args := [d1, d2, d3] }
  | _ => none }
def invPowersRow : OpenClaim := { program := "ytlgjjjaepcgaoaa", sum := "9e665917126d5840dc311b08ebe4413070e3668ce87713e6eb13e88cd414b4a3", func := "muezzin/muezzinlaw10.InvPowers", spec := "invPowers", named := ["math/bits.divideError", "math/bits.overflowError"], apart := false }
def InvPowersSaid : Prop := invPowersRow.holds Try.pinned (OpenSpec.ofChange invPowersSpec)

/-- ITS FALSE NEIGHBOUR: 'it returns false'. Refute it at one input. -/
def invPowersWrong : ChangeSpec := { name := "invPowers", fn := fun _ => fun
  | [d1, d2, d3] => { results := [.lit (.bool false)], args := [d1, d2, d3] }
  | _ => none }
def InvPowersWrongFalsely : Prop := invPowersRow.holds Try.pinned (OpenSpec.ofChange invPowersWrong)

/-- 'muezzinlaw10.InvSays': WHATEVER THE INPUT: true; the input reads as it did. -/
def invSaysSpec : ChangeSpec := { name := "invSays", fn := fun _ => fun
  | [d1, d2, d3, d4] => { results := [.lit (.bool true)], args := [d1, d2, d3, d4] }
  | _ => none }
def invSaysRow : OpenClaim := { program := "ytlgjjjaepcgaoaa", sum := "9e665917126d5840dc311b08ebe4413070e3668ce87713e6eb13e88cd414b4a3", func := "muezzin/muezzinlaw10.InvSays", spec := "invSays", named := ["math/bits.divideError", "math/bits.overflowError"], apart := false }
def InvSaysSaid : Prop := invSaysRow.holds Try.pinned (OpenSpec.ofChange invSaysSpec)

/-- ITS FALSE NEIGHBOUR: 'it returns false'. Refute it at one input. -/
def invSaysWrong : ChangeSpec := { name := "invSays", fn := fun _ => fun
  | [d1, d2, d3, d4] => { results := [.lit (.bool false)], args := [d1, d2, d3, d4] }
  | _ => none }
def InvSaysWrongFalsely : Prop := invSaysRow.holds Try.pinned (OpenSpec.ofChange invSaysWrong)

/- THE SECOND FORM. 'bulk': how many values and letters a reading holds, each counted each time it is reached (what is shared counts as often as it is met; a slice's spare places count too). A statement '..UptoSaid' is the law's where the arguments, and the package variables that the reading takes, are together of bulk at most 1048576: NARROWER than '..Said'. Prove '..Said' where nothing that the law and all that it calls make is longer than what came in: it says more and counts as full. Else prove '..UptoSaid'. A law counts once. -/
mutual
def uptoBulk {H : Type} : DataW H → Nat
  | .lit (.string bytes) => bytes.length + 1
  | .lit _ => 1
  | .nil => 1
  | .ptr d => uptoBulk d + 1
  | .slice elems spare => uptoBulkAll elems + uptoBulkAll spare + 1
  | .agg parts => uptoBulkAll parts + 1
  | .iface _ d => uptoBulk d + 1
  | .map entries => uptoBulkEntries entries + 1
  | .held _ => 1
def uptoBulkAll {H : Type} : List (DataW H) → Nat
  | [] => 0
  | d :: r => uptoBulk d + uptoBulkAll r
def uptoBulkEntries {H : Type} : List (Lit × DataW H) → Nat
  | [] => 0
  | x :: r => uptoBulkEntry x + uptoBulkEntries r
def uptoBulkEntry {H : Type} : Lit × DataW H → Nat
  | (.string bytes, d) => bytes.length + uptoBulk d + 1
  | (_, d) => uptoBulk d + 1
 end
def uptoSmall : (H : Type) → List (DataW H) → Bool := fun _ ds => decide (uptoBulkAll ds ≤ 1048576)
def OpenSpec.upto (s : _root_.Go.ChangeSpec) : _root_.Go.OpenSpec := { _root_.Go.OpenSpec.ofChange s with cond := some uptoSmall }

/-- 'muezzinlaw1.SeqChains', WHERE WHAT IT READS IS OF BULK AT MOST 1048576: true; the input reads as it did. -/
def seqChainsUptoRow : OpenClaim := { program := "ytlgjjjaepcgaoaa", sum := "9e665917126d5840dc311b08ebe4413070e3668ce87713e6eb13e88cd414b4a3", func := "muezzin/muezzinlaw1.SeqChains", spec := "seqChains", apart := false, narrowed := true }
def SeqChainsUptoSaid : Prop := seqChainsUptoRow.holds Try.pinned (OpenSpec.upto seqChainsSpec)

/-- 'muezzinlaw1.SeqRound', WHERE WHAT IT READS IS OF BULK AT MOST 1048576: true; the input reads as it did. -/
def seqRoundUptoRow : OpenClaim := { program := "ytlgjjjaepcgaoaa", sum := "9e665917126d5840dc311b08ebe4413070e3668ce87713e6eb13e88cd414b4a3", func := "muezzin/muezzinlaw1.SeqRound", spec := "seqRound", apart := false, narrowed := true }
def SeqRoundUptoSaid : Prop := seqRoundUptoRow.holds Try.pinned (OpenSpec.upto seqRoundSpec)

/-- 'muezzinlaw12.HashSays', WHERE WHAT IT READS IS OF BULK AT MOST 1048576: true; the input reads as it did. -/
def hashSaysUptoRow : OpenClaim := { program := "ytlgjjjaepcgaoaa", sum := "9e665917126d5840dc311b08ebe4413070e3668ce87713e6eb13e88cd414b4a3", func := "muezzin/muezzinlaw12.HashSays", spec := "hashSays", apart := false, narrowed := true }
def HashSaysUptoSaid : Prop := hashSaysUptoRow.holds Try.pinned (OpenSpec.upto hashSaysSpec)

/-- 'muezzinlaw12.HashApart', WHERE WHAT IT READS IS OF BULK AT MOST 1048576: true; the input reads as it did. -/
def hashApartUptoRow : OpenClaim := { program := "ytlgjjjaepcgaoaa", sum := "9e665917126d5840dc311b08ebe4413070e3668ce87713e6eb13e88cd414b4a3", func := "muezzin/muezzinlaw12.HashApart", spec := "hashApart", apart := false, narrowed := true }
def HashApartUptoSaid : Prop := hashApartUptoRow.holds Try.pinned (OpenSpec.upto hashApartSpec)

/-- 'muezzinlaw12.HashSpreads', WHERE WHAT IT READS IS OF BULK AT MOST 1048576: true; the input reads as it did. -/
def hashSpreadsUptoRow : OpenClaim := { program := "ytlgjjjaepcgaoaa", sum := "9e665917126d5840dc311b08ebe4413070e3668ce87713e6eb13e88cd414b4a3", func := "muezzin/muezzinlaw12.HashSpreads", spec := "hashSpreads", apart := false, narrowed := true }
def HashSpreadsUptoSaid : Prop := hashSpreadsUptoRow.holds Try.pinned (OpenSpec.upto hashSpreadsSpec)

/-- 'muezzinlaw10.InvRoots', WHERE WHAT IT READS IS OF BULK AT MOST 1048576: true; the input reads as it did. -/
def invRootsUptoRow : OpenClaim := { program := "ytlgjjjaepcgaoaa", sum := "9e665917126d5840dc311b08ebe4413070e3668ce87713e6eb13e88cd414b4a3", func := "muezzin/muezzinlaw10.InvRoots", spec := "invRoots", named := ["math/bits.divideError", "math/bits.overflowError"], apart := false, narrowed := true }
def InvRootsUptoSaid : Prop := invRootsUptoRow.holds Try.pinned (OpenSpec.upto invRootsSpec)

/-- 'muezzinlaw10.InvFalls', WHERE WHAT IT READS IS OF BULK AT MOST 1048576: true; the input reads as it did. -/
def invFallsUptoRow : OpenClaim := { program := "ytlgjjjaepcgaoaa", sum := "9e665917126d5840dc311b08ebe4413070e3668ce87713e6eb13e88cd414b4a3", func := "muezzin/muezzinlaw10.InvFalls", spec := "invFalls", named := ["math/bits.divideError", "math/bits.overflowError"], apart := false, narrowed := true }
def InvFallsUptoSaid : Prop := invFallsUptoRow.holds Try.pinned (OpenSpec.upto invFallsSpec)

/-- 'muezzinlaw10.InvPowers', WHERE WHAT IT READS IS OF BULK AT MOST 1048576: true; the input reads as it did. -/
def invPowersUptoRow : OpenClaim := { program := "ytlgjjjaepcgaoaa", sum := "9e665917126d5840dc311b08ebe4413070e3668ce87713e6eb13e88cd414b4a3", func := "muezzin/muezzinlaw10.InvPowers", spec := "invPowers", named := ["math/bits.divideError", "math/bits.overflowError"], apart := false, narrowed := true }
def InvPowersUptoSaid : Prop := invPowersUptoRow.holds Try.pinned (OpenSpec.upto invPowersSpec)

/-- 'muezzinlaw10.InvSays', WHERE WHAT IT READS IS OF BULK AT MOST 1048576: true; the input reads as it did. -/
def invSaysUptoRow : OpenClaim := { program := "ytlgjjjaepcgaoaa", sum := "9e665917126d5840dc311b08ebe4413070e3668ce87713e6eb13e88cd414b4a3", func := "muezzin/muezzinlaw10.InvSays", spec := "invSays", named := ["math/bits.divideError", "math/bits.overflowError"], apart := false, narrowed := true }
def InvSaysUptoSaid : Prop := invSaysUptoRow.holds Try.pinned (OpenSpec.upto invSaysSpec)

end Rows
end Go.Proofs.Ytlgjjjaepcgaoaa
