/- What a walk is told of a slice of integers that came in. -/
import Derived.Test.YtlgjjjaepcgaoaaVc
import Derived.ProofKit
import Derived.OpenShut
set_option linter.unusedVariables false
namespace Go.Proofs.Ytlgjjjaepcgaoaa
open Go.Vc Go.RowKit
/-- The slice is nil; or it leads to a row of 'cap' cells, the numbers 'zs' (the first 'len' are its elements), each fitting its kind. -/
def IsRow (k : IntKind) (w : World) (a : Option Addr) (len cap : Nat) (zs : List Int) : Prop :=
  (a = none ∧ len = 0 ∧ cap = 0 ∧ zs = []) ∨
  ∃ x, a = some x ∧ len ≤ cap ∧ cap ≤ maxLen ∧ zs.length = cap ∧ (∀ i, i < zs.length → w.cell? (x.add i) = some (.int k (zs.getD i 0))) ∧ ∀ n ∈ zs, (Lit.int k n).wf = true
theorem IsRow.at {k : IntKind} {w : World} {a : Option Addr} {len cap : Nat} {zs : List Int} (h : IsRow k w a len cap zs) {i : Nat} (hi : i < len) :
    ∃ b o, a = some ⟨b, o, none⟩ ∧ len ≤ cap ∧ zs.length = cap ∧ ∀ j, j < cap → cell w.heap b (o + j) = some (.int k (zs.getD j 0)) := by
  rcases h with ⟨_, h, _⟩ | ⟨x, rfl, h1, h2, h3, h4, h5⟩
  · omega
  · obtain ⟨b, o, s⟩ := x
    have h0 := h4 0 (by omega)
    have : s = none := by
      cases s with
      | none => rfl
      | some s => simp [Addr.add, World.cell?] at h0; split at h0 <;> simp_all
    subst this
    refine ⟨b, o, rfl, h1, h3, fun j hj => ?_⟩
    rw [← cell?_eq, ← add_eq]; exact h4 j (by omega)
end Go.Proofs.Ytlgjjjaepcgaoaa
