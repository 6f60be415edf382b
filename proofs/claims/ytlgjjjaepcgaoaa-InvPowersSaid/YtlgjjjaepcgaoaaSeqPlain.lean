/- Numbers that go round: sums and distances modulo 4096, as plain mathematics. -/
namespace Go.Proofs.Ytlgjjjaepcgaoaa
def addZ (a n : Int) : Int := (a + n) % 4096
def distZ (a b : Int) : Int := (b - a) % 4096
def aheadB (d : Int) : Bool := decide (0 < d ∧ d < 2048)
theorem addZ_bd (a n : Int) : 0 ≤ addZ a n ∧ addZ a n < 4096 := by unfold addZ; omega
theorem distZ_bd (a n : Int) : 0 ≤ distZ a n ∧ distZ a n < 4096 := by unfold distZ; omega
end Go.Proofs.Ytlgjjjaepcgaoaa
