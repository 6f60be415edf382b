/- Errors: the sentinels of package api, where they lie, how they are compared. -/
import Derived.Test.YtgkpnfnkaplebaaGreatDoorOwn
import Derived.Test.YtgkpnfnkaplebaaGreatDoorRows
set_option linter.unusedVariables false
set_option linter.unusedSimpArgs false
namespace Go.Proofs.YtgkpnfnkaplebaaGreatDoor
open Go.Vc
/-- The variables of api's errors, in order. -/
def errG : List Nat := [4
  , 6
  , 2
  , 13
  , 5
  , 17
  , 3
  , 7
  , 12
  , 14
  , 18
  , 0
  , 1
  ]
/-- How many of them the laws' rows tell of. -/
def errN : Nat := errG.length
def ptE (a : Addr) : Value := .iface 410 (.pointer (some a))
section
variable {h : Heap} {a b : Addr} {c : Bool}
theorem ifeqH_nilR : ifeqH Tryz.prog h c (ptE a) .nilIface = some false := rfl
theorem ifeqH_nilL : ifeqH Tryz.prog h c .nilIface (ptE a) = some false := rfl
theorem ifeqH_nil : ifeqH Tryz.prog h true .nilIface .nilIface = some true := rfl
theorem ptE_ok : ptrOk Tryz.prog 410 = true := by kernel_rfl
theorem ifeqH_pt : ifeqH Tryz.prog h c (ptE a) (ptE b) = sameA h a b := by
  unfold ifeqH ptE
  simp only [Nat.beq_refl, ptE_ok]
end
end Go.Proofs.YtgkpnfnkaplebaaGreatDoor
