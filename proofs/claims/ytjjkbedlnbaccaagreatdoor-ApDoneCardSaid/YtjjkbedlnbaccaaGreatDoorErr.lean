/- Errors: the sentinels of package api, where they lie, how they are compared. -/
import Derived.Test.YtjjkbedlnbaccaaGreatDoorOwn
import Derived.Test.YtjjkbedlnbaccaaGreatDoorRows
set_option linter.unusedVariables false
set_option linter.unusedSimpArgs false
namespace Go.Proofs.YtjjkbedlnbaccaaGreatDoor
open Go.Vc
/-- The variables of api's errors, in order. -/
def errG : List Nat := [8
  , 7
  , 1
  , 9
  , 5
  , 11
  , 0
  , 2
  , 4
  , 3
  , 6
  , 10
  , 12
  , 13
  ]
/-- How many of them the laws' rows tell of. -/
def errN : Nat := errG.length
def ptE (a : Addr) : Value := .iface 519 (.pointer (some a))
section
variable {h : Heap} {a b : Addr} {c : Bool}
theorem ifeqH_nilR : ifeqH Tryz.prog h c (ptE a) .nilIface = some false := rfl
theorem ifeqH_nilL : ifeqH Tryz.prog h c .nilIface (ptE a) = some false := rfl
theorem ifeqH_nil : ifeqH Tryz.prog h true .nilIface .nilIface = some true := rfl
theorem ptE_ok : ptrOk Tryz.prog 519 = true := by kernel_rfl
theorem ifeqH_pt : ifeqH Tryz.prog h c (ptE a) (ptE b) = sameA h a b := by
  unfold ifeqH ptE
  simp only [Nat.beq_refl, ptE_ok]
end
end Go.Proofs.YtjjkbedlnbaccaaGreatDoor
