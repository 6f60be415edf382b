/- The abstract machine: what a printed function needs. -/
import Derived.Test.YtgkpnfnkaplebaaGreatDoorAb14
set_option linter.unusedVariables false
set_option linter.constructorNameAsVariable false
namespace Go.Ab
open Go.Vc Go.Proofs.YtgkpnfnkaplebaaGreatDoor
section
variable {ads : List Addr} {β : Type} {P : Program} {D : List (Nat × G β)}
theorem SndA.nil : SndA P ads ([] : List (Nat × G β)) := fun x hx => by cases hx
theorem SndA.cons {f : Nat} {g : G β} (h : Snd P ads f g) (hD : SndA P ads D) : SndA P ads ((f, g) :: D) := fun x hx => by
  cases hx with
  | head => exact h
  | tail _ hx => exact hD x hx
end
end Go.Ab
namespace Go.Proofs.YtgkpnfnkaplebaaGreatDoor
open Go.Vc Go.Ab
noncomputable section
variable {ads : List Addr} {β : Type}
/-- Are two outcomes the same? -/
def deq (a b : DV) : Bool := match a, b with
  | .v x, .v y => aveq x y
  | .n, .n => true
  | _, _ => false
theorem deq_ok (a b : DV) (h : deq a b = true) : a = b := by
  unfold deq at h
  split at h
  · rw [aveq_eq h]
  · rfl
  · cases h
/-- The function f of the machine stands for the program's. -/
abbrev SN (ads : List Addr) (f : FuncId) (g : G DV) : Prop := Snd Tryz.prog ads f g
theorem mk_snd {f : FuncId} {fn : Func} {c : Code} {g : G DV} (D : List (Nat × G DV)) (A : AnnD) (shs : List Sh) (hf : Tryz.prog.funcs[f]? = some fn) (hb : fn.body = some c) (hD : SndA Tryz.prog ads D)
    (hl : Nat.ble shs.length fn.ntmps = true := by kernel_rfl) (hbd : bodied Tryz.prog f = true := by kernel_rfl) (hg : dfn Tryz.prog D (ddraw deq Tryz.prog D fn.ntmps) A shs fn c = g := by kernel_rfl) : Snd Tryz.prog ads f g := by
  rw [← hg]
  exact dfn_snd ptE_ok hD (ddraw_ok deq_ok ptE_ok hD) hf hb hl hbd
end
end Go.Proofs.YtgkpnfnkaplebaaGreatDoor
