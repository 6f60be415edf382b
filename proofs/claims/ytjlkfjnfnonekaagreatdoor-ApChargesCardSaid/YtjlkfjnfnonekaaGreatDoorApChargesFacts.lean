import Derived.Test.YtjlkfjnfnonekaaGreatDoorRows
import Derived.Test.YtjlkfjnfnonekaaGreatDoorCards
import Derived.Test.YtjlkfjnfnonekaaGreatDoorTie
import Derived.WalkKit
import Derived.ProofKit
import Derived.OpenShut
import Derived.ChangeOld
import Derived.Below
import Derived.LaidMore
import Derived.SevenTiedAt
import Derived.Stop.Joined
/- Facts of the program and of the row of the law ApCharges, each by the kernel, one by one. -/
namespace Go.Proofs.YtjlkfjnfnonekaaGreatDoor.apCharges
open Go Go.ChangeShapes Go.WideShapes Go.ChangeAt Go.RowKit
set_option linter.unusedVariables false
theorem and_t {a b : Bool} (h : a = true) (k : b = true) : (a && b) = true := by rw [h, k]; rfl
theorem jf0 : (fun (P : Program) (f : FuncId) (fn : Func) (s : ChangeSpec) (c : OpenClaim) => c.wf (OpenSpec.ofChange s)) Tryz.prog 3 Tryz.f3 Rows.apChargesSpec Rows.apChargesRow = true := by kernel_rfl
theorem jf1 : (fun (P : Program) (f : FuncId) (fn : Func) (s : ChangeSpec) (c : OpenClaim) => laidOutB P) Tryz.prog 3 Tryz.f3 Rows.apChargesSpec Rows.apChargesRow = true := by kernel_rfl
theorem jf2 : (fun (P : Program) (f : FuncId) (fn : Func) (s : ChangeSpec) (c : OpenClaim) => mapsRowed P) Tryz.prog 3 Tryz.f3 Rows.apChargesSpec Rows.apChargesRow = true := by kernel_rfl
theorem jf3 : (fun (P : Program) (f : FuncId) (fn : Func) (s : ChangeSpec) (c : OpenClaim) => fn.params.all (P.readableRec ·)) Tryz.prog 3 Tryz.f3 Rows.apChargesSpec Rows.apChargesRow = true := by kernel_rfl
theorem jf4 : (fun (P : Program) (f : FuncId) (fn : Func) (s : ChangeSpec) (c : OpenClaim) => namedTie P c.named s.vars) Tryz.prog 3 Tryz.f3 Rows.apChargesSpec Rows.apChargesRow = true := by kernel_rfl
theorem jf5 : (fun (P : Program) (f : FuncId) (fn : Func) (s : ChangeSpec) (c : OpenClaim) => (c.stops == [])) Tryz.prog 3 Tryz.f3 Rows.apChargesSpec Rows.apChargesRow = true := by kernel_rfl
theorem jf6 : (fun (P : Program) (f : FuncId) (fn : Func) (s : ChangeSpec) (c : OpenClaim) => (P.stops == [])) Tryz.prog 3 Tryz.f3 Rows.apChargesSpec Rows.apChargesRow = true := by kernel_rfl
theorem jf7 : (fun (P : Program) (f : FuncId) (fn : Func) (s : ChangeSpec) (c : OpenClaim) => (c.knobs == [])) Tryz.prog 3 Tryz.f3 Rows.apChargesSpec Rows.apChargesRow = true := by kernel_rfl
theorem jf8 : (fun (P : Program) (f : FuncId) (fn : Func) (s : ChangeSpec) (c : OpenClaim) => (P.stopKnobs == [])) Tryz.prog 3 Tryz.f3 Rows.apChargesSpec Rows.apChargesRow = true := by kernel_rfl
theorem jf9 : (fun (P : Program) (f : FuncId) (fn : Func) (s : ChangeSpec) (c : OpenClaim) => (c.inPlace == P.inPlace f)) Tryz.prog 3 Tryz.f3 Rows.apChargesSpec Rows.apChargesRow = true := by kernel_rfl
theorem jf10 : (fun (P : Program) (f : FuncId) (fn : Func) (s : ChangeSpec) (c : OpenClaim) => (c.unfollowed == P.unfollowed f)) Tryz.prog 3 Tryz.f3 Rows.apChargesSpec Rows.apChargesRow = true := by kernel_rfl
theorem jf11 : (fun (P : Program) (f : FuncId) (fn : Func) (s : ChangeSpec) (c : OpenClaim) => (c.recurses == P.recurses f)) Tryz.prog 3 Tryz.f3 Rows.apChargesSpec Rows.apChargesRow = true := by kernel_rfl
theorem jf12 : (fun (P : Program) (f : FuncId) (fn : Func) (s : ChangeSpec) (c : OpenClaim) => (c.named == P.varsNamed f)) Tryz.prog 3 Tryz.f3 Rows.apChargesSpec Rows.apChargesRow = true := by kernel_rfl
theorem jf13 : (fun (P : Program) (f : FuncId) (fn : Func) (s : ChangeSpec) (c : OpenClaim) => (c.maps == (fn.params.toList ++ s.plain.varTypes P).any (P.mapsRec ·))) Tryz.prog 3 Tryz.f3 Rows.apChargesSpec Rows.apChargesRow = true := by kernel_rfl
theorem jf14 : (fun (P : Program) (f : FuncId) (fn : Func) (s : ChangeSpec) (c : OpenClaim) => (c.ifaces == (fn.params.toList ++ s.plain.varTypes P).any (P.ifacesRec ·))) Tryz.prog 3 Tryz.f3 Rows.apChargesSpec Rows.apChargesRow = true := by kernel_rfl
theorem jf15 : (fun (P : Program) (f : FuncId) (fn : Func) (s : ChangeSpec) (c : OpenClaim) => (c.mapsOut == P.mapsAmong fn.resultTypes.toList)) Tryz.prog 3 Tryz.f3 Rows.apChargesSpec Rows.apChargesRow = true := by kernel_rfl
theorem jf16 : (fun (P : Program) (f : FuncId) (fn : Func) (s : ChangeSpec) (c : OpenClaim) => (c.loops == (fn.params.toList ++ s.plain.varTypes P).any (P.loopsFrom ·))) Tryz.prog 3 Tryz.f3 Rows.apChargesSpec Rows.apChargesRow = true := by kernel_rfl
theorem jf17 : (fun (P : Program) (f : FuncId) (fn : Func) (s : ChangeSpec) (c : OpenClaim) => (c.wideKeys == (fn.params.toList ++ s.plain.varTypes P ++ fn.resultTypes.toList).any (P.wideKeysFrom ·))) Tryz.prog 3 Tryz.f3 Rows.apChargesSpec Rows.apChargesRow = true := by kernel_rfl
theorem jf18 : (fun (P : Program) (f : FuncId) (fn : Func) (s : ChangeSpec) (c : OpenClaim) => s.vars.all (P.varReadable ·)) Tryz.prog 3 Tryz.f3 Rows.apChargesSpec Rows.apChargesRow = true := by kernel_rfl
theorem jf19 : (fun (P : Program) (f : FuncId) (fn : Func) (s : ChangeSpec) (c : OpenClaim) => fn.resultTypes.all (fun t => P.readableRec t && decide (t < P.types.size))) Tryz.prog 3 Tryz.f3 Rows.apChargesSpec Rows.apChargesRow = true := by kernel_rfl
theorem jf20 : (fun (P : Program) (f : FuncId) (fn : Func) (s : ChangeSpec) (c : OpenClaim) => (c.ifacesOut == fn.resultTypes.toList.any (P.ifacesRec ·))) Tryz.prog 3 Tryz.f3 Rows.apChargesSpec Rows.apChargesRow = true := by kernel_rfl
theorem jf21 : (fun (P : Program) (f : FuncId) (fn : Func) (s : ChangeSpec) (c : OpenClaim) => (c.loopsOut == fn.resultTypes.toList.any (P.loopsFrom ·))) Tryz.prog 3 Tryz.f3 Rows.apChargesSpec Rows.apChargesRow = true := by kernel_rfl
theorem jf22 : (fun (P : Program) (f : FuncId) (fn : Func) (s : ChangeSpec) (c : OpenClaim) => (c.plainKeys == P.plainKeys)) Tryz.prog 3 Tryz.f3 Rows.apChargesSpec Rows.apChargesRow = true := by kernel_rfl
theorem jf23 : (fun (P : Program) (f : FuncId) (fn : Func) (s : ChangeSpec) (c : OpenClaim) => c.shortTexts.isNone) Tryz.prog 3 Tryz.f3 Rows.apChargesSpec Rows.apChargesRow = true := by kernel_rfl
theorem jf24 : (fun (P : Program) (f : FuncId) (fn : Func) (s : ChangeSpec) (c : OpenClaim) => P.stopsHeard) Tryz.prog 3 Tryz.f3 Rows.apChargesSpec Rows.apChargesRow = true := by kernel_rfl
theorem jf25 : (fun (P : Program) (f : FuncId) (fn : Func) (s : ChangeSpec) (c : OpenClaim) => P.mayEnter) Tryz.prog 3 Tryz.f3 Rows.apChargesSpec Rows.apChargesRow = true := by kernel_rfl
theorem jf26 : (fun (P : Program) (f : FuncId) (fn : Func) (s : ChangeSpec) (c : OpenClaim) => (c.lifted == P.liftsFinal)) Tryz.prog 3 Tryz.f3 Rows.apChargesSpec Rows.apChargesRow = true := by kernel_rfl
theorem jf27 : (fun (P : Program) (f : FuncId) (fn : Func) (s : ChangeSpec) (c : OpenClaim) => (P.make == some c.make)) Tryz.prog 3 Tryz.f3 Rows.apChargesSpec Rows.apChargesRow = true := by kernel_rfl
theorem jf28 : (fun (P : Program) (f : FuncId) (fn : Func) (s : ChangeSpec) (c : OpenClaim) => (c.kinds == (if c.domain.isEmpty then [] else fn.params.toList.map fun t => match P.underlying t with | some (.int k) => some k | _ => none))) Tryz.prog 3 Tryz.f3 Rows.apChargesSpec Rows.apChargesRow = true := by kernel_rfl
theorem jf29 : (fun (P : Program) (f : FuncId) (fn : Func) (s : ChangeSpec) (c : OpenClaim) => (c.pinned == c.pinnedBy)) Tryz.prog 3 Tryz.f3 Rows.apChargesSpec Rows.apChargesRow = true := by kernel_rfl
theorem jf30 : (fun (P : Program) (f : FuncId) (fn : Func) (s : ChangeSpec) (c : OpenClaim) => (c.veiled == (fn.params.toList ++ s.plain.varTypes P ++ fn.resultTypes.toList).any (P.veiledRec ·))) Tryz.prog 3 Tryz.f3 Rows.apChargesSpec Rows.apChargesRow = true := by kernel_rfl
theorem jf31 : (fun (P : Program) (f : FuncId) (fn : Func) (s : ChangeSpec) (c : OpenClaim) => c.veiledFits P fn.params.toList (fn.params.toList ++ s.plain.varTypes P ++ fn.resultTypes.toList)) Tryz.prog 3 Tryz.f3 Rows.apChargesSpec Rows.apChargesRow = true := by kernel_rfl
set_option maxRecDepth 100000 in
theorem joined : joinedFacts Tryz.prog 3 Tryz.f3 Rows.apChargesSpec Rows.apChargesRow = true := (and_t (and_t (and_t (and_t (and_t (and_t (and_t (and_t (and_t (and_t (and_t (and_t (and_t (and_t (and_t (and_t (and_t (and_t (and_t (and_t (and_t (and_t (and_t (and_t (and_t (and_t (and_t (and_t (and_t (and_t (and_t jf0 jf1) jf2) jf3) jf4) jf5) jf6) jf7) jf8) jf9) jf10) jf11) jf12) jf13) jf14) jf15) jf16) jf17) jf18) jf19) jf20) jf21) jf22) jf23) jf24) jf25) jf26) jf27) jf28) jf29) jf30) jf31)
theorem st_wf : Rows.apChargesRow.wfByText (OpenSpec.ofChange Rows.apChargesSpec) = true := by kernel_rfl
theorem st_main : Tryz.prog.mainIs = some (((true, "9c8b539e5f24452baeb2e597a04057e47093bf9c1598ba829760205443f63464") : Bool × String).1, ((true, "9c8b539e5f24452baeb2e597a04057e47093bf9c1598ba829760205443f63464") : Bool × String).2.toList) := by kernel_rfl
theorem st_looks : true = Tryz.prog.looks [] := by kernel_rfl
theorem st_goes : false = Rows.apChargesRow.goesBy Tryz.prog := by kernel_rfl
theorem st_named : Tryz.prog.funcNamed "muezzin/muezzinlaw26.ApCharges" = some 3 := by kernel_rfl
theorem st_want : (([3, 3, 3] : List Nat).all fun u => !Tryz.prog.wantsStandIn u) = true := by kernel_rfl
end Go.Proofs.YtjlkfjnfnonekaaGreatDoor.apCharges
