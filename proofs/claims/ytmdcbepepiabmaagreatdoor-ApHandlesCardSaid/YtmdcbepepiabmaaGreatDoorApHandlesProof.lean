/- The law ApHandles: for every input it returns true and leaves its arguments as they were; what it reads of package variables is tied to the program's text (the card). The walk is walk_ApHandles of YtmdcbepepiabmaaGreatDoorApHandles; printed by frame4.py after the kit's skeleton. -/
import Derived.Test.YtmdcbepepiabmaaGreatDoorRows
import Derived.Test.YtmdcbepepiabmaaGreatDoorCards
import Derived.Test.YtmdcbepepiabmaaGreatDoorTie
import Derived.Test.YtmdcbepepiabmaaGreatDoorApHandlesFacts
import Derived.Test.YtmdcbepepiabmaaGreatDoorApHandles
import Derived.Test.YtmdcbepepiabmaaGreatDoorOpn
import Derived.Test.YtmdcbepepiabmaaGreatDoorDoor
import Derived.WalkKit
import Derived.ProofKit
import Derived.OpenShut
import Derived.ShutString
import Derived.ChangeOld
import Derived.Below
import Derived.LaidMore
import Derived.SevenTiedAt
import Derived.Stop.Joined
namespace Go.Proofs.YtmdcbepepiabmaaGreatDoor.apHandles
open Go Go.ChangeShapes Go.WideShapes Go.ChangeAt Go.RowKit Go.Vc
open Go.ChangeMaps (open_string shut_string)
set_option linter.unusedVariables false

theorem own : ownKnob Tryz.prog.godebug = none := by kernel_rfl
theorem laidOut : laidOutB Tryz.prog = true := by kernel_rfl
theorem door_met (os : Os) (args : Array Value) : laidMetH Tryz.prog Rows.apHandlesRow.laid ((World.doorLaid Tryz.prog 275 os).forCall (fun _ _ => 0) ⟨#[], args, []⟩).memory :=
  laidMetH_of_parts3 (fuel := 8) (laidMet_of_run' 8 (by kernel_rfl) (by kernel_rfl)) (by kernel_rfl) (by kernel_rfl)
theorem walk (w : World) (hE : ∃ ads, Snt (Wd.of w.heap) ads) (a0 : Int) (w0 : (Lit.int .i64 a0).wf = true) :
    Calls Tryz.prog 11 #[.int .i64 a0] w fun e w' => e = .returned (.bool true) ∧ Below w.heap.size w w' :=
  walk_ApHandles w hE a0 w0
set_option maxRecDepth 100000 in
theorem lifted (os : Os) (started : os.Started) (H : Type) (enc : TypeId × Value → H) :
    ReturnsInHanded {} Tryz.checked os 11 .any (fun w args => (Rows.apHandlesSpec.pre enc Tryz.prog Tryz.f11 [] false w args ∧ laidMetH Tryz.prog Rows.apHandlesRow.laid w) ∧ sizedMet enc Tryz.prog Tryz.f11 (OpenSpec.ofChange Rows.apHandlesSpec) false w args)
      (Rows.apHandlesSpec.post enc Tryz.prog Tryz.f11 false true false false) := by
  refine returnsInHanded_of_change_and (C := Tryz.checked) (X := fun w _ => laidMetH Tryz.prog Rows.apHandlesRow.laid w) (fun _ _ _ hh h => h.of_heap hh) own started (by kernel_rfl) Tryz.func11
    (ChangeSpec.witness_shaped (enc := enc) (C := Tryz.checked) (os := os) (X := fun w _ => laidMetH Tryz.prog Rows.apHandlesRow.laid w) false (World.doorLaid Tryz.prog 275 os) #[.int .i64 0] 8 rfl (World.shaped_of_RefB (by kernel_rfl) (by kernel_rfl)) (by kernel_rfl) (by kernel_rfl) (by kernel_rfl) (door_met os _)) ?_
  intro W base args ds gs before hval0 hW hcnd _ hL _
  have hval : ∀ (j : Nat) t v, Tryz.f11.params[j]? = some t → args[j]? = some v → Value.okWide Tryz.prog W .any base t v := hval0
  have hW' := hW
  obtain ⟨p, q, hA0, hV, rfl, hfz, hnd⟩ := hW
  have hA : DataW.TrodAll enc Tryz.prog W 0 (fun _ => true) true Tryz.f11.params.toList args.toList ds p := hA0
  rw [Tryz.params11] at hA hval
  obtain ⟨v0, vs0, d0, ds0, p0, q0, hargs, rfl, rfl, h0, r0⟩ := trodAll_cons hA
  obtain ⟨rfl, rfl, rfl⟩ := trodAll_nil r0
  obtain rfl : args = #[v0] := by cases args; simp_all
  obtain ⟨rfl, rfl⟩ := trodVars_none hV
  obtain ⟨a0, rfl, rfl, rfl, w0⟩ := open_int Tryz.underlying3 (hval 0 3 v0 rfl rfl) h0
  have hE := snt_of_laid (W := W) (laid := Rows.apHandlesRow.laid) [("muezzin/api.ErrEnd", [105, 116, 32, 101, 110, 100, 115, 32, 116, 111, 111, 32, 101, 97, 114, 108, 121]), ("muezzin/api.ErrShape", [110, 111, 116, 32, 97, 115, 32, 105, 116, 32, 104, 97, 115, 32, 116, 111, 32, 98, 101]), ("muezzin/api.ErrRange", [97, 32, 110, 117, 109, 98, 101, 114, 32, 111, 117, 116, 32, 111, 102, 32, 105, 116, 115, 32, 114, 97, 110, 103, 101]), ("muezzin/api.ErrMany", [116, 111, 111, 32, 109, 97, 110, 121]), ("muezzin/api.ErrKind", [97, 32, 102, 114, 97, 109, 101, 32, 111, 102, 32, 97, 110, 111, 116, 104, 101, 114, 32, 107, 105, 110, 100]), ("muezzin/api.ErrSum", [97, 32, 115, 117, 109, 32, 116, 104, 97, 116, 32, 100, 111, 101, 115, 32, 110, 111, 116, 32, 102, 105, 116]), ("muezzin/api.ErrNone", [116, 104, 101, 114, 101, 32, 105, 115, 32, 110, 111, 110, 101]), ("muezzin/api.ErrTwice", [116, 104, 101, 114, 101, 32, 105, 115, 32, 111, 110, 101]), ("muezzin/api.ErrFull", [116, 104, 101, 114, 101, 32, 105, 115, 32, 110, 111, 32, 114, 111, 111, 109]), ("muezzin/api.ErrState", [110, 111, 116, 32, 97, 115, 32, 105, 116, 32, 105, 115, 32, 110, 111, 119]), ("muezzin/api.ErrSeq", [111, 117, 116, 115, 105, 100, 101, 32, 111, 102, 32, 116, 104, 101, 32, 119, 105, 110, 100, 111, 119]), ("muezzin/api.ErrLong", [105, 116, 32, 119, 111, 117, 108, 100, 32, 116, 97, 107, 101, 32, 116, 111, 111, 32, 108, 111, 110, 103]), ("muezzin/api.ErrWord", [110, 111, 32, 115, 117, 99, 104, 32, 119, 111, 114, 100]), ("muezzin/api.ErrNumber", [110, 111, 116, 32, 97, 32, 110, 117, 109, 98, 101, 114])] rfl (fun w => MakeChecks.laidMetH_plain _ _ _ (by kernel_rfl)) (by kernel_rfl) (by kernel_rfl) hL
  clear hA0 hval0
  refine (walk W hE a0 w0).mono fun e W' ⟨he, bel⟩ => ?_
  subst he
  exact ⟨_, rfl, _, _, _, [], _, [], hW', trodAll_mk1 (shut_bool Tryz.underlying4 _), (trodAll_cons_mk (shut_int Tryz.underlying3 w0) trodAll_mk0), rfl, bel.frame _, fun h => by cases h⟩

theorem over : Rows.ApHandlesSaid :=
  OpenClaim.holds_of_wide 11 Tryz.f11 rfl rfl rfl rfl rfl rfl rfl ⟨rfl, rfl, rfl, rfl, rfl⟩ rfl rfl rfl rfl rfl st_named Tryz.func11 joined
    (of_decide_eq_true (by kernel_rfl)) (by unfold Func.isWrapper; first | (rw [if_pos (by decide +kernel)]; kernel_rfl) | (rw [if_neg (by decide +kernel)]; exact ⟨rfl, rfl⟩))
    (fun os started H enc _ => lifted os started H enc)

/-- THE STATEMENT: the tied card. -/
theorem proved : Rows.ApHandlesCardSaid :=
  Claim7.holds_tied_plain_at .later [] [.sentinel, .sentinel, .sentinel, .sentinel, .sentinel, .sentinel, .sentinel, .sentinel, .sentinel, .sentinel, .sentinel, .sentinel, .sentinel, .sentinel] true (true, "4d73ff922dc9db7cba982bacc05490dee663ccb17c030093efeb5528ce978e8d") true
    over (fun _ h => by cases h) st_wf (fun _ h => by cases h) apHandles_row_tie rfl ⟨rfl, rfl⟩ st_main rfl
    (fun f fn hf hfn => by
      obtain rfl : f = 11 := Option.some.inj (st_named.symm.trans hf) |>.symm
      obtain rfl : fn = Tryz.f11 := (Option.some.inj (Tryz.func11.symm.trans hfn)).symm
      exact ⟨st_looks, fun j t ht => by
        rw [Tryz.params11] at ht
        have hm : t ∈ [3] := by simpa using Array.mem_of_getElem? ht
        have hall := st_want
        exact (show Tryz.prog.wantsStandIn t = false by simpa using List.all_eq_true.1 hall t hm)⟩)
    st_goes
#print axioms proved
end Go.Proofs.YtmdcbepepiabmaaGreatDoor.apHandles
