/- The law CodelSays: for every input it returns true and leaves its arguments as they were. The walk is walk_CodelSays of YtpecigkicmgbdaaCodelW; printed by frame2.py after the kit's skeleton. -/
import Derived.Test.YtpecigkicmgbdaaRows
import Derived.Test.YtpecigkicmgbdaaCodelW
import Derived.Test.YtpecigkicmgbdaaOpen
import Derived.WalkKit
import Derived.ProofKit
import Derived.OpenShut
import Derived.ShutString
import Derived.ChangeOld
import Derived.Below
namespace Go.Proofs.Ytpecigkicmgbdaa.codelSays
open Go.ChangeShapes Go.WideShapes Go.ChangeAt Go.RowKit Go.Vc
open Go.ChangeMaps (open_string shut_string)
set_option linter.unusedVariables false

theorem own : ownKnob Try.prog.godebug = none := by kernel_rfl
theorem laidOut : laidOutB Try.prog = true := by kernel_rfl
theorem walk (w : World) (x0_0 : Int) (w0_0 : (Lit.int .i64 x0_0).wf = true) (x0_1 : Int) (w0_1 : (Lit.int .i64 x0_1).wf = true) (x0_2 : Int) (w0_2 : (Lit.int .u32 x0_2).wf = true) (x0_3 : Int) (w0_3 : (Lit.int .u32 x0_3).wf = true) (x0_4 : Bool) (a1 : Int) (w1 : (Lit.int .i64 a1).wf = true) (a2 : Int) (w2 : (Lit.int .i64 a2).wf = true) (a3 : Int) (w3 : (Lit.int .i64 a3).wf = true) (a4 : Int) (w4 : (Lit.int .i64 a4).wf = true) (a5 : Option Addr) (len5 cap5 : Nat) (z5 : List (Int × Int)) (zl5 : z5.length = len5) (lc5 : len5 ≤ cap5) (hz5 : ∀ (i : Nat) (x : Int × Int), z5[i]? = some x → (∃ b o, a5 = some ⟨b, o, none⟩ ∧ row w.heap b (o + i * 2) 2 = some [.int .i64 (x.1), .int .i64 (x.2)]) ∧ (Lit.int .i64 x.1).wf = true ∧ (Lit.int .i64 x.2).wf = true) :
    Calls Try.prog 7 #[.agg #[.int .i64 x0_0, .int .i64 x0_1, .int .u32 x0_2, .int .u32 x0_3, .bool x0_4], .int .i64 a1, .int .i64 a2, .int .i64 a3, .int .i64 a4, .slice a5 len5 cap5] w fun e w' => e = .returned (.bool true) ∧ Below w.heap.size w w' :=
  walk_CodelSays w x0_0 w0_0 x0_1 w0_1 x0_2 w0_2 x0_3 w0_3 x0_4 a1 w1 a2 w2 a3 w3 a4 w4 a5 len5 cap5 z5 zl5 lc5 hz5
set_option maxRecDepth 100000 in
theorem lifted (os : Os) (started : os.Started) (H : Type) (enc : TypeId × Value → H) :
    ReturnsInHanded {} Try.checked os 7 .any (Rows.codelSaysSpec.pre6 enc Try.prog Try.f7 Rows.codelSaysRow.domain false) (Rows.codelSaysSpec.post enc Try.prog Try.f7 false true false false) := by
  refine returnsInHanded_of_change (C := Try.checked) own started (by kernel_rfl) Try.func7
    (ChangeSpec.witness6 (enc := enc) (C := Try.checked) false ⟨#[], #[.agg #[.int .i64 0, .int .i64 0, .int .u32 0, .int .u32 0, .bool false], .int .i64 0, .int .i64 0, .int .i64 0, .int .i64 0, .slice none 0 0], []⟩ 8 (by kernel_rfl) (by kernel_rfl) (by kernel_rfl) (by kernel_rfl)) ?_
  intro W base args ds gs before hval0 hW hcnd _
  have hval : ∀ (j : Nat) t v, Try.f7.params[j]? = some t → args[j]? = some v → Value.okWide Try.prog W .any base t v := hval0
  have hW' := hW
  obtain ⟨p, q, hA0, hV, rfl, hfz, hnd⟩ := hW
  have hA : DataW.TrodAll enc Try.prog W 0 (fun _ => true) true Try.f7.params.toList args.toList ds p := hA0
  rw [Try.params7] at hA hval
  obtain ⟨v0, vs0, d0, ds0, p0, q0, hargs, rfl, rfl, h0, r0⟩ := trodAll_cons hA
  obtain ⟨v1, vs1, d1, ds1, p1, q1, rfl, rfl, rfl, h1, r1⟩ := trodAll_cons r0
  obtain ⟨v2, vs2, d2, ds2, p2, q2, rfl, rfl, rfl, h2, r2⟩ := trodAll_cons r1
  obtain ⟨v3, vs3, d3, ds3, p3, q3, rfl, rfl, rfl, h3, r3⟩ := trodAll_cons r2
  obtain ⟨v4, vs4, d4, ds4, p4, q4, rfl, rfl, rfl, h4, r4⟩ := trodAll_cons r3
  obtain ⟨v5, vs5, d5, ds5, p5, q5, rfl, rfl, rfl, h5, r5⟩ := trodAll_cons r4
  obtain ⟨rfl, rfl, rfl⟩ := trodAll_nil r5
  obtain rfl : args = #[v0, v1, v2, v3, v4, v5] := by cases args; simp_all
  obtain ⟨rfl, rfl⟩ := trodVars_none hV
  have k0 := h0
  have lt0 : ∀ x ∈ p0, x.block < W.heap.size := by obtain ⟨m, hm⟩ := k0; exact DataW.trod_lt m _ _ _ hm
  obtain ⟨l0, rfl, hl0, hf0⟩ := struct_of Try.underlying29 (by kernel_rfl) (by kernel_rfl) (hval 0 29 v0 rfl rfl) h0
  replace hl0 : l0.length = 5 := hl0
  obtain ⟨u0_0, n0_0, y0_0, g0_0, t0_0⟩ := hf0 0 _ rfl
  obtain ⟨x0_0, e, -, w0_0⟩ := DataW.trod_int Try.underlying2 t0_0
  obtain rfl : u0_0 = .int .i64 x0_0 := by simpa using e
  clear e
  obtain ⟨u0_1, n0_1, y0_1, g0_1, t0_1⟩ := hf0 1 _ rfl
  obtain ⟨x0_1, e, -, w0_1⟩ := DataW.trod_int Try.underlying2 t0_1
  obtain rfl : u0_1 = .int .i64 x0_1 := by simpa using e
  clear e
  obtain ⟨u0_2, n0_2, y0_2, g0_2, t0_2⟩ := hf0 2 _ rfl
  obtain ⟨x0_2, e, -, w0_2⟩ := DataW.trod_int Try.underlying27 t0_2
  obtain rfl : u0_2 = .int .u32 x0_2 := by simpa using e
  clear e
  obtain ⟨u0_3, n0_3, y0_3, g0_3, t0_3⟩ := hf0 3 _ rfl
  obtain ⟨x0_3, e, -, w0_3⟩ := DataW.trod_int Try.underlying27 t0_3
  obtain rfl : u0_3 = .int .u32 x0_3 := by simpa using e
  clear e
  obtain ⟨u0_4, n0_4, y0_4, g0_4, t0_4⟩ := hf0 4 _ rfl
  obtain ⟨x0_4, e, -⟩ := DataW.trod_bool Try.underlying4 t0_4
  obtain rfl : u0_4 = .bool x0_4 := by simpa using e
  clear e
  obtain rfl : l0 = [.int .i64 x0_0, .int .i64 x0_1, .int .u32 x0_2, .int .u32 x0_3, .bool x0_4] := List.ext_getElem? fun j => by
    match j with
    | 0 => exact g0_0
    | 1 => exact g0_1
    | 2 => exact g0_2
    | 3 => exact g0_3
    | 4 => exact g0_4
    | j + 5 => rw [List.getElem?_eq_none (by omega), List.getElem?_eq_none (by simp)]
  obtain ⟨a1, rfl, rfl, rfl, w1⟩ := open_int Try.underlying2 (hval 1 2 v1 rfl rfl) h1
  obtain ⟨a2, rfl, rfl, rfl, w2⟩ := open_int Try.underlying2 (hval 2 2 v2 rfl rfl) h2
  obtain ⟨a3, rfl, rfl, rfl, w3⟩ := open_int Try.underlying2 (hval 3 2 v3 rfl rfl) h3
  obtain ⟨a4, rfl, rfl, rfl, w4⟩ := open_int Try.underlying3 (hval 4 3 v4 rfl rfl) h4
  obtain ⟨a5, len5, cap5, rfl⟩ := okWide_slice Try.underlying22 (hval 5 22 v5 rfl rfl)
  have k5 := h5
  have lt5 : ∀ x ∈ p5, x.block < W.heap.size := by obtain ⟨m, hm⟩ := k5; exact DataW.trod_lt m _ _ _ hm
  obtain ⟨lc5, z5, zl5, hz5⟩ : len5 ≤ cap5 ∧ ∃ z5 : List (Int × Int), z5.length = len5 ∧ ∀ (i : Nat) (x : Int × Int), z5[i]? = some x → (∃ b o, a5 = some ⟨b, o, none⟩ ∧ row W.heap b (o + i * 2) 2 = some [.int .i64 (x.1), .int .i64 (x.2)]) ∧ (Lit.int .i64 x.1).wf = true ∧ (Lit.int .i64 x.2).wf = true := by
    obtain ⟨fuel, hf⟩ := h5
    obtain ⟨q1, q2⟩ := slice_of Try.underlying22 Try.underlying26 (by kernel_rfl) (by kernel_rfl) (by decide) hf
    refine ⟨q1, choose_list len5 fun i hi => ?_⟩
    obtain ⟨b, o, l, e1, e2, hg⟩ := q2 i hi
    have hl : l.length = 2 := (row_iff.1 e2).1
    obtain ⟨us5_0, ns5_0, ys5_0, gs5_0, ts5_0⟩ := hg 0 _ rfl
    obtain ⟨xs5_0, e, -, ws5_0⟩ := DataW.trod_int Try.underlying2 ts5_0
    obtain rfl : us5_0 = .int .i64 xs5_0 := by simpa using e
    clear e
    obtain ⟨us5_1, ns5_1, ys5_1, gs5_1, ts5_1⟩ := hg 1 _ rfl
    obtain ⟨xs5_1, e, -, ws5_1⟩ := DataW.trod_int Try.underlying3 ts5_1
    obtain rfl : us5_1 = .int .i64 xs5_1 := by simpa using e
    clear e
    obtain rfl : l = [.int .i64 xs5_0, .int .i64 xs5_1] := List.ext_getElem? fun j => by
      match j with
      | 0 => exact gs5_0
      | 1 => exact gs5_1
      | j + 2 => rw [List.getElem?_eq_none (by omega), List.getElem?_eq_none (by simp)]
    exact ⟨(xs5_0, xs5_1), ⟨b, o, e1, e2⟩, ws5_0, ws5_1⟩
  clear hA0 hval0
  refine (walk W x0_0 w0_0 x0_1 w0_1 x0_2 w0_2 x0_3 w0_3 x0_4 a1 w1 a2 w2 a3 w3 a4 w4 a5 len5 cap5 z5 zl5 lc5 hz5).mono fun e W' ⟨he, bel⟩ => ?_
  subst he
  exact ⟨_, rfl, _, _, _, [], _, [], hW', trodAll_mk1 (shut_bool Try.underlying4 _), (trodAll_cons_mk (Below.trod laidOut (by kernel_rfl) (of_decide_eq_true (by kernel_rfl)) k0 bel lt0) (trodAll_cons_mk (shut_int Try.underlying2 w1) (trodAll_cons_mk (shut_int Try.underlying2 w2) (trodAll_cons_mk (shut_int Try.underlying2 w3) (trodAll_cons_mk (shut_int Try.underlying3 w4) (trodAll_cons_mk (Below.trod laidOut (by kernel_rfl) (of_decide_eq_true (by kernel_rfl)) k5 bel lt5) trodAll_mk0)))))), rfl, bel.frame _, fun h => by cases h⟩

theorem over : Rows.codelSaysRow.holds Try.pinned (OpenSpec.ofChange Rows.codelSaysSpec) :=
  OpenClaim.holds_of_wide 7 Try.f7 rfl rfl rfl rfl rfl rfl rfl ⟨rfl, rfl, rfl, rfl, rfl⟩ rfl rfl rfl rfl rfl (by kernel_rfl) Try.func7 (by kernel_rfl)
    (of_decide_eq_true (by kernel_rfl)) (by unfold Func.isWrapper; first | (rw [if_pos (by decide +kernel)]; kernel_rfl) | (rw [if_neg (by decide +kernel)]; exact ⟨rfl, rfl⟩))
    (fun os started H enc _ => lifted os started H enc)

/-- THE STATEMENT -/
theorem proved : Rows.CodelSaysSaid := over
#print axioms proved
end Go.Proofs.Ytpecigkicmgbdaa.codelSays
