/- The law CodelRuns: for every input it returns true and leaves its arguments as they were. The walk is walk_CodelRuns of YtpecigkicmgbdaaCodelR; printed by frame2.py after the kit's skeleton. -/
import Derived.Test.YtpecigkicmgbdaaRows
import Derived.Test.YtpecigkicmgbdaaCodelR
import Derived.Test.YtpecigkicmgbdaaOpen
import Derived.WalkKit
import Derived.ProofKit
import Derived.OpenShut
import Derived.ShutString
import Derived.ChangeOld
import Derived.Below
namespace Go.Proofs.Ytpecigkicmgbdaa.codelRuns
open Go.ChangeShapes Go.WideShapes Go.ChangeAt Go.RowKit Go.Vc
open Go.ChangeMaps (open_string shut_string)
set_option linter.unusedVariables false

theorem own : ownKnob Try.prog.godebug = none := by kernel_rfl
theorem laidOut : laidOutB Try.prog = true := by kernel_rfl
theorem walk (w : World) (a0 : Option Addr) (len0 cap0 : Nat) (z0 : List (Int × Int)) (zl0 : z0.length = len0) (lc0 : len0 ≤ cap0) (hz0 : ∀ (i : Nat) (x : Int × Int), z0[i]? = some x → (∃ b o, a0 = some ⟨b, o, none⟩ ∧ row w.heap b (o + i * 2) 2 = some [.int .i64 (x.1), .int .i64 (x.2)]) ∧ (Lit.int .i64 x.1).wf = true ∧ (Lit.int .i64 x.2).wf = true) (a1 : Option Addr) (len1 cap1 : Nat) (z1 : List (Int)) (zl1 : z1.length = len1) (lc1 : len1 ≤ cap1) (hz1 : ∀ (i : Nat) (x : Int), z1[i]? = some x → (∃ b o, a1 = some ⟨b, o, none⟩ ∧ cell w.heap b (o + i) = some (.int .i64 x)) ∧ (Lit.int .i64 x).wf = true) (a2 : Int) (w2 : (Lit.int .i64 a2).wf = true) (a3 : Int) (w3 : (Lit.int .i64 a3).wf = true) :
    Calls Try.prog 8 #[.slice a0 len0 cap0, .slice a1 len1 cap1, .int .i64 a2, .int .i64 a3] w fun e w' => e = .returned (.bool true) ∧ Below w.heap.size w w' :=
  walk_CodelRuns w a0 len0 cap0 z0 zl0 lc0 hz0 a1 len1 cap1 z1 zl1 lc1 hz1 a2 w2 a3 w3
set_option maxRecDepth 100000 in
theorem lifted (os : Os) (started : os.Started) (H : Type) (enc : TypeId × Value → H) :
    ReturnsInHanded {} Try.checked os 8 .any (Rows.codelRunsSpec.pre6 enc Try.prog Try.f8 Rows.codelRunsRow.domain false) (Rows.codelRunsSpec.post enc Try.prog Try.f8 false true false false) := by
  refine returnsInHanded_of_change (C := Try.checked) own started (by kernel_rfl) Try.func8
    (ChangeSpec.witness6 (enc := enc) (C := Try.checked) false ⟨#[], #[.slice none 0 0, .slice none 0 0, .int .i64 0, .int .i64 0], []⟩ 8 (by kernel_rfl) (by kernel_rfl) (by kernel_rfl) (by kernel_rfl)) ?_
  intro W base args ds gs before hval0 hW hcnd _
  have hval : ∀ (j : Nat) t v, Try.f8.params[j]? = some t → args[j]? = some v → Value.okWide Try.prog W .any base t v := hval0
  have hW' := hW
  obtain ⟨p, q, hA0, hV, rfl, hfz, hnd⟩ := hW
  have hA : DataW.TrodAll enc Try.prog W 0 (fun _ => true) true Try.f8.params.toList args.toList ds p := hA0
  rw [Try.params8] at hA hval
  obtain ⟨v0, vs0, d0, ds0, p0, q0, hargs, rfl, rfl, h0, r0⟩ := trodAll_cons hA
  obtain ⟨v1, vs1, d1, ds1, p1, q1, rfl, rfl, rfl, h1, r1⟩ := trodAll_cons r0
  obtain ⟨v2, vs2, d2, ds2, p2, q2, rfl, rfl, rfl, h2, r2⟩ := trodAll_cons r1
  obtain ⟨v3, vs3, d3, ds3, p3, q3, rfl, rfl, rfl, h3, r3⟩ := trodAll_cons r2
  obtain ⟨rfl, rfl, rfl⟩ := trodAll_nil r3
  obtain rfl : args = #[v0, v1, v2, v3] := by cases args; simp_all
  obtain ⟨rfl, rfl⟩ := trodVars_none hV
  obtain ⟨a0, len0, cap0, rfl⟩ := okWide_slice Try.underlying22 (hval 0 22 v0 rfl rfl)
  have k0 := h0
  have lt0 : ∀ x ∈ p0, x.block < W.heap.size := by obtain ⟨m, hm⟩ := k0; exact DataW.trod_lt m _ _ _ hm
  obtain ⟨lc0, z0, zl0, hz0⟩ : len0 ≤ cap0 ∧ ∃ z0 : List (Int × Int), z0.length = len0 ∧ ∀ (i : Nat) (x : Int × Int), z0[i]? = some x → (∃ b o, a0 = some ⟨b, o, none⟩ ∧ row W.heap b (o + i * 2) 2 = some [.int .i64 (x.1), .int .i64 (x.2)]) ∧ (Lit.int .i64 x.1).wf = true ∧ (Lit.int .i64 x.2).wf = true := by
    obtain ⟨fuel, hf⟩ := h0
    obtain ⟨q1, q2⟩ := slice_of Try.underlying22 Try.underlying26 (by kernel_rfl) (by kernel_rfl) (by decide) hf
    refine ⟨q1, choose_list len0 fun i hi => ?_⟩
    obtain ⟨b, o, l, e1, e2, hg⟩ := q2 i hi
    have hl : l.length = 2 := (row_iff.1 e2).1
    obtain ⟨us0_0, ns0_0, ys0_0, gs0_0, ts0_0⟩ := hg 0 _ rfl
    obtain ⟨xs0_0, e, -, ws0_0⟩ := DataW.trod_int Try.underlying2 ts0_0
    obtain rfl : us0_0 = .int .i64 xs0_0 := by simpa using e
    clear e
    obtain ⟨us0_1, ns0_1, ys0_1, gs0_1, ts0_1⟩ := hg 1 _ rfl
    obtain ⟨xs0_1, e, -, ws0_1⟩ := DataW.trod_int Try.underlying3 ts0_1
    obtain rfl : us0_1 = .int .i64 xs0_1 := by simpa using e
    clear e
    obtain rfl : l = [.int .i64 xs0_0, .int .i64 xs0_1] := List.ext_getElem? fun j => by
      match j with
      | 0 => exact gs0_0
      | 1 => exact gs0_1
      | j + 2 => rw [List.getElem?_eq_none (by omega), List.getElem?_eq_none (by simp)]
    exact ⟨(xs0_0, xs0_1), ⟨b, o, e1, e2⟩, ws0_0, ws0_1⟩
  obtain ⟨a1, len1, cap1, rfl⟩ := okWide_slice Try.underlying42 (hval 1 42 v1 rfl rfl)
  have k1 := h1
  have lt1 : ∀ x ∈ p1, x.block < W.heap.size := by obtain ⟨m, hm⟩ := k1; exact DataW.trod_lt m _ _ _ hm
  obtain ⟨lc1, z1, zl1, hz1⟩ : len1 ≤ cap1 ∧ ∃ z1 : List (Int), z1.length = len1 ∧ ∀ (i : Nat) (x : Int), z1[i]? = some x → (∃ b o, a1 = some ⟨b, o, none⟩ ∧ cell W.heap b (o + i) = some (.int .i64 x)) ∧ (Lit.int .i64 x).wf = true := by
    obtain ⟨fuel, hf⟩ := h1
    obtain ⟨q1, q2⟩ := slice_one_of Try.underlying42 (by kernel_rfl) hf
    refine ⟨q1, choose_list len1 fun i hi => ?_⟩
    obtain ⟨b, o, u, n, y, e1, e2, ht⟩ := q2 i hi
    obtain ⟨x, e, -, wx⟩ := DataW.trod_int Try.underlying3 ht
    obtain rfl : u = .int .i64 x := by simpa using e
    clear e
    exact ⟨x, ⟨b, o, e1, e2⟩, wx⟩
  obtain ⟨a2, rfl, rfl, rfl, w2⟩ := open_int Try.underlying2 (hval 2 2 v2 rfl rfl) h2
  obtain ⟨a3, rfl, rfl, rfl, w3⟩ := open_int Try.underlying2 (hval 3 2 v3 rfl rfl) h3
  clear hA0 hval0
  refine (walk W a0 len0 cap0 z0 zl0 lc0 hz0 a1 len1 cap1 z1 zl1 lc1 hz1 a2 w2 a3 w3).mono fun e W' ⟨he, bel⟩ => ?_
  subst he
  exact ⟨_, rfl, _, _, _, [], _, [], hW', trodAll_mk1 (shut_bool Try.underlying4 _), (trodAll_cons_mk (Below.trod laidOut (by kernel_rfl) (of_decide_eq_true (by kernel_rfl)) k0 bel lt0) (trodAll_cons_mk (Below.trod laidOut (by kernel_rfl) (of_decide_eq_true (by kernel_rfl)) k1 bel lt1) (trodAll_cons_mk (shut_int Try.underlying2 w2) (trodAll_cons_mk (shut_int Try.underlying2 w3) trodAll_mk0)))), rfl, bel.frame _, fun h => by cases h⟩

theorem over : Rows.codelRunsRow.holds Try.pinned (OpenSpec.ofChange Rows.codelRunsSpec) :=
  OpenClaim.holds_of_wide 8 Try.f8 rfl rfl rfl rfl rfl rfl rfl ⟨rfl, rfl, rfl, rfl, rfl⟩ rfl rfl rfl rfl rfl (by kernel_rfl) Try.func8 (by kernel_rfl)
    (of_decide_eq_true (by kernel_rfl)) (by unfold Func.isWrapper; first | (rw [if_pos (by decide +kernel)]; kernel_rfl) | (rw [if_neg (by decide +kernel)]; exact ⟨rfl, rfl⟩))
    (fun os started H enc _ => lifted os started H enc)

/-- THE STATEMENT -/
theorem proved : Rows.CodelRunsSaid := over
#print axioms proved
end Go.Proofs.Ytpecigkicmgbdaa.codelRuns
