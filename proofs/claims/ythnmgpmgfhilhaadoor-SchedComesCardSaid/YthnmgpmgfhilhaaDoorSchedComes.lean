/- The walk of SchedComes: one that becomes active again comes in with the least, if it has less. -/
import Derived.Test.YthnmgpmgfhilhaaDoorSchedFirst
import Derived.Test.YthnmgpmgfhilhaaDoorSchedPlain2
import Derived.Test.YthnmgpmgfhilhaaDoorOpn
set_option linter.unusedVariables false
set_option linter.unusedSimpArgs false
set_option maxRecDepth 8000
namespace Go.Proofs.YthnmgpmgfhilhaaDoor
open Go.Vc
/-- The stations ahead of the charges. -/
def comS : Nat → Sts
  | 0 => sts0
  | i + 1 => (activeS (addS (comS i) ((i : Int) + 1) 100).1 ((i : Int) + 1) (decide ((i : Int) + 1 < 3))).1
theorem comS_ok : ∀ i, SOk (comS i)
  | 0 => sok0
  | i + 1 => ((comS_ok i).add).active
theorem comS_err : ∀ i, i < 3 → (addS (comS i) ((i : Int) + 1) 100).2 = none ∧ (activeS (addS (comS i) ((i : Int) + 1) 100).1 ((i : Int) + 1) (decide ((i : Int) + 1 < 3))).2 = none
  | 0, _ => ⟨rfl, rfl⟩
  | 1, _ => ⟨rfl, rfl⟩
  | 2, _ => ⟨rfl, rfl⟩
  | i + 3, h => by omega
theorem cdiv (a : Int) : 10000 * a / 100 = 100 * a := by omega
set_option maxHeartbeats 1000000
theorem schedComes_r {h : Heap} (a b c : Int) : Runs Tryd.prog 4 #[.int .i64 a, .int .i64 b, .int .i64 c] h fun v h' => v = .bool true ∧ Kept h h' := by
  refine vc_muezzinlaw20_SchedComes _ _ _ _ _ ((schedFirst_c (Me.start h)).mono ?_)
  rintro _ h1 ⟨rfl, m⟩
  have a0 := Int.emod_nonneg a (show (1000000 : Int) ≠ 0 by decide)
  have a1 := Int.emod_lt_of_pos a (show (0 : Int) < 1000000 by decide)
  have b0 := Int.emod_nonneg b (show (1000000 : Int) ≠ 0 by decide)
  have b1 := Int.emod_lt_of_pos b (show (0 : Int) < 1000000 by decide)
  have c0 := Int.emod_nonneg c (show (1000000 : Int) ≠ 0 by decide)
  have c1 := Int.emod_lt_of_pos c (show (0 : Int) < 1000000 by decide)
  refine ⟨_, rfl, bcase_false rfl ((number_c a 1000000 _ (by decide) (by decide)).ret ⟨_, rfl, (number_c b 1000000 _ (by decide) (by decide)).ret ⟨_, rfl, (number_c c 1000000 _ (by decide) (by decide)).ret ⟨_, rfl, ?_⟩⟩⟩)⟩
  generalize a % 1000000 = an at *
  generalize b % 1000000 = bn at *
  generalize c % 1000000 = cn at *
  refine (new_c m).mono ?_
  rintro _ h5 ⟨p, L, rfl, hv, m⟩
  refine ⟨_, rfl, bcase_false rfl ⟨fun x h' => ∃ (i : Nat) (L : Grp), x = (i : Int) + 1 ∧ i ≤ 3 ∧ ScV p (comS i) L ∧ Me (Wd.of h) h' (L :: []), fun x _ => (4 - x).toNat, ⟨0, L, rfl, by omega, hv, m⟩, fun _ => ?_⟩⟩
  clear m hv
  rintro _ h6 ⟨i, L, rfl, hi, hv, m⟩
  refine dcase_intro (fun q => ?_) fun q => ?_
  · obtain ⟨e1, e2⟩ := comS_err i (by omega)
    refine (add_c (ads := []) m hv (eg_of e1)).mono ?_
    rintro _ h7 ⟨L1, rfl, hv1, m⟩
    rw [e1]
    refine ⟨_, rfl, true, rfl, bcase_false rfl ((active_c (ads := []) m hv1 (eg_of e2)).mono ?_)⟩
    rintro _ h8 ⟨L2, rfl, hv2, m⟩
    rw [e2]
    exact ⟨_, rfl, true, rfl, bcase_false rfl ⟨by simp only [fits]; omega, ⟨i + 1, L2, by omega, by omega, hv2, m⟩, by (try dsimp only); omega⟩⟩
  · obtain rfl : i = 3 := by omega
    have ok0 := comS_ok 3
    have g1 : getS (comS 3) 1 = some ⟨100, 0, true⟩ := rfl
    have e1 := chargeS_eq (air := an) g1 a0 (by omega)
    have t1 : chargeT ⟨100, 0, true⟩ an = 100 * an := by unfold chargeT; dsimp only; rw [cdiv]; omega
    rw [t1] at e1
    have ok1 := ok0.charge (a := 1) (air := an)
    refine ⟨fun x h' => x = false ∧ ∃ L, ScV p (chargeS (chargeS (comS 3) 1 an).1 2 bn).1 L ∧ Me (Wd.of h) h' (L :: []), (charge_c (ads := []) m hv ok0 (eg_of (by rw [e1]))).mono ?_, fun _ => ?_⟩
    · rintro _ h9 ⟨L1, rfl, hv1, m⟩
      rw [e1] at hv1 ok1 ⊢
      refine ⟨_, rfl, true, rfl, bcase_false rfl ?_⟩
      have g2 : getS ((comS 3).set (kA 1) (some ⟨100, 100 * an, true⟩)) 2 = some ⟨100, 0, true⟩ := rfl
      have e2 := chargeS_eq (air := bn) g2 b0 (by omega)
      refine (charge_c (ads := []) m hv1 ok1 (eg_of (by rw [e2]))).mono ?_
      rintro _ h10 ⟨L2, rfl, hv2, m⟩
      refine ⟨_, rfl, true, ?_, rfl, L2, hv2, m⟩
      rw [e2]; rfl
    clear m hv
    rintro _ h11 ⟨rfl, L, hv, m⟩
    refine bcase_false rfl ?_
    rw [e1] at hv ok1
    dsimp only at hv
    have g2 : getS ((comS 3).set (kA 1) (some ⟨100, 100 * an, true⟩)) 2 = some ⟨100, 0, true⟩ := rfl
    have e2 := chargeS_eq (air := bn) g2 b0 (by omega)
    have t2 : chargeT ⟨100, 0, true⟩ bn = 100 * bn := by unfold chargeT; dsimp only; rw [cdiv]; omega
    rw [t2] at e2
    have ok2 := ok1.charge (a := 2) (air := bn)
    rw [e2] at hv ok2
    dsimp only at hv ok2
    have e0 : comS 3 = [some ⟨100, 0, true⟩, some ⟨100, 0, true⟩, some ⟨100, 0, false⟩, none, none, none, none, none, none, none, none, none, none, none, none, none] := rfl
    have eS : ((comS 3).set (kA 1) (some ⟨100, 100 * an, true⟩)).set (kA 2) (some ⟨100, 100 * bn, true⟩) = [some ⟨100, 100 * an, true⟩, some ⟨100, 100 * bn, true⟩, some ⟨100, 0, false⟩, none, none, none, none, none, none, none, none, none, none, none, none, none] := by rw [e0]; rfl
    rw [eS] at hv ok2
    clear eS e0 e1 e2 ok0 ok1 g1 g2 t1 t2
    have g3 : getS [some ⟨100, 100 * an, true⟩, some ⟨100, 100 * bn, true⟩, some ⟨100, 0, false⟩, none, none, none, none, none, none, none, none, none, none, none, none, none] 3 = some ⟨100, 0, false⟩ := rfl
    have e3 := chargeS_eq (air := cn) g3 c0 (by omega)
    have t3 : chargeT ⟨100, 0, false⟩ cn = 100 * cn := by unfold chargeT; dsimp only; rw [cdiv]; omega
    rw [t3] at e3
    have ok3 := ok2.charge (a := 3) (air := cn)
    refine (charge_c (ads := []) m hv ok2 (eg_of (by rw [e3]))).mono ?_
    rintro _ h12 ⟨L3, rfl, hv3, m⟩
    rw [e3] at hv3 ok3 ⊢
    clear hv ok2 g3 t3 e3
    refine ⟨_, rfl, true, rfl, bcase_false rfl ?_⟩
    have eS : ([some ⟨100, 100 * an, true⟩, some ⟨100, 100 * bn, true⟩, some ⟨100, 0, false⟩, none, none, none, none, none, none, none, none, none, none, none, none, none] : Sts).set (kA 3) (some ⟨100, 100 * cn, false⟩) = [some ⟨100, 100 * an, true⟩, some ⟨100, 100 * bn, true⟩, some ⟨100, 100 * cn, false⟩, none, none, none, none, none, none, none, none, none, none, none, none, none] := rfl
    rw [eS] at hv3 ok3
    clear eS
    have g3 : getS [some ⟨100, 100 * an, true⟩, some ⟨100, 100 * bn, true⟩, some ⟨100, 100 * cn, false⟩, none, none, none, none, none, none, none, none, none, none, none, none, none] 3 = some ⟨100, 100 * cn, false⟩ := rfl
    have e4 := activeS_on g3 rfl
    have hle : leastL [some ⟨100, 100 * an, true⟩, some ⟨100, 100 * bn, true⟩, some ⟨100, 100 * cn, false⟩, none, none, none, none, none, none, none, none, none, none, none, none, none] = some (min (100 * an) (100 * bn)) := rfl
    have hco : comesT [some ⟨100, 100 * an, true⟩, some ⟨100, 100 * bn, true⟩, some ⟨100, 100 * cn, false⟩, none, none, none, none, none, none, none, none, none, none, none, none, none] (100 * cn) = max (100 * cn) (100 * min an bn) := by
      unfold comesT; rw [hle]; dsimp only; omega
    dsimp only at e4
    rw [hco] at e4
    refine (active_c (ads := []) m hv3 (eg_of (by rw [e4]))).mono ?_
    rintro _ h13 ⟨L4, rfl, hv4, m⟩
    rw [e4] at hv4 ⊢
    have eS : ([some ⟨100, 100 * an, true⟩, some ⟨100, 100 * bn, true⟩, some ⟨100, 100 * cn, false⟩, none, none, none, none, none, none, none, none, none, none, none, none, none] : Sts).set (kA 3) (some ⟨100, max (100 * cn) (100 * min an bn), true⟩) = [some ⟨100, 100 * an, true⟩, some ⟨100, 100 * bn, true⟩, some ⟨100, max (100 * cn) (100 * min an bn), true⟩, none, none, none, none, none, none, none, none, none, none, none, none, none] := rfl
    rw [eS] at hv4
    clear eS hv3 ok3 e4 hco hle g3
    generalize hT : max (100 * cn) (100 * min an bn) = tn at *
    refine ⟨_, rfl, (time_c m hv4 3).mono ?_⟩
    rintro _ _ ⟨rfl, rfl⟩
    refine ⟨_, _, rfl, ?_⟩
    have g4 : getS [some ⟨100, 100 * an, true⟩, some ⟨100, 100 * bn, true⟩, some ⟨100, tn, true⟩, none, none, none, none, none, none, none, none, none, none, none, none, none] 3 = some ⟨100, tn, true⟩ := rfl
    have e5 := activeS_same g4 rfl
    refine (active_c (ads := []) m hv4 (eg_of (by rw [e5]))).mono ?_
    rintro _ h15 ⟨L5, rfl, hv5, m⟩
    rw [e5] at hv5 ⊢
    refine ⟨_, rfl, (time_c m hv5 3).mono ?_⟩
    rintro _ _ ⟨rfl, rfl⟩
    refine ⟨_, _, rfl, fun x h' => x = true ∧ Me (Wd.of h) h' (L5 :: []), bcase_true rfl ⟨true, rfl, rfl, m⟩, fun _ => ?_⟩
    rintro _ h17 ⟨rfl, m⟩
    refine ⟨fun x h' => x = true ∧ Me (Wd.of h) h' (L5 :: []), bcase_true rfl ⟨true, rfl, rfl, m⟩, fun _ => ?_⟩
    rintro _ h18 ⟨rfl, m⟩
    refine ⟨fun x h' => x = true ∧ Me (Wd.of h) h' (L5 :: []), bcase_true rfl ⟨rfl, m⟩, fun _ => ?_⟩
    rintro _ h19 ⟨rfl, m⟩
    refine ⟨fun x h' => x = true ∧ Me (Wd.of h) h' (L5 :: []), bcase_true rfl ⟨by simp only [fits]; omega, by simp only [fits]; omega, ?_, m⟩, fun _ => ?_⟩
    · exact decide_eq_true rfl
    rintro _ h20 ⟨rfl, m⟩
    refine ⟨fun x h' => x = true ∧ Me (Wd.of h) h' (L5 :: []), bcase_true rfl ⟨decide_eq_true rfl, m⟩, fun _ => ?_⟩
    rintro _ h21 ⟨rfl, m⟩
    refine bcase_true rfl ((order_c m hv5).mono ?_)
    rintro _ h22 ⟨oa, oc, o, E, rfl, ow, io, m⟩
    have ho : o.length = 3 := io.n
    refine ⟨_, _, _, rfl, ?_, m.kept (Wd.le.refl _)⟩
    rw [ho]; rfl
theorem walk_SchedComes (w : World) (a0 : Int) (w0 : (Lit.int .i64 a0).wf = true) (a1 : Int) (w1 : (Lit.int .i64 a1).wf = true) (a2 : Int) (w2 : (Lit.int .i64 a2).wf = true) :
    Calls Tryd.prog 4 #[.int .i64 a0, .int .i64 a1, .int .i64 a2] w fun e w' => e = .returned (.bool true) ∧ Go.RowKit.Below w.heap.size w w' :=
  calls_of_runs (schedComes_r a0 a1 a2)
end Go.Proofs.YthnmgpmgfhilhaaDoor
