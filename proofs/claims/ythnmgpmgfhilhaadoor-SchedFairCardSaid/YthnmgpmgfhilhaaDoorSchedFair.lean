/- The walk of SchedFair: of active ones that are charged in their turn none is charged more for its weight than another one, up to one charge of each. -/
import Derived.Test.YthnmgpmgfhilhaaDoorSchedFirst
import Derived.Test.YthnmgpmgfhilhaaDoorSchedPlain2
import Derived.Test.YthnmgpmgfhilhaaDoorOpnInts
set_option linter.unusedVariables false
set_option linter.unusedSimpArgs false
set_option maxRecDepth 8000
namespace Go.Proofs.YthnmgpmgfhilhaaDoor
open Go.Vc
theorem prod_bd {x y X Y : Int} (x0 : 0 ≤ x) (x1 : x ≤ X) (y0 : 0 ≤ y) (y1 : y ≤ Y) : 0 ≤ x * y ∧ x * y ≤ X * Y :=
  ⟨Int.mul_nonneg x0 y0, Int.le_trans (Int.mul_le_mul_of_nonneg_right x1 y0) (Int.mul_le_mul_of_nonneg_left y1 (by omega))⟩
theorem fair_bd {gi gk wi wk Ti Tk n : Int} (w0 : 0 ≤ wi) (w1 : 0 ≤ wk) (h1 : 10000 * gi ≤ wi * Ti + n * wi) (h2 : wk * Tk ≤ 10000 * gk) (h3 : wi * Ti ≤ wi * Tk + 50000000) :
    10000 * (gi * wk) - 10000 * (gk * wi) ≤ 50000000 * wk + n * wi * wk := by
  have a1 := Int.mul_le_mul_of_nonneg_right h1 w1
  have a2 := Int.mul_le_mul_of_nonneg_right h2 w0
  have a3 := Int.mul_le_mul_of_nonneg_right h3 w1
  have e1 : 10000 * gi * wk = 10000 * (gi * wk) := Int.mul_assoc ..
  have e2 : (wi * Ti + n * wi) * wk = wi * Ti * wk + n * wi * wk := Int.add_mul ..
  have e3 : wk * Tk * wi = wi * Tk * wk := by rw [Int.mul_comm (wk * Tk) wi, Int.mul_comm wk Tk, ← Int.mul_assoc]
  have e4 : (wi * Tk + 50000000) * wk = wi * Tk * wk + 50000000 * wk := Int.add_mul ..
  have e5 : 10000 * gk * wi = 10000 * (gk * wi) := Int.mul_assoc ..
  rw [e1, e2] at a1
  rw [e3, e5] at a2
  rw [e4] at a3
  omega
def wv (ws : List Int) (a : Int) : Int := (ws.getD (a - 1).toNat 0) % 100 + 1
theorem wv_bd (ws : List Int) (a : Int) : 1 ≤ wv ws a ∧ wv ws a ≤ 100 := by
  unfold wv
  have r0 := Int.emod_nonneg (ws.getD (a - 1).toNat 0) (show (100 : Int) ≠ 0 by decide)
  have r1 := Int.emod_lt_of_pos (ws.getD (a - 1).toNat 0) (show (0 : Int) < 100 by decide)
  omega
/-- Behind t charges: stations 1 to n with their times T, what they were charged g. -/
structure Fr (ws : List Int) (n : Nat) (t : Int) (S : Sts) (T g : Int → Int) : Prop where
  s : ∀ a, getS S a = if 1 ≤ a ∧ a ≤ (n : Int) then some ⟨wv ws a, T a, true⟩ else none
  t0 : ∀ a, 0 ≤ T a
  t1 : ∀ a, T a ≤ 50000000 * t
  g0 : ∀ a, 0 ≤ g a
  g1 : ∀ a, g a ≤ 5000 * t
  lo : ∀ a, wv ws a * T a ≤ 10000 * g a
  hi : ∀ a, 10000 * g a ≤ wv ws a * T a + t * wv ws a
  f : ∀ a b, 1 ≤ a → a ≤ (n : Int) → 1 ≤ b → b ≤ (n : Int) → wv ws a * T a ≤ wv ws a * T b + 50000000
theorem Fr.step {ws : List Int} {n : Nat} {t : Int} {S : Sts} {T g : Int → Int} (r : Fr ws n t S T g) (hn : S.length = 16) (hn2 : n ≤ 16) (h0 : 0 ≤ t) {a air : Int} (a0 : 1 ≤ a) (a1 : a ≤ (n : Int)) (r0 : 1 ≤ air) (r1 : air ≤ 5000) (hm : ∀ b, 1 ≤ b → b ≤ (n : Int) → T a ≤ T b) :
    Fr ws n (t + 1) (S.set (kA a) (some ⟨wv ws a, T a + 10000 * air / wv ws a, true⟩)) (updI T a (T a + 10000 * air / wv ws a)) (updI g a (g a + air)) ∧ 0 ≤ 10000 * air / wv ws a ∧ 10000 * air / wv ws a ≤ 50000000 := by
  obtain ⟨w0, w1⟩ := wv_bd ws a
  have c0 : 0 ≤ 10000 * air / wv ws a := Int.ediv_nonneg (by omega) (by omega)
  have c1 : 10000 * air / wv ws a ≤ 10000 * air := Int.ediv_le_self _ (by omega)
  have c2 : wv ws a * (10000 * air / wv ws a) ≤ 10000 * air := Int.mul_ediv_self_le (by omega)
  have c3 : 10000 * air < wv ws a * (10000 * air / wv ws a) + wv ws a := Int.lt_mul_ediv_self_add (by omega)
  generalize 10000 * air / wv ws a = c at *
  refine ⟨⟨fun b => ?_, fun b => ?_, fun b => ?_, fun b => ?_, fun b => ?_, fun b => ?_, fun b => ?_, fun b d b0 b1 d0 d1 => ?_⟩, c0, by omega⟩
  · rw [getS_set hn a0 (by omega)]
    by_cases e : b = a
    · subst e; rw [if_pos rfl, if_pos ⟨a0, a1⟩, updI_at]
    · rw [if_neg e, updI_ne e]; exact r.s b
  · by_cases e : b = a
    · subst e; rw [updI_at]; have := r.t0 b; omega
    · rw [updI_ne e]; exact r.t0 b
  · by_cases e : b = a
    · subst e; rw [updI_at]; have := r.t1 b; omega
    · rw [updI_ne e]; have := r.t1 b; omega
  · by_cases e : b = a
    · subst e; rw [updI_at]; have := r.g0 b; omega
    · rw [updI_ne e]; exact r.g0 b
  · by_cases e : b = a
    · subst e; rw [updI_at]; have := r.g1 b; omega
    · rw [updI_ne e]; have := r.g1 b; omega
  · by_cases e : b = a
    · subst e; rw [updI_at, updI_at, Int.mul_add (wv ws b) (T b) c]; have := r.lo b; omega
    · rw [updI_ne e, updI_ne e]; exact r.lo b
  · have hw := (wv_bd ws b).1
    by_cases e : b = a
    · subst e; rw [updI_at, updI_at, Int.mul_add (wv ws b) (T b) c, Int.add_mul t 1 (wv ws b)]; have := r.hi b; omega
    · rw [updI_ne e, updI_ne e, Int.add_mul t 1 (wv ws b)]; have := r.hi b; omega
  · obtain ⟨v0, v1⟩ := wv_bd ws b
    by_cases e : b = a
    · subst e
      rw [updI_at]
      by_cases e2 : d = b
      · subst e2; rw [updI_at]; omega
      · rw [updI_ne e2, Int.mul_add]
        have := Int.mul_le_mul_of_nonneg_left (hm d d0 d1) (show 0 ≤ wv ws b by omega)
        omega
    · rw [updI_ne e]
      have h1 := r.f b d b0 b1 d0 d1
      by_cases e2 : d = a
      · subst e2
        rw [updI_at, Int.mul_add]
        have := Int.mul_nonneg (show 0 ≤ wv ws b by omega) c0
        omega
      · rw [updI_ne e2]; exact h1
theorem joinR (n : Nat) (v : Value) : joinL (List.replicate n [v]) = List.replicate n v := by
  induction n with
  | zero => rfl
  | succ n ih => simp only [List.replicate_succ, joinL]; rw [ih]; rfl
theorem ints_set' {k : IntKind} {l : List Int} {i : Nat} {x : Int} : (ints k l).set i (.int k x) = ints k (l.set i x) := by simp [ints, List.map_set]
set_option maxHeartbeats 2000000
theorem schedFair_r {h : Heap} {la aa : Option Addr} {lc ac : Nat} {ws as' : List Int} (turns : Int) (hsl : src h la ws.length (ints .i64 ws)) (hsa : src h aa as'.length (ints .i64 as')) :
    Runs Tryd.prog 3 #[.slice la ws.length lc, .slice aa as'.length ac, .int .i64 turns] h fun v h' => v = .bool true ∧ Kept h h' := by
  refine vc_muezzinlaw20_SchedFair _ _ _ _ _ _ _ _ _ ((schedFirst_c (Me.start h)).mono ?_)
  rintro _ h1 ⟨rfl, m⟩
  have kk := m.kept (Wd.le.refl _)
  refine ⟨_, rfl, bcase_false rfl ⟨fun x h' => x = decide (ws.length < 2 ∨ 8 < ws.length) ∧ h' = h1, dcase_intro (fun q => ⟨(decide_eq_true (by omega)).symm, rfl⟩) (fun q => ⟨by rw [decide_eq_decide]; omega, rfl⟩), fun _ => ?_⟩⟩
  rintro _ h1 ⟨rfl, rfl⟩
  refine ⟨fun x h' => x = decide (ws.length < 2 ∨ 8 < ws.length ∨ as'.length = 0) ∧ h' = h1, dcase_intro (fun q => ⟨(decide_eq_true (by omega)).symm, rfl⟩) (fun q => ⟨by rw [decide_eq_decide]; omega, rfl⟩), fun _ => ?_⟩
  rintro _ h1 ⟨rfl, rfl⟩
  refine dcase_intro (fun _ => ⟨rfl, kk⟩) fun hbad => dcase_intro (fun _ => ⟨rfl, kk⟩) fun ha50 => ?_
  have n2 : 2 ≤ ws.length := by omega
  have n8 : ws.length ≤ 8 := by omega
  have la1 : 0 < as'.length := by omega
  clear hbad kk
  have r0 := Int.emod_nonneg turns (show (200 : Int) ≠ 0 by decide)
  have r1 := Int.emod_lt_of_pos turns (show (0 : Int) < 200 by decide)
  refine (number_c turns 200 _ (by decide) (by decide)).ret ⟨_, rfl, (new_c m).mono ?_⟩
  generalize turns % 200 = tn at *
  rintro _ h5 ⟨p, L, rfl, hv, m⟩
  refine ⟨_, rfl, bcase_false rfl ⟨by simp only [fits]; omega, ⟨by omega, by omega, by omega, by omega⟩, ?_⟩⟩
  intro b1 h6 e1 e2
  have eN : ((ws.length : Int) + 1).toNat = ws.length + 1 := by omega
  replace m := m.push e2 e1
  clear e1 e2
  refine ⟨by simp only [fits]; omega, ⟨by omega, by omega, by omega, by omega⟩, ?_⟩
  intro b2 h7 e1 e2
  replace m := m.push e2 e1
  clear e1 e2
  rw [joinR, eN] at m
  have er : List.replicate (ws.length + 1) (Value.int .i64 0) = ints .i64 (List.replicate (ws.length + 1) 0) := by simp [ints]
  rw [er] at m
  generalize eT : (2 : TypeId) = TI at m
  clear eT
  rw [eN]
  refine ⟨fun x h' => ∃ (i : Nat) (S : Sts) (L : Grp) (wl : List Int), x = i ∧ i ≤ ws.length ∧ wl.length = ws.length + 1 ∧ (∀ k : Nat, 1 ≤ k → k ≤ i → wl[k]? = some (wv ws k)) ∧ (∀ a, getS S a = if 1 ≤ a ∧ a ≤ (i : Int) then some ⟨wv ws a, 0, true⟩ else none) ∧ SOk S ∧ onCnt S = i ∧ ScV p S L ∧ Me (Wd.of h) h' (L :: [(b1, ints .i64 wl, TI)] :: [(b2, ints .i64 (List.replicate (ws.length + 1) 0), TI)] :: []), fun x _ => ((ws.length : Int) - x).toNat,
    ⟨0, sts0, L, List.replicate (ws.length + 1) 0, rfl, by omega, by simp, fun k q1 q2 => by omega, fun a => ?_, sok0, rfl, hv, ?_⟩, fun _ => ?_⟩
  · rw [if_neg (by omega)]
    cases hg : getS sts0 a with
    | none => rfl
    | some s =>
      have := (getS_some.1 hg).2
      unfold sts0 at this
      rw [List.getElem?_replicate] at this
      split at this <;> cases this
  · refine m.perm ?_
    simp only [List.flatten_cons, List.flatten_nil]
    classical
    refine List.perm_iff_count.2 fun x => ?_
    simp only [List.count_append]; omega
  clear m hv
  rintro _ h8 ⟨i, S, L, wl, rfl, hi, hwl, hw, hS, ok, hc, hv, m⟩
  refine dcase_intro (fun q => ?_) fun q => ?_
  · have kk := m.kept (Wd.le.refl _)
    have hx : ws[i]? = some ws[i] := List.getElem?_eq_getElem (by omega)
    obtain ⟨lb, lo, rfl, hcx⟩ := src_cell (kk.src hsl) (ints_get hx)
    have hwe : ws[i] % 100 + 1 = wv ws ((i : Int) + 1) := by
      unfold wv
      rw [show ((i : Int) + 1 - 1).toNat = i by omega, List.getD_eq_getElem?_getD, hx]; rfl
    obtain ⟨w0, w1⟩ := wv_bd ws ((i : Int) + 1)
    refine ⟨by simp only [fits]; omega, ⟨by omega, by omega⟩, _, hcx, (number_c _ 100 _ (by decide) (by decide)).ret ⟨_, rfl, ?_⟩⟩
    rw [hwe]
    have e0 : 0 + ((i : Int) + 1).toNat = i + 1 := by omega
    rw [e0]
    refine ⟨by simp only [fits]; omega, ⟨by omega, by omega⟩, m.store 1 rfl (by rw [ints_len]; omega) fun h10 m => ?_⟩
    simp only [List.set_cons_succ, List.set_cons_zero] at m
    rw [ints_set'] at m
    have hg0 : getS S ((i : Int) + 1) = none := by rw [hS, if_neg (by omega)]
    have e1 := addS_eq hg0 (by omega) (by omega) w0 w1
    have ok1 := ok.add (a := (i : Int) + 1) (w := wv ws ((i : Int) + 1))
    have hwl' : (wl.set (i + 1) (wv ws ((i : Int) + 1)))[i + 1]? = some (wv ws ((i : Int) + 1)) := List.getElem?_set_self (by omega)
    refine ⟨by simp only [fits]; omega, by simp only [fits]; omega, ⟨by omega, by omega⟩, _, m.cell 1 rfl (ints_get hwl'), (add_c (ads := []) m hv (eg_of (by rw [e1]))).mono ?_⟩
    rintro _ h11 ⟨L1, rfl, hv1, m⟩
    rw [e1] at hv1 ok1 ⊢
    dsimp only at hv1 ok1
    have g1 : getS (S.set (kA ((i : Int) + 1)) (some ⟨wv ws ((i : Int) + 1), 0, false⟩)) ((i : Int) + 1) = some ⟨wv ws ((i : Int) + 1), 0, false⟩ := by rw [getS_set ok.n (by omega) (by omega), if_pos rfl]
    have e2 := activeS_on g1 rfl
    have hc0 : comesT (S.set (kA ((i : Int) + 1)) (some ⟨wv ws ((i : Int) + 1), 0, false⟩)) 0 = 0 := comes0 ok1.n fun a s ha ho => by
      rw [getS_set ok.n (by omega) (by omega)] at ha
      split at ha
      · cases ha; rfl
      · rw [hS] at ha
        split at ha
        · cases ha; rfl
        · cases ha
    dsimp only at e2
    rw [List.set_set, hc0] at e2
    have ok2 := ok1.active (a := (i : Int) + 1) (on := true)
    refine ⟨_, rfl, true, rfl, bcase_false rfl ⟨by simp only [fits]; omega, (active_c (ads := []) m hv1 (eg_of (by rw [e2]))).mono ?_⟩⟩
    rintro _ h12 ⟨L2, rfl, hv2, m⟩
    rw [e2] at hv2 ok2 ⊢
    have c2 := cnt_add (o' := some ⟨wv ws ((i : Int) + 1), 0, true⟩) ok.n (by omega) (by omega) hg0
    simp only [isOn, Bool.toNat_false, Bool.toNat_true] at c2
    refine ⟨_, rfl, true, rfl, bcase_false rfl ⟨by simp only [fits]; omega, ⟨i + 1, _, L2, _, by omega, by omega, by rw [List.length_set]; exact hwl, fun k k0 k1 => ?_, fun a => ?_, ok2, by dsimp only; omega, hv2, m⟩, by (try dsimp only); omega⟩⟩
    · rw [get_set (by omega)]
      split
      · rename_i e; subst e; rfl
      · exact hw k k0 (by omega)
    · dsimp only
      rw [getS_set ok.n (by omega) (by omega)]
      split
      · rename_i e; subst e; rw [if_pos (by omega)]
      · rw [hS]
        by_cases q : 1 ≤ a ∧ a ≤ (i : Int)
        · rw [if_pos q, if_pos (by omega)]
        · rw [if_neg q, if_neg (by omega)]
  · obtain rfl : i = ws.length := by omega
    clear q hi
    refine ⟨fun x h' => ∃ (S : Sts) (L : Grp) (gl : List Int) (T g : Int → Int), 0 ≤ x ∧ x ≤ tn ∧ Fr ws ws.length x S T g ∧ gl.length = ws.length + 1 ∧ (∀ k : Nat, 1 ≤ k → k ≤ ws.length → gl[k]? = some (g k)) ∧ SOk S ∧ onCnt S = ws.length ∧ ScV p S L ∧ Me (Wd.of h) h' (L :: [(b1, ints .i64 wl, TI)] :: [(b2, ints .i64 gl, TI)] :: []), fun x _ => (tn - x).toNat,
      ⟨S, L, List.replicate (ws.length + 1) 0, fun _ => 0, fun _ => 0, by omega, by omega, ⟨hS, fun _ => Int.le_refl _, fun _ => by omega, fun _ => Int.le_refl _, fun _ => by omega, fun _ => by omega, fun _ => by omega, fun _ _ _ _ _ _ => by omega⟩, by simp, fun k k0 k1 => by rw [List.getElem?_replicate, if_pos (by omega)], ok, hc, hv, m⟩, fun _ => ?_⟩
    clear m hv ok hc hS
    rintro t h13 ⟨S, L, gl, T, g, t0, t1, fr, hgl, hg, ok, hc, hv, m⟩
    have kk := m.kept (Wd.le.refl _)
    refine dcase_intro (fun q => ?_) fun q => ?_
    · refine (order_c m hv).mono ?_
      rintro _ h14 ⟨oa, oc, o, E, rfl, ow, io, m⟩
      have hno := io.n
      refine ⟨_, _, _, rfl, bcase_false (by simp; omega) ?_⟩
      have kk := m.kept (Wd.le.refl _)
      have q0 := Int.emod_nonneg t (show ((as'.length : Int)) ≠ 0 by omega)
      have q1 := Int.emod_lt_of_pos t (show (0 : Int) < (as'.length : Int) by omega)
      have hx : as'[(t % (as'.length : Int)).toNat]? = some as'[(t % (as'.length : Int)).toNat] := List.getElem?_eq_getElem (by omega)
      obtain ⟨lb, lo, rfl, hcx⟩ := src_cell (kk.src hsa) (ints_get hx)
      refine ⟨⟨by omega, by omega⟩, ⟨by omega, by omega⟩, _, hcx, (number_c _ 5000 _ (by decide) (by decide)).ret ⟨_, rfl, ?_⟩⟩
      have p0 := Int.emod_nonneg as'[(t % (as'.length : Int)).toNat] (show (5000 : Int) ≠ 0 by decide)
      have p1 := Int.emod_lt_of_pos as'[(t % (as'.length : Int)).toNat] (show (0 : Int) < 5000 by decide)
      generalize as'[(t % (as'.length : Int)).toNat] % 5000 = rn at *
      obtain ⟨a, r, rfl⟩ : ∃ a r, o = a :: r := by
        cases o with
        | nil => simp only [List.length_nil] at hno; omega
        | cons a r => exact ⟨a, r, rfl⟩
      obtain ⟨ob, oo, rfl, hco⟩ := src_cell (k := 0) (ow.src1 m 0 rfl) (ints_get (x := a) rfl)
      rw [Nat.add_zero] at hco
      obtain ⟨x, hgx, hon, hmin⟩ := io.head
      have hsa := fr.s a
      rw [hgx] at hsa
      by_cases ha : 1 ≤ a ∧ a ≤ (ws.length : Int)
      case neg => rw [if_neg ha] at hsa; cases hsa
      rw [if_pos ha] at hsa
      cases hsa
      obtain ⟨a0, a1⟩ := ha
      have hm : ∀ b, 1 ≤ b → b ≤ (ws.length : Int) → T a ≤ T b := fun b b0 b1 => by
        have := hmin b ⟨wv ws b, T b, true⟩ (by rw [fr.s b, if_pos ⟨b0, b1⟩]) rfl
        dsimp only at this; omega
      obtain ⟨fr2, c0, c1⟩ := fr.step ok.n (by omega) t0 a0 a1 (show 1 ≤ rn + 1 by omega) (by omega) hm
      have ht0 := fr.t0 a
      have ht1 := fr.t1 a
      have hct : chargeT ⟨wv ws a, T a, true⟩ (rn + 1) = T a + 10000 * (rn + 1) / wv ws a := by unfold chargeT; dsimp only; omega
      have e1 := chargeS_eq (air := rn + 1) hgx (by omega) (by omega)
      rw [hct] at e1
      have ok1 := ok.charge (a := a) (air := rn + 1)
      refine ⟨by simp only [fits]; omega, ⟨by omega, by simp⟩, _, hco, (charge_c (ads := []) (m.focus 1 rfl) hv ok (eg_of (by rw [e1]))).mono ?_⟩
      rintro _ h16 ⟨L1, rfl, hv1, m⟩
      rw [e1] at hv1 ok1 ⊢
      simp only [List.eraseIdx_cons_succ, List.eraseIdx_cons_zero] at m
      have c2 := cnt_add (o' := some ⟨wv ws a, T a + 10000 * (rn + 1) / wv ws a, true⟩) ok.n a0 (by omega) hgx
      simp only [isOn, Bool.toNat_true] at c2
      obtain ⟨_, _, e5, hco2⟩ := src_cell (k := 0) (ow.src1 m 1 rfl) (ints_get (x := a) rfl)
      cases e5
      rw [Nat.add_zero] at hco2
      have hga := hg a.toNat (by omega) (by omega)
      rw [show ((a.toNat : Nat) : Int) = a by omega] at hga
      have hgb0 := fr.g0 a
      have hgb1 := fr.g1 a
      refine ⟨_, rfl, true, rfl, bcase_false rfl ⟨⟨by omega, by simp⟩, _, hco2, ⟨by omega, by simp⟩, _, hco2, ⟨by omega, by omega⟩, _, m.cell 3 rfl (by rw [Nat.zero_add]; exact ints_get hga), by simp only [fits]; omega, ⟨by omega, by omega⟩, m.store 3 rfl (by rw [ints_len]; omega) fun h17 m => ?_⟩⟩
      simp only [List.set_cons_succ, List.set_cons_zero, Nat.zero_add] at m
      rw [ints_set'] at m
      refine ⟨by simp only [fits]; omega, ⟨_, L1, _, _, _, by omega, by omega, fr2, by rw [List.length_set]; exact hgl, fun k k0 k1 => ?_, ok1, by omega, hv1, m.free 1 rfl⟩, by (try dsimp only); omega⟩
      rw [get_set (by omega)]
      split
      · rename_i e; subst e
        rw [show ((a.toNat : Nat) : Int) = a by omega, updI_at]
      · rename_i e
        rw [updI_ne (by omega)]; exact hg k k0 k1
    · obtain rfl : t = tn := by omega
      refine ⟨fun x h' => ∃ i : Nat, x = i ∧ 1 ≤ i ∧ i ≤ ws.length + 1 ∧ h' = h13, fun x _ => ((ws.length : Int) + 1 - x).toNat, ⟨1, rfl, by omega, by omega, rfl⟩, fun _ => ?_⟩
      rintro _ h13 ⟨i, rfl, i0, i1, rfl⟩
      refine dcase_intro (fun q2 => ?_) fun q2 => ⟨rfl, kk⟩
      refine ⟨fun x h' => ∃ k : Nat, x = k ∧ 1 ≤ k ∧ k ≤ ws.length + 1 ∧ h' = h13, fun x _ => ((ws.length : Int) + 1 - x).toNat, ⟨1, rfl, by omega, by omega, rfl⟩, fun _ => ?_⟩
      rintro _ h13 ⟨k, rfl, k0, k1, rfl⟩
      refine dcase_intro (fun q3 => ?_) fun q3 => ⟨by simp only [fits]; omega, ⟨i + 1, by omega, by omega, by omega, rfl⟩, by (try dsimp only); omega⟩
      have cgi := m.cell 2 rfl (ints_get (hg i i0 (by omega)))
      have cgk := m.cell 2 rfl (ints_get (hg k k0 (by omega)))
      have cwi := m.cell 1 rfl (ints_get (hw i i0 (by omega)))
      have cwk := m.cell 1 rfl (ints_get (hw k k0 (by omega)))
      have ei : 0 + ((i : Nat) : Int).toNat = i := by omega
      have ek : 0 + ((k : Nat) : Int).toNat = k := by omega
      rw [ei, ek]
      obtain ⟨wi0, wi1⟩ := wv_bd ws i
      obtain ⟨wk0, wk1⟩ := wv_bd ws k
      have key := fair_bd (by omega) (by omega) (fr.hi i) (fr.lo k) (fr.f i k (by omega) (by omega) (by omega) (by omega))
      have gi0 := fr.g0 i
      have gi1 := fr.g1 i
      have gk0 := fr.g0 k
      have gk1 := fr.g1 k
      obtain ⟨u1, u2⟩ := prod_bd gi0 (show g i ≤ 1000000 by omega) (show 0 ≤ wv ws k by omega) wk1
      obtain ⟨u3, u4⟩ := prod_bd gk0 (show g k ≤ 1000000 by omega) (show 0 ≤ wv ws i by omega) wi1
      obtain ⟨u5, u6⟩ := prod_bd t0 (show t ≤ 200 by omega) (show 0 ≤ wv ws i by omega) wi1
      obtain ⟨u7, u8⟩ := prod_bd u5 u6 (show 0 ≤ wv ws k by omega) wk1
      obtain ⟨u9, u10⟩ := prod_bd (show 0 ≤ wv ws i by omega) wi1 (show 0 ≤ wv ws k by omega) wk1
      generalize hg1 : g i * wv ws k = x1 at *
      generalize hg2 : g k * wv ws i = x2 at *
      generalize hg3 : t * wv ws i * wv ws k = x3 at *
      generalize hg4 : t * wv ws i = x4 at *
      generalize hg5 : wv ws i * wv ws k = x5 at *
      refine ⟨⟨by omega, by omega⟩, _, cgi, ⟨by omega, by omega⟩, _, cwk, ?_⟩
      rw [hg1]
      refine ⟨by simp only [fits]; omega, ⟨by omega, by omega⟩, _, cgk, ⟨by omega, by omega⟩, _, cwi, ?_⟩
      rw [hg2]
      refine ⟨by simp only [fits]; omega, by simp only [fits]; omega, ⟨by omega, by omega⟩, _, cwk, by simp only [fits]; omega, ⟨by omega, by omega⟩, _, cwi, ?_⟩
      rw [hg4]
      refine ⟨by simp only [fits]; omega, ⟨by omega, by omega⟩, _, cwk, ?_⟩
      rw [hg3]
      refine ⟨by simp only [fits]; omega, ⟨by omega, by omega, by simp only [fits]; omega⟩, by simp only [fits]; omega, ⟨by omega, by omega⟩, _, cwi, ⟨by omega, by omega⟩, _, cwk, ?_⟩
      rw [hg5]
      exact ⟨by simp only [fits]; omega, by simp only [fits]; omega, dcase_neg (by omega) ⟨by simp only [fits]; omega, ⟨k + 1, by omega, by omega, by omega, rfl⟩, by (try dsimp only); omega⟩⟩
theorem walk_SchedFair (w : World) (a0 : Option Addr) (len0 cap0 : Nat) (o0 : Opn (.slc (.int .i64)) (Wd.of w.heap) [.slice a0 len0 cap0]) (a1 : Option Addr) (len1 cap1 : Nat) (o1 : Opn (.slc (.int .i64)) (Wd.of w.heap) [.slice a1 len1 cap1]) (a2 : Int) (w2 : (Lit.int .i64 a2).wf = true) :
    Calls Tryd.prog 3 #[.slice a0 len0 cap0, .slice a1 len1 cap1, .int .i64 a2] w fun e w' => e = .returned (.bool true) ∧ Go.RowKit.Below w.heap.size w w' := by
  obtain ⟨_, _, l, e, _, _, h2, _⟩ := opn_ints o0
  obtain ⟨_, _, l2, e2, _, _, h3, _⟩ := opn_ints o1
  cases e
  cases e2
  exact calls_of_runs (schedFair_r a2 (of_src.1 h2) (of_src.1 h3))
end Go.Proofs.YthnmgpmgfhilhaaDoor
