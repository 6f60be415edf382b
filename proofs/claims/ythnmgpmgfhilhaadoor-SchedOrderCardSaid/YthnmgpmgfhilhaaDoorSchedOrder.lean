/- The walk of SchedOrder: all that are active stand in the order, each once, by their times. -/
import Derived.Test.YthnmgpmgfhilhaaDoorSchedFirst
import Derived.Test.YthnmgpmgfhilhaaDoorSchedPlain2
import Derived.Test.YthnmgpmgfhilhaaDoorOpnInts
set_option linter.unusedVariables false
set_option linter.unusedSimpArgs false
set_option maxRecDepth 8000
namespace Go.Proofs.YthnmgpmgfhilhaaDoor
open Go.Vc
def onA (ls : List Int) (a : Int) : Bool := !decide ((ls.getD (a - 1).toNat 0).tmod 3 = 0)
/-- Stations 1 to i are there, of weight 50. -/
def Upto (ls : List Int) (i : Nat) (S : Sts) : Prop := ∃ tt : Int → Int, ∀ a, getS S a = if 1 ≤ a ∧ a ≤ (i : Int) then some ⟨50, tt a, onA ls a⟩ else none
theorem Upto.inc {ls : List Int} {i : Nat} {S : Sts} (u : Upto ls i S) (hn : S.length = 16) (hi : i < 16) {t : Int} : Upto ls (i + 1) (S.set (kA ((i : Int) + 1)) (some ⟨50, t, onA ls ((i : Int) + 1)⟩)) := by
  obtain ⟨tt, h⟩ := u
  refine ⟨updI tt ((i : Int) + 1) t, fun a => ?_⟩
  rw [getS_set hn (by omega) (by omega)]
  by_cases e : a = (i : Int) + 1
  · subst e
    rw [if_pos rfl, if_pos (by omega), updI_at]
  · rw [if_neg e, h a, updI_ne e]
    by_cases q : 1 ≤ a ∧ a ≤ (i : Int)
    · rw [if_pos q, if_pos (by omega)]
    · rw [if_neg q, if_neg (by omega)]
theorem Upto.chg {ls : List Int} {i : Nat} {S : Sts} (u : Upto ls i S) (hn : S.length = 16) {b : Int} (b0 : 1 ≤ b) (b1 : b ≤ (i : Int)) (hi : i ≤ 16) {t : Int} : Upto ls i (S.set (kA b) (some ⟨50, t, onA ls b⟩)) := by
  obtain ⟨tt, h⟩ := u
  refine ⟨updI tt b t, fun a => ?_⟩
  rw [getS_set hn b0 (by omega)]
  by_cases e : a = b
  · subst e
    rw [if_pos rfl, if_pos ⟨b0, b1⟩, updI_at]
  · rw [if_neg e, h a, updI_ne e]
set_option maxHeartbeats 2000000
theorem schedOrder_r {h : Heap} {ads : List Addr} (s : Snt (Wd.of h) ads) {la aa : Option Addr} {lc ac : Nat} {ls as' : List Int} (hsl : src h la ls.length (ints .i64 ls)) (hsa : src h aa as'.length (ints .i64 as')) :
    Runs Tryd.prog 6 #[.slice la ls.length lc, .slice aa as'.length ac] h fun v h' => v = .bool true ∧ Kept h h' := by
  refine vc_muezzinlaw20_SchedOrder _ _ _ _ _ _ _ _ ((schedFirst_c (Me.start h)).mono ?_)
  rintro _ h1 ⟨rfl, m⟩
  refine ⟨_, rfl, bcase_false rfl (dcase_intro (fun _ => ⟨rfl, m.kept (Wd.le.refl _)⟩) fun hl16 => dcase_intro (fun _ => ⟨rfl, m.kept (Wd.le.refl _)⟩) fun ha16 => (new_c m).mono ?_)⟩
  rintro _ h2 ⟨p, L, rfl, hv, m⟩
  refine ⟨_, rfl, bcase_false rfl ⟨fun n x h' => ∃ (i : Nat) (S : Sts) (L : Grp), x = i ∧ n = ((onCnt S : Nat) : Int) ∧ i ≤ ls.length ∧ n ≤ x ∧ ScV p S L ∧ SOk S ∧ Upto ls i S ∧ Me (Wd.of h) h' (L :: []), fun _ x _ => ((ls.length : Int) - x).toNat,
    ⟨0, sts0, L, rfl, rfl, by omega, by decide, hv, sok0, ⟨fun _ => 0, fun a => ?_⟩, m⟩, fun _ => ?_⟩⟩
  · rw [if_neg (by omega)]
    cases hg : getS sts0 a with
    | none => rfl
    | some s =>
      have := (getS_some.1 hg).2
      unfold sts0 at this
      rw [List.getElem?_replicate] at this
      split at this <;> cases this
  clear m hv
  rintro _ _ h3 ⟨i, S, L, rfl, rfl, hi, hni, hv, ok, up, m⟩
  have kk := m.kept (Wd.le.refl _)
  refine dcase_intro (fun q => ?_) fun q => ?_
  · have hx : ls[i]? = some ls[i] := List.getElem?_eq_getElem (by omega)
    obtain ⟨lb, lo, rfl, hcx⟩ := src_cell (kk.src hsl) (ints_get hx)
    have hon : onA ls ((i : Int) + 1) = !decide (ls[i].tmod 3 = 0) := by
      unfold onA
      rw [show ((i : Int) + 1 - 1).toNat = i by omega, List.getD_eq_getElem?_getD, hx]; rfl
    refine ⟨⟨by omega, by omega⟩, _, hcx, by decide, ?_⟩
    rw [← hon]
    have hg0 : getS S ((i : Int) + 1) = none := by obtain ⟨tt, h⟩ := up; rw [h, if_neg (by omega)]
    have e1 := addS_eq (w := 50) hg0 (by omega) (by omega) (by decide) (by decide)
    refine ⟨by simp only [fits]; omega, (add_c (ads := ads) m hv (eg_of (by rw [e1]))).mono ?_⟩
    rintro _ h4 ⟨L1, rfl, hv1, m⟩
    have ok1 := ok.add (a := (i : Int) + 1) (w := 50)
    rw [e1] at hv1 ok1 ⊢
    have c1 : onCnt (S.set (kA ((i : Int) + 1)) (some ⟨50, 0, false⟩)) + 0 = onCnt S + 0 := cnt_add (o' := some ⟨50, 0, false⟩) ok.n (by omega) (by omega) hg0
    dsimp only at hv1 ok1
    have g1 : getS (S.set (kA ((i : Int) + 1)) (some ⟨50, 0, false⟩)) ((i : Int) + 1) = some ⟨50, 0, false⟩ := by rw [getS_set ok.n (by omega) (by omega), if_pos rfl]
    refine ⟨_, rfl, true, rfl, bcase_false rfl ⟨by simp only [fits]; omega, ?_⟩⟩
    cases ho : onA ls ((i : Int) + 1) with
    | true =>
      have e2 := activeS_on g1 rfl
      dsimp only at e2
      rw [List.set_set] at e2
      have ok2 := ok1.active (a := (i : Int) + 1) (on := true)
      refine (active_c (ads := ads) m hv1 (eg_of (by rw [e2]))).mono ?_
      rintro _ h5 ⟨L2, rfl, hv2, m⟩
      rw [e2] at hv2 ok2 ⊢
      have c2 : onCnt (S.set (kA ((i : Int) + 1)) (some ⟨50, comesT (S.set (kA ((i : Int) + 1)) (some ⟨50, 0, false⟩)) 0, true⟩)) + 0 = onCnt S + 1 := cnt_add (o' := some ⟨50, comesT (S.set (kA ((i : Int) + 1)) (some ⟨50, 0, false⟩)) 0, true⟩) ok.n (by omega) (by omega) hg0
      dsimp only at hv2 ok2
      have up2 := up.inc ok.n (by omega) (t := comesT (S.set (kA ((i : Int) + 1)) (some ⟨50, 0, false⟩)) 0)
      rw [ho] at up2
      exact ⟨_, rfl, true, rfl, bcase_false rfl (bcase_true rfl ⟨by simp only [fits]; omega, by simp only [fits]; omega, ⟨i + 1, _, L2, by omega, by omega, by omega, by omega, hv2, ok2, up2, m⟩, by (try dsimp only); omega⟩)⟩
    | false =>
      have e2 := activeS_same g1 rfl
      refine (active_c (ads := ads) m hv1 (eg_of (by rw [e2]))).mono ?_
      rintro _ h5 ⟨L2, rfl, hv2, m⟩
      rw [e2] at hv2 ⊢
      dsimp only at hv2
      have up2 := up.inc ok.n (by omega) (t := 0)
      rw [ho] at up2
      exact ⟨_, rfl, true, rfl, bcase_false rfl (bcase_false rfl ⟨by simp only [fits]; omega, ⟨i + 1, _, L2, by omega, by omega, by omega, by omega, hv2, ok1, up2, m⟩, by (try dsimp only); omega⟩)⟩
  · obtain rfl : i = ls.length := by omega
    refine ⟨fun h' => ∃ (S' : Sts) (L : Grp), onCnt S' = onCnt S ∧ ScV p S' L ∧ SOk S' ∧ Upto ls ls.length S' ∧ Me (Wd.of h) h' (L :: []), ⟨fun x h' => ∃ (j : Nat) (S' : Sts) (L : Grp), x = j ∧ j ≤ as'.length ∧ onCnt S' = onCnt S ∧ ScV p S' L ∧ SOk S' ∧ Upto ls ls.length S' ∧ Me (Wd.of h) h' (L :: []), fun x _ => ((as'.length : Int) - x).toNat, ⟨0, S, L, rfl, by omega, rfl, hv, ok, up, m⟩, fun _ => ?_⟩, fun _ => ?_⟩
    · clear m hv ok up kk
      rintro _ h6 ⟨j, S', L, rfl, hj, hc, hv, ok, up, m⟩
      have kk := m.kept (Wd.le.refl _)
      refine dcase_intro (fun q2 => dcase_intro (fun q3 => ?_) fun q3 => ⟨S', L, hc, hv, ok, up, m⟩) fun q2 => ⟨S', L, hc, hv, ok, up, m⟩
      have hx : as'[j]? = some as'[j] := List.getElem?_eq_getElem (by omega)
      obtain ⟨lb, lo, rfl, hcx⟩ := src_cell (kk.src hsa) (ints_get hx)
      have r0 := Int.emod_nonneg as'[j] (show (5000 : Int) ≠ 0 by decide)
      have r1 := Int.emod_lt_of_pos as'[j] (show (0 : Int) < 5000 by decide)
      refine ⟨by simp only [fits]; omega, ⟨by omega, by omega⟩, _, hcx, (number_c _ 5000 _ (by decide) (by decide)).ret ⟨_, rfl, ?_⟩⟩
      generalize as'[j] % 5000 = rn at *
      obtain ⟨tt, ht⟩ := id up
      have g1 : getS S' ((j : Int) + 1) = some ⟨50, tt ((j : Int) + 1), onA ls ((j : Int) + 1)⟩ := by rw [ht, if_pos (by omega)]
      have e1 := chargeS_eq g1 r0 (by omega)
      have ok1 := ok.charge (a := (j : Int) + 1) (air := rn)
      refine (charge_c (ads := ads) m hv ok (eg_of (by rw [e1]))).mono ?_
      rintro _ h8 ⟨L1, rfl, hv1, m⟩
      rw [e1] at hv1 ok1 ⊢
      dsimp only at hv1 ok1
      have c1 := cnt_add (o' := some ⟨50, chargeT ⟨50, tt ((j : Int) + 1), onA ls ((j : Int) + 1)⟩ rn, onA ls ((j : Int) + 1)⟩) ok.n (by omega) (by omega) g1
      simp only [isOn] at c1
      exact ⟨_, rfl, true, rfl, bcase_false rfl ⟨by simp only [fits]; omega, ⟨j + 1, _, L1, by omega, by omega, by omega, hv1, ok1, up.chg ok.n (by omega) (by omega) (by omega), m⟩, by (try dsimp only); omega⟩⟩
    clear m hv ok up kk
    rintro h9 ⟨S', L, hc, hv, ok, ⟨tt, ht⟩, m⟩
    have hni' : onCnt S' ≤ ls.length := by omega
    rw [← hc]
    clear hc
    refine (order_c m hv).mono ?_
    rintro _ h10 ⟨oa, oc, o, E, rfl, ow, io, m⟩
    have hno := io.n
    have hol : o.length ≤ ls.length := by rw [hno]; omega
    refine ⟨_, _, _, rfl, bcase_false (by simp [hno]) ?_⟩
    have kk := m.kept (Wd.le.refl _)
    have hin : ∀ (k : Nat) (x : Int), o[k]? = some x → 1 ≤ x ∧ x ≤ ls.length ∧ getS S' x = some ⟨50, tt x, onA ls x⟩ ∧ onA ls x = true := fun k x hk => by
      obtain ⟨y, h1, h2⟩ := (io.m x).1 (List.mem_of_getElem? hk)
      have h3 := ht x
      rw [h1] at h3
      split at h3
      · rename_i q; cases h3; exact ⟨q.1, q.2, h1, h2⟩
      · cases h3
    refine ⟨fun last x h' => ∃ k : Nat, x = k ∧ k ≤ o.length ∧ (∀ j y, k = j + 1 → o[j]? = some y → last = tt y) ∧ (k = 0 → last = -1) ∧ h' = h10, fun _ x _ => ((o.length : Int) - x).toNat, ⟨0, rfl, by omega, fun j y e => by omega, fun _ => rfl, rfl⟩, fun _ => ?_⟩
    rintro last _ h10 ⟨k, rfl, hk, hl1, hl2, rfl⟩
    refine dcase_intro (fun q1 => ?_) fun q1 => ?_
    · have hko : k < o.length := by omega
      have hx : o[k]? = some o[k] := List.getElem?_eq_getElem hko
      obtain ⟨ob, oo, rfl, hco⟩ := src_cell (ow.src1 m 0 rfl) (ints_get hx)
      obtain ⟨x0, x1, hg, hon⟩ := hin k _ hx
      refine ⟨⟨by omega, by omega⟩, _, hco, (time_c (m.free 0 rfl) hv o[k]).mono ?_⟩
      rintro _ h11 ⟨rfl, rfl⟩
      rw [hg]
      refine ⟨_, _, rfl, bcase_false rfl ⟨⟨by omega, by omega⟩, _, hco, ?_⟩⟩
      rw [wrap64 (n := o[k] - 1) (by simp only [fits]; omega)]
      have hlx : ls[(o[k] - 1).toNat]? = some ls[(o[k] - 1).toNat] := List.getElem?_eq_getElem (by omega)
      obtain ⟨lb, lo, rfl, hcx⟩ := src_cell (kk.src hsl) (ints_get hlx)
      have hon' : ¬ (ls[(o[k] - 1).toNat].tmod 3 = 0) := by
        unfold onA at hon
        rw [List.getD_eq_getElem?_getD, hlx] at hon
        simpa using hon
      have ht0 := (ok.get hg).2.2.1
      dsimp only at ht0
      have prev : ∀ j y, k = j + 1 → o[j]? = some y → tt y < tt o[k] ∨ tt y = tt o[k] ∧ y < o[k] := fun j y e hy => by
        have hj : j < o.length := by omega
        have hp := List.pairwise_iff_getElem.1 io.p j k hj hko (by omega)
        rw [List.getElem?_eq_getElem hj] at hy
        cases hy
        obtain ⟨u, v, h1, h2, h3⟩ := hp
        obtain ⟨_, _, h4, _⟩ := hin j _ (List.getElem?_eq_getElem hj)
        rw [h4] at h1; cases h1
        rw [hg] at h2; cases h2
        exact h3
      have hk1 : k = 0 ∨ ∃ j, k = j + 1 := by cases k with | zero => exact .inl rfl | succ j => exact .inr ⟨j, rfl⟩
      have nxt : ∀ j y, k + 1 = j + 1 → o[j]? = some y → tt o[k] = tt y := fun j y e hy => by
        obtain rfl : k = j := by omega
        rw [hx] at hy; cases hy; rfl
      refine ⟨⟨by omega, by omega⟩, _, hcx, by decide, dcase_neg hon' (dcase_neg ?_ (dcase_intro (fun q2 => ?_) fun q2 => ⟨by simp only [fits]; omega, ⟨k + 1, by omega, by omega, nxt, fun c => by omega, rfl⟩, by (try dsimp only); omega⟩))⟩
      · rcases hk1 with h0 | ⟨j, e⟩
        · rw [hl2 h0]; dsimp only; omega
        · have hj : j < o.length := by omega
          have := prev j _ e (List.getElem?_eq_getElem hj)
          rw [hl1 j _ e (List.getElem?_eq_getElem hj)]
          dsimp only; omega
      · rcases hk1 with h0 | ⟨j, e⟩
        · rw [hl2 h0] at q2; dsimp only at q2; omega
        · have hj : j < o.length := by omega
          have hjo := List.getElem?_eq_getElem hj
          have hp := prev j _ e hjo
          rw [hl1 j _ e hjo] at q2
          dsimp only at q2
          rw [wrap64 (n := (k : Int) - 1) (by simp only [fits]; omega)]
          obtain ⟨_, _, e5, hco2⟩ := src_cell (ow.src1 m 0 rfl) (ints_get hjo)
          cases e5
          have ek : ((k : Int) - 1).toNat = j := by omega
          rw [ek]
          refine ⟨⟨by omega, by omega⟩, _, hco2, ⟨by omega, by omega⟩, _, hco, dcase_neg (by omega) ⟨by simp only [fits]; omega, ⟨k + 1, by omega, by omega, nxt, fun c => by omega, rfl⟩, by (try dsimp only); omega⟩⟩
    · clear hl1 hl2
      refine ⟨fun h' => ∃ (S : Sts) (L : Grp) (G : List Grp), getS S 17 = none ∧ ScV p S L ∧ Me (Wd.of h) h' (L :: G), ?_, fun _ => ?_⟩
      · have hno17 : ∀ S : Sts, getS S 17 = none := fun S => rfl
        refine dcase_intro (fun q2 => ?_) fun q2 => ⟨S', L, [], rfl, hv, m.free 0 rfl⟩
        have hx : o[0]? = some o[0] := List.getElem?_eq_getElem (by omega)
        obtain ⟨ob, oo, rfl, hco⟩ := src_cell (ow.src1 m 0 rfl) (ints_get hx)
        obtain ⟨x0, x1, hg, hon⟩ := hin 0 _ hx
        rw [Nat.add_zero] at hco
        have e1 := delS_eq hg
        have c1 : onCnt (S'.set (kA o[0]) none) + (onA ls o[0]).toNat = onCnt S' + 0 := cnt_add (o' := none) ok.n x0 (by omega) hg
        have g1 : getS (S'.set (kA o[0]) none) o[0] = none := by rw [getS_set ok.n x0 (by omega), if_pos rfl]
        rw [hon, Bool.toNat_true] at c1
        refine ⟨⟨by omega, by omega⟩, _, hco, (del_c (ads := ads) (m.focus 1 rfl) hv (eg_of (by rw [e1]))).mono ?_⟩
        rintro _ h13 ⟨L1, rfl, hv1, m⟩
        rw [e1] at hv1 ⊢
        dsimp only at hv1
        refine ⟨_, rfl, true, rfl, bcase_false rfl ⟨by simp only [fits]; omega, (order_c m hv1).mono ?_⟩⟩
        rintro _ h14 ⟨o2a, o2c, o2, E2, rfl, ow2, io2, m⟩
        have hn2 := io2.n
        have hco2 : cell h14 ob oo = some (.int .i64 o[0]) := by
          obtain ⟨_, _, e5, hc⟩ := src_cell (ow.src1 m 2 rfl) (ints_get hx)
          cases e5; exact hc
        refine ⟨_, _, _, rfl, bcase_false (by simp; omega) ⟨⟨by omega, by omega⟩, _, hco2, (order_c (m.focus 1 rfl) hv1).mono ?_⟩⟩
        rintro _ h15 ⟨o3a, o3c, o3, E3, rfl, ow3, io3, m⟩
        have hn3 := io3.n
        simp only [List.eraseIdx_cons_succ, List.eraseIdx_cons_zero] at m
        have hco3 : cell h15 ob oo = some (.int .i64 o[0]) := by
          obtain ⟨_, _, e5, hc⟩ := src_cell (ow.src1 m 3 rfl) (ints_get hx)
          cases e5; exact hc
        refine ⟨_, _, _, rfl, hco3, (has_c (ow3.src1 m 0 rfl) (by omega) o[0]).mono ?_⟩
        rintro _ h16 ⟨rfl, rfl⟩
        have hni : o[0] ∉ o3 := fun c => by
          obtain ⟨y, h1, _⟩ := (io3.m _).1 c
          rw [g1] at h1; cases h1
        exact ⟨_, rfl, bcase_false (by simp [hni]) ⟨_, L1, _, rfl, hv1, m.focus 1 rfl⟩⟩
      · clear m hv
        rintro h17 ⟨S, L, G, hg, hv, m⟩
        have e1 : (delS S 17).2 = some 6 := by unfold delS; rw [hg]
        refine bcase_true rfl ((del_c (ads := ads) m hv (by rw [e1]; exact s.eg (fun j e => by cases e; decide))).mono ?_)
        rintro _ h18 ⟨L1, rfl, hv1, m⟩
        rw [e1]
        refine ⟨_, rfl, (is_c s m (fun j e => by cases e; decide) 107).mono ?_⟩
        rintro _ h19 ⟨rfl, m⟩
        exact ⟨_, rfl, rfl, m.kept (Wd.le.refl _)⟩
theorem walk_SchedOrder (w : World) (hE : ∃ ads, Snt (Wd.of w.heap) ads) (a0 : Option Addr) (len0 cap0 : Nat) (o0 : Opn (.slc (.int .i64)) (Wd.of w.heap) [.slice a0 len0 cap0]) (a1 : Option Addr) (len1 cap1 : Nat) (o1 : Opn (.slc (.int .i64)) (Wd.of w.heap) [.slice a1 len1 cap1]) :
    Calls Tryd.prog 6 #[.slice a0 len0 cap0, .slice a1 len1 cap1] w fun e w' => e = .returned (.bool true) ∧ Go.RowKit.Below w.heap.size w w' := by
  obtain ⟨ads, hs⟩ := hE
  obtain ⟨_, _, l, e, _, _, h2, _⟩ := opn_ints o0
  obtain ⟨_, _, l2, e2, _, _, h3, _⟩ := opn_ints o1
  cases e
  cases e2
  exact calls_of_runs (schedOrder_r hs (of_src.1 h2) (of_src.1 h3))
end Go.Proofs.YthnmgpmgfhilhaaDoor
