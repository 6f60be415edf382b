/- The abstract machine: reading operations as a whole. -/
import Derived.Test.YtgkpnfnkaplebaaGreatDoorAb6
set_option linter.unusedVariables false
set_option linter.unusedSimpArgs false
set_option linter.constructorNameAsVariable false
namespace Go.Ab
open Go.Vc Go.Proofs.YtgkpnfnkaplebaaGreatDoor
section
variable {W : Wd} {ads : List Addr} {φ φ' : Phi} {H H' : AH} {h h' : Heap} {β : Type} {out : β} {p : P4} {o n : Nat} {l : Loc} {v : AV} {w : Value} {P : Program} {t : TypeId} {k : DV → Option β} {K : Value → Prop}
theorem HR.plain (hr : HR W ads φ H h) (s : Sna W ads) {i : Nat} {a : Addr} (hi : ads[i]? = some a) : plainB h a.block = true := by
  obtain ⟨c, t, e⟩ := s.pl a (List.mem_of_getElem? hi)
  unfold plainB
  rw [hr.w _ _ e]
  rfl
theorem HR.same (hr : HR W ads φ H h) (s : Sna W ads) (hok : ptrOk P errT = true) {i j : Nat} {a b : Addr} {c : Bool} (hi : ads[i]? = some a) (hj : ads[j]? = some b) : ifeqH P h c (ptE a) (ptE b) = some (decide (i = j)) := by
  have hok' : ptrOk P 410 = true := hok
  unfold ifeqH ptE
  simp only [Nat.beq_refl, hok']
  unfold sameA
  by_cases hab : a = b
  · subst hab
    rw [if_pos rfl, s.inj hi hj]
    simp
  · rw [if_neg hab, hr.plain s hi, hr.plain s hj]
    have : i ≠ j := fun e => by subst e; rw [hi] at hj; exact hab (Option.some.inj hj)
    simp [this]
theorem ifeqH_ne {u v : TypeId} {x y : Value} {c : Bool} (hn : bnot (Nat.beq u v) = true) : ifeqH P h c (.iface u x) (.iface v y) = some false := by
  rw [bnot_eq] at hn
  have hn : Nat.beq u v = false := by simpa using hn
  unfold ifeqH
  simp only [hn]
theorem ifA_spec {st c : Bool} {a b : AV} {va vb : Value} {KK : Bool → Option β} (hr : HR W ads φ H h) (s : Sna W ads) (hok : ptrOk P errT = true) (ha : RV ads φ a va) (hb : RV ads φ b vb) (e : ifA st c a b KK = some out) :
    ∃ r, KK r = some out ∧ ifeqH P h c va vb = some r ∧ (st = false → ifeq c va vb = some r) := by
  cases ha <;> first | (exfalso; cases e; done) | skip
  case ni =>
    cases hb <;> first | (exfalso; cases e; done) | skip
    case ni =>
      obtain ⟨h1, e⟩ := must_spec (show must c (KK true) = some out from e)
      subst h1
      exact ⟨true, e, rfl, fun _ => rfl⟩
    case er j b hj => exact ⟨false, e, rfl, fun _ => rfl⟩
    case ifc t x xw hx => exact ⟨false, e, rfl, fun _ => rfl⟩
  case er i a hi =>
    cases hb <;> first | (exfalso; cases e; done) | skip
    case ni => exact ⟨false, e, rfl, fun _ => rfl⟩
    case er j b hj =>
      obtain ⟨h1, e⟩ := must_spec (show must st (frcB (Nat.beq i j) KK) = some out from e)
      subst h1
      have e := frcB_spec e
      refine ⟨_, e, ?_, fun h => (by cases h)⟩
      rw [beq_dec]
      exact hr.same s hok hi hj
    case ifc t x xw hx =>
      obtain ⟨h1, e⟩ := must_spec (show must st (must (bnot (Nat.beq errT t)) (KK false)) = some out from e)
      obtain ⟨h2, e2⟩ := must_spec e
      subst h1
      exact ⟨false, e2, ifeqH_ne h2, fun h => (by cases h)⟩
  case ifc t x xw hx =>
    cases hb <;> first | (exfalso; cases e; done) | skip
    case ni => exact ⟨false, e, rfl, fun _ => rfl⟩
    case er j b hj =>
      obtain ⟨h1, e⟩ := must_spec (show must st (must (bnot (Nat.beq t errT)) (KK false)) = some out from e)
      obtain ⟨h2, e2⟩ := must_spec e
      subst h1
      exact ⟨false, e2, ifeqH_ne h2, fun h => (by cases h)⟩
    case ifc u y yw hy =>
      obtain ⟨h1, e⟩ := must_spec (show must st (must (bnot (Nat.beq t u)) (KK false)) = some out from e)
      obtain ⟨h2, e2⟩ := must_spec e
      subst h1
      exact ⟨false, e2, ifeqH_ne h2, fun h => (by cases h)⟩
theorem gIx_spec : ∀ {L : List Nat} {g i j : Nat}, gIx L g i = some j → ∃ m, j = i + m ∧ L[m]? = some g
  | [], g, i, j, e => by cases e
  | x :: r, g, i, j, e => by
    unfold gIx at e
    split at e
    · rename_i hb
      cases e
      exact ⟨0, rfl, by rw [Nat.eq_of_beq_eq_true hb]; rfl⟩
    · obtain ⟨m, h1, h2⟩ := gIx_spec e
      exact ⟨m + 1, by omega, by simpa using h2⟩
/-- The variable of a sentinel, read. -/
theorem HR.err (hr : HR W ads φ H h) (s : Sna W ads) {g i : Nat} (hg : gIx errA g 0 = some i) : ∃ a, ads[i]? = some a ∧ cell h g 0 = some (ptE a) := by
  obtain ⟨m, h1, h2⟩ := gIx_spec hg
  have hm : m = i := by omega
  subst hm
  have h5 := (List.getElem?_eq_some_iff.1 h2).1
  have h6 : errA.length = errN := rfl
  have hlt : m < ads.length := by have := s.n; omega
  have h2' : errG[m]? = some g := by
    unfold errA at h2
    rwa [List.getElem?_take, if_pos (by omega)] at h2
  have h3 := s.v m _ g (List.getElem?_eq_getElem hlt) h2'
  refine ⟨_, List.getElem?_eq_getElem hlt, ?_⟩
  unfold wcell at h3
  unfold cell
  split at h3
  · rename_i hw; rw [hr.w _ _ hw]; exact h3
  · cases h3
theorem pickK_spec {c : Bool} {a b : DV} {va vb : Value} {F : DV → Option β} (ha : RD ads φ a va) (hb : RD ads φ b vb) (e : pickK c a b F = some out) (hk : On ads φ F out K) : bcase c (K va) (K vb) := by
  cases c
  · exact hk _ _ hb e
  · exact hk _ _ ha e
theorem map_opt {σ : Nat → DV} {τ : Env} (hn : RN ads φ σ τ) (x : Option Operand) : (x.map (dev σ) = none ∧ x.map (ev τ) = none) ∨ ∃ d w, x.map (dev σ) = some d ∧ x.map (ev τ) = some w ∧ RD ads φ d w := by
  cases x with
  | none => exact .inl ⟨rfl, rfl⟩
  | some x => exact .inr ⟨_, _, rfl, rfl, dev_rel hn x⟩
theorem map_args {σ : Nat → DV} {τ : Env} (hn : RN ads φ σ τ) : ∀ l : List Operand, RAs ads φ (l.map (dev σ)) (l.map (ev τ))
  | [] => rfl
  | x :: r => ⟨_, _, rfl, dev_rel hn x, map_args hn r⟩
theorem map_parts {σ : Nat → DV} {τ : Env} (hn : RN ads φ σ τ) : ∀ l : List (Nat × Operand), RPt ads φ (l.map fun (i, x) => (i, dev σ x)) (l.map fun (i, x) => (i, ev τ x))
  | [] => rfl
  | (i, x) :: r => ⟨_, _, rfl, dev_rel hn x, map_parts hn r⟩
theorem isIf_of {ms : _} (hu : P.underlying t = some (.interface ms)) : isIf P t = true := by unfold isIf; simp only [hu]
/-- The reading operations: what they give stands for what the real ones give. -/
theorem drd_rd {st : Bool} {σ : Nat → DV} {τ : Env} {op : Op} {ty : TypeId} (hr : HR W ads φ H h) (s : Sna W ads) (hok : ptrOk P errT = true) (hn : RN ads φ σ τ) (e : drd P st σ op ty H k = some out) (hk : On ads φ k out K)
    (hst : st = false ∨ ∀ o t a b ty', op = .binOp o t a b ty' → isIf P t = false ∧ (isPt P t && !(isConst a || isConst b)) = false)
    (hml : st = false ∨ ∀ b args ts, op = .call ⟨.builtin b, args, ts⟩ → isMl P b ts.toList = false) : rd P ⟨false, false⟩ (ev τ) op h K := by
  unfold drd at e
  split at e
  · exact hk _ _ (dev_rel hn _) e
  · exact hk _ _ (dev_rel hn _) e
  · rename_i c a b
    obtain ⟨x, hx0, hx, e⟩ := onV_spec (dev_rel hn c) e
    obtain ⟨cc, rfl, hc, e⟩ := isB_spec hx e
    unfold rd
    simp only [hc]
    exact pickK_spec (dev_rel hn a) (dev_rel hn b) e fun d v hd e => by
      obtain ⟨d', h1, e, _⟩ := castD_spec hd e
      exact hk _ _ h1.d e
  · rename_i op t a b ty'
    unfold rd
    dsimp only
    unfold bino
    split at e
    · rename_i ms hu
      obtain ⟨x, hx0, hx, e⟩ := onV_spec (dev_rel hn a) e
      obtain ⟨y, hy0, hy, e⟩ := onV_spec (dev_rel hn b) e
      have hsf : st = false := by
        rcases hst with h | h
        · exact h
        · have := (h _ _ _ _ _ rfl).1; rw [isIf_of hu] at this; cases this
      simp only [hu]
      split at e
      · obtain ⟨r, e, _, h2⟩ := ifA_spec hr s hok hx hy e
        exact ⟨r, h2 hsf, hk _ _ RD.ofB e⟩
      · obtain ⟨r, e, _, h2⟩ := ifA_spec hr s hok hx hy e
        have e := frcB_spec e
        rw [bnot_eq] at e
        exact ⟨r, h2 hsf, hk _ _ RD.ofB e⟩
      · cases e
    · rename_i nif
      have hsp : (st && (isPt P t && !(isConst a || isConst b))) = false := by
        rcases hst with h | h
        · rw [h]; rfl
        · rw [(h _ _ _ _ _ rfl).2]; exact Bool.and_false _
      rw [hsp] at e
      have := binD_sound (dev_rel hn a) (dev_rel hn b) e hk
      split
      · rename_i ms hu; exact (nif ms hu).elim
      · exact this
  · exact unD_sound (dev_rel hn _) e hk
  · rename_i sT dT a
    split at e
    · rename_i k1 k2 h1 h2
      obtain ⟨x, hx0, hx, e⟩ := onV_spec (dev_rel hn a) e
      obtain ⟨n, rfl, hv, e⟩ := isI_spec hx e
      have e := wrp_spec e
      unfold rd convv
      simp only [h1, h2, hv, arith]
      exact hk _ _ RD.ofI e
    · cases e
  · rename_i a
    obtain ⟨x, hx0, hx, e⟩ := onV_spec (dev_rel hn a) e
    obtain ⟨q, pa, rfl, hv, hq, e⟩ := isP_spec hx e
    obtain ⟨b, o, L, rfl, h1, rfl, e⟩ := onA_spec hq e
    unfold rd
    simp only [hv]
    exact onAddr_intro rfl (hk _ _ (RD.ofV (RV.p (RP.at h1 rfl))) e)
  · rename_i t a f
    obtain ⟨x, hx0, hx, e⟩ := onV_spec (dev_rel hn a) e
    obtain ⟨q, pa, rfl, hv, hq, e⟩ := isP_spec hx e
    obtain ⟨b, o, L, rfl, h1, rfl, e⟩ := onA_spec hq e
    unfold rd
    simp only [hv]
    show fieldOff P t f fun off _ => K (.pointer (some ⟨L.b, L.δ + o + off, none⟩))
    refine offD_sound e fun off ty e => ?_
    rw [nad_eq] at e
    exact hk _ _ (RD.ofV (RV.p (RP.at h1 (by omega)))) e
  · rename_i t a f
    unfold rd
    refine offD_sound e fun off ty e => ?_
    obtain ⟨L, ws, hx0, hv, hL, e⟩ := onL_spec (dev_rel hn a) e
    rw [hv]
    exact aggD_sound hL e hk
  · rename_i t a i
    obtain ⟨y, hy0, hy, e⟩ := onV_spec (dev_rel hn i) e
    obtain ⟨kd, n, rfl, hi, e⟩ := isJ_spec hy e
    unfold rd
    simp only [hi]
    split at e
    · rename_i len el hu
      split at e
      · rename_i hinf
        obtain ⟨x, hx0, hx, e⟩ := onV_spec (dev_rel hn a) e
        obtain ⟨q, pa, rfl, hv, hq, e⟩ := isP_spec hx e
        obtain ⟨b, o, L, rfl, h1, rfl, e⟩ := onA_spec hq e
        obtain ⟨h2, e⟩ := rng_spec e
        simp only [hu, hinf, hv]
        show (0 ≤ n ∧ n < (len : Int)) ∧ K (.pointer (some ⟨L.b, L.δ + o + mulc (sz P el) n.toNat, none⟩))
        refine ⟨h2, ?_⟩
        rw [itn_eq, mulx_eq] at e
        exact hk _ _ (RD.ofV (RV.p (RP.at h1 (Nat.add_assoc _ _ _)))) e
      · cases e
    · rename_i el hu
      split at e
      · rename_i hinf
        obtain ⟨x, hx0, hx, e⟩ := onV_spec (dev_rel hn a) e
        obtain ⟨sl, pa, m, c, rfl, hv, hs, e⟩ := isS_spec hx e
        obtain ⟨h2, b, o, L, h1, rfl, e⟩ := ixA_spec hs e
        simp only [hu, hinf, hv]
        refine ⟨h2, onAddr_intro (p := some ⟨L.b, L.δ + o, none⟩) rfl ?_⟩
        rw [mulx_eq] at e
        exact hk _ _ (RD.ofV (RV.p (RP.at h1 (Nat.add_assoc _ _ _)))) e
      · cases e
    · cases e
  · rename_i t a
    split at e
    · rename_i g
      split at e
      · rename_i i ms hg hu
        obtain ⟨a, h1, h2⟩ := hr.err s hg
        have h3 : ldv P t h g 0 K := by
          unfold ldv
          simp only [hu, one]
          exact ⟨_, h2, hk _ _ (RD.ofV (RV.er h1)) e⟩
        exact h3
      · cases e
    · rename_i a hng
      obtain ⟨x, hx0, hx, e⟩ := onV_spec (dev_rel hn _) e
      obtain ⟨q, pa, rfl, hv, hq, e⟩ := isP_spec hx e
      obtain ⟨b, o, L, rfl, h1, rfl, e⟩ := onA_spec hq e
      unfold rd
      simp only [hv]
      show ldv P t h L.b (L.δ + o) K
      exact ldD_sound hr h1 rfl e hk
  · rename_i t a i
    obtain ⟨y, hy0, hy, e⟩ := onV_spec (dev_rel hn i) e
    obtain ⟨kd, n, rfl, hi, e⟩ := isJ_spec hy e
    unfold rd
    simp only [hi]
    split at e
    · rename_i len el hu
      split at e
      · rename_i hinf
        obtain ⟨L, ws, hx0, hv, hL, e⟩ := onL_spec (dev_rel hn a) e
        obtain ⟨h2, e⟩ := rng_spec e
        simp only [hu, hinf, hv]
        rw [itn_eq, mulx_eq] at e
        exact ⟨h2, aggD_sound hL e hk⟩
      · cases e
    · rename_i hu
      obtain ⟨x, hx0, hx, e⟩ := onV_spec (dev_rel hn a) e
      obtain ⟨g, rfl, hv, b1, e⟩ := isG_spec hx e
      obtain ⟨h2, e⟩ := rng_spec e
      obtain ⟨r, h3, e⟩ := getI_spec e
      have e := asI_spec e
      simp only [hu, hv]
      rw [itn_eq] at h3
      refine ⟨by rw [strOf_size, ← leni_eq]; exact h2, ?_⟩
      rw [strAt_strOf b1 h3]
      exact hk _ _ RD.ofI e
    · cases e
  · rename_i a i
    obtain ⟨vs, hv, hd⟩ := tup_of (dev_rel hn a) e
    obtain ⟨d', v, h1, h2, e⟩ := tupK_sound hd e
    unfold rd
    simp only [hv, h1]
    exact hk _ _ h2.d e
  · rename_i t a lo hi
    exact sliceD_sound (dev_rel hn a) (map_opt hn lo) (map_opt hn hi) e hk
  · rename_i t a lo hi mx
    unfold rd
    exact slice3D_sound (dev_rel hn a) (map_opt hn lo) (map_opt hn hi) (dev_rel hn mx) e hk
  · exact asD_sound (dev_rel hn _) e hk
  · rename_i t a
    split at e
    · cases e
    · rename_i ty nif hu
      obtain ⟨x, hx0, hx, e⟩ := onV_spec (dev_rel hn a) e
      have := hk _ _ (RD.ofV (RV.ifc (t := t) hx)) e
      unfold rd
      simp only [hu]
      cases ty <;> first | exact (nif _ rfl).elim | exact this
    · cases e
  · rename_i f a b
    split at e
    · rename_i f' ha
      obtain ⟨ps, h1, e⟩ := ptrsK_spec (map_args hn b.toList) e
      have := hk _ _ (RD.ofV (RV.fn (f := f') h1)) e
      have hb : (b.toList.map (ev τ)).toArray = b.map (ev τ) := by apply Array.ext'; simp
      rw [hb] at this
      have ha := toList_nil ha
      subst ha
      have hm : (#[] : Array Operand).map (ev τ) = #[] := by simp
      show K (.func (.func f') ((#[] : Array Operand).map (ev τ)) (b.map (ev τ)))
      rw [hm]
      exact this
    · rename_i f' x r ha
      split at e
      · rename_i hb
        obtain ⟨ps, h1, e⟩ := ptrsK_spec (map_args hn (x :: r)) e
        have := hk _ _ (RD.ofV (RV.bm (f := f') h1)) e
        have ha' : ((x :: r).map (ev τ)).toArray = a.map (ev τ) := by apply Array.ext'; simp [ha]
        rw [ha'] at this
        have hb := toList_nil hb
        subst hb
        have hm : (#[] : Array Operand).map (ev τ) = #[] := by simp
        show K (.func (.func f') (a.map (ev τ)) ((#[] : Array Operand).map (ev τ)))
        rw [hm]
        exact this
      · cases e
    · cases e
  · exact buildD_sound (map_parts hn _) e hk
  · rename_i bt args ts
    split at e
    · rename_i hm
      exfalso
      rcases hml with hf | hf
      · subst hf; cases hm
      · rw [hf bt args ts rfl, Bool.and_false] at hm; cases hm
    · exact bltD_sound (map_args hn _) e hk
  · cases e
theorem band_eq {a b : Bool} (h : band a b = true) : a = true ∧ b = true := by
  cases a
  · cases h
  · exact ⟨rfl, h⟩
theorem peq_eq : ∀ {p q : P4}, peq p q = true → p = q
  | .h, .h, _ => rfl
  | .h, .a _, h | .h, .b _, h | .h, .c _, h | .h, .d _, h => by cases h
  | .a p, .a q, h => by rw [peq_eq (p := p) (q := q) h]
  | .a _, .h, h | .a _, .b _, h | .a _, .c _, h | .a _, .d _, h => by cases h
  | .b p, .b q, h => by rw [peq_eq (p := p) (q := q) h]
  | .b _, .h, h | .b _, .a _, h | .b _, .c _, h | .b _, .d _, h => by cases h
  | .c p, .c q, h => by rw [peq_eq (p := p) (q := q) h]
  | .c _, .h, h | .c _, .a _, h | .c _, .b _, h | .c _, .d _, h => by cases h
  | .d p, .d q, h => by rw [peq_eq (p := p) (q := q) h]
  | .d _, .h, h | .d _, .a _, h | .d _, .b _, h | .d _, .c _, h => by cases h
theorem peq_rfl : ∀ p : P4, peq p p = true
  | .h => rfl
  | .a p => peq_rfl p
  | .b p => peq_rfl p
  | .c p => peq_rfl p
  | .d p => peq_rfl p
theorem ptrs2_spec {a b : AP} {x y : Option Addr} {KK : Bool → Option β} (hr : HR W ads φ H h) (ha : RP φ a x) (hb : RP φ b y) (e : ptrs2 H a b KK = some out) : ∃ c, KK c = some out ∧ ptrEq h x y = some c := by
  unfold ptrs2 at e
  cases hnb : isNilA b with
  | true =>
    have e := frcB_spec (br_t hnb e)
    refine ⟨_, e, ?_⟩
    cases b with
    | nil => rw [show y = none from hb]; show some (isNilAddr x) = _; rw [isNil_eq ha]
    | «at» q u => cases hnb
    | gl g => cases hnb
  | false =>
    have e := br_f hnb e
    cases hna : isNilA a with
    | true =>
      have e := br_t hna e
      refine ⟨_, e, ?_⟩
      cases a with
      | nil =>
        rw [show x = none from ha]
        cases b with
        | nil => cases hnb
        | «at» q u => obtain ⟨L, _, rfl⟩ := hb; rfl
        | gl g => rw [show y = _ from hb]; rfl
      | «at» q u => cases hna
      | gl g => cases hna
    | false =>
      have e := br_f hna e
      obtain ⟨p, o, l, rfl, hl, rfl, e⟩ := onA_spec ha e
      obtain ⟨q, u, m, rfl, hm, rfl, e⟩ := onA_spec hb e
      obtain ⟨t1, n1, z1, hp, e⟩ := blkK_spec e
      obtain ⟨t2, n2, z2, hq, e⟩ := blkK_spec e
      obtain ⟨f1, e⟩ := must_spec e
      obtain ⟨f2, e⟩ := must_spec e
      have f1 := beq_true f1
      have f2 := beq_true f2
      have e := frcB_spec e
      refine ⟨_, e, ?_⟩
      obtain ⟨l', cs, T, h2, h3, _, _, ⟨_, g3⟩, _⟩ := hr.blk p _ _ _ hp
      rw [hl] at h2; cases h2
      obtain ⟨m', cs', T', h4, h5, _, _, ⟨_, g5⟩, _⟩ := hr.blk q _ _ _ hq
      rw [hm] at h4; cases h4
      show sameA h ⟨l.b, l.δ + o, none⟩ ⟨m.b, m.δ + u, none⟩ = _
      have hpl : (plainB h l.b && plainB h m.b) = true := by
        have g3 := g3.resolve_right fun hx => hx.1 f1
        have g5 := g5.resolve_right fun hx => hx.1 f2
        unfold plainB; rw [h3, h5, g3, g5]; rfl
      unfold sameA
      cases hpq : peq p q with
      | true =>
        have hx := peq_eq hpq
        subst hx
        rw [hl] at hm; cases hm
        cases hou : Nat.beq o u with
        | true => rw [beq_true hou, if_pos rfl]; rfl
        | false =>
          rw [if_neg (fun hx => beq_false hou (by injection hx; omega))]
          rw [hpl]; rfl
      | false =>
        have hne : p ≠ q := fun hx => by subst hx; rw [peq_rfl] at hpq; cases hpq
        have := hr.inj p q _ _ _ _ _ _ _ _ hne hp hq hl hm
        rw [if_neg (fun hx => this (by injection hx)), hpl]
        rfl
theorem drd_rdh {σ : Nat → DV} {τ : Env} {op : Op} {ty : TypeId} (hr : HR W ads φ H h) (s : Sna W ads) (hok : ptrOk P errT = true) (hn : RN ads φ σ τ) (e : drd P true σ op ty H k = some out) (hk : On ads φ k out K) : rdh P ⟨false, false⟩ (ev τ) op h K := by
  unfold rdh
  split
  · rename_i op t a b ty'
    split
    · rename_i hif
      unfold isIf at hif
      split at hif
      · rename_i ms hu
        unfold drd at e
        simp only [hu] at e
        obtain ⟨x, hx0, hx, e⟩ := onV_spec (dev_rel hn a) e
        obtain ⟨y, hy0, hy, e⟩ := onV_spec (dev_rel hn b) e
        unfold binh
        split at e
        · obtain ⟨r, e, h1, _⟩ := ifA_spec hr s hok hx hy e
          exact ⟨r, h1, hk _ _ RD.ofB e⟩
        · obtain ⟨r, e, h1, _⟩ := ifA_spec hr s hok hx hy e
          have e := frcB_spec e
          rw [bnot_eq] at e
          exact ⟨r, h1, hk _ _ RD.ofB e⟩
        · cases e
      · cases hif
    · rename_i hif
      split
      · rename_i hpt
        unfold drd at e
        dsimp only at e
        split at e
        · rename_i ms hu; rw [isIf_of hu] at hif; cases hif
        · rw [Bool.true_and, hpt] at e
          dsimp only at e
          unfold ptr2D at e
          split at e
          · rename_i hk2
            obtain ⟨x, hx0, hx, e⟩ := onV_spec (dev_rel hn a) e
            obtain ⟨y, hy0, hy, e⟩ := onV_spec (dev_rel hn b) e
            obtain ⟨m, ma, rfl, hva, hma, e⟩ := isP_spec hx e
            obtain ⟨n, na, rfl, hvb, hna, e⟩ := isP_spec hy e
            obtain ⟨c, e, h1⟩ := ptrs2_spec hr hma hna e
            unfold binp
            simp only [hva, hvb, hk2]
            exact ⟨c, h1, hk _ _ RD.ofB e⟩
          · rename_i hk2
            obtain ⟨x, hx0, hx, e⟩ := onV_spec (dev_rel hn a) e
            obtain ⟨y, hy0, hy, e⟩ := onV_spec (dev_rel hn b) e
            obtain ⟨m, ma, rfl, hva, hma, e⟩ := isP_spec hx e
            obtain ⟨n, na, rfl, hvb, hna, e⟩ := isP_spec hy e
            obtain ⟨c, e, h1⟩ := ptrs2_spec hr hma hna e
            have e := frcB_spec e
            rw [bnot_eq] at e
            unfold binp
            simp only [hva, hvb, hk2]
            exact ⟨c, h1, hk _ _ RD.ofB e⟩
          · cases e
      · rename_i hpt
        exact drd_rd hr s hok hn e hk (.inr fun o t' a' b' ty'' he => by cases he; exact ⟨hif, hpt⟩) (.inr fun _ _ _ he => by cases he)
  · rename_i args ts
    split
    · rename_i hmp
      unfold drd at e
      have hml' : isMl P .len ts.toList = true := hmp
      simp only [hml', Bool.and_self] at e
      split at e
      · rename_i m ha
        obtain ⟨w1, wr, hw, hv1, hnil⟩ := map_args (ads := ads) (φ := φ) hn args.toList |> fun hm => by rw [ha] at hm; exact hm
        rw [show wr = [] from hnil] at hw
        obtain ⟨x, rfl, hx, e⟩ := onV_spec hv1 e
        obtain ⟨a, r, rfl, rfl, hm, e⟩ := isMp_spec hx e
        obtain ⟨l, c, es, h1, h2, e, _⟩ := mesK_spec hr hm e
        simp only [hw]
        refine ⟨es, c, h2, ?_⟩
        have := hk (.v (.i .i64 (.ofNat (lenM l)))) (.int .i64 ((es.length : Nat) : Int)) (by rw [lenM_eq, ← h1.len]; exact RD.ofI) e
        exact this
      · cases e
    · rename_i hmp
      exact drd_rd hr s hok hn e hk (.inr fun o t' a' b' ty'' he => by cases he) (.inr fun b' args' ts' he => by cases he; simpa [isMl] using hmp)
  · rename_i nb nl
    exact drd_rd hr s hok hn e hk (.inr fun o t' a' b' ty'' he => absurd he (nb o t' a' b' ty'')) (.inr fun b' args' ts' he => by
      cases b' <;> first | rfl | exact absurd he (nl args' ts'))
end
end Go.Ab
