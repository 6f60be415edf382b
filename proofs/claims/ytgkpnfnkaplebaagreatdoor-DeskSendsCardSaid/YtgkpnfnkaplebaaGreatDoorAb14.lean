/- The abstract machine: regions whose order is open: the proof. -/
import Derived.Test.YtgkpnfnkaplebaaGreatDoorAb13
set_option linter.unusedVariables false
set_option linter.unusedSimpArgs false
set_option linter.constructorNameAsVariable false
namespace Go.Ab
open Go.Vc Go.Proofs.YtgkpnfnkaplebaaGreatDoor
/-- New memory that was made early. -/
structure Erl where
  c : Bool
  l : List AV
  mv : P4 → DV
  cs : List Value
  vb : Nat → Value
  T : TypeId
  b : Nat
structure EInv (β : Type) (P : Program) (ops : List Oper) (W : Wd) (ads : List Addr) (φ : Phi) (H : AH) (h : Heap) (σ : Nat → DV) (t : Env) (A L : Array Bool) (R' : List TkD) (R : List Took) (E : Nat → Option Erl) : Prop where
  sa : A.size = ops.length
  sl : L.size = ops.length
  da : DC ops.toArray A
  dl : DC ops.toArray L
  lst : ∀ j, j < ops.length → (L.getD j false = true ↔ A.getD j false = true ∨ (E j).isSome = true)
  hr : ∃ W' : Wd, W.le W' ∧ HR W' ads φ H h ∧ ∀ n e, E n = some e → W' e.b = some (.cells e.cs.toArray e.T (0, 0))
  wn : ∀ n e, E n = some e → W e.b = none
  inj : ∀ n m e f, E n = some e → E m = some f → n ≠ m → e.b ≠ f.b
  rn : RN ads φ σ t
  rt : RTk P W ads φ R' R
  st : ∀ e ∈ R, still P e h
  rl : ∀ e ∈ R, L[e.i]? = some true
  er : ∀ n e, E n = some e → n ∈ Region.ready .any ops.toArray A ∧ (∀ r ∈ R, waitsB ops n r.i = false) ∧ RL ads φ e.l e.cs ∧ (∀ (φ' : Phi) (p : P4) (Lc : Loc), φ' p = some Lc → Lc.δ = 0 → RD ads φ' (e.mv p) (e.vb Lc.b)) ∧
    ∃ o d, ops[n]? = some o ∧ isNew o.op = true ∧ o.guard = none ∧ o.dst = some d ∧ σ d = .u ∧ t d = e.vb e.b ∧ Fix ops A n d o.op ∧ ∀ k' : Bool → List AV → (P4 → DV) → Option β, newD P σ o.op k' = k' e.c e.l e.mv
section
variable {W : Wd} {ads : List Addr} {φ φ' : Phi} {H H' : AH} {h h' : Heap} {β : Type} {out : β} {P : Program} {D : List (Nat × G β)} {N : Nat} {σ σ' : Nat → DV} {t t' : Env} {ops : List Oper} {A L : Array Bool} {R' : List TkD} {R : List Took} {E : Nat → Option Erl}
theorem lt_of_ready (hs : A.size = ops.length) {n : Nat} (hn : n ∈ Region.ready .any ops.toArray A) : n < A.size := by rw [hs]; exact ((rdy hs).1 hn).1
theorem EInv.readyL (v : EInv β P ops W ads φ H h σ t A L R' R E) {i : Nat} (hi : i ∈ Region.ready .any ops.toArray A) (hE : E i = none) : i ∈ Region.ready .any ops.toArray L := by
  obtain ⟨h1, h2, o, h3, h4⟩ := (rdy v.sa).1 hi
  refine (rdy v.sl).2 ⟨h1, ?_, o, h3, fun e he hb => ?_⟩
  · cases hx : L.getD i false with
    | false => rfl
    | true =>
      rcases (v.lst i h1).1 hx with h | h
      · rw [h] at h2; cases h2
      · rw [hE] at h; cases h
  · have h5 := h4 e he hb
    have hlt : e.on < ops.length := by
      rw [← v.sa]
      rcases Nat.lt_or_ge e.on A.size with h | h
      · exact h
      · simp [Array.getElem?_eq_none h] at h5
    exact (v.lst e.on hlt).2 (.inl h5)
/-- An operation was carried out, in both. -/
theorem EInv.step (v : EInv β P ops W ads φ H h σ t A L R' R E) {i : Nat} (hi : i ∈ Region.ready .any ops.toArray A) (hE : E i = none) {φ1 : Phi} {H1 : AH} {h1 : Heap} {σ1 : Nat → DV} {t1 : Env} {R1' : List TkD} {R1 : List Took}
    (hl : φ.le φ1) (hr : ∃ W' : Wd, W.le W' ∧ HR W' ads φ1 H1 h1 ∧ ∀ n e, E n = some e → W' e.b = some (.cells e.cs.toArray e.T (0, 0))) (hn : RN ads φ1 σ1 t1) (ht : RTk P W ads φ1 R1' R1) (hst : ∀ e ∈ R1, still P e h1)
    (hrl : ∀ e ∈ R1, (L.setIfInBounds i true)[e.i]? = some true) (hR : ∀ e ∈ R1, e ∈ R ∨ e.i = i) (hs : ∀ o, ops[i]? = some o → ∀ n, o.dst ≠ some n → σ1 n = σ n) (hts : ∀ o, ops[i]? = some o → ∀ n, o.dst ≠ some n → t1 n = t n) :
    EInv β P ops W ads φ1 H1 h1 σ1 t1 (A.setIfInBounds i true) (L.setIfInBounds i true) R1' R1 E := by
  have hiA := lt_of_ready v.sa hi
  obtain ⟨hil, hAi, oi, hoi, _⟩ := (rdy v.sa).1 hi
  refine ⟨by simp [v.sa], by simp [v.sl], v.da.set hi, v.dl.set (v.readyL hi hE), fun j hj => ?_, hr, v.wn, v.inj, hn, ht, hst, hrl, fun n e he => ?_⟩
  · rw [set_get (by rw [v.sl]; exact hil), set_get hiA, v.lst j hj, or_assoc]
  · obtain ⟨k1, k2, k3, k4, o, d, k5, k6, k7, k8, k9, k10, k11, k12⟩ := v.er n e he
    have hni : i ≠ n := fun hx => by rw [hx, he] at hE; cases hE
    have hfx := k11.2 i oi hoi hni hAi
    refine ⟨ready_mono k1 (Ne.symm hni), fun r hr => ?_, k3.mono hl, k4, o, d, k5, k6, k7, k8, ?_, ?_, k11.set hiA, fun k' => ?_⟩
    · rcases hR r hr with h | h
      · exact k2 r h
      · rw [h]; exact not_wait v.da k1 hAi
    · rw [hs oi hoi d (fun hx => (hfx d hx).1 rfl)]; exact k9
    · rw [hts oi hoi d (fun hx => (hfx d hx).1 rfl)]; exact k10
    · rw [newD_congr (σ' := σ1) (σ := σ) fun m hm => hs oi hoi m fun hx => by
        have := (hfx m hx).2
        rw [hm] at this; cases this]
      exact k12 k'
/-- Slots of new memory that is still to come hold nothing that is known. -/
theorem EInv.hide (v : EInv β P ops W ads φ H h σ t A L R' R E) {ns : List Nat} (hns : ∀ n ∈ ns, newOk ops A n = true ∧ n ∈ Region.ready .any ops.toArray A) : EInv β P ops W ads φ H h (uN ops ns σ) t A L R' R E := by
  refine ⟨v.sa, v.sl, v.da, v.dl, v.lst, v.hr, v.wn, v.inj, v.rn.uN ns, v.rt, v.st, v.rl, fun n e he => ?_⟩
  obtain ⟨k1, k2, k3, k4, o, d, k5, k6, k7, k8, k9, k10, k11, k12⟩ := v.er n e he
  refine ⟨k1, k2, k3, k4, o, d, k5, k6, k7, k8, ?_, k10, k11, fun k' => ?_⟩
  · rcases uN_at (ops := ops) (ns := ns) (σ := σ) (m := d) with h | ⟨h, _⟩
    · rw [h]; exact k9
    · exact h
  · rw [newD_congr (σ' := uN ops ns σ) (σ := σ) fun m hm => ?_]
    · exact k12 k'
    · rcases uN_at (ops := ops) (ns := ns) (σ := σ) (m := m) with h | ⟨_, n', hn', o', ho', hd'⟩
      · exact h
      · exfalso
        by_cases hnn : n' = n
        · subst hnn
          rw [k5] at ho'; cases ho'
          rw [k8] at hd'; cases hd'
          rw [k11.1] at hm; cases hm
        · have hA := ((rdy v.sa).1 (hns n' hn').2).2.1
          have := (k11.2 n' o' ho' hnn hA m hd').2
          rw [hm] at this; cases this
/-- The abstract machine makes what was made early. -/
theorem EInv.late (v : EInv β P ops W ads φ H h σ t A L R' R E) {c : Nat} {e : Erl} (hcm : c ∈ Region.ready .any ops.toArray A) (hEc : E c = some e) {K : List TkD → (Nat → DV) → AH → Option β} (hact : actD P D N ops c R' σ H K = some out) :
    ∃ φ1 H1 σ2 o, ops[c]? = some o ∧ K (dropD ops c R') σ2 H1 = some out ∧ φ.le φ1 ∧ (∀ n, o.dst ≠ some n → σ2 n = σ n) ∧ EInv β P ops W ads φ1 H1 h σ2 t (A.setIfInBounds c true) L (dropD ops c R') R (fun n => if n = c then none else E n) := by
  have hcA := lt_of_ready v.sa hcm
  obtain ⟨hcl, hAc, oc, hoc, _⟩ := (rdy v.sa).1 hcm
  obtain ⟨k1, k2, k3, k4, o, d, k5, k6, k7, k8, k9, k10, k11, k12⟩ := v.er c e hEc
  unfold actD grdS at hact
  simp only [k5, k7, k6, k12] at hact
  obtain ⟨m, nx⟩ := H
  obtain ⟨tr, hact, htr⟩ := alN_raw hact
  obtain ⟨W', hW, hHR, hWE⟩ := v.hr
  let W2 : Wd := fun b => if b = e.b then none else W' b
  have hW2 : Wd.le W2 W' := fun b x hx => by
    have hx : (if b = e.b then none else W' b) = some x := hx
    by_cases hb : b = e.b
    · rw [if_pos hb] at hx; cases hx
    · rw [if_neg hb] at hx; exact hx
  have hWW2 : W.le W2 := fun b x hx => by
    show (if b = e.b then none else W' b) = some x
    rw [if_neg (fun hb => by rw [hb, v.wn c e hEc] at hx; cases hx)]; exact hW b x hx
  have hblk := hHR.w _ _ (hWE c e hEc)
  have hHR2 := hHR.weak hW2
  have hlen := k3.len
  obtain ⟨φ1, q1, q2, q3⟩ := hHR2.new (h' := h) (t := tr) (n := e.l.length) (es := 0) (κ := 0) (b := e.b) (δ := 0) (cs := e.cs.toArray) (T := e.T) hHR2.w (by show (if e.b = e.b then none else W' e.b) = none; rw [if_pos rfl]) hblk (by simp; omega) (fun hz => absurd rfl hz) (fun q hq => by
    obtain ⟨u, r1, r2⟩ := k3.at (n := q.num) (List.getElem?_eq_getElem hq)
    refine ⟨u, by simpa using r1, ?_⟩
    rw [htr q hq, List.getElem?_eq_getElem hq]; exact r2) (fun p t n es l hg hp => ⟨fun hb => (by
    obtain ⟨l', cs, T, r1, r2, r3, _⟩ := hHR.blk p t n es hg
    rw [hp] at r1; cases r1
    rw [hb, hWE c e hEc] at r3; cases r3), rfl⟩) (fun _ _ k _ => k) (.inl rfl)
  rw [k8] at hact
  unfold putO at hact
  dsimp only at hact
  split at hact
  · rename_i hdN
    have hfx : ∀ m, m ≠ d → updD σ d (e.mv nx) m = σ m := fun m hm => updD_ne hm
    refine ⟨φ1, _, _, o, k5, hact, q1, fun m hm => hfx m fun hx => hm (by rw [k8, hx]), by simp [v.sa], v.sl, v.da.set hcm, v.dl, fun j hj => ?_, ⟨W2, hWW2, q3, fun n e' hn' => ?_⟩, fun n e' hn' => ?_, fun n1 n2 e1 e2 h1 h2 hne => ?_, ?_, ?_, v.st, v.rl, fun n e' hn' => ?_⟩
    · rw [set_get hcA, v.lst j hj]
      by_cases hjc : j = c
      · subst hjc; simp [hEc]
      · simp [hjc]
    · by_cases hnc : n = c
      · simp [hnc] at hn'
      · simp [hnc] at hn'
        show (if e'.b = e.b then none else W' e'.b) = _
        rw [if_neg (v.inj n c e' e hn' hEc hnc)]
        exact hWE n e' hn'
    · by_cases hnc : n = c
      · simp [hnc] at hn'
      · simp [hnc] at hn'; exact v.wn n e' hn'
    · by_cases hnc : n1 = c
      · simp [hnc] at h1
      · by_cases hnc2 : n2 = c
        · simp [hnc2] at h2
        · simp [hnc] at h1; simp [hnc2] at h2; exact v.inj n1 n2 e1 e2 h1 h2 hne
    · refine (v.rn.mono q1).upd1 ?_
      rw [k10]
      exact k4 φ1 nx _ q2 rfl
    · intro r hrr
      obtain ⟨ê, r1, r2⟩ := v.rt r hrr
      exact ⟨ê, dropD_mem r1 (by rw [← r2.ix]; exact k2 r hrr), r2.mono q1⟩
    · by_cases hnc : n = c
      · simp [hnc] at hn'
      · simp [hnc] at hn'
        obtain ⟨j1, j2, j3, j4, o2, d2, j5, j6, j7, j8, j9, j10, j11, j12⟩ := v.er n e' hn'
        have hfx2 := j11.2 c o k5 (Ne.symm hnc) hAc d k8
        refine ⟨ready_mono j1 hnc, j2, j3.mono q1, j4, o2, d2, j5, j6, j7, j8, ?_, j10, j11.set hcA, fun k' => ?_⟩
        · rw [hfx d2 (Ne.symm hfx2.1)]; exact j9
        · rw [newD_congr (σ' := updD σ d (e.mv nx)) (σ := σ) fun m hm => hfx m fun hx => by rw [hx, hfx2.2] at hm; cases hm]
          exact j12 k'
  · cases hact
theorem andK_spec {qv : β → β → Bool} (hβ : ∀ a b : β, qv a b = true → a = b) {a b : Option β} (h : andK qv a b = some out) : a = some out ∧ b = some out := by
  cases a with
  | none => cases h
  | some o =>
    cases b with
    | none => cases h
    | some o2 =>
      obtain ⟨h1, h2⟩ := br_spec (show br (qv o o2) (some o2) none = some out from h)
      cases h2
      rw [hβ _ _ h1]
      exact ⟨rfl, rfl⟩
theorem allO_spec {qv : β → β → Bool} (hβ : ∀ a b : β, qv a b = true → a = b) {B : Nat → Option β} : ∀ {l : List Nat}, allO qv l B = some out → ∀ i ∈ l, B i = some out
  | [], h, i, hi => by cases hi
  | [k], h, i, hi => by simp at hi; subst hi; exact h
  | k :: k2 :: r, h, i, hi => by
    obtain ⟨h1, h2⟩ := andK_spec hβ (show andK qv (B k) (allO qv (k2 :: r) B) = some out from h)
    cases hi with
    | head => exact h1
    | tail _ hi => exact allO_spec hβ h2 i hi
theorem pickN_mem : ∀ {l : List Nat} {c : Nat}, pickN ops l = some c → c ∈ l
  | [], c, h => by cases h
  | i :: r, c, h => by
    unfold pickN at h
    split at h
    · split at h
      · cases h; exact List.mem_cons_self
      · exact List.mem_cons_of_mem _ (pickN_mem h)
    · exact List.mem_cons_of_mem _ (pickN_mem h)
theorem pickC_mem {l : List Nat} {c : Nat} (h : pickC ops l = some c) : c ∈ l := by
  unfold pickC at h
  split at h
  · rename_i c' hc; cases h; exact pickN_mem hc
  · exact List.mem_of_head? h
theorem restN_mem {l : List Nat} {c n : Nat} : n ∈ restN c l ↔ n ∈ l ∧ n ≠ c := by
  unfold restN
  rw [List.mem_filter]
  constructor
  · rintro ⟨h1, h2⟩; exact ⟨h1, fun hx => by subst hx; simp at h2⟩
  · rintro ⟨h1, h2⟩
    refine ⟨h1, ?_⟩
    have : Nat.beq n c = false := Bool.eq_false_iff.2 fun k => h2 (Nat.eq_of_beq_eq_true k)
    simp [this]
theorem ddv_sound {qv : β → β → Bool} (hβ : ∀ a b : β, qv a b = true → a = b) {Q : Exit → Act → World → Prop} {kk : (Nat → DV) → AH → Option β} {KK : Env → Heap → Prop} {φ0 : Phi} {σ0 : Nat → DV} {t0 : Env} {w0 : World} (s : Sna W ads) (hok : ptrOk P errT = true) (hD : SndA P ads D) (hsel : Region.noSelect ops.toArray = true) (hQ : ∀ c a w, ¬ Q (.panic c) a w)
    (hk : OnE W ads φ0 kk out (AgD (dstsOps ops) σ0) KK) (hn : ∀ t' a' w', Rel N t' a' → Same w0 w' → Agr (dstsOps ops) t0 t' → KK t' w'.heap → Q .normal a' w') :
    ∀ (f : Nat) (φ : Phi) (H : AH) (h : Heap) (σ : Nat → DV) (t : Env) (A L : Array Bool) (R' : List TkD) (R : List Took) (E : Nat → Option Erl) (a : Act) (w : World) (fc : Nat),
      ddv qv P D N ops f R' A σ H kk = some out → EInv β P ops W ads φ H h σ t A L R' R E → w.heap = h → Rel N t a → φ0.le φ → AgD (dstsOps ops) σ0 σ → Same w0 w → Agr (dstsOps ops) t0 t → unl L ≤ fc →
      wpG P ops.toArray (waitsB ops) Q fc (Tof P R) L a w := by
  have fin : ∀ {φ : Phi} {H : AH} {h : Heap} {σ : Nat → DV} {t : Env} {A L : Array Bool} {R' : List TkD} {R : List Took} {E : Nat → Option Erl} {a : Act} {w : World} {fc : Nat}, Region.ready .any ops.toArray A = [] → kk σ H = some out →
      EInv β P ops W ads φ H h σ t A L R' R E → w.heap = h → Rel N t a → φ0.le φ → AgD (dstsOps ops) σ0 σ → Same w0 w → Agr (dstsOps ops) t0 t → wpG P ops.toArray (waitsB ops) Q fc (Tof P R) L a w := by
    intro φ H h σ t A L R' R E a w fc hre he v hw hr hl hag hs ha
    have hE : ∀ n, E n = none := fun n => by
      cases hx : E n with
      | none => rfl
      | some e => have := (v.er n e hx).1; rw [hre] at this; cases this
    have hreL : Region.ready .any ops.toArray L = [] := by
      refine List.eq_nil_iff_forall_not_mem.2 fun r hrr => ?_
      obtain ⟨h1, h2, o, h3, h4⟩ := (rdy v.sl).1 hrr
      have hAr : A.getD r false = false := by
        cases hx : A.getD r false with
        | false => rfl
        | true => rw [(v.lst r h1).2 (.inl hx)] at h2; cases h2
      have : r ∈ Region.ready .any ops.toArray A := (rdy v.sa).2 ⟨h1, hAr, o, h3, fun e he hb => by
        have h5 := h4 e he hb
        have hlt : e.on < ops.length := by
          rw [← v.sl]
          rcases Nat.lt_or_ge e.on L.size with h | h
          · exact h
          · simp [Array.getElem?_eq_none h] at h5
        rcases (v.lst e.on hlt).1 h5 with h | h
        · exact h
        · rw [hE] at h; cases h⟩
      rw [hre] at this; cases this
    obtain ⟨W', hW, hHR, _⟩ := v.hr
    have hq : Q .normal a w := hn t a w hr hs ha (hw ▸ hk φ σ t H h hl (hHR.weak hW) v.rn hag he)
    cases fc with
    | zero => exact ⟨hreL, hq⟩
    | succ fc => exact ⟨fun _ => hq, fun i hi => (by rw [hreL] at hi; cases hi)⟩
  intro f
  induction f with
  | zero =>
    intro φ H h σ t A L R' R E a w fc he v hw hr hl hag hs ha hu
    unfold ddv at he
    split at he
    · rename_i hre; exact fin hre he v hw hr hl hag hs ha
    · cases he
  | succ f ih =>
    intro φ H h σ t A L R' R E a w fc he v hw hr hl hag hs ha hu
    unfold ddv at he
    split at he
    · rename_i hre; exact fin hre he v hw hr hl hag hs ha
    · rename_i hne
      have agD : ∀ {i : Nat} {o : Oper} {σ1 σ2 : Nat → DV}, ops[i]? = some o → AgD (dstsOps ops) σ0 σ1 → (∀ n, o.dst ≠ some n → σ2 n = σ1 n) → AgD (dstsOps ops) σ0 σ2 := fun ho h1 h2 n hm => (h2 n (memB_dstsOps ho hm)).trans (h1 n hm)
      have agR : ∀ {i : Nat} {o : Oper} {t1 t2 : Env}, ops[i]? = some o → Agr (dstsOps ops) t0 t1 → (∀ n, o.dst ≠ some n → t2 n = t1 n) → Agr (dstsOps ops) t0 t2 := fun ho h1 h2 n hm => (h2 n (memB_dstsOps ho hm)).trans (h1 n hm)
      split at he
      · rename_i i hp
        obtain ⟨hmem, o, ho, hrd, hfree⟩ := pickR_spec hp
        have hE : E i = none := by
          cases hx : E i with
          | none => rfl
          | some e =>
            obtain ⟨_, _, _, _, o', d, k5, k6, _⟩ := v.er i e hx
            rw [ho] at k5; cases k5
            rw [isNew_rd k6] at hrd; cases hrd
        have hmL := v.readyL hmem hE
        obtain ⟨hil, hLi, _⟩ := (rdy v.sl).1 hmL
        have hus := unl_set (L := L) (i := i) (by rw [v.sl]; exact hil) hLi
        obtain ⟨fc', rfl⟩ : ∃ fc', fc = fc' + 1 := ⟨fc - 1, by omega⟩
        obtain ⟨W', hW, hHR, hWE⟩ := v.hr
        have hoa : ops.toArray[i]? = some o := by simpa using ho
        have hdv := readD_sound (R := R) (C := fun R1 t1 => ∃ R1' σ1, RTk P W ads φ R1' R1 ∧ (∀ e ∈ R1, e ∈ R ∨ e.i = i) ∧ RN ads φ σ1 t1 ∧ (∀ o, ops[i]? = some o → ∀ n, o.dst ≠ some n → σ1 n = σ n) ∧ ddv qv P D N ops f R1' (A.setIfInBounds i true) σ1 H kk = some out) s hW hok hHR v.rn v.rt he
          fun R1' R1 σ1 t1 h1 h2 h3 h4 h5 => ⟨R1', σ1, h1, h2, h3, h4, h5⟩
        refine wpG_read hsel hQ ho v.dl hmL (fun j oj hj hji hun hno => ?_) hr hw v.st v.rl hdv fc' fun R1 t1 a1 ⟨R1', σ1, h1, h2, h3, h4, h5⟩ hr1 hs1 hl1 ht1 => ?_
        · refine Region.free_spec hoa hfree j oj hj hji ?_ hno
          have h6 := (getD_tf v.sl).1 hun
          refine (getD_tf v.sa).2 ⟨h6.1, ?_⟩
          cases hx : A.getD j false with
          | false => rfl
          | true => have := (v.lst j h6.1).2 (.inl hx); rw [h6.2] at this; cases this
        · refine ih φ H h σ1 t1 _ _ R1' R1 E a1 w fc' h5 (v.step hmem hE (Phi.le.refl _) v.hr h3 h1 hs1 hl1 h2 h4 fun o' ho' => by rw [ho] at ho'; cases ho'; exact ht1) hw hr1 hl (agD ho hag (h4 o ho)) hs (agR ho ha ht1) (by omega)
      · split at he
        · rename_i c hc
          have hcm := pickC_mem hc
          split at he
          · rename_i hokn
            unfold okN at hokn
            rw [Bool.and_eq_true] at hokn
            obtain ⟨hok1, hok2⟩ := hokn
            generalize hns : restN c (Region.ready .any ops.toArray A) = ns at he hok1 hok2
            have hnsr : ∀ n, n ∈ ns → n ∈ Region.ready .any ops.toArray A ∧ n ≠ c := fun n hm => by rw [← hns] at hm; exact restN_mem.1 hm
            have hin : ∀ n, n ∈ Region.ready .any ops.toArray A → n ≠ c → n ∈ ns := fun n h1 h2 => by rw [← hns]; exact restN_mem.2 ⟨h1, h2⟩
            have hnew : ∀ n ∈ ns, newOk ops A n = true := fun n hm => List.all_eq_true.1 hok1 n hm
            have hv1 := v.hide (ns := ns) fun n hm => ⟨hnew n hm, (hnsr n hm).1⟩
            have hag1 : AgD (dstsOps ops) σ0 (uN ops ns σ) := fun m hm => by
              rcases uN_at (ops := ops) (ns := ns) (σ := σ) (m := m) with h | ⟨_, n', hn', o', ho', hd'⟩
              · rw [h]; exact hag m hm
              · exact absurd hd' (memB_dstsOps ho' hm)
            have hu1 : ∀ n ∈ ns, ∀ o d, ops[n]? = some o → o.dst = some d → uN ops ns σ d = .u := fun n hm o d ho hd => uN_u (.inl hm) ho hd
            generalize uN ops ns σ = σ1 at he hv1 hag1 hu1
            obtain ⟨hact, htst⟩ := tstN_at hv1.rn he
            clear he v hag
            have hcA := lt_of_ready hv1.sa hcm
            obtain ⟨hcl, hAc, oc, hoc, _⟩ := (rdy hv1.sa).1 hcm
            cases hEc : E c with
            | some e =>
              obtain ⟨φ1, H1, σ2, o, k5, hd2, q1, q2, v2⟩ := hv1.late hcm hEc hact
              exact ih φ1 H1 h σ2 t _ L _ R _ a w fc hd2 v2 hw hr (hl.trans q1) (agD k5 hag1 q2) hs ha hu
            | none =>
              have inner : ∀ (fc : Nat) (h : Heap) (t : Env) (L : Array Bool) (R : List Took) (E : Nat → Option Erl) (a : Act) (w : World), EInv β P ops W ads φ H h σ1 t A L R' R E → E c = none → w.heap = h → Rel N t a → Same w0 w → Agr (dstsOps ops) t0 t → unl L ≤ fc →
                  wpG P ops.toArray (waitsB ops) Q fc (Tof P R) L a w := by
                intro fc
                induction fc with
                | zero =>
                  intro h t L R E a w v hEc hw hr hs ha hu
                  obtain ⟨hil, hLi, _⟩ := (rdy v.sl).1 (v.readyL hcm hEc)
                  have := unl_set (L := L) (i := c) (by rw [v.sl]; exact hil) hLi
                  omega
                | succ fc ihc =>
                  intro h t L R E a w v hEc hw hr hs ha hu
                  have hcL := v.readyL hcm hEc
                  refine ⟨fun hre => (by rw [hre] at hcL; cases hcL), fun r hrL => ?_⟩
                  obtain ⟨hrl, hLr, orr, hor, hafter⟩ := (rdy v.sl).1 hrL
                  have hus := unl_set (L := L) (i := r) (by rw [v.sl]; exact hrl) hLr
                  obtain ⟨W', hW, hHR, hWE⟩ := v.hr
                  by_cases hrc : r = c
                  · subst hrc
                    have hda := actD_sound (R := R) (C := fun R1 t1 h1 => ∃ φ1 σ2 H1, φ.le φ1 ∧ HR W' ads φ1 H1 h1 ∧ RN ads φ1 σ2 t1 ∧ (∀ o, ops[r]? = some o → ∀ n, o.dst ≠ some n → σ2 n = σ1 n) ∧ ddv qv P D N ops f (dropD ops r R') (A.setIfInBounds r true) σ2 H1 kk = some out) s hW hok hD hHR v.rn v.rt hact
                      fun φ1 σ2 t1 H1 h1 x1 x2 x3 x4 x5 => ⟨φ1, σ2, H1, x1, x2, x3, x4, x5⟩
                    refine wpG_act hQ hor hr hw v.st hda fc fun t1 v1 w1 ⟨φ1, σ2, H1, x1, x2, x3, x4, x5⟩ hr1 hs1 hst1 ht1 => ?_
                    refine ih φ1 H1 w1.heap σ2 t1 _ _ _ _ E _ w1 fc x5 (v.step hcm hEc x1 ⟨W', hW, x2, hWE⟩ x3 ((v.rt.drop (j := r)).mono x1) hst1 (set_listed fun e he => v.rl e (dropR_mem he)) (fun e he => .inl (dropR_mem he)) x4 fun o' ho' => by rw [hor] at ho'; cases ho'; exact ht1) rfl hr1 (hl.trans x1) (agD hor hag1 (x4 orr hor)) (hs.trans hs1) (agR hor ha ht1) (by omega)
                  · have hEr : E r = none := by
                      cases hx : E r with
                      | none => rfl
                      | some e => have := (v.lst r hrl).2 (.inr (by rw [hx]; rfl)); rw [hLr] at this; cases this
                    have hAr : A.getD r false = false := by
                      cases hx : A.getD r false with
                      | false => rfl
                      | true => have := (v.lst r hrl).2 (.inl hx); rw [hLr] at this; cases this
                    have hrn : r ∈ ns := by
                      refine Classical.byContradiction fun hnot => ?_
                      have hmem : r ∈ Region.ready .any ops.toArray (setAll A ns) := by
                        refine (rdy (by rw [setAll_size]; exact v.sa)).2 ⟨hrl, ?_, orr, hor, fun e he hb => ?_⟩
                        · cases hx : (setAll A ns).getD r false with
                          | false => rfl
                          | true =>
                            rcases (setAll_get fun n hm => lt_of_ready v.sa (hnsr n hm).1).1 hx with h | h
                            · exact absurd h hnot
                            · rw [hAr] at h; cases h
                        · refine (setAll_get fun n hm => lt_of_ready v.sa (hnsr n hm).1).2 ?_
                          have h5 := hafter e he hb
                          have hlt : e.on < ops.length := by
                            rw [← v.sl]
                            rcases Nat.lt_or_ge e.on L.size with h | h
                            · exact h
                            · simp [Array.getElem?_eq_none h] at h5
                          rcases (v.lst e.on hlt).1 h5 with h | h
                          · exact .inr h
                          · refine .inl ?_
                            cases hx : E e.on with
                            | none => rw [hx] at h; cases h
                            | some e' => exact hin e.on (v.er e.on e' hx).1 fun hx2 => by rw [hx2, hEc] at hx; cases hx
                      exact hrc (Nat.eq_of_beq_eq_true (List.all_eq_true.1 hok2 r hmem))
                    obtain ⟨o, d, k5, k6, k7, k8, k11⟩ := newOk_spec v.sa (hnew r hrn)
                    rw [hor] at k5; cases k5
                    obtain ⟨hdN, K2, hK2⟩ := htst r hrn orr hor
                    obtain ⟨cb, l, mk, cs, vb, T, g1, _, g2, _, g3, g4⟩ := newD_spec (x := ⟨false, false⟩) (ty := orr.type) v.rn hK2
                    have hda : dvAct P ⟨false, false⟩ N ops r R t h (fun R1 t1 h1 => R1 = dropR ops r R ∧ t1 = upd t d (vb h.size) ∧ h1 = h.push (.cells cs.toArray T)) := by
                      unfold dvAct guarded
                      simp only [hor, k7, k6]
                      refine g3 h _ fun b h1 hb hh => ?_
                      unfold put
                      rw [k8]
                      dsimp only
                      rw [hdN d k8]
                      exact ⟨trivial, by rw [hb], hh⟩
                    refine wpG_act hQ hor hr hw v.st hda fc fun t1 v1 w1 ⟨_, x2, x3⟩ hr1 hs1 hst1 ht1 => ?_
                    have hWs : W' h.size = none := hHR.none_of
                    have hbn : ∀ n e, E n = some e → e.b ≠ h.size := fun n e he hb => by
                      have := hWE n e he
                      rw [hb, hWs] at this; cases this
                    have hrd : r ∈ Region.ready .any ops.toArray A := (hnsr r hrn).1
                    let E2 : Nat → Option Erl := fun n => if n = r then some ⟨cb, l, mk, cs, vb, T, h.size⟩ else E n
                    have hE2 : ∀ n e, E2 n = some e → (n = r ∧ e = ⟨cb, l, mk, cs, vb, T, h.size⟩) ∨ (n ≠ r ∧ E n = some e) := fun n e he => by
                      have he : (if n = r then some ⟨cb, l, mk, cs, vb, T, h.size⟩ else E n) = some e := he
                      by_cases hnr : n = r
                      · rw [if_pos hnr] at he; cases he; exact .inl ⟨hnr, rfl⟩
                      · rw [if_neg hnr] at he; exact .inr ⟨hnr, he⟩
                    refine ihc w1.heap t1 (L.setIfInBounds r true) (dropR ops r R) E2 _ w1 ⟨v.sa, by simp [v.sl], v.da, v.dl.set hrL, fun j hj => ?_, ⟨_, ?_, by rw [x3]; exact hHR.pushW _, fun n e he => ?_⟩, fun n e he => ?_, fun n1 n2 e1 e2 he1 he2 hne => ?_, fun m => ?_, fun e he => v.rt e (dropR_mem he), hst1, set_listed fun e he => v.rl e (dropR_mem he), fun n e he => ?_⟩ (by show (if c = r then _ else E c) = none; rw [if_neg (Ne.symm hrc)]; exact hEc) rfl hr1 (hs.trans hs1) (agR hor ha ht1) (by omega)
                    · rw [set_get (by rw [v.sl]; exact hrl), v.lst j hj]
                      show _ ↔ _ ∨ (if j = r then _ else E j).isSome = true
                      by_cases hjr : j = r
                      · subst hjr; simp
                      · simp [hjr]
                    · intro b x hx
                      show (if b = h.size then _ else W' b) = some x
                      rw [if_neg (fun hb => by rw [hb] at hx; rw [hW _ _ hx] at hWs; cases hWs)]
                      exact hW b x hx
                    · rcases hE2 n e he with ⟨_, rfl⟩ | ⟨_, he⟩
                      · show (if h.size = h.size then _ else _) = _
                        rw [if_pos rfl]
                      · show (if e.b = h.size then _ else W' e.b) = _
                        rw [if_neg (hbn n e he)]
                        exact hWE n e he
                    · rcases hE2 n e he with ⟨_, rfl⟩ | ⟨_, he⟩
                      · show W h.size = none
                        cases hx : W h.size with
                        | none => rfl
                        | some x => rw [hW _ _ hx] at hWs; cases hWs
                      · exact v.wn n e he
                    · rcases hE2 n1 e1 he1 with ⟨h1, rfl⟩ | ⟨h1, he1⟩
                      · rcases hE2 n2 e2 he2 with ⟨h2, rfl⟩ | ⟨h2, he2⟩
                        · exact absurd (h1.trans h2.symm) hne
                        · exact Ne.symm (hbn n2 e2 he2)
                      · rcases hE2 n2 e2 he2 with ⟨h2, rfl⟩ | ⟨h2, he2⟩
                        · exact hbn n1 e1 he1
                        · exact v.inj n1 n2 e1 e2 he1 he2 hne
                    · by_cases hmd : m = d
                      · subst hmd
                        rw [hu1 r hrn orr m hor k8]; trivial
                      · rw [ht1 m (fun hx => hmd (by rw [k8] at hx; cases hx; rfl))]
                        exact v.rn m
                    · rcases hE2 n e he with ⟨rfl, rfl⟩ | ⟨hnr, he⟩
                      · refine ⟨hrd, fun r' hr' => dropR_wait hr', g1, g4, orr, d, hor, k6, k7, k8, hu1 n hrn orr d hor k8, ?_, k11, fun k' => g2 k'⟩
                        rw [x2]
                        unfold upd
                        simp
                      · obtain ⟨j1, j2, j3, j4, o2, d2, j5, j6, j7, j8, j9, j10, j11, j12⟩ := v.er n e he
                        have hfx2 := j11.2 r orr hor (Ne.symm hnr) hAr d k8
                        refine ⟨j1, fun r' hr' => j2 r' (dropR_mem hr'), j3, j4, o2, d2, j5, j6, j7, j8, j9, ?_, j11, j12⟩
                        rw [ht1 d2 (fun hx => by rw [k8] at hx; cases hx; exact hfx2.1 rfl)]
                        exact j10
              exact inner fc h t L R E a w hv1 hEc hw hr hs ha hu
          · have hall := allO_spec hβ he
            by_cases hex : ∃ n e, E n = some e
            · obtain ⟨n, e, hEn⟩ := hex
              have hnm := (v.er n e hEn).1
              obtain ⟨φ1, H1, σ2, o, k5, hd2, q1, q2, v2⟩ := v.late hnm hEn (hall n hnm)
              exact ih φ1 H1 h σ2 t _ L _ R _ a w fc hd2 v2 hw hr (hl.trans q1) (agD k5 hag q2) hs ha hu
            · have hE : ∀ n, E n = none := fun n => by
                cases hx : E n with
                | none => rfl
                | some e => exact absurd ⟨n, e, hx⟩ hex
              have hcL := v.readyL hcm (hE c)
              obtain ⟨fc', rfl⟩ : ∃ fc', fc = fc' + 1 := by
                obtain ⟨hil, hLi, _⟩ := (rdy v.sl).1 hcL
                have := unl_set (L := L) (i := c) (by rw [v.sl]; exact hil) hLi
                exact ⟨fc - 1, by omega⟩
              refine ⟨fun hre => (by rw [hre] at hcL; cases hcL), fun r hrL => ?_⟩
              obtain ⟨hrl, hLr, orr, hor, hafter⟩ := (rdy v.sl).1 hrL
              have hus := unl_set (L := L) (i := r) (by rw [v.sl]; exact hrl) hLr
              obtain ⟨W', hW, hHR, hWE⟩ := v.hr
              have hrA : r ∈ Region.ready .any ops.toArray A := by
                have hAr : A.getD r false = false := by
                  cases hx : A.getD r false with
                  | false => rfl
                  | true => have := (v.lst r hrl).2 (.inl hx); rw [hLr] at this; cases this
                refine (rdy v.sa).2 ⟨hrl, hAr, orr, hor, fun e he hb => ?_⟩
                have h5 := hafter e he hb
                have hlt : e.on < ops.length := by
                  rw [← v.sl]
                  rcases Nat.lt_or_ge e.on L.size with h | h
                  · exact h
                  · simp [Array.getElem?_eq_none h] at h5
                rcases (v.lst e.on hlt).1 h5 with h | h
                · exact h
                · rw [hE] at h; cases h
              have hda := actD_sound (R := R) (C := fun R1 t1 h1 => ∃ φ1 σ2 H1, φ.le φ1 ∧ HR W' ads φ1 H1 h1 ∧ RN ads φ1 σ2 t1 ∧ (∀ o, ops[r]? = some o → ∀ n, o.dst ≠ some n → σ2 n = σ n) ∧ ddv qv P D N ops f (dropD ops r R') (A.setIfInBounds r true) σ2 H1 kk = some out) s hW hok hD hHR v.rn v.rt (hall r hrA)
                fun φ1 σ2 t1 H1 h1 x1 x2 x3 x4 x5 => ⟨φ1, σ2, H1, x1, x2, x3, x4, x5⟩
              refine wpG_act hQ hor hr hw v.st hda fc' fun t1 v1 w1 ⟨φ1, σ2, H1, x1, x2, x3, x4, x5⟩ hr1 hs1 hst1 ht1 => ?_
              refine ih φ1 H1 w1.heap σ2 t1 _ _ _ _ E _ w1 fc' x5 (v.step hrA (hE r) x1 ⟨W', hW, x2, hWE⟩ x3 ((v.rt.drop (j := r)).mono x1) hst1 (set_listed fun e he => v.rl e (dropR_mem he)) (fun e he => .inl (dropR_mem he)) x4 fun o' ho' => by rw [hor] at ho'; cases ho'; exact ht1) rfl hr1 (hl.trans x1) (agD hor hag (x4 orr hor)) (hs.trans hs1) (agR hor ha ht1) (by omega)
        · cases he
theorem ddraw_ok {qv : β → β → Bool} (hβ : ∀ a b : β, qv a b = true → a = b) (hok : ptrOk P errT = true) (hD : SndA P ads D) : DrwOk P N ads (ddraw qv P D N) := by
  intro W id ops φ σ τ H h kk KK out s hr hn e hk a w Q hrel hw hQ hfin
  unfold ddraw at e
  split at e
  · rename_i hm hs
    refine wp_region_any hm (wpAny_of_wpG (wt := waitsB ops) _ (Tof P []) _ a _ ?_)
    have hrep : ∀ j, (Array.replicate ops.length false).getD j false = false := fun j => by
      simp [Array.getElem?_replicate]
      split <;> rfl
    have := ddv_sound hβ (Q := Q) (w0 := w) (t0 := τ) s hok hD hs hQ hk hfin ops.length φ H h σ τ (Array.replicate ops.length false) (Array.replicate ops.length false) [] [] (fun _ => none) a { w with drawn := w.drawn + 1 } ops.length e
      ⟨by simp, by simp, DC.none, DC.none, fun j hj => by simp, ⟨W, fun _ _ h => h, hr, fun n e he => by cases he⟩, fun n e he => (by cases he), fun n m e f he => (by cases he), hn, fun e he => (by cases he), fun e he => (by cases he), fun e he => (by cases he), fun n e he => (by cases he)⟩
      hw hrel (Phi.le.refl _) (AgD.refl _ _) ⟨rfl, rfl, rfl, Nat.le_succ _⟩ (Agr.refl _ _) (by unfold unl; simp)
    simpa using this
  · cases e
end
end Go.Ab
