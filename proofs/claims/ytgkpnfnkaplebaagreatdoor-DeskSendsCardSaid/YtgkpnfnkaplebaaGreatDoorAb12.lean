/- The abstract machine: regions whose order is open are treated soundly. -/
import Derived.Test.YtgkpnfnkaplebaaGreatDoorAb11
set_option linter.unusedVariables false
set_option linter.unusedSimpArgs false
set_option linter.constructorNameAsVariable false
namespace Go.Ab
open Go.Vc Go.Proofs.YtgkpnfnkaplebaaGreatDoor
section
variable {W : Wd} {ads : List Addr} {φ φ' : Phi} {H H' : AH} {h h' : Heap} {β : Type} {out : β} {P : Program} {D : List (Nat × G β)} {N : Nat} {σ σ' : Nat → DV} {τ τ' : Env} {ops : List Oper}
theorem apeq_eq {a b : AP} (h : apeq a b = true) : a = b := by
  unfold apeq at h
  split at h
  · rfl
  · obtain ⟨h1, h2⟩ := band_eq h; rw [peq_eq h1, beq_true h2]
  · rw [beq_true h]
  · cases h
theorem aseq_eq {a b : AS} (h : aseq a b = true) : a = b := by
  unfold aseq at h
  split at h
  · rfl
  · obtain ⟨h1, h⟩ := band_eq h
    obtain ⟨h2, h⟩ := band_eq h
    obtain ⟨h3, h4⟩ := band_eq h
    rw [peq_eq h1, beq_true h2, beq_true h3, beq_true h4]
  · obtain ⟨h1, h⟩ := band_eq h
    obtain ⟨h2, h⟩ := band_eq h
    obtain ⟨h3, h⟩ := band_eq h
    obtain ⟨h4, h5⟩ := band_eq h
    rw [peq_eq h1, beq_true h2, beq_true h3, beq_true h4, beq_true h5]
  · obtain ⟨h1, h⟩ := band_eq h
    obtain ⟨h2, h⟩ := band_eq h
    obtain ⟨h3, h⟩ := band_eq h
    obtain ⟨h4, h5⟩ := band_eq h
    rw [peq_eq h1, beq_true h2, beq_true h3, beq_true h4, beq_true h5]
  · cases h
theorem aveq_eq {a b : AV} (h : aveq a b = true) : a = b := by
  unfold aveq at h
  split at h
  · obtain ⟨h1, h2⟩ := band_eq h
    rw [ieq_eq] at h2
    rw [kqR_spec h1, of_decide_eq_true h2]
  · rename_i s t
    rw [beqb_eq] at h
    rw [beq_iff_eq.1 h]
  · rw [apeq_eq h]
  · rw [aseq_eq h]
  · rfl
  · rw [beq_true h]
  · rfl
  · rw [apeq_eq h]
  · rw [leqI_eq] at h; rw [of_decide_eq_true h]
  · cases h
theorem aleq_eq : ∀ {a b : List AV}, aleq a b = true → a = b
  | [], [], _ => rfl
  | [], _ :: _, h => by cases h
  | _ :: _, [], h => by cases h
  | a :: r, b :: s, h => by
    obtain ⟨h1, h2⟩ := band_eq (show band (aveq a b) (aleq r s) = true from h)
    rw [aveq_eq h1, aleq_eq h2]
theorem RP.un {p : AP} {a b : Option Addr} (h : RP φ p a) (k : RP φ p b) : a = b := by
  cases p with
  | nil => rw [show a = none from h, show b = none from k]
  | «at» p o => obtain ⟨l, h1, rfl⟩ := h; obtain ⟨l', h2, rfl⟩ := k; rw [h1] at h2; cases h2; rfl
  | gl g => rw [show a = _ from h, show b = _ from k]
theorem RS.un {s : AS} {a b : Option Addr} {l c l' c' : Nat} (h : RS φ s a l c) (k : RS φ s b l' c') : a = b ∧ l = l' ∧ c = c' := by
  cases s with
  | nil => obtain ⟨rfl, rfl, rfl⟩ := h; obtain ⟨rfl, rfl, rfl⟩ := k; exact ⟨rfl, rfl, rfl⟩
  | sl p o n m => obtain ⟨L, h1, rfl, rfl, rfl⟩ := h; obtain ⟨L', h2, rfl, rfl, rfl⟩ := k; rw [h1] at h2; cases h2; exact ⟨rfl, rfl, rfl⟩
  | su p o e n b => obtain ⟨L, h1, rfl, rfl, rfl, _⟩ := h; obtain ⟨L', h2, rfl, rfl, rfl, _⟩ := k; rw [h1] at h2; cases h2; exact ⟨rfl, rfl, rfl⟩
  | se p o e n z => obtain ⟨L, h1, _, rfl, rfl, rfl⟩ := h; obtain ⟨L', h2, _, rfl, rfl, rfl⟩ := k; rw [h1] at h2; cases h2; exact ⟨rfl, rfl, rfl⟩
theorem RM.un {a : AP} {m n : Option Nat} (h : RM φ a m) (k : RM φ a n) : m = n := by
  cases a with
  | nil => rw [show m = none from h, show n = none from k]
  | «at» p o => obtain ⟨l, h1, rfl⟩ := h; obtain ⟨l', h2, rfl⟩ := k; rw [h1] at h2; cases h2; rfl
  | gl g => exact absurd h id
theorem RPs.un : ∀ {l : List AP} {vs ws : List Value}, RPs φ l vs → RPs φ l ws → vs = ws
  | [], _, _, h, k => by rw [show _ = [] from h, show _ = [] from k]
  | p :: r, _, _, ⟨a, vr, rfl, h1, h2⟩, ⟨b, wr, rfl, k1, k2⟩ => by rw [h1.un k1, h2.un k2]
theorem RV.un {v : AV} {w w' : Value} (h : RV ads φ v w) (k : RV ads φ v w') : w = w' := by
  induction h generalizing w' with
  | i k n => cases k; rfl
  | b t => cases k; rfl
  | p h => cases k with | p k => rw [h.un k]
  | s h => cases k with | s k => obtain ⟨rfl, rfl, rfl⟩ := h.un k; rfl
  | ni => cases k; rfl
  | er h => cases k with | er k => rw [h] at k; cases k; rfl
  | ifc _ ih => cases k with | ifc k => rw [ih k]
  | fn h => cases k with | fn k => rw [h.un k]
  | nf => cases k; rfl
  | g h => cases k; rfl
  | y h => cases k; rfl
  | mp h => cases k with | mp k => rw [h.un k]
  | bm h => cases k with | bm k => rw [h.un k]
theorem RL.un : ∀ {l : List AV} {vs ws : List Value}, RL ads φ l vs → RL ads φ l ws → vs = ws
  | [], _, _, h, k => by rw [show _ = [] from h, show _ = [] from k]
  | p :: r, _, _, ⟨a, vr, rfl, h1, h2⟩, ⟨b, wr, rfl, k1, k2⟩ => by rw [h1.un k1, h2.un k2]
/-- A load that was taken, and what stands for it. -/
def relT (P : Program) (W : Wd) (ads : List Addr) (φ : Phi) (ê : TkD) (e : Took) : Prop := match ê with
  | .g i => e.i = i ∧ e.o = 0 ∧ (∃ ms, P.underlying e.t = some (.interface ms)) ∧ wcell W e.b 0 = some e.v
  | .m i t p o d => e.i = i ∧ e.t = t ∧ ∃ l, φ p = some l ∧ e.b = l.b ∧ e.o = l.δ + o ∧ RD ads φ d e.v
theorem relT.mono {ê : TkD} {e : Took} (hl : φ.le φ') (h : relT P W ads φ ê e) : relT P W ads φ' ê e := by
  cases ê with
  | g i => exact h
  | m i t p o d => obtain ⟨h1, h2, l, h3, h4, h5, h6⟩ := h; exact ⟨h1, h2, l, hl _ _ h3, h4, h5, h6.mono hl⟩
theorem relT.ix {ê : TkD} {e : Took} (h : relT P W ads φ ê e) : e.i = ê.ix := by cases ê <;> exact h.1
theorem HR.cellW (hr : HR W ads φ H h) {b o : Nat} {v : Value} (hw : wcell W b o = some v) : cell h b o = some v := by
  unfold wcell at hw
  unfold cell
  split at hw
  · rename_i hb; rw [hr.w _ _ hb]; exact hw
  · cases hw
theorem stillD_spec {W' : Wd} {ê : TkD} {e : Took} {K : Option β} (hle : W.le W') (hr : HR W' ads φ H h) (ht : relT P W ads φ ê e) (he : stillD P H ê K = some out) : still P e h ∧ K = some out := by
  cases ê with
  | g i =>
    obtain ⟨_, h1, ⟨ms, h2⟩, h3⟩ := ht
    refine ⟨?_, he⟩
    unfold still
    simp only [h2]
    rw [h1]
    exact hr.cellW (wcell_le hle h3)
  | m i t p o d =>
    obtain ⟨_, rfl, l, h3, h4, h5, h6⟩ := ht
    dsimp only [stillD] at he
    unfold still
    split at he
    · rename_i fs hu
      obtain ⟨L, ws, rfl, hv, hL, he⟩ := onL_spec h6 he
      obtain ⟨L', ws', k1, k2, he⟩ := rdR_spec hr h3 he
      obtain ⟨k3, he⟩ := must_spec he
      rw [aleq_eq k3] at hL
      rw [hu, hv, h4]
      refine ⟨?_, he⟩
      show row h l.b e.o _ = some _
      rw [k2 _ h5, k1.un hL]
    · rename_i n el hu
      obtain ⟨L, ws, rfl, hv, hL, he⟩ := onL_spec h6 he
      obtain ⟨L', ws', k1, k2, he⟩ := rdR_spec hr h3 he
      obtain ⟨k3, he⟩ := must_spec he
      rw [aleq_eq k3] at hL
      rw [hu, hv, h4]
      refine ⟨?_, he⟩
      show row h l.b e.o _ = some _
      rw [k2 _ h5, k1.un hL]
    · rename_i ty hns hna hu
      obtain ⟨v, rfl, hv, he⟩ := onV_spec h6 he
      obtain ⟨v', w', k1, k2, he⟩ := rdK_spec hr h3 he
      obtain ⟨k3, he⟩ := must_spec he
      rw [aveq_eq k3] at hv
      have hc : cell h e.b e.o = some e.v := by rw [h4, k2 _ h5, k1.un hv]
      refine ⟨?_, he⟩
      rw [hu]
      cases ty <;> first | exact (hns _ rfl).elim | exact (hna _ _ rfl).elim | exact hc
    · cases he
/-- What was taken, each with what stands for it. -/
def RTk (P : Program) (W : Wd) (ads : List Addr) (φ : Phi) (R' : List TkD) (R : List Took) : Prop := ∀ e ∈ R, ∃ ê ∈ R', relT P W ads φ ê e
theorem RTk.mono {R' : List TkD} {R : List Took} (hl : φ.le φ') (h : RTk P W ads φ R' R) : RTk P W ads φ' R' R := fun e he => by
  obtain ⟨ê, h1, h2⟩ := h e he; exact ⟨ê, h1, h2.mono hl⟩
theorem dropD_mem {j : Nat} : ∀ {R : List TkD} {e : TkD}, e ∈ R → waitsB ops j e.ix = false → e ∈ dropD ops j R
  | e' :: r, e, he, hw => by
    unfold dropD
    cases he with
    | head => rw [hw]; exact List.mem_cons_self
    | tail _ he =>
      split
      · exact dropD_mem he hw
      · exact List.mem_cons_of_mem _ (dropD_mem he hw)
theorem dropR_wait {j : Nat} : ∀ {R : List Took} {e : Took}, e ∈ dropR ops j R → waitsB ops j e.i = false
  | e' :: r, e, he => by
    unfold dropR at he
    split at he
    · exact dropR_wait he
    · rename_i hw
      cases he with
      | head => exact hw
      | tail _ he => exact dropR_wait he
theorem RTk.drop {j : Nat} {R' : List TkD} {R : List Took} (h : RTk P W ads φ R' R) : RTk P W ads φ (dropD ops j R') (dropR ops j R) := fun e he => by
  obtain ⟨ê, h1, h2⟩ := h e (dropR_mem he)
  exact ⟨ê, dropD_mem h1 (by rw [← h2.ix]; exact dropR_wait he), h2⟩
theorem frcV_out {v : AV} {K : AV → Option β} (e : frcV v K = some out) : K v = some out := by cases v <;> first | exact e | cases e
theorem rdK_out {p : P4} {o : Nat} {K : AV → Option β} (e : rdK H p o K = some out) : ∃ v, K v = some out := by
  obtain ⟨t, n, es, _, e⟩ := blkK_spec e
  obtain ⟨_, e⟩ := must_spec e
  exact ⟨_, frcV_out e⟩
theorem rowT_out {t : T4 AV} : ∀ {n : Nat} {q : P4} {K : List AV → Option β}, rowT t n q K = some out → ∃ l, K l = some out
  | 0, q, K, e => ⟨_, e⟩
  | n + 1, q, K, e => by
    have e1 := frcV_out (show frcV (T4.get .x q t) (fun v => q.succK fun q' => rowT t n q' fun l => K (v :: l)) = some out from e)
    rw [P4.succK_eq] at e1
    obtain ⟨l, e1⟩ := rowT_out e1
    exact ⟨_, e1⟩
theorem rdR_out {p : P4} {o n : Nat} {K : List AV → Option β} (e : rdR H p o n K = some out) : ∃ l, K l = some out := by
  obtain ⟨t, n, es, _, e⟩ := blkK_spec e
  obtain ⟨_, e⟩ := must_spec e
  exact rowT_out e
theorem stillD_out {ê : TkD} {X : Option β} (he : stillD P H ê X = some out) : X = some out := by
  cases ê with
  | g i => exact he
  | m i t p o d =>
    dsimp only [stillD] at he
    split at he
    · cases d <;> first | cases he | skip
      obtain ⟨l, he⟩ := rdR_out (show rdR H p o _ _ = some out from he)
      exact (must_spec he).2
    · cases d <;> first | cases he | skip
      obtain ⟨l, he⟩ := rdR_out (show rdR H p o _ _ = some out from he)
      exact (must_spec he).2
    · cases d <;> first | cases he | skip
      obtain ⟨l, he⟩ := rdK_out (show rdK H p o _ = some out from he)
      exact (must_spec he).2
    · cases he
theorem stillsD_spec {W' : Wd} {K : Option β} (hle : W.le W') (hr : HR W' ads φ H h) : ∀ {R' : List TkD}, stillsD P H K R' = some out → K = some out ∧ ∀ ê ∈ R', ∀ e, relT P W ads φ ê e → still P e h
  | [], he => ⟨he, fun ê hê => by cases hê⟩
  | e' :: r, he => by
    have h1 := stillD_out he
    obtain ⟨h2, h3⟩ := stillsD_spec hle hr h1
    refine ⟨h2, fun ê hê e hrel => ?_⟩
    cases hê with
    | head => exact (stillD_spec hle hr hrel he).1
    | tail _ hê => exact h3 ê hê e hrel
theorem stillAll_of {X : Prop} (hX : X) : ∀ {R : List Took}, (∀ e ∈ R, still P e h) → stillAll P h X R
  | [], _ => hX
  | e :: r, hs => ⟨hs e List.mem_cons_self, stillAll_of hX fun e he => hs e (List.mem_cons_of_mem _ he)⟩
theorem updD_same {d : Nat} {v : DV} (h : σ d = v) : updD σ d v = σ := funext fun n => by
  unfold updD
  cases hb : Nat.beq n d
  · rfl
  · rw [beq_true hb]; exact h.symm
theorem grdS_sound {g : Option (Nat × Bool)} {run skip : (Nat → DV) → Option β} {RUN SKIP : Env → Prop} (hn : RN ads φ σ τ) (e : grdS ops g σ run skip = some out) (hr : run σ = some out → RUN τ) (hs : skip σ = some out → SKIP τ) : guarded ops g τ RUN SKIP := by
  unfold grdS at e
  unfold guarded
  split at e
  · exact hr e
  · rename_i j want
    dsimp only
    split at e
    · rename_i oj hj
      simp only [hj]
      split at e
      · rename_i d hd
        simp only [hd]
        have hgn := hn d
        cases hx : σ d with
        | u => rw [hx] at e; cases e
        | v a =>
          rw [hx] at e hgn
          have hv : RV ads φ a (τ d) := hgn
          obtain ⟨b, rfl, hb, e⟩ := isB_spec hv (show isB a _ = some out from e)
          have u1 : ∀ c, b = c → updD σ d (.v (.b c)) = σ := fun c hc => updD_same (by rw [hx, hc])
          have u2 : ∀ c, b = c → Vc.upd τ d (.bool c) = τ := fun c hc => funext (upd_same (by rw [hb, hc]))
          rw [hb]
          dsimp only
          cases want with
          | true =>
            dsimp only at e ⊢
            cases b with
            | true => rw [u1 true rfl] at e; show RUN _; rw [u2 true rfl]; exact hr e
            | false => rw [u1 false rfl] at e; show SKIP _; rw [u2 false rfl]; exact hs e
          | false =>
            dsimp only at e ⊢
            cases b with
            | true => rw [u1 true rfl] at e; show SKIP _; rw [u2 true rfl]; exact hs e
            | false => rw [u1 false rfl] at e; show RUN _; rw [u2 false rfl]; exact hr e
        | a l => rw [hx] at e; cases e
        | n =>
          rw [hx] at e hgn
          have hv : τ d = .tuple #[] := hgn
          rw [hv]
          exact hs e
        | c x r => rw [hx] at e; cases e
      · rename_i hd
        simp only [hd]
        exact hs e
    · rename_i hj
      simp only [hj]
      exact hs e
theorem readD_sound {W' : Wd} {i : Nat} {R' : List TkD} {R : List Took} {kk : List TkD → (Nat → DV) → Option β} {C : List Took → Env → Prop} (s : Sna W ads) (hle : W.le W') (hok : ptrOk P errT = true) (hr : HR W' ads φ H h) (hn : RN ads φ σ τ) (hT : RTk P W ads φ R' R) (e : readD P N ops i R' σ H kk = some out)
    (hk : ∀ R1' R1 σ1 τ1, RTk P W ads φ R1' R1 → (∀ e ∈ R1, e ∈ R ∨ e.i = i) → RN ads φ σ1 τ1 → (∀ o, ops[i]? = some o → ∀ n, o.dst ≠ some n → σ1 n = σ n) → kk R1' σ1 = some out → C R1 τ1) : dvRead P ⟨false, false⟩ N ops i R τ h C := by
  unfold readD at e
  unfold dvRead
  split at e
  · rename_i o ho
    simp only [ho]
    have put1 : ∀ {d : DV} {v : Value} {R1' : List TkD} {R1 : List Took}, RTk P W ads φ R1' R1 → (∀ e ∈ R1, e ∈ R ∨ e.i = i) → RD ads φ d v → putO N σ o.dst d (fun σ' => kk R1' σ') = some out → put N τ o.dst v fun t' => C R1 t' := fun hT1 hi hd e =>
      putO_sound hn hd e fun σ1 τ1 hn1 ha e => hk _ _ σ1 τ1 hT1 hi hn1 (fun o' ho' => by rw [ho] at ho'; cases ho'; exact ha) e
    have more : ∀ {ê : TkD} {e : Took}, relT P W ads φ ê e → RTk P W ads φ (ê :: R') (e :: R) := fun hrel e he => by
      cases he with
      | head => exact ⟨_, List.mem_cons_self, hrel⟩
      | tail _ he => obtain ⟨ê, h1, h2⟩ := hT e he; exact ⟨ê, List.mem_cons_of_mem _ h1, h2⟩
    have moreI : ∀ {e0 : Took}, e0.i = i → ∀ e ∈ e0 :: R, e ∈ R ∨ e.i = i := fun h0 e he => by
      cases he with
      | head => exact .inr h0
      | tail _ he => exact .inl he
    refine grdS_sound hn e (fun e => ?_) (fun e => put1 hT (fun e he => .inl he) (show RD ads φ .n undef from rfl) e)
    split at e
    · rename_i ty a hop
      simp only [hop]
      split at e
      · rename_i g
        split at e
        · rename_i ix ms hg hu
          obtain ⟨a, h1, h2⟩ := hr.err (s.le hle) hg
          obtain ⟨m, q1, q2⟩ := gIx_spec hg
          have hm : m = ix := by omega
          subst hm
          have q3 : errG[m]? = some g := by
            unfold errA at q2
            rw [List.getElem?_take] at q2
            split at q2
            · exact q2
            · cases q2
          have h3 := s.v m a g h1 q3
          show ldv P ty h g 0 fun v => put N τ o.dst v fun t' => C (⟨i, ty, g, 0, v⟩ :: R) t'
          unfold ldv
          simp only [hu, one]
          exact ⟨_, h2, put1 (more (ê := .g i) ⟨rfl, rfl, ⟨ms, hu⟩, h3⟩) (moreI rfl) (RD.ofV (RV.er h1)) e⟩
        · cases e
      · rename_i a hng
        obtain ⟨x, hx0, hx, e⟩ := onV_spec (dev_rel hn _) e
        obtain ⟨q, pa, rfl, hv, hq, e⟩ := isP_spec hx e
        obtain ⟨b, o', L, rfl, h1, rfl, e⟩ := onA_spec hq e
        rw [hv]
        show ldv P ty h L.b (L.δ + o') fun v => put N τ o.dst v fun t' => C (⟨i, ty, L.b, L.δ + o', v⟩ :: R) t'
        exact ldD_sound hr h1 rfl e fun d v hd e => put1 (more (ê := .m i ty b o' d) ⟨rfl, rfl, L, h1, rfl, rfl, hd⟩) (moreI rfl) hd e
    · rename_i op hnl
      split at e
      · cases e
      · rename_i hnh
        have hfin := drd_rd (st := false) hr (s.le hle) hok hn e (K := fun v => put N τ o.dst v fun t' => C R t') (fun d v hd e => put1 hT (fun e he => .inl he) hd e) (.inl rfl) (.inl rfl)
        split
        · rename_i ty a hop; exact absurd hop (hnl ty a)
        · simp only [hnh]; exact hfin
  · cases e
theorem actD_sound {W' : Wd} {i : Nat} {R' : List TkD} {R : List Took} {kk : List TkD → (Nat → DV) → AH → Option β} {C : List Took → Env → Heap → Prop} (s : Sna W ads) (hle : W.le W') (hok : ptrOk P errT = true) (hD : SndA P ads D) (hr : HR W' ads φ H h) (hn : RN ads φ σ τ) (hT : RTk P W ads φ R' R) (e : actD P D N ops i R' σ H kk = some out)
    (hk : ∀ φ1 σ1 τ1 H1 h1, φ.le φ1 → HR W' ads φ1 H1 h1 → RN ads φ1 σ1 τ1 → (∀ o, ops[i]? = some o → ∀ n, o.dst ≠ some n → σ1 n = σ n) → kk (dropD ops i R') σ1 H1 = some out → C (dropR ops i R) τ1 h1) : dvAct P ⟨false, false⟩ N ops i R τ h C := by
  unfold actD at e
  unfold dvAct
  split at e
  · rename_i o ho
    simp only [ho]
    have put1 : ∀ {φ1 : Phi} {H1 : AH} {h1 : Heap} {d : DV} {v : Value}, φ.le φ1 → HR W' ads φ1 H1 h1 → RD ads φ1 d v → putO N σ o.dst d (fun σ' => kk (dropD ops i R') σ' H1) = some out → put N τ o.dst v fun t' => C (dropR ops i R) t' h1 := fun hl hr1 hd e =>
      putO_sound (hn.mono hl) hd e fun σ1 τ1 hn1 ha e => hk _ σ1 τ1 _ _ hl hr1 hn1 (fun o' ho' => by rw [ho] at ho'; cases ho'; exact ha) e
    refine grdS_sound hn e (fun e => ?_) (fun e => put1 (Phi.le.refl _) hr (show RD ads φ .n undef from rfl) e)
    split at e
    · rename_i hnew
      simp only [hnew]
      exact new_sound (k := fun d H' => putO N σ o.dst d fun σ' => kk (dropD ops i R') σ' H') hr hn e fun φ1 H1 h1 d v hl hr1 hd e => put1 hl hr1 hd e
    · rename_i hnew
      simp only [hnew]
      refine efD_sound (s.le hle) hD hr hn e fun φ1 H1 h1 d v hl hr1 hd e => ?_
      obtain ⟨e, h2⟩ := stillsD_spec (W := W) hle hr1 e
      refine stillAll_of (put1 hl hr1 hd e) fun e he => ?_
      obtain ⟨ê, h3, h4⟩ := (hT.drop (j := i)) e he
      exact h2 ê h3 e (h4.mono hl)
  · cases e
end
end Go.Ab
