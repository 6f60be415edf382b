/- The abstract machine: regions whose order is open. Reading operations are taken first; of the others one acts, and new memory that might as well have been made before is made as late as may be. -/
import Derived.Test.YtgkpnfnkaplebaaGreatDoorAb10
set_option linter.unusedVariables false
set_option linter.unusedSimpArgs false
set_option linter.constructorNameAsVariable false
namespace Go.Ab
open Go.Vc Go.Proofs.YtgkpnfnkaplebaaGreatDoor
/-- A load that was taken. -/
inductive TkD where
  | m (i : Nat) (t : TypeId) (p : P4) (o : Nat) (d : DV) | g (i : Nat)
def TkD.ix : TkD → Nat
  | .m i _ _ _ _ => i
  | .g i => i
noncomputable section
variable {β : Type}
def apeq (a b : AP) : Bool := match a, b with
  | .nil, .nil => true
  | .at p o, .at q o' => band (peq p q) (Nat.beq o o')
  | .gl i, .gl j => Nat.beq i j
  | _, _ => false
def aseq (a b : AS) : Bool := match a, b with
  | .nil, .nil => true
  | .sl p o l c, .sl p' o' l' c' => band (peq p p') (band (Nat.beq o o') (band (Nat.beq l l') (Nat.beq c c')))
  | .su p o l c z, .su p' o' l' c' z' => band (peq p p') (band (Nat.beq o o') (band (Nat.beq l l') (band (Nat.beq c c') (Nat.beq z z'))))
  | .se p o l c z, .se p' o' l' c' z' => band (peq p p') (band (Nat.beq o o') (band (Nat.beq l l') (band (Nat.beq c c') (Nat.beq z z'))))
  | _, _ => false
def aveq (a b : AV) : Bool := match a, b with
  | .i k m, .i k' n => band (kqR k k') (ieq m n)
  | .b s, .b t => beqb s t
  | .p a, .p b => apeq a b
  | .s a, .s b => aseq a b
  | .ni, .ni => true
  | .er i, .er j => Nat.beq i j
  | .nf, .nf => true
  | .mp x, .mp y => apeq x y
  | .g x, .g y => leqI x y
  | _, _ => false
def aleq : List AV → List AV → Bool
  | [], [] => true
  | a :: r, b :: s => band (aveq a b) (aleq r s)
  | _, _ => false
def stillD (P : Program) (H : AH) (e : TkD) (K : Option β) : Option β := match e with
  | .g _ => K
  | .m _ t p o d => match P.underlying t with
    | some (.struct _) | some (.array _ _) => onL d fun l => rdR H p o (sz P t) fun l' => must (aleq l l') K
    | some _ => onV d fun v => rdK H p o fun v' => must (aveq v v') K
    | none => none
def stillsD (P : Program) (H : AH) (K : Option β) : List TkD → Option β
  | [] => K
  | e :: r => stillD P H e (stillsD P H K r)
def dropD (ops : List Oper) (j : Nat) : List TkD → List TkD
  | [] => []
  | e :: r => match waitsB ops j e.ix with | true => dropD ops j r | false => e :: dropD ops j r
abbrev gdK (d : DV) (kb : Bool → Option β) (kn : Option β) : Option β := DV.rec (motive := fun _ => Option β) none (fun x => isB x kb) (fun _ => none) kn (fun _ _ _ _ => none) d
abbrev grdS (ops : List Oper) (g : Option (Nat × Bool)) (σ : Nat → DV) (run skip : (Nat → DV) → Option β) : Option β :=
  match g with
  | none => run σ
  | some (j, want) => match ops[j]? with
    | some oj => match oj.dst with
      | some d => gdK (σ d) (fun b => match want with
          | true => br b (run (updD σ d (.v (.b true)))) (skip (updD σ d (.v (.b false))))
          | false => br b (skip (updD σ d (.v (.b true)))) (run (updD σ d (.v (.b false))))) (skip σ)
      | none => skip σ
    | none => skip σ
def readD (P : Program) (N : Nat) (ops : List Oper) (i : Nat) (R : List TkD) (σ : Nat → DV) (H : AH) (K : List TkD → (Nat → DV) → Option β) : Option β :=
  match ops[i]? with
  | some o => grdS ops o.guard σ (fun σ => match o.op with
      | .load ty a => match a with
        | .global g => match gIx errA g 0, P.underlying ty with
          | some ix, some (.interface _) => putO N σ o.dst (.v (.er ix)) fun σ' => K (.g i :: R) σ'
          | _, _ => none
        | a => onV (dev σ a) fun x => isP x fun p => onA p fun b off => ldD P ty H b off fun d => putO N σ o.dst d fun σ' => K (.m i ty b off d :: R) σ'
      | op => match needsHeap op with
        | true => none
        | false => drd P false σ op o.type H fun d => putO N σ o.dst d fun σ' => K R σ')
      (fun σ => putO N σ o.dst .n fun σ' => K R σ')
  | none => none
def actD (P : Program) (D : List (Nat × G β)) (N : Nat) (ops : List Oper) (i : Nat) (R : List TkD) (σ : Nat → DV) (H : AH) (K : List TkD → (Nat → DV) → AH → Option β) : Option β :=
  match ops[i]? with
  | some o => grdS ops o.guard σ (fun σ => match isNew o.op with
      | true => newD P σ o.op fun c l mk => alN c H l fun p H' => putO N σ o.dst (mk p) fun σ' => K (dropD ops i R) σ' H'
      | false => efD P D σ o.op o.type H fun d H' => stillsD P H' (putO N σ o.dst d fun σ' => K (dropD ops i R) σ' H') (dropD ops i R))
      (fun σ => putO N σ o.dst .n fun σ' => K (dropD ops i R) σ' H)
  | none => none
end
def opTmp : Operand → List Nat
  | .tmp n => [n]
  | _ => []
def opTmps (op : Op) : List Nat := match op with
  | .box _ a => opTmp a
  | .buildSlice _ _ parts => parts.toList.flatMap fun x => opTmp x.2
  | .makeSlice _ l c => opTmp l ++ opTmp c
  | _ => []
/-- New memory that may be made early: nothing that is still to come meddles with it. -/
def newOk (ops : List Oper) (L : Array Bool) (n : Nat) : Bool := match ops[n]? with
  | some o => match isNew o.op, o.guard, o.dst with
    | true, none, some d => !(memB d (opTmps o.op)) && (List.range ops.length).all fun j => Nat.beq j n || L.getD j true || match ops[j]? with
      | some oj => match oj.dst with
        | some m => !(Nat.beq m d) && !(memB m (opTmps o.op))
        | none => true
      | none => true
    | _, _, _ => false
  | none => false
def setAll (L : Array Bool) : List Nat → Array Bool
  | [] => L
  | n :: r => setAll (L.setIfInBounds n true) r
def okN (ops : List Oper) (L : Array Bool) (c : Nat) (ns : List Nat) : Bool := ns.all (newOk ops L) && (Region.ready .any ops.toArray (setAll L ns)).all fun r => Nat.beq r c
def pickN (ops : List Oper) : List Nat → Option Nat
  | [] => none
  | i :: r => match ops[i]? with
    | some o => match isNew o.op with | false => some i | true => pickN ops r
    | none => pickN ops r
def pickC (ops : List Oper) (rs : List Nat) : Option Nat := match pickN ops rs with
  | some c => some c
  | none => rs.head?
def restN (c : Nat) (rs : List Nat) : List Nat := rs.filter fun i => !Nat.beq i c
noncomputable section
variable {β : Type}
def uN (ops : List Oper) : List Nat → (Nat → DV) → (Nat → DV)
  | [], σ => σ
  | n :: r, σ => match ops[n]? with
    | some o => match o.dst with
      | some d => uN ops r (updD σ d .u)
      | none => uN ops r σ
    | none => uN ops r σ
def tstN (P : Program) (N : Nat) (ops : List Oper) (σ : Nat → DV) (K : Option β) : List Nat → Option β
  | [] => K
  | n :: r => match ops[n]? with
    | some o => putO N σ o.dst .u fun _ => newD P σ o.op fun _ _ _ => tstN P N ops σ K r
    | none => none
/-- Both must come out. -/
def andK (qv : β → β → Bool) (a b : Option β) : Option β := Option.rec (motive := fun _ => Option β) none (fun x => Option.rec (motive := fun _ => Option β) none (fun y => br (qv x y) (some y) none) b) a
/-- Whichever of them comes first. -/
def allO (qv : β → β → Bool) (l : List Nat) (B : Nat → Option β) : Option β := match l with
  | [] => none
  | [i] => B i
  | i :: r => andK qv (B i) (allO qv r B)
def ddv (qv : β → β → Bool) (P : Program) (D : List (Nat × G β)) (N : Nat) (ops : List Oper) : Nat → List TkD → Array Bool → (Nat → DV) → AH → ((Nat → DV) → AH → Option β) → Option β
  | 0, R, L, σ, H, K => match Region.ready .any ops.toArray L with | [] => K σ H | _ => none
  | f + 1, R, L, σ, H, K => match Region.ready .any ops.toArray L with
    | [] => K σ H
    | rs => match pickR P ops L rs with
      | some i => readD P N ops i R σ H fun R' σ' => ddv qv P D N ops f R' (L.setIfInBounds i true) σ' H K
      | none => match pickC ops rs with
        | some c => match okN ops L c (restN c rs) with
          | true => tstN P N ops (uN ops (restN c rs) σ) (actD P D N ops c R (uN ops (restN c rs) σ) H fun R' σ' H' => ddv qv P D N ops f R' (L.setIfInBounds c true) σ' H' K) (restN c rs)
          | false => allO qv (Region.ready .any ops.toArray L) fun c => actD P D N ops c R σ H fun R' σ' H' => ddv qv P D N ops f R' (L.setIfInBounds c true) σ' H' K
        | none => none
def ddraw (qv : β → β → Bool) (P : Program) (D : List (Nat × G β)) (N : Nat) : Drw β := fun id ops σ H K =>
  match P.follows .mixedOrders, Region.noSelect ops.toArray with
  | true, true => ddv qv P D N ops ops.length [] (Array.replicate ops.length false) σ H K
  | _, _ => none
end
/-! ### Steps of the real code -/
section
variable {P : Program} {x : Md} {N : Nat} {ops : List Oper} {Q : Exit → Act → World → Prop} {R : List Took} {L : Array Bool} {t : Env} {h : Heap} {a : Act} {w : World} {i : Nat} {o : Oper}
theorem set_listed {R' : List Took} (hL : ∀ e ∈ R', L[e.i]? = some true) : ∀ e ∈ R', (L.setIfInBounds i true)[e.i]? = some true := fun e he => by
  rw [Array.getElem?_setIfInBounds]
  split
  · rename_i hie
    have := hL e he
    rw [← hie] at this
    have hlt := (Array.getElem?_eq_some_iff.1 this).1
    simp [hlt]
  · exact hL e he
theorem ready_un (hmem : i ∈ Region.ready .any ops.toArray L) : L[i]? = some false := by
  have h0 := (mem_ready.1 hmem).1
  rcases Nat.lt_or_ge i L.size with h' | h'
  · simp [h'] at h0 ⊢; exact h0
  · simp [Array.getElem?_eq_none h'] at h0
theorem wpG_read (hsel : Region.noSelect ops.toArray = true) (hQ : ∀ c a w, ¬ Q (.panic c) a w) (ho : ops[i]? = some o) (hdc : DC ops.toArray L) (hmem : i ∈ Region.ready .any ops.toArray L)
    (hfree : ∀ (j : Nat) (oj : Oper), ops.toArray[j]? = some oj → j ≠ i → L.getD j true = false → (∀ e ∈ oj.after, Region.binds .any e = true → e.on ≠ i) → o.apart ops.toArray oj = true)
    (hr : Rel N t a) (hw : w.heap = h) (hR : ∀ e ∈ R, still P e h) (hL : ∀ e ∈ R, L[e.i]? = some true) {C : List Took → Env → Prop} (hv : dvRead P x N ops i R t h C) (f : Nat)
    (K : ∀ R' t' a', C R' t' → Rel N t' a' → (∀ e ∈ R', still P e h) → (∀ e ∈ R', (L.setIfInBounds i true)[e.i]? = some true) → (∀ n, o.dst ≠ some n → t' n = t n) → wpG P ops.toArray (waitsB ops) Q f (Tof P R') (L.setIfInBounds i true) a' w) :
    wpG P ops.toArray (waitsB ops) Q (f + 1) (Tof P R) L a w := by
  have hoa : ops.toArray[i]? = some o := by simpa using ho
  have hun := ready_un hmem
  have hilt := (Array.getElem?_eq_some_iff.1 hun).1
  unfold dvRead at hv
  simp only [ho] at hv
  obtain ⟨t1, e1, hr1, hc⟩ := guarded_sound hr hv
  have hTi : ∀ w : World, Tof P R i w := fun w e he hk => by
    have := hL e he
    rw [hk, hun] at this; cases this
  have go : ∀ v (R' : List Took) (Ti : World → Prop), YieldsIf P ops.toArray Ti o v a → Ti w → (∀ e ∈ R', still P e h) → (∀ e ∈ R', (L.setIfInBounds i true)[e.i]? = some true) →
      (∀ k w, Tof P R' k w → if k = i then Ti w else Tof P R k w) →
      put N t1 o.dst v (fun t' => C R' t') →
      wpG P ops.toArray (waitsB ops) Q (f + 1) (Tof P R) L a w := by
    intro v R' Ti hy hti hR' hL' hTT hput
    obtain ⟨t2, h3, h4, h5⟩ := put_sound hr1 hput
    refine wpG_first hoa (Region.noSelect_spec hsel) (fun L j hd hj hl => waitsB_spec hd hj hl) (fun c a w hq => absurd hq (hQ c _ w)) f (Tof P R) L a w
      hfree hdc hmem hy hti (fun k e he hk => by rw [hw]; exact hR e he) hTi ?_
    refine wpG_mono _ (Tof P R') _ _ _ _ (fun k w' hk => ?_) (K R' t2 _ h3 h4 hR' hL' fun n hm => (h5 n hm).trans (e1 n))
    have := hTT k w' hk
    by_cases hki : k = i
    · simp only [hki, if_true] at this ⊢; exact this
    · simp only [hki, if_false] at this ⊢; exact this
  rcases hc with ⟨hw1, hc⟩ | ⟨hw1, hc⟩
  · rw [← hr1.eval] at hc
    split at hc
    · rename_i ty ad hop
      obtain ⟨b, off, hp', h1⟩ := onPtr_spec hc
      obtain ⟨v, h2, h3⟩ := ldv_still (P := P) h1
      refine go v (⟨i, ty, b, off, v⟩ :: R) (fun w => still P ⟨i, ty, b, off, v⟩ w.heap) (.inl ⟨hw1, fun w' hs => ?_⟩) (by rw [hw]; exact (h3 i).1) ?_ ?_ ?_ h2
      · have := (h3 i).2 w' hs
        rw [execOp, hop]
        simp [hp', this]
      · intro e he
        cases he with
        | head => exact (h3 i).1
        | tail _ he => exact hR e he
      · intro e he
        cases he with
        | head => simp [hilt]
        | tail _ he => exact set_listed hL e he
      · intro k w' hk
        split
        · rename_i hki; exact hk _ (by simp) hki.symm
        · exact fun e he hke => hk e (by simp [he]) hke
    · split at hc
      · exact hc.elim
      · rename_i hnh
        obtain ⟨v, h1, h2⟩ := rd_sound_pure (P := P) (o := o) hnh hc
        refine go v R (fun _ => True) (.inl ⟨hw1, fun w' _ => h2 w'⟩) trivial hR (set_listed hL) (fun k w' hk => ?_) h1
        split
        · trivial
        · exact hk
  · refine go undef R (fun _ => True) (.inr ⟨hw1, rfl⟩) trivial hR (set_listed hL) (fun k w' hk => ?_) hc
    split
    · trivial
    · exact hk
theorem wpG_act (hQ : ∀ c a w, ¬ Q (.panic c) a w) (ho : ops[i]? = some o) (hr : Rel N t a) (hw : w.heap = h) (hR : ∀ e ∈ R, still P e h) {C : List Took → Env → Heap → Prop} (hb : dvAct P x N ops i R t h C) (f : Nat)
    (K : ∀ t' v w', C (dropR ops i R) t' w'.heap → Rel N t' (a.put o.dst v) → Same w w' → (∀ e ∈ dropR ops i R, still P e w'.heap) → (∀ n, o.dst ≠ some n → t' n = t n) → wpG P ops.toArray (waitsB ops) Q f (Tof P (dropR ops i R)) (L.setIfInBounds i true) (a.put o.dst v) w') :
    wpOp P ops.toArray Q i (fun a' w' => (∀ k, dropT (waitsB ops) i (Tof P R) k w') ∧ wpG P ops.toArray (waitsB ops) Q f (dropT (waitsB ops) i (Tof P R)) (L.setIfInBounds i true) a' w') a w := by
  unfold dvAct at hb
  unfold wpOp
  simp only [ho] at hb
  simp only [List.getElem?_toArray, ho]
  obtain ⟨t1, e1, hr1, hc⟩ := guarded_sound hr hb
  have fin : ∀ (t2 : Env) (v : Value) (w' : World), Rel N t2 (a.put o.dst v) → Same w w' → (∀ n, o.dst ≠ some n → t2 n = t1 n) → (∀ e ∈ dropR ops i R, still P e w'.heap) →
      C (dropR ops i R) t2 w'.heap →
      (∀ k, dropT (waitsB ops) i (Tof P R) k w') ∧ wpG P ops.toArray (waitsB ops) Q f (dropT (waitsB ops) i (Tof P R)) (L.setIfInBounds i true) (a.put o.dst v) w' := by
    intro t2 v w' h3 hs h5 h6 h4
    refine ⟨fun k => Tof_drop h6, wpG_mono _ (Tof P (dropR ops i R)) _ _ _ _ (fun k w2 hk => ?_) (K t2 v w' h4 h3 hs h6 fun n hm => (h5 n hm).trans (e1 n))⟩
    cases hwt : waitsB ops i k with
    | true => exact .inl hwt
    | false =>
      refine .inr fun e he hke => ?_
      rcases dropR_spec (ops := ops) (j := i) he with h1 | h1
      · rw [hke, hwt] at h1; cases h1
      · exact hk e h1 hke
  rcases hc with ⟨hw1, hc⟩ | ⟨hw1, hc⟩
  · rw [if_pos hw1]
    refine .inl ?_
    rw [← hr1.eval] at hc
    cases hnew : isNew o.op with
    | true =>
      simp only [hnew] at hc
      refine ef_sound (P := P) (ef_new hnew hc) hw fun v w' hs hk => ?_
      obtain ⟨hk1, ob, hob⟩ := hk
      obtain ⟨t2, h3, h4, h5⟩ := put_sound hr1 hk1
      exact fin t2 v w' h4 hs h5 (fun e he => by rw [hob]; exact still_push (hR e (dropR_mem he))) h3
    | false =>
      simp only [hnew] at hc
      refine ef_sound (P := P) hc hw fun v w' hs hk => ?_
      obtain ⟨hk1, hk2⟩ := stillAll_spec hk
      obtain ⟨t2, h3, h4, h5⟩ := put_sound hr1 hk1
      exact fin t2 v w' h4 hs h5 hk2 h3
  · rw [if_neg (by simp [hw1])]
    obtain ⟨t2, h3, h4, h5⟩ := put_sound hr1 hc
    exact fin t2 undef w h4 (Same.refl w) h5 (fun e he => by rw [hw]; exact hR e (dropR_mem he)) (by rw [hw]; exact h3)
end
end Go.Ab
