/- Regions whose order is open: operations that only read may be taken first, as long as what they read stands; the others are tried in every order. -/
import Derived.Test.YtlgjjjaepcgaoaaVcSound
import Derived.Test.YtlgjjjaepcgaoaaVcPoint
import Derived.OrdersHeld
set_option linter.unusedVariables false
set_option linter.unusedSimpArgs false
namespace Go.Vc
variable {P : Program}

/-- Whatever order is picked from here on; behind each operation that is carried out either a late one has come up, or T holds. 'needs i': operation i looks into the heap; 'late j': it waits for all of those. -/
def wpG (P : Program) (ops : Array Oper) (late : Nat → Bool) (T : World → Prop) (Q : Exit → Act → World → Prop) : Nat → Bool → Array Bool → Act → World → Prop
  | 0, _, listed, a, w => Region.ready .any ops listed = [] ∧ Q .normal a w
  | fuel + 1, lt, listed, a, w =>
    (Region.ready .any ops listed = [] → Q .normal a w) ∧
    ∀ i ∈ Region.ready .any ops listed, wpOp P ops Q i (fun a' w' => ((lt || late i) = true ∨ T w') ∧ wpG P ops late T Q fuel (lt || late i) (listed.setIfInBounds i true) a' w') a w
theorem wpAny_of_wpG {ops : Array Oper} {late : Nat → Bool} {T : World → Prop} {Q : Exit → Act → World → Prop} : ∀ (fuel : Nat) (lt : Bool) (listed : Array Bool) (a : Act) (w : World),
    wpG P ops late T Q fuel lt listed a w → wpAny P .any ops Q fuel listed a w
  | 0, _, _, _, _, h => h
  | fuel + 1, _, _, _, _, h => ⟨h.1, fun i hi => wpOp_mono (fun a' w' h' => wpAny_of_wpG fuel _ _ a' w' h'.2) (h.2 i hi)⟩

theorem wpG_first {ops : Array Oper} {late : Nat → Bool} {T : World → Prop} {Q : Exit → Act → World → Prop} {i : Nat} {oi : Oper} {v : Value} (needs : Bool) (hi : ops[i]? = some oi)
    (hsel : ∀ (j : Nat) (o : Oper) cs b, ops[j]? = some o → o.op ≠ .select cs b)
    (hli : late i = false)
    (hlate : needs = true → ∀ j oj, ops[j]? = some oj → late j = true → ∃ e ∈ oj.after, Region.binds .any e = true ∧ e.on = i)
    (hQ : ∀ c a w, Q (.panic c) (a.put oi.dst v) w → Q (.panic c) a w) :
    ∀ (fuel : Nat) (lt : Bool) (listed : Array Bool) (a : Act) (w : World),
      (∀ j oj, ops[j]? = some oj → j ≠ i → listed.getD j true = false → (∀ e ∈ oj.after, Region.binds .any e = true → e.on ≠ i) → oi.apart ops oj = true) →
      i ∈ Region.ready .any ops listed → YieldsIf P ops (fun w => needs = true → T w) oi v a → (needs = true → lt = false ∧ T w) → (lt = true ∨ T w) →
      wpG P ops late T Q fuel lt (listed.setIfInBounds i true) (a.put oi.dst v) w → wpG P ops late T Q (fuel + 1) lt listed a w := by
  intro fuel
  induction fuel with
  | zero =>
    intro lt listed a w _ hr hy hS hT H
    refine ⟨fun h => (by rw [h] at hr; cases hr), fun j hj => ?_⟩
    by_cases hji : j = i
    · subst hji
      exact hy.wpOp hi (fun hn => (hS hn).2) (by rw [hli, Bool.or_false]; exact ⟨hT, H⟩)
    · have := ready_mono hj hji
      rw [H.1] at this
      cases this
  | succ fuel ih =>
    intro lt listed a w hfree hr hy hS hT H
    refine ⟨fun h => (by rw [h] at hr; cases hr), fun j hj => ?_⟩
    by_cases hji : j = i
    · subst hji
      exact hy.wpOp hi (fun hn => (hS hn).2) (by rw [hli, Bool.or_false]; exact ⟨hT, H⟩)
    · have h1 := H.2 j (ready_mono hj hji)
      obtain ⟨hjun, oj, hoj, hall⟩ := mem_ready.1 hj
      have hnot : ∀ e ∈ oj.after, Region.binds .any e = true → e.on ≠ i := fun e he hb heq => by
        have h1 := hall e he hb
        have h0 := (mem_ready.1 hr).1
        rw [heq] at h1
        rcases Nat.lt_or_ge i listed.size with h' | h'
        · simp [h'] at h0 h1; rw [h0] at h1; cases h1
        · simp [Array.getElem?_eq_none h'] at h1
      have hjl : needs = true → late j = false := fun hn => by
        cases hl : late j with
        | false => rfl
        | true =>
          obtain ⟨e, he, hb, heq⟩ := hlate hn j oj hoj hl
          exact absurd heq (hnot e he hb)
      have h2 := wpOp_putIf hoj (hfree j oj hoj hji hjun hnot) (fun cs b => hsel i oi cs b hi) (fun cs b => hsel j oj cs b hoj) hQ hy h1
      have hfree' : ∀ k ok, ops[k]? = some ok → k ≠ i → (listed.setIfInBounds j true).getD k true = false →
          (∀ e ∈ ok.after, Region.binds .any e = true → e.on ≠ i) → oi.apart ops ok = true := fun k ok hk hki hun hno => by
        refine hfree k ok hk hki ?_ hno
        by_cases hjk : j = k
        · subst hjk; exact hjun
        · rw [getD_set_ne true hjk] at hun; exact hun
      refine wpOp_mono (fun a' w' h3 => ⟨h3.2.1, ih _ (listed.setIfInBounds j true) a' w' hfree' (ready_mono hr (Ne.symm hji)) h3.1 ?_ h3.2.1 ?_⟩) h2
      · intro hn
        obtain ⟨k1, k2⟩ := hS hn
        have k3 := hjl hn
        have k4 := h3.2.1
        rw [k1, k3] at k4
        exact ⟨by rw [k1, k3]; rfl, k4.resolve_left (by simp)⟩
      · rw [Array.setIfInBounds_comm _ _ hji]
        exact h3.2.2

/-! ### The condition -/
def waitsB (ops : List Oper) (j i : Nat) : Bool :=
  match ops[j]? with
  | some oj => oj.after.toList.any fun e => Region.binds .any e && Nat.beq e.on i
  | none => false
def lateFrom (ops : List Oper) (j : Nat) : Nat → List Oper → Bool
  | _, [] => true
  | i, o :: r => match needsHeap o.op with
    | true => (match waitsB ops j i with | true => lateFrom ops j (i + 1) r | false => false)
    | false => lateFrom ops j (i + 1) r
def lateB (ops : List Oper) (j : Nat) : Bool :=
  match ops[j]? with
  | some o => (match isRd o.op with | true => false | false => lateFrom ops j 0 ops)
  | none => false
def pickR (ops : List Oper) (listed : Array Bool) (lt : Bool) : List Nat → Option Nat
  | [] => none
  | i :: r => match ops[i]? with
    | some o => (match isRd o.op, Region.free .any ops.toArray listed i, needsHeap o.op && lt with
      | true, true, false => some i
      | _, _, _ => pickR ops listed lt r)
    | none => pickR ops listed lt r
def allI (l : List Nat) (B : Nat → Prop) : Prop :=
  match l with
  | [] => True
  | [i] => B i
  | i :: r => B i ∧ allI r B
def keepv (late : Bool) (p X : Prop) : Prop := match late with | true => X | false => p ∧ X
def dvStep (P : Program) (x : Md) (N : Nat) (ops : List Oper) (h0 : Heap) (reads : Bool) (i : Nat) (t : Env) (h : Heap) (K : Env → Heap → Prop) : Prop :=
  match ops[i]? with
  | some o => guarded ops o.guard t
      (fun t => match reads with
        | true => rd P x (ev t) o.op h0 fun v => put N t o.dst v fun t' => K t' h
        | false => ef P x (ev t) o.op o.type h fun v h' => keepv (lateB ops i) (h' = h0) (put N t o.dst v fun t' => K t' h'))
      (fun t => put N t o.dst undef fun t' => K t' h)
  | none => False
def dv (P : Program) (x : Md) (N : Nat) (ops : List Oper) (h0 : Heap) : Nat → Bool → Array Bool → Env → Heap → (Env → Heap → Prop) → Prop
  | 0, _, listed, t, h, K => match Region.ready .any ops.toArray listed with | [] => K t h | _ => False
  | f + 1, lt, listed, t, h, K => match Region.ready .any ops.toArray listed with
    | [] => K t h
    | rs => match pickR ops listed lt rs with
      | some i => dvStep P x N ops h0 true i t h fun t' h' => dv P x N ops h0 f lt (listed.setIfInBounds i true) t' h' K
      | none => allI rs fun i => dvStep P x N ops h0 false i t h fun t' h' => dv P x N ops h0 f (lt || lateB ops i) (listed.setIfInBounds i true) t' h' K
def drawv (P : Program) (exact : Nat → Md) (N : Nat) (id : Nat) (ops : List Oper) (t : Env) (h : Heap) (K : Env → Heap → Prop) : Prop :=
  match P.follows .mixedOrders, Region.noSelect ops.toArray with
  | true, true => dv P (exact id) N ops h ops.length false (Array.replicate ops.length false) t h K
  | _, _ => False

theorem waitsB_spec {ops : List Oper} {j i : Nat} (h : waitsB ops j i = true) : ∀ oj, ops[j]? = some oj → ∃ e ∈ oj.after, Region.binds .any e = true ∧ e.on = i := by
  intro oj hj
  unfold waitsB at h
  simp only [hj, List.any_eq_true, Bool.and_eq_true] at h
  obtain ⟨e, he, hb, hon⟩ := h
  exact ⟨e, by simpa using he, hb, Nat.eq_of_beq_eq_true hon⟩
theorem lateFrom_spec {ops : List Oper} {j : Nat} : ∀ {l : List Oper} {k i : Nat} {o : Oper}, lateFrom ops j k l = true → l[i]? = some o → needsHeap o.op = true → waitsB ops j (k + i) = true
  | [], _, _, _, _, hi, _ => by simp at hi
  | o' :: r, k, i, o, h, hi, hn => by
    unfold lateFrom at h
    cases i with
    | zero =>
      simp at hi
      subst hi
      simp only [hn] at h
      split at h
      · rename_i hw; simpa using hw
      · cases h
    | succ i =>
      simp at hi
      have : lateFrom ops j (k + 1) r = true := by
        split at h
        · split at h
          · exact h
          · cases h
        · exact h
      have := lateFrom_spec this hi hn
      rwa [show k + 1 + i = k + (i + 1) by omega] at this
theorem lateB_spec {ops : List Oper} {j i : Nat} {oj oi : Oper} (h : lateB ops j = true) (hj : ops[j]? = some oj) (hi : ops[i]? = some oi) (hn : needsHeap oi.op = true) :
    ∃ e ∈ oj.after, Region.binds .any e = true ∧ e.on = i := by
  unfold lateB at h
  simp only [hj] at h
  split at h
  · cases h
  · have := lateFrom_spec h hi hn
    rw [Nat.zero_add] at this
    exact waitsB_spec this oj hj
theorem lateB_rd {ops : List Oper} {i : Nat} {oi : Oper} (hi : ops[i]? = some oi) (hr : isRd oi.op = true) : lateB ops i = false := by
  unfold lateB; simp only [hi, hr]
theorem pickR_spec {ops : List Oper} {listed : Array Bool} {lt : Bool} {i : Nat} : ∀ {rs : List Nat}, pickR ops listed lt rs = some i →
    i ∈ rs ∧ ∃ o, ops[i]? = some o ∧ isRd o.op = true ∧ Region.free .any ops.toArray listed i = true ∧ (needsHeap o.op = true → lt = false)
  | [], h => by cases h
  | k :: r, h => by
    unfold pickR at h
    split at h
    · rename_i o ho
      split at h
      · rename_i h1 h2 h3
        cases h
        refine ⟨by simp, o, ho, h1, h2, fun hn => ?_⟩
        simpa [hn] using h3
      · obtain ⟨a, b⟩ := pickR_spec h; exact ⟨by simp [a], b⟩
    · obtain ⟨a, b⟩ := pickR_spec h; exact ⟨by simp [a], b⟩
theorem allI_spec {B : Nat → Prop} : ∀ {l : List Nat}, allI l B → ∀ i ∈ l, B i
  | [], _, i, hi => by cases hi
  | [k], h, i, hi => by simp at hi; subst hi; exact h
  | k :: k2 :: r, h, i, hi => by
    cases hi with
    | head => exact h.1
    | tail _ hi => exact allI_spec h.2 i hi
theorem keepv_spec {late : Bool} {p X : Prop} (h : keepv late p X) : X ∧ (late = false → p) := by
  cases late
  · exact ⟨h.2, fun _ => h.1⟩
  · exact ⟨h, fun k => by cases k⟩
theorem memB_dstsOps {n i : Nat} : ∀ {l : List Oper} {o : Oper}, l[i]? = some o → memB n (dstsOps l) = false → o.dst ≠ some n := by
  induction i with
  | zero =>
    intro l o hi hm
    cases l with
    | nil => simp at hi
    | cons o' r => simp at hi; subst hi; exact (memB_dsts hm).1
  | succ i ih =>
    intro l o hi hm
    cases l with
    | nil => simp at hi
    | cons o' r => simp at hi; exact ih hi (memB_dsts hm).2

theorem dv_sound {x : Md} {N : Nat} {ops : List Oper} {h0 : Heap} {K : Env → Heap → Prop} {Q : Exit → Act → World → Prop} (hsel : Region.noSelect ops.toArray = true) (hQ : ∀ c a w, ¬ Q (.panic c) a w) :
    ∀ (f : Nat) (lt : Bool) (listed : Array Bool) (t : Env) (h : Heap) (a : Act) (w : World), dv P x N ops h0 f lt listed t h K → Rel N t a → w.heap = h → (lt = false → h = h0) →
      (∀ t' a' w', Rel N t' a' → Same w w' → Agr (dstsOps ops) t t' → K t' w'.heap → Q .normal a' w') →
      wpG P ops.toArray (lateB ops) (fun w => w.heap = h0) Q f lt listed a w := by
  intro f
  induction f with
  | zero =>
    intro lt listed t h a w hv hr hw hl hn
    unfold dv at hv
    split at hv
    · rename_i hre; exact ⟨hre, hn t a w hr (Same.refl w) (Agr.refl _ _) (hw ▸ hv)⟩
    · exact hv.elim
  | succ f ih =>
    intro lt listed t h a w hv hr hw hl hn
    unfold dv at hv
    split at hv
    · rename_i hre
      refine ⟨fun _ => hn t a w hr (Same.refl w) (Agr.refl _ _) (hw ▸ hv), fun i hi => ?_⟩
      rw [hre] at hi; cases hi
    · rename_i hne
      split at hv
      · rename_i i hp
        obtain ⟨hmem, o, ho, hrd, hfree, hlt⟩ := pickR_spec hp
        have hoa : ops.toArray[i]? = some o := by simpa using ho
        unfold dvStep at hv
        simp only [ho] at hv
        obtain ⟨t1, e1, hr1, hc⟩ := guarded_sound hr hv
        have go : ∀ v, YieldsIf P ops.toArray (fun w => needsHeap o.op = true → w.heap = h0) o v a → put N t1 o.dst v (fun t' => dv P x N ops h0 f lt (listed.setIfInBounds i true) t' h K) →
            wpG P ops.toArray (lateB ops) (fun w => w.heap = h0) Q (f + 1) lt listed a w := by
          intro v hy hput
          obtain ⟨t2, h3, h4, h5⟩ := put_sound hr1 hput
          refine wpG_first (needsHeap o.op) hoa (Region.noSelect_spec hsel) (lateB_rd ho hrd) (fun hn' j oj hj hlj => lateB_spec hlj (by simpa using hj) ho hn') (fun c a w hq => absurd hq (hQ c _ w)) f lt listed a w
            (Region.free_spec hoa hfree) hmem hy (fun hn' => ⟨hlt hn', by rw [hw]; exact hl (hlt hn')⟩) ?_ ?_
          · cases lt with
            | true => exact .inl rfl
            | false => exact .inr (by rw [hw]; exact hl rfl)
          · refine ih lt _ t2 h _ w h3 h4 hw hl fun t' a' w' k1 k2 k3 k4 => hn t' a' w' k1 k2 (fun n hm => ?_) k4
            exact (k3 n hm).trans ((h5 n (memB_dstsOps ho hm)).trans (e1 n))
        rcases hc with ⟨hw1, hc⟩ | ⟨hw1, hc⟩
        · rw [← hr1.eval] at hc
          cases hnh : needsHeap o.op with
          | true =>
            obtain ⟨v, h1, h2⟩ := rd_sound (P := P) hc
            exact go v (.inl ⟨hw1, fun w' hw' => h2 w' (hw' hnh)⟩) h1
          | false =>
            obtain ⟨v, h1, h2⟩ := rd_sound_pure (P := P) hnh hc
            exact go v (.inl ⟨hw1, fun w' _ => h2 w'⟩) h1
        · exact go undef (.inr ⟨hw1, rfl⟩) hc
      · refine ⟨fun hre' => (hne hre').elim, fun i hi => ?_⟩
        have hb := allI_spec hv i hi
        unfold dvStep at hb
        unfold wpOp
        split at hb
        · rename_i o ho
          simp only [List.getElem?_toArray, ho]
          obtain ⟨t1, e1, hr1, hc⟩ := guarded_sound hr hb
          rcases hc with ⟨hw1, hc⟩ | ⟨hw1, hc⟩
          · rw [if_pos hw1]
            refine .inl ?_
            rw [← hr1.eval] at hc
            refine ef_sound (P := P) hc hw fun v w' hs hk => ?_
            obtain ⟨hk1, hk2⟩ := keepv_spec hk
            obtain ⟨t2, h3, h4, h5⟩ := put_sound hr1 hk1
            refine ⟨?_, ih _ _ t2 _ _ w' h3 h4 rfl (fun e => ?_) fun t' a' w2 k1 k2 k3 k4 => hn t' a' w2 k1 (hs.trans k2) (fun n hm => ?_) k4⟩
            · cases hlb : lateB ops i with
              | true => exact .inl (by simp)
              | false => exact .inr (hk2 hlb)
            · simp only [Bool.or_eq_false_iff] at e
              exact hk2 e.2
            · exact (k3 n hm).trans ((h5 n (memB_dstsOps ho hm)).trans (e1 n))
          · rw [if_neg (by simp [hw1])]
            obtain ⟨t2, h3, h4, h5⟩ := put_sound hr1 hc
            refine ⟨?_, ih _ _ t2 h _ w h3 h4 hw (fun e => ?_) fun t' a' w2 k1 k2 k3 k4 => hn t' a' w2 k1 k2 (fun n hm => ?_) k4⟩
            · cases hlb : lt || lateB ops i with
              | true => exact .inl rfl
              | false => simp only [Bool.or_eq_false_iff] at hlb; exact .inr (by rw [hw]; exact hl hlb.1)
            · simp only [Bool.or_eq_false_iff] at e; exact hl e.1
            · exact (k3 n hm).trans ((h5 n (memB_dstsOps ho hm)).trans (e1 n))
        · exact hb.elim

/-- The way that regions which draw are treated here. -/
theorem drawv_ok {exact : Nat → Md} {N : Nat} : DrawnOk P N (drawv P exact N) := by
  intro id ops t h K a w Q hv hr hw hQ hn
  unfold drawv at hv
  split at hv
  · rename_i hm hs
    refine wp_region_any hm (wpAny_of_wpG (late := lateB ops) (T := fun w => w.heap = h) _ false _ a _ ?_)
    have := dv_sound (P := P) (Q := Q) hs hQ ops.length false (Array.replicate ops.length false) t h a { w with drawn := w.drawn + 1 } hv hr hw (fun _ => rfl) fun t' a' w' k1 k2 k3 k4 => hn t' a' w' k1 ⟨k2.os, k2.tape, k2.output⟩ k3 k4
    simpa using this
  · exact hv.elim
end Go.Vc
