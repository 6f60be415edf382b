import Derived.Test.YtepodifionoigaaGreatDoorVcSound
import Derived.Test.YtepodifionoigaaGreatDoorVcPoint
import Derived.OrdersHeld
set_option linter.unusedVariables false
set_option linter.unusedSimpArgs false
namespace Go.Vc
variable {P : Program}

def dropT (wt : Nat → Nat → Bool) (j : Nat) (T : Nat → World → Prop) : Nat → World → Prop := fun k w => wt j k = true ∨ T k w
def wpG (P : Program) (ops : Array Oper) (wt : Nat → Nat → Bool) (Q : Exit → Act → World → Prop) : Nat → (Nat → World → Prop) → Array Bool → Act → World → Prop
  | 0, _, listed, a, w => Region.ready .any ops listed = [] ∧ Q .normal a w
  | fuel + 1, T, listed, a, w =>
    (Region.ready .any ops listed = [] → Q .normal a w) ∧
    ∀ i ∈ Region.ready .any ops listed, wpOp P ops Q i (fun a' w' => (∀ k, dropT wt i T k w') ∧ wpG P ops wt Q fuel (dropT wt i T) (listed.setIfInBounds i true) a' w') a w
theorem wpAny_of_wpG {ops : Array Oper} {wt : Nat → Nat → Bool} {Q : Exit → Act → World → Prop} : ∀ (fuel : Nat) (T : Nat → World → Prop) (listed : Array Bool) (a : Act) (w : World),
    wpG P ops wt Q fuel T listed a w → wpAny P .any ops Q fuel listed a w
  | 0, _, _, _, _, h => h
  | fuel + 1, _, _, _, _, h => ⟨h.1, fun i hi => wpOp_mono (fun a' w' h' => wpAny_of_wpG fuel _ _ a' w' h'.2) (h.2 i hi)⟩
theorem wpG_mono {ops : Array Oper} {wt : Nat → Nat → Bool} {Q : Exit → Act → World → Prop} : ∀ (fuel : Nat) (T T' : Nat → World → Prop) (listed : Array Bool) (a : Act) (w : World), (∀ k w, T k w → T' k w) →
    wpG P ops wt Q fuel T listed a w → wpG P ops wt Q fuel T' listed a w
  | 0, _, _, _, _, _, _, h => h
  | fuel + 1, T, T', _, _, _, hm, h => ⟨h.1, fun i hi => wpOp_mono (fun a' w' h' => ⟨fun k => (h'.1 k).imp id (hm k w'), wpG_mono fuel _ _ _ a' w' (fun k w hk => hk.imp id (hm k w)) h'.2⟩) (h.2 i hi)⟩

def DC (ops : Array Oper) (L : Array Bool) : Prop := ∀ k, L.getD k false = true → ∀ ok, ops[k]? = some ok → ∀ e ∈ ok.after, Region.binds .any e = true → L.getD e.on false = true
theorem ready_all {ops : Array Oper} {L : Array Bool} {j : Nat} (hj : j ∈ Region.ready .any ops L) {oj : Oper} (ho : ops[j]? = some oj) : ∀ e ∈ oj.after, Region.binds .any e = true → L.getD e.on false = true := by
  obtain ⟨_, o, h1, h2⟩ := mem_ready.1 hj
  rw [ho] at h1; cases h1
  intro e he hb
  have := h2 e he hb
  simpa using this
theorem getD_set_of {L : Array Bool} {j k : Nat} (h : L.getD k false = true) : (L.setIfInBounds j true).getD k false = true := by
  by_cases hk : j = k
  · subst hk
    rcases Nat.lt_or_ge j L.size with h' | h'
    · simp [h']
    · simp [Array.getElem?_eq_none h'] at h
  · simp [Array.getElem?_setIfInBounds, hk] at h ⊢; exact h
theorem DC.set {ops : Array Oper} {L : Array Bool} {j : Nat} (hd : DC ops L) (hj : j ∈ Region.ready .any ops L) : DC ops (L.setIfInBounds j true) := by
  intro k hk ok ho e he hb
  by_cases hkj : k = j
  · subst hkj; exact getD_set_of (ready_all hj ho e he hb)
  · refine getD_set_of (hd k ?_ ok ho e he hb)
    simp [Array.getElem?_setIfInBounds, Ne.symm hkj] at hk ⊢; exact hk
theorem DC.none {ops : Array Oper} {n : Nat} : DC ops (Array.replicate n false) := by
  intro k hk
  exfalso
  rcases Nat.lt_or_ge k n with h | h
  · simp [Array.getElem?_replicate, h] at hk
  · simp [Array.getElem?_replicate, Nat.not_lt.2 h] at hk
theorem wpG_first {ops : Array Oper} {wt : Nat → Nat → Bool} {Q : Exit → Act → World → Prop} {i : Nat} {oi : Oper} {v : Value} {Ti : World → Prop} (hi : ops[i]? = some oi)
    (hsel : ∀ (j : Nat) (o : Oper) cs b, ops[j]? = some o → o.op ≠ .select cs b)
    (hwt : ∀ (L : Array Bool) j, DC ops L → j ∈ Region.ready .any ops L → wt j i = true → L.getD i false = true)
    (hQ : ∀ c a w, Q (.panic c) (a.put oi.dst v) w → Q (.panic c) a w) :
    ∀ (fuel : Nat) (T : Nat → World → Prop) (listed : Array Bool) (a : Act) (w : World),
      (∀ j oj, ops[j]? = some oj → j ≠ i → listed.getD j true = false → (∀ e ∈ oj.after, Region.binds .any e = true → e.on ≠ i) → oi.apart ops oj = true) →
      DC ops listed → i ∈ Region.ready .any ops listed → YieldsIf P ops Ti oi v a → Ti w → (∀ k, T k w) → (∀ w, T i w) →
      wpG P ops wt Q fuel (fun k => if k = i then Ti else T k) (listed.setIfInBounds i true) (a.put oi.dst v) w → wpG P ops wt Q (fuel + 1) T listed a w := by
  intro fuel
  induction fuel with
  | zero =>
    intro T listed a w _ _ hr hy hTi hT hTt H
    refine ⟨fun h => (by rw [h] at hr; cases hr), fun j hj => ?_⟩
    by_cases hji : j = i
    · subst hji
      exact hy.wpOp hi hTi ⟨fun k => .inr (hT k), H⟩
    · have := ready_mono hj hji
      rw [H.1] at this
      cases this
  | succ fuel ih =>
    intro T listed a w hfree hdc hr hy hTi hT hTt H
    refine ⟨fun h => (by rw [h] at hr; cases hr), fun j hj => ?_⟩
    by_cases hji : j = i
    · subst hji
      refine hy.wpOp hi hTi ⟨fun k => .inr (hT k), wpG_mono _ _ _ _ _ _ (fun k w hk => ?_) H⟩
      by_cases hk' : k = j
      · subst hk'; exact .inr (hTt w)
      · rw [if_neg hk'] at hk; exact .inr hk
    · have h1 := H.2 j (ready_mono hj hji)
      obtain ⟨hjun, oj, hoj, hall⟩ := mem_ready.1 hj
      have hnot : ∀ e ∈ oj.after, Region.binds .any e = true → e.on ≠ i := fun e he hb heq => by
        have h1 := hall e he hb
        have h0 := (mem_ready.1 hr).1
        rw [heq] at h1
        rcases Nat.lt_or_ge i listed.size with h' | h'
        · simp [h'] at h0 h1; rw [h0] at h1; cases h1
        · simp [Array.getElem?_eq_none h'] at h1
      have hjl : ¬ wt j i = true := fun hl => by
        have h1 := hwt listed j hdc hj hl
        have h0 := (mem_ready.1 hr).1
        rcases Nat.lt_or_ge i listed.size with h' | h'
        · simp [h'] at h0 h1; rw [h0] at h1; cases h1
        · simp [Array.getElem?_eq_none h'] at h1
      have h2 := wpOp_putIf hoj (hfree j oj hoj hji hjun hnot) (fun cs b => hsel i oi cs b hi) (fun cs b => hsel j oj cs b hoj) hQ hy h1
      have hfree' : ∀ k ok, ops[k]? = some ok → k ≠ i → (listed.setIfInBounds j true).getD k true = false →
          (∀ e ∈ ok.after, Region.binds .any e = true → e.on ≠ i) → oi.apart ops ok = true := fun k ok hk hki hun hno => by
        refine hfree k ok hk hki ?_ hno
        by_cases hjk : j = k
        · subst hjk; exact hjun
        · rw [getD_set_ne true hjk] at hun; exact hun
      refine wpOp_mono (fun a' w' h3 => ?_) h2
      have hTi' : Ti w' := by
        have := (h3.2.1 i).resolve_left hjl
        simpa using this
      have hT' : ∀ k, dropT wt j T k w' := fun k => by
        by_cases hk' : k = i
        · subst hk'; exact .inr (hTt w')
        · have := h3.2.1 k
          simpa [dropT, hk'] using this
      refine ⟨hT', ih _ (listed.setIfInBounds j true) a' w' hfree' (hdc.set hj) (ready_mono hr (Ne.symm hji)) h3.1 hTi' hT' (fun w => .inr (hTt w)) ?_⟩
      rw [Array.setIfInBounds_comm _ _ hji]
      refine wpG_mono _ _ _ _ _ _ (fun k w hk => ?_) h3.2.2
      by_cases hk' : k = i
      · subst hk'
        have := hk.resolve_left hjl
        simpa using this
      · simp only [if_neg hk'] at hk ⊢
        exact hk.imp id (by simp [hk'])

/-! ### The condition -/
def waitsF (ops : List Oper) : Nat → Nat → Nat → Bool
  | 0, _, _ => false
  | f + 1, j, i => match ops[j]? with
    | some oj => oj.after.toList.any fun e => Region.binds .any e && (Nat.beq e.on i || waitsF ops f e.on i)
    | none => false
def waitsB (ops : List Oper) (j i : Nat) : Bool := waitsF ops 4 j i
structure Took where
  i : Nat
  t : TypeId
  b : Nat
  o : Nat
  v : Value
def still (P : Program) (e : Took) (h : Heap) : Prop :=
  match P.underlying e.t with
  | some (.struct _) | some (.array _ _) => match e.v with
    | .agg cs => row h e.b e.o (sz P e.t) = some cs.toList
    | _ => False
  | some _ => cell h e.b e.o = some e.v
  | none => False
def dropR (ops : List Oper) (j : Nat) : List Took → List Took
  | [] => []
  | e :: r => match waitsB ops j e.i with | true => dropR ops j r | false => e :: dropR ops j r
def stillAll (P : Program) (h : Heap) (X : Prop) : List Took → Prop
  | [] => X
  | e :: r => still P e h ∧ stillAll P h X r
def isNew : Op → Bool
  | .alloc _ | .box .. | .buildSlice .. | .makeSlice .. => true
  | _ => false
def pickR (P : Program) (ops : List Oper) (listed : Array Bool) : List Nat → Option Nat
  | [] => none
  | i :: r => match ops[i]? with
    | some o => (match isRd P o.op, Region.free .any ops.toArray listed i with
      | true, true => some i
      | _, _ => pickR P ops listed r)
    | none => pickR P ops listed r
def allI (l : List Nat) (B : Nat → Prop) : Prop :=
  match l with
  | [] => True
  | [i] => B i
  | i :: r => B i ∧ allI r B
def dvRead (P : Program) (x : Md) (N : Nat) (ops : List Oper) (i : Nat) (R : List Took) (t : Env) (h : Heap) (K : List Took → Env → Prop) : Prop :=
  match ops[i]? with
  | some o => guarded ops o.guard t
      (fun t => match o.op with
        | .load ty a => onPtr (ev t a) fun b off => ldv P ty h b off fun v => put N t o.dst v fun t' => K (⟨i, ty, b, off, v⟩ :: R) t'
        | op => match needsHeap op with
          | true => False
          | false => rd P x (ev t) op h fun v => put N t o.dst v fun t' => K R t')
      (fun t => put N t o.dst undef fun t' => K R t')
  | none => False
def dvAct (P : Program) (x : Md) (N : Nat) (ops : List Oper) (i : Nat) (R : List Took) (t : Env) (h : Heap) (K : List Took → Env → Heap → Prop) : Prop :=
  match ops[i]? with
  | some o => guarded ops o.guard t
      (fun t => ef P x (ev t) o.op o.type h fun v h' => match isNew o.op with
        | true => put N t o.dst v fun t' => K (dropR ops i R) t' h'
        | false => stillAll P h' (put N t o.dst v fun t' => K (dropR ops i R) t' h') (dropR ops i R))
      (fun t => put N t o.dst undef fun t' => K (dropR ops i R) t' h)
  | none => False
def dv (P : Program) (x : Md) (N : Nat) (ops : List Oper) : Nat → List Took → Array Bool → Env → Heap → (Env → Heap → Prop) → Prop
  | 0, _, listed, t, h, K => match Region.ready .any ops.toArray listed with | [] => K t h | _ => False
  | f + 1, R, listed, t, h, K => match Region.ready .any ops.toArray listed with
    | [] => K t h
    | rs => match pickR P ops listed rs with
      | some i => dvRead P x N ops i R t h fun R' t' => dv P x N ops f R' (listed.setIfInBounds i true) t' h K
      | none => allI rs fun i => dvAct P x N ops i R t h fun R' t' h' => dv P x N ops f R' (listed.setIfInBounds i true) t' h' K
def drawv (P : Program) (exact : Nat → Md) (N : Nat) (id : Nat) (ops : List Oper) (t : Env) (h : Heap) (K : Env → Heap → Prop) : Prop :=
  match P.follows .mixedOrders, Region.noSelect ops.toArray with
  | true, true => dv P (exact id) N ops ops.length [] (Array.replicate ops.length false) t h K
  | _, _ => False

theorem waitsF_spec {ops : List Oper} {L : Array Bool} (hd : DC ops.toArray L) {i : Nat} : ∀ {f j : Nat}, (∀ oj, ops[j]? = some oj → ∀ e ∈ oj.after, Region.binds .any e = true → L.getD e.on false = true) → waitsF ops f j i = true → L.getD i false = true
  | 0, _, _, h => by cases h
  | f + 1, j, hj, h => by
    unfold waitsF at h
    split at h
    · rename_i oj ho
      obtain ⟨e, he, h1⟩ := List.any_eq_true.1 h
      simp only [Bool.and_eq_true, Bool.or_eq_true] at h1
      obtain ⟨hb, h2⟩ := h1
      have hl := hj oj ho e (by simpa using he) hb
      rcases h2 with h2 | h2
      · rw [← Nat.eq_of_beq_eq_true h2]; exact hl
      · exact waitsF_spec hd (fun ok hk e' he' hb' => hd _ hl ok (by simpa using hk) e' he' hb') h2
    · cases h
theorem waitsB_spec {ops : List Oper} {L : Array Bool} {j i : Nat} (hd : DC ops.toArray L) (hj : j ∈ Region.ready .any ops.toArray L) (h : waitsB ops j i = true) : L.getD i false = true :=
  waitsF_spec hd (fun oj ho => ready_all hj (by simpa using ho)) h
theorem pickR_spec {ops : List Oper} {listed : Array Bool} {i : Nat} : ∀ {rs : List Nat}, pickR P ops listed rs = some i →
    i ∈ rs ∧ ∃ o, ops[i]? = some o ∧ isRd P o.op = true ∧ Region.free .any ops.toArray listed i = true
  | [], h => by cases h
  | k :: r, h => by
    unfold pickR at h
    split at h
    · rename_i o ho
      split at h
      · rename_i h1 h2
        cases h
        exact ⟨by simp, o, ho, h1, h2⟩
      · obtain ⟨a, b⟩ := pickR_spec h; exact ⟨by simp [a], b⟩
    · obtain ⟨a, b⟩ := pickR_spec h; exact ⟨by simp [a], b⟩
theorem allI_spec {B : Nat → Prop} : ∀ {l : List Nat}, allI l B → ∀ i ∈ l, B i
  | [], _, i, hi => by cases hi
  | [k], h, i, hi => by simp at hi; subst hi; exact h
  | k :: k2 :: r, h, i, hi => by
    cases hi with
    | head => exact h.1
    | tail _ hi => exact allI_spec h.2 i hi
theorem memB_dstsOps {n i : Nat} : ∀ {l : List Oper} {o : Oper}, l[i]? = some o → memB n (dstsOps l) = false → o.dst ≠ some n := by
  induction i with
  | zero =>
    intro l o hi hm
    cases l with
    | nil => simp at hi
    | cons o' r => simp at hi; subst hi; exact (memB_dsts hm).1
  | succ i ih =>
    intro l o hi hm
    cases l with
    | nil => simp at hi
    | cons o' r => simp at hi; exact ih hi (memB_dsts hm).2


theorem stillAll_spec {h : Heap} {X : Prop} : ∀ {R : List Took}, stillAll P h X R → X ∧ ∀ e ∈ R, still P e h
  | [], k => ⟨k, fun e he => by cases he⟩
  | e :: r, k => by
    obtain ⟨h1, h2⟩ := k
    obtain ⟨h3, h4⟩ := stillAll_spec h2
    refine ⟨h3, fun e' he => ?_⟩
    cases he with
    | head => exact h1
    | tail _ he => exact h4 e' he
theorem dropR_spec {ops : List Oper} {j : Nat} : ∀ {R : List Took} {e : Took}, e ∈ R → waitsB ops j e.i = true ∨ e ∈ dropR ops j R
  | e' :: r, e, he => by
    unfold dropR
    cases he with
    | head =>
      split
      · rename_i h; exact .inl h
      · exact .inr (by simp)
    | tail _ he =>
      rcases dropR_spec (ops := ops) (j := j) he with h | h
      · exact .inl h
      · split
        · exact .inr h
        · exact .inr (by simp [h])
theorem dropR_mem {ops : List Oper} {j : Nat} : ∀ {R : List Took} {e : Took}, e ∈ dropR ops j R → e ∈ R
  | e' :: r, e, he => by
    unfold dropR at he
    split at he
    · exact List.mem_cons_of_mem _ (dropR_mem he)
    · cases he with
      | head => simp
      | tail _ he => exact List.mem_cons_of_mem _ (dropR_mem he)
theorem cell_push_some {h : Heap} {o : Obj} {b i : Nat} {v : Value} (hc : cell h b i = some v) : cell (h.push o) b i = some v := by
  unfold cell at hc ⊢
  have hb : b < h.size := by
    rcases Nat.lt_or_ge b h.size with h' | h'
    · exact h'
    · rw [Array.getElem?_eq_none h'] at hc; cases hc
  rw [Array.getElem?_push_lt hb]
  rw [Array.getElem?_eq_getElem hb] at hc
  exact hc
theorem row_push_some {h : Heap} {o : Obj} {b : Nat} : ∀ {n i : Nat} {cs : List Value}, row h b i n = some cs → row (h.push o) b i n = some cs
  | 0, _, _, hc => hc
  | n + 1, i, cs, hc => by
    simp only [row] at hc ⊢
    split at hc
    · rename_i v r h1 h2
      rw [cell_push_some h1, row_push_some h2]; exact hc
    · cases hc
theorem still_push {h : Heap} {o : Obj} {e : Took} (hs : still P e h) : still P e (h.push o) := by
  unfold still at hs ⊢
  split at hs
  · rename_i fs hu
    split at hs
    · rename_i cs hv; exact row_push_some hs
    · exact hs.elim
  · rename_i n el hu
    split at hs
    · rename_i cs hv; exact row_push_some hs
    · exact hs.elim
  · exact cell_push_some hs
  · exact hs.elim
theorem ldv_still {ty : TypeId} {h : Heap} {b o : Nat} {K : Value → Prop} (hr : ldv P ty h b o K) : ∃ v, K v ∧ ∀ i, still P ⟨i, ty, b, o, v⟩ h ∧
    ∀ w : World, still P ⟨i, ty, b, o, v⟩ w.heap → (Instr.loadAt ty (.pointer (some ⟨b, o, none⟩))).run P w = .ok v w := by
  unfold ldv at hr
  split at hr
  · rename_i hu
    split at hr
    · rename_i hi
      obtain ⟨cs, h1, h2⟩ := hr
      refine ⟨_, h2, fun i => ⟨by unfold still; simp only [hu]; exact h1, fun w hw => ?_⟩⟩
      unfold still at hw
      simp only [hu] at hw
      have e1 := run_underlying (P := P) hu w
      have e2 := run_sizeOf (P := P) hi w
      have e3 := run_loadCells_of_row (P := P) (show row w.heap b o (sz P ty) = some cs from hw) rfl
      simp [Instr.loadAt, Instr.sureAddr, loadVar, isAgg, e1, e2, e3]
    · exact hr.elim
  · rename_i hu
    split at hr
    · rename_i hi
      obtain ⟨cs, h1, h2⟩ := hr
      refine ⟨_, h2, fun i => ⟨by unfold still; simp only [hu]; exact h1, fun w hw => ?_⟩⟩
      unfold still at hw
      simp only [hu] at hw
      have e1 := run_underlying (P := P) hu w
      have e2 := run_sizeOf (P := P) hi w
      have e3 := run_loadCells_of_row (P := P) (show row w.heap b o (sz P ty) = some cs from hw) rfl
      simp [Instr.loadAt, Instr.sureAddr, loadVar, isAgg, e1, e2, e3]
    · exact hr.elim
  · rename_i d n1 n2 hu
    obtain ⟨v, h1, h2⟩ := one_spec hr
    refine ⟨v, h2, fun i => ⟨by unfold still; simp only [hu]; cases d <;> first | exact (n1 _ rfl).elim | exact (n2 _ _ rfl).elim | exact h1, fun w hw => ?_⟩⟩
    have e1 := run_underlying (P := P) hu w
    have e2 : w.cell? ⟨b, o, none⟩ = some v := by
      rw [cell?_eq]
      unfold still at hw
      simp only [hu] at hw
      cases d <;> first | exact (n1 _ rfl).elim | exact (n2 _ _ rfl).elim | exact hw
    cases d <;> first | exact (n1 _ rfl).elim | exact (n2 _ _ rfl).elim | simp [Instr.loadAt, Instr.sureAddr, loadVar, isAgg, e1, e2]
  · exact hr.elim
theorem partv_mono {n : Nat} {v : Value} {K K' : List Value → Prop} (hk : ∀ cs, K cs → K' cs) (h : partv n v K) : partv n v K' := by
  obtain ⟨h1, h2, _⟩ := partv_spec h
  exact partv_of h1 (partv_one h) (hk _ h2)
theorem putParts_mono {sizes : List Nat} : ∀ {parts : List (Nat × Value)} {ch : List (List Value)} {K K' : List (List Value) → Prop}, (∀ c, K c → K' c) → putParts sizes parts ch K → putParts sizes parts ch K'
  | [], _, _, _, hk, h => hk _ h
  | (i, v) :: r, ch, K, K', hk, h => by
    simp only [putParts] at h ⊢
    split at h
    · exact partv_mono (fun cs => putParts_mono hk) h
    · exact h.elim
theorem ef_new {x : Md} {ρ : Operand → Value} {op : Op} {ty : TypeId} {h : Heap} {K : Value → Heap → Prop} (hn : isNew op = true) (hr : ef P x ρ op ty h K) :
    ef P x ρ op ty h fun v h' => K v h' ∧ ∃ o, h' = h.push o := by
  cases op
  case alloc e =>
    unfold ef zerov at hr ⊢
    simp only at hr ⊢
    split at hr
    · split at hr
      · intro b h1 k1 k2; exact ⟨hr b h1 k1 k2, _, k2⟩
      · exact hr.elim
    · exact hr.elim
  case box e a => intro b h1 k1 k2; exact ⟨hr b h1 k1 k2, _, k2⟩
  case buildSlice t len parts =>
    unfold ef bslv at hr ⊢
    simp only at hr ⊢
    split at hr
    · split at hr
      · unfold zerov at hr ⊢
        split at hr
        · split at hr
          · exact putParts_mono (fun c hc b h1 k1 k2 => ⟨hc b h1 k1 k2, _, k2⟩) hr
          · exact hr.elim
        · exact hr.elim
      · exact hr.elim
    · exact hr.elim
  case makeSlice t l c =>
    unfold ef mslv at hr ⊢
    simp only at hr ⊢
    split at hr
    · split at hr
      · refine ⟨hr.1, ?_⟩
        have hr := hr.2
        unfold zerov at hr ⊢
        split at hr
        · split at hr
          · intro b h1 k1 k2; exact ⟨hr b h1 k1 k2, _, k2⟩
          · exact hr.elim
        · exact hr.elim
      · exact hr.elim
    · exact hr.elim
  all_goals cases hn

def Tof (P : Program) (R : List Took) (k : Nat) (w : World) : Prop := ∀ e ∈ R, e.i = k → still P e w.heap
theorem Tof_drop {ops : List Oper} {j : Nat} {R : List Took} {k : Nat} {w : World} (h : ∀ e ∈ dropR ops j R, still P e w.heap) : dropT (waitsB ops) j (Tof P R) k w := by
  cases hw : waitsB ops j k with
  | true => exact .inl hw
  | false =>
    refine .inr fun e he hk => ?_
    rcases dropR_spec (ops := ops) (j := j) he with h1 | h1
    · rw [hk, hw] at h1; cases h1
    · exact h e h1
theorem dv_sound {x : Md} {N : Nat} {ops : List Oper} {K : Env → Heap → Prop} {Q : Exit → Act → World → Prop} (hsel : Region.noSelect ops.toArray = true) (hQ : ∀ c a w, ¬ Q (.panic c) a w) :
    ∀ (f : Nat) (R : List Took) (listed : Array Bool) (t : Env) (h : Heap) (a : Act) (w : World), dv P x N ops f R listed t h K → Rel N t a → w.heap = h → (∀ e ∈ R, still P e h) → (∀ e ∈ R, listed[e.i]? = some true) → DC ops.toArray listed →
      (∀ t' a' w', Rel N t' a' → Same w w' → Agr (dstsOps ops) t t' → K t' w'.heap → Q .normal a' w') →
      wpG P ops.toArray (waitsB ops) Q f (Tof P R) listed a w := by
  intro f
  induction f with
  | zero =>
    intro R listed t h a w hv hr hw hR hL hdc hn
    unfold dv at hv
    split at hv
    · rename_i hre; exact ⟨hre, hn t a w hr (Same.refl w) (Agr.refl _ _) (hw ▸ hv)⟩
    · exact hv.elim
  | succ f ih =>
    intro R listed t h a w hv hr hw hR hL hdc hn
    have hLset : ∀ (R' : List Took) (i : Nat), (∀ e ∈ R', listed[e.i]? = some true) → ∀ e ∈ R', (listed.setIfInBounds i true)[e.i]? = some true := fun R' i h e he => by
      rw [Array.getElem?_setIfInBounds]
      split
      · rename_i hie
        have := h e he
        rw [← hie] at this
        have hlt := (Array.getElem?_eq_some_iff.1 this).1
        simp [hlt]
      · exact h e he
    unfold dv at hv
    split at hv
    · rename_i hre
      refine ⟨fun _ => hn t a w hr (Same.refl w) (Agr.refl _ _) (hw ▸ hv), fun i hi => ?_⟩
      rw [hre] at hi; cases hi
    · rename_i hne
      split at hv
      · rename_i i hp
        obtain ⟨hmem, o, ho, hrd, hfree⟩ := pickR_spec hp
        have hoa : ops.toArray[i]? = some o := by simpa using ho
        have hun : listed[i]? = some false := by
          have h0 := (mem_ready.1 hmem).1
          rcases Nat.lt_or_ge i listed.size with h' | h'
          · simp [h'] at h0 ⊢; exact h0
          · simp [Array.getElem?_eq_none h'] at h0
        have hilt := (Array.getElem?_eq_some_iff.1 hun).1
        unfold dvRead at hv
        simp only [ho] at hv
        obtain ⟨t1, e1, hr1, hc⟩ := guarded_sound hr hv
        have hTi : ∀ w : World, Tof P R i w := fun w e he hk => by
          have := hL e he
          rw [hk, hun] at this; cases this
        have go : ∀ v (R' : List Took) (Ti : World → Prop), YieldsIf P ops.toArray Ti o v a → Ti w → (∀ e ∈ R', still P e h) → (∀ e ∈ R', (listed.setIfInBounds i true)[e.i]? = some true) →
            (∀ k w, Tof P R' k w → if k = i then Ti w else Tof P R k w) →
            put N t1 o.dst v (fun t' => dv P x N ops f R' (listed.setIfInBounds i true) t' h K) →
            wpG P ops.toArray (waitsB ops) Q (f + 1) (Tof P R) listed a w := by
          intro v R' Ti hy hti hR' hL' hTT hput
          obtain ⟨t2, h3, h4, h5⟩ := put_sound hr1 hput
          refine wpG_first hoa (Region.noSelect_spec hsel) (fun L j hd hj hl => waitsB_spec hd hj hl) (fun c a w hq => absurd hq (hQ c _ w)) f (Tof P R) listed a w
            (Region.free_spec hoa hfree) hdc hmem hy hti (fun k e he hk => by rw [hw]; exact hR e he) hTi ?_
          refine wpG_mono _ (Tof P R') _ _ _ _ (fun k w' hk => ?_) (ih R' _ t2 h _ w h3 h4 hw hR' hL' (hdc.set hmem) fun t' a' w' k1 k2 k3 k4 => hn t' a' w' k1 k2 (fun n hm => ?_) k4)
          · have := hTT k w' hk
            by_cases hki : k = i
            · simp only [hki, if_true] at this ⊢; exact this
            · simp only [hki, if_false] at this ⊢; exact this
          · exact (k3 n hm).trans ((h5 n (memB_dstsOps ho hm)).trans (e1 n))
        rcases hc with ⟨hw1, hc⟩ | ⟨hw1, hc⟩
        · rw [← hr1.eval] at hc
          split at hc
          · rename_i ty ad hop
            obtain ⟨b, off, hp', h1⟩ := onPtr_spec hc
            obtain ⟨v, h2, h3⟩ := ldv_still (P := P) h1
            refine go v (⟨i, ty, b, off, v⟩ :: R) (fun w => still P ⟨i, ty, b, off, v⟩ w.heap) (.inl ⟨hw1, fun w' hs => ?_⟩) (by rw [hw]; exact (h3 i).1) ?_ ?_ ?_ h2
            · have := (h3 i).2 w' hs
              rw [execOp, hop]
              simp [hp', this]
            · intro e he
              cases he with
              | head => exact (h3 i).1
              | tail _ he => exact hR e he
            · intro e he
              cases he with
              | head => simp [hilt]
              | tail _ he => exact hLset R i hL e he
            · intro k w' hk
              split
              · rename_i hki; exact hk _ (by simp) hki.symm
              · exact fun e he hke => hk e (by simp [he]) hke
          · split at hc
            · exact hc.elim
            · rename_i hnh
              obtain ⟨v, h1, h2⟩ := rd_sound_pure (P := P) (o := o) hnh hc
              refine go v R (fun _ => True) (.inl ⟨hw1, fun w' _ => h2 w'⟩) trivial hR (hLset R i hL) (fun k w' hk => ?_) h1
              split
              · trivial
              · exact hk
        · refine go undef R (fun _ => True) (.inr ⟨hw1, rfl⟩) trivial hR (hLset R i hL) (fun k w' hk => ?_) hc
          split
          · trivial
          · exact hk
      · refine ⟨fun hre' => (hne hre').elim, fun i hi => ?_⟩
        have hb := allI_spec hv i hi
        unfold dvAct at hb
        unfold wpOp
        split at hb
        · rename_i o ho
          simp only [List.getElem?_toArray, ho]
          obtain ⟨t1, e1, hr1, hc⟩ := guarded_sound hr hb
          have fin : ∀ (t2 : Env) (v : Value) (w' : World), Rel N t2 (a.put o.dst v) → Same w w' → (∀ n, o.dst ≠ some n → t2 n = t1 n) → (∀ e ∈ dropR ops i R, still P e w'.heap) →
              dv P x N ops f (dropR ops i R) (listed.setIfInBounds i true) t2 w'.heap K →
              (∀ k, dropT (waitsB ops) i (Tof P R) k w') ∧ wpG P ops.toArray (waitsB ops) Q f (dropT (waitsB ops) i (Tof P R)) (listed.setIfInBounds i true) (a.put o.dst v) w' := by
            intro t2 v w' h3 hs h5 h6 h4
            refine ⟨fun k => Tof_drop h6, wpG_mono _ (Tof P (dropR ops i R)) _ _ _ _ (fun k w2 hk => ?_) (ih _ _ t2 _ _ w' h4 h3 rfl h6 (hLset _ i fun e he => hL e (dropR_mem he)) (hdc.set hi) fun t' a' w2 k1 k2 k3 k4 => hn t' a' w2 k1 (hs.trans k2) (fun n hm => ?_) k4)⟩
            · cases hwt : waitsB ops i k with
              | true => exact .inl hwt
              | false =>
                refine .inr fun e he hke => ?_
                rcases dropR_spec (ops := ops) (j := i) he with h1 | h1
                · rw [hke, hwt] at h1; cases h1
                · exact hk e h1 hke
            · exact (k3 n hm).trans ((h5 n (memB_dstsOps ho hm)).trans (e1 n))
          rcases hc with ⟨hw1, hc⟩ | ⟨hw1, hc⟩
          · rw [if_pos hw1]
            refine .inl ?_
            rw [← hr1.eval] at hc
            cases hnew : isNew o.op with
            | true =>
              simp only [hnew] at hc
              refine ef_sound (P := P) (ef_new hnew hc) hw fun v w' hs hk => ?_
              obtain ⟨hk1, ob, hob⟩ := hk
              obtain ⟨t2, h3, h4, h5⟩ := put_sound hr1 hk1
              exact fin t2 v w' h4 hs h5 (fun e he => by rw [hob]; exact still_push (hR e (dropR_mem he))) h3
            | false =>
              simp only [hnew] at hc
              refine ef_sound (P := P) hc hw fun v w' hs hk => ?_
              obtain ⟨hk1, hk2⟩ := stillAll_spec hk
              obtain ⟨t2, h3, h4, h5⟩ := put_sound hr1 hk1
              exact fin t2 v w' h4 hs h5 hk2 h3
          · rw [if_neg (by simp [hw1])]
            obtain ⟨t2, h3, h4, h5⟩ := put_sound hr1 hc
            exact fin t2 undef w h4 (Same.refl w) h5 (fun e he => by rw [hw]; exact hR e (dropR_mem he)) (by rw [hw]; exact h3)
        · exact hb.elim

theorem drawv_ok {exact : Nat → Md} {N : Nat} : DrawnOk P N (drawv P exact N) := by
  intro id ops t h K a w Q hv hr hw hQ hn
  unfold drawv at hv
  split at hv
  · rename_i hm hs
    refine wp_region_any hm (wpAny_of_wpG (wt := waitsB ops) _ (Tof P []) _ a _ ?_)
    have := dv_sound (P := P) (Q := Q) hs hQ ops.length [] (Array.replicate ops.length false) t h a { w with drawn := w.drawn + 1 } hv hr hw (fun e he => by cases he) (fun e he => by cases he) DC.none fun t' a' w' k1 k2 k3 k4 => hn t' a' w' k1 ⟨k2.os, k2.tape, k2.output, Nat.le_trans (Nat.le_succ _) k2.drawn⟩ k3 k4
    simpa using this
  · exact hv.elim
end Go.Vc
