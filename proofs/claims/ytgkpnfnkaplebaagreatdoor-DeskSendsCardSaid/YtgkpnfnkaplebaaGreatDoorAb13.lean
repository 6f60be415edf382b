/- The abstract machine: regions whose order is open, whatever order comes. -/
import Derived.Test.YtgkpnfnkaplebaaGreatDoorAb12
set_option linter.unusedVariables false
set_option linter.unusedSimpArgs false
set_option linter.constructorNameAsVariable false
namespace Go.Ab
open Go.Vc Go.Proofs.YtgkpnfnkaplebaaGreatDoor
theorem memB_iff {n : Nat} : ∀ {l : List Nat}, memB n l = true ↔ n ∈ l
  | [] => by simp [memB]
  | m :: r => by
    unfold memB
    cases hb : Nat.beq n m with
    | true => simp [beq_true hb]
    | false => simp [memB_iff (l := r), beq_false hb]
section
variable {W : Wd} {ads : List Addr} {φ φ' : Phi} {H H' : AH} {h h' : Heap} {β : Type} {out : β} {P : Program} {D : List (Nat × G β)} {N : Nat} {σ σ' : Nat → DV} {τ τ' : Env} {ops : List Oper}
theorem dev_congr {x : Operand} (hs : ∀ m, memB m (opTmp x) = true → σ' m = σ m) : dev σ' x = dev σ x := by
  cases x with
  | tmp n => exact hs n (memB_iff.2 (by simp [opTmp]))
  | const v => rfl
  | global g => rfl
  | func f => rfl
theorem newD_congr {op : Op} (hs : ∀ m, memB m (opTmps op) = true → σ' m = σ m) (K : Bool → List AV → (P4 → DV) → Option β) : newD P σ' op K = newD P σ op K := by
  unfold newD
  split
  · rfl
  · rename_i e a
    rw [dev_congr (x := a) hs]
  · rename_i t len parts
    have : (parts.toList.map fun (i, x) => (i, dev σ' x)) = parts.toList.map fun (i, x) => (i, dev σ x) := by
      refine List.map_congr_left fun p hp => ?_
      obtain ⟨i, x⟩ := p
      show (i, dev σ' x) = (i, dev σ x)
      rw [dev_congr (x := x) fun m hm => hs m (memB_iff.2 (List.mem_flatMap.2 ⟨_, hp, memB_iff.1 hm⟩))]
    rw [this]
  · rename_i t l c
    rw [dev_congr (x := l) fun m hm => hs m (memB_iff.2 (List.mem_append.2 (.inl (memB_iff.1 hm)))), dev_congr (x := c) fun m hm => hs m (memB_iff.2 (List.mem_append.2 (.inr (memB_iff.1 hm))))]
  · rfl
theorem isNew_rd {P : Program} {op : Op} (h : isNew op = true) : isRd P op = false := by cases op <;> first | rfl | cases h
theorem getD_tf {L : Array Bool} {n j : Nat} (hs : L.size = n) : L.getD j true = false ↔ j < n ∧ L.getD j false = false := by
  subst hs
  rcases Nat.lt_or_ge j L.size with h | h
  · simp [h]
  · simp [Array.getElem?_eq_none h]; omega
theorem set_get {L : Array Bool} {i j : Nat} (hi : i < L.size) : (L.setIfInBounds i true).getD j false = true ↔ j = i ∨ L.getD j false = true := by
  by_cases h : i = j
  · subst h; simp [hi]
  · simp [Array.getElem?_setIfInBounds, h, Ne.symm h]
/-- Ready, by the list's numbers. -/
theorem rdy {L : Array Bool} (hs : L.size = ops.length) {j : Nat} : j ∈ Region.ready .any ops.toArray L ↔ j < ops.length ∧ L.getD j false = false ∧ ∃ o, ops[j]? = some o ∧ ∀ e ∈ o.after, Region.binds .any e = true → L.getD e.on false = true := by
  rw [mem_ready, getD_tf hs]
  constructor
  · rintro ⟨⟨h1, h2⟩, o, h3, h4⟩; exact ⟨h1, h2, o, by simpa using h3, h4⟩
  · rintro ⟨h1, h2, o, h3, h4⟩; exact ⟨⟨h1, h2⟩, o, by simpa using h3, h4⟩
theorem not_wait {A : Array Bool} (hd : DC ops.toArray A) {n i : Nat} (hn : n ∈ Region.ready .any ops.toArray A) (hi : A.getD i false = false) : waitsB ops n i = false := by
  cases hw : waitsB ops n i with
  | false => rfl
  | true =>
    have := waitsB_spec hd hn hw
    rw [this] at hi; cases hi
theorem count_set : ∀ {l : List Bool} {i : Nat}, l[i]? = some false → (l.set i true).count false + 1 = l.count false
  | [], i, h => by cases h
  | b :: r, 0, h => by
    simp at h; subst h; simp
  | b :: r, i + 1, h => by
    have := count_set (l := r) (i := i) (by simpa using h)
    simp only [List.set_cons_succ, List.count_cons]
    omega
def unl (L : Array Bool) : Nat := L.toList.count false
theorem unl_set {L : Array Bool} {i : Nat} (hi : i < L.size) (hf : L.getD i false = false) : unl (L.setIfInBounds i true) + 1 = unl L := by
  unfold unl
  rw [Array.toList_setIfInBounds]
  refine count_set ?_
  simp [hi] at hf
  simp [hi, hf]
theorem setAll_size : ∀ {ns : List Nat} {L : Array Bool}, (setAll L ns).size = L.size
  | [], L => rfl
  | n :: r, L => by
    show (setAll (L.setIfInBounds n true) r).size = _
    rw [setAll_size]; simp
theorem setAll_get : ∀ {ns : List Nat} {L : Array Bool} {j : Nat}, (∀ n ∈ ns, n < L.size) → ((setAll L ns).getD j false = true ↔ j ∈ ns ∨ L.getD j false = true)
  | [], L, j, _ => by simp [setAll]
  | n :: r, L, j, hn => by
    show (setAll (L.setIfInBounds n true) r).getD j false = true ↔ _
    rw [setAll_get (by intro m hm; simp; exact hn m (List.mem_cons_of_mem _ hm)), set_get (hn n List.mem_cons_self)]
    constructor
    · rintro (h | h | h)
      · exact .inl (List.mem_cons_of_mem _ h)
      · exact .inl (by rw [h]; exact List.mem_cons_self)
      · exact .inr h
    · rintro (h | h)
      · cases h with
        | head => exact .inr (.inl rfl)
        | tail _ h => exact .inl h
      · exact .inr (.inr h)
theorem uN_cons {n : Nat} {r : List Nat} {σ : Nat → DV} : (uN ops (n :: r) σ = uN ops r σ ∧ ∀ o d, ops[n]? = some o → o.dst ≠ some d) ∨ ∃ o d, ops[n]? = some o ∧ o.dst = some d ∧ uN ops (n :: r) σ = uN ops r (updD σ d .u) := by
  cases ho : ops[n]? with
  | none => exact .inl ⟨by simp [uN, ho], fun o d h => by cases h⟩
  | some o =>
    cases hd : o.dst with
    | none => exact .inl ⟨by simp [uN, ho, hd], fun o' d h => by cases h; rw [hd]; exact fun h => by cases h⟩
    | some d => exact .inr ⟨o, d, rfl, hd, by simp [uN, ho, hd]⟩
theorem uN_at : ∀ {ns : List Nat} {σ : Nat → DV} {m : Nat}, (uN ops ns σ m = σ m ∨ (uN ops ns σ m = .u ∧ ∃ n ∈ ns, ∃ o, ops[n]? = some o ∧ o.dst = some m))
  | [], σ, m => .inl rfl
  | n :: r, σ, m => by
    have lift : ∀ {σ' : Nat → DV}, (uN ops r σ' m = .u ∧ ∃ n ∈ r, ∃ o, ops[n]? = some o ∧ o.dst = some m) → uN ops r σ' m = .u ∧ ∃ n' ∈ n :: r, ∃ o, ops[n']? = some o ∧ o.dst = some m :=
      fun ⟨h1, n', h2, h3⟩ => ⟨h1, n', List.mem_cons_of_mem _ h2, h3⟩
    rcases uN_cons (ops := ops) (n := n) (r := r) (σ := σ) with ⟨hu, _⟩ | ⟨o, d, ho, hd, hu⟩
    · rw [hu]; exact (uN_at (ns := r)).imp id lift
    · rw [hu]
      rcases uN_at (ns := r) (σ := updD σ d .u) (m := m) with h | h
      · by_cases hm : m = d
        · subst hm
          refine .inr ⟨?_, n, List.mem_cons_self, o, ho, hd⟩
          rw [h]; unfold updD; simp
        · exact .inl (h.trans (updD_ne hm))
      · exact .inr (lift h)
theorem uN_u : ∀ {ns : List Nat} {σ : Nat → DV} {m n : Nat} {o : Oper}, (n ∈ ns ∨ σ m = .u) → ops[n]? = some o → o.dst = some m → uN ops ns σ m = .u
  | [], σ, m, n, o, hn, ho, hd => hn.resolve_left (by simp)
  | k :: r, σ, m, n, o, hn, ho, hd => by
    rcases uN_cons (ops := ops) (n := k) (r := r) (σ := σ) with ⟨hu, hno⟩ | ⟨o', d, ho', hd', hu⟩
    · rw [hu]
      refine uN_u (n := n) (hn.imp (fun h => ?_) id) ho hd
      cases h with
      | head => exact absurd hd (hno o m ho)
      | tail _ h => exact h
    · rw [hu]
      rcases hn with h | h
      · cases h with
        | head =>
          rw [ho] at ho'; cases ho'
          rw [hd] at hd'; cases hd'
          exact uN_u (n := k) (.inr (by unfold updD; simp)) ho hd
        | tail _ h => exact uN_u (n := n) (.inl h) ho hd
      · refine uN_u (n := n) (.inr ?_) ho hd
        unfold updD
        cases Nat.beq m d
        · exact h
        · rfl
theorem RN.uN (hn : RN ads φ σ τ) (ns : List Nat) : RN ads φ (uN ops ns σ) τ := fun m => by
  rcases uN_at (ops := ops) (ns := ns) (σ := σ) (m := m) with h | ⟨h, _⟩
  · rw [h]; exact hn m
  · rw [h]; trivial
/-- What stands is told of new memory that may be made early. -/
def Fix (ops : List Oper) (A : Array Bool) (n d : Nat) (op : Op) : Prop :=
  memB d (opTmps op) = false ∧ ∀ j oj, ops[j]? = some oj → j ≠ n → A.getD j false = false → ∀ m, oj.dst = some m → m ≠ d ∧ memB m (opTmps op) = false
theorem newOk_spec {A : Array Bool} (hs : A.size = ops.length) {n : Nat} (h : newOk ops A n = true) : ∃ o d, ops[n]? = some o ∧ isNew o.op = true ∧ o.guard = none ∧ o.dst = some d ∧ Fix ops A n d o.op := by
  unfold newOk at h
  split at h
  · rename_i o ho
    split at h
    · rename_i d h1 h2 h3
      rw [Bool.and_eq_true] at h
      obtain ⟨h0, h⟩ := h
      refine ⟨o, d, ho, h1, h2, h3, by simpa using h0, fun j oj hj hne hA m hm => ?_⟩
      have hlt := (List.getElem?_eq_some_iff.1 hj).1
      have h4 := List.all_eq_true.1 h j (List.mem_range.2 hlt)
      have hA' : A.getD j true = false := (getD_tf hs).2 ⟨hlt, hA⟩
      have hb : Nat.beq j n = false := Bool.eq_false_iff.2 fun k => hne (Nat.eq_of_beq_eq_true k)
      rw [hA', hb] at h4
      simp only [hj, hm, Bool.false_or, Bool.and_eq_true, Bool.not_eq_true'] at h4
      exact ⟨beq_false h4.1, h4.2⟩
    · cases h
  · cases h
theorem Fix.set {A : Array Bool} {n d i : Nat} {op : Op} (hi : i < A.size) (h : Fix ops A n d op) : Fix ops (A.setIfInBounds i true) n d op :=
  ⟨h.1, fun j oj hj hne hA m hm => h.2 j oj hj hne (by
    cases hx : A.getD j false with
    | false => rfl
    | true =>
      have := (set_get (j := j) hi).2 (.inr hx)
      rw [this] at hA; cases hA) m hm⟩
theorem tstN_at {K : Option β} (hn : RN ads φ σ τ) : ∀ {ns : List Nat}, tstN P N ops σ K ns = some out → K = some out ∧ ∀ n ∈ ns, ∀ o, ops[n]? = some o → (∀ d, o.dst = some d → Nat.blt d N = true) ∧ ∃ K' : Option β, newD P σ o.op (fun _ _ _ => K') = some out
  | [], e => ⟨e, fun n hn => by cases hn⟩
  | k :: r, e => by
    unfold tstN at e
    split at e
    · rename_i o ho
      have e1 : (∀ d, o.dst = some d → Nat.blt d N = true) ∧ newD P σ o.op (fun _ _ _ => tstN P N ops σ K r) = some out := by
        unfold putO at e
        split at e
        · rename_i hd; exact ⟨fun d h => (by rw [hd] at h; cases h), e⟩
        · rename_i d hd
          split at e
          · rename_i hb; exact ⟨fun d' h => (by rw [hd] at h; cases h; exact hb), e⟩
          · cases e
      obtain ⟨c, l, mk, cs, vb, T, _, e2, _⟩ := newD_spec (x := ⟨false, false⟩) (ty := 0) hn e1.2
      obtain ⟨h1, h2⟩ := tstN_at hn e2
      refine ⟨h1, fun n hm o' ho' => ?_⟩
      cases hm with
      | head => rw [ho] at ho'; cases ho'; exact ⟨e1.1, _, e1.2⟩
      | tail _ hm => exact h2 n hm o' ho'
    · cases e
theorem alN_raw {c : Bool} {L : List AV} {m : T4 Blk} {nx : P4} {kk : P4 → AH → Option β} (e : alN c (.mk m nx) L kk = some out) :
    ∃ t, kk nx (.mk (T4.set .dead nx (.c t L.length 0) m) nx.succ) = some out ∧ ∀ q : P4, q.num < L.length → T4.get .x q t = (L[q.num]?).getD .x := by
  have fin : ∀ {t : T4 AV} {n : Nat}, n = L.length → alB (.mk m nx) t n 0 kk = some out → kk nx (.mk (T4.set .dead nx (.c t L.length 0) m) nx.succ) = some out := fun hn e => by
    unfold alB at e
    dsimp only at e
    rw [T4.setK_eq, P4.succK_eq, hn] at e
    exact e
  cases c with
  | false =>
    obtain ⟨t, e, ht⟩ := wrT_spec (q := .h) (o := 0) rfl (show wrT L .h .e _ = some out from e)
    exact ⟨t, fin (llen_eq L) e, fun q hq => by rw [ht q, if_pos (by omega)]; simp⟩
  | true =>
    refine ⟨_, fin rfl (show alB (.mk m nx) (treeF L .h .e) L.length 0 kk = some out from e), fun q hq => ?_⟩
    rw [treeF_get (o := 0) rfl q, if_pos (by omega)]; simp
theorem HR.weak {W' : Wd} (hle : W.le W') (hr : HR W' ads φ H h) : HR W ads φ H h := by
  refine ⟨fun b x hx => hr.w b x (hle b x hx), fun p t n es hg => ?_, hr.inj, hr.dom, hr.mm.keep (fun _ _ k => k) (fun b _ _ k => ?_) (fun _ _ _ k => k) (fun _ _ _ _ k => k) fun _ _ k _ => k⟩
  rotate_left
  · cases hx : W b with
    | none => rfl
    | some x => rw [hle _ _ hx] at k; cases k
  obtain ⟨l, cs, T, h1, h2, h3, h4⟩ := hr.blk p t n es hg
  refine ⟨l, cs, T, h1, h2, ?_, h4⟩
  cases hx : W l.b with
  | none => rfl
  | some x => rw [hle _ _ hx] at h3; cases h3
theorem HR.pushW (hr : HR W ads φ H h) (o : Obj) : HR (fun b => if b = h.size then some o else W b) ads φ H (h.push o) := by
  refine ⟨fun b x hx => ?_, fun p t n es hg => ?_, hr.inj, hr.dom, hr.mm.keep (fun _ _ k => k) (fun b o' ho k => ?_) (fun _ _ _ k => k) (fun _ _ _ _ k => k) fun b o' ho _ => ?_⟩
  rotate_left 2
  · show (if b = h.size then _ else _) = none
    rw [if_neg (by have := (Array.getElem?_eq_some_iff.1 ho).1; omega)]; exact k
  · rw [Array.getElem?_push, if_neg (by have := (Array.getElem?_eq_some_iff.1 ho).1; omega)]; exact ho
  · by_cases hb : b = h.size
    · subst hb; rw [if_pos rfl] at hx; cases hx; simp
    · rw [if_neg hb] at hx
      have := hr.w _ _ hx
      rw [Array.getElem?_push_lt (Array.getElem?_eq_some_iff.1 this).1, ← Array.getElem?_eq_getElem]; exact this
  · obtain ⟨l, cs, T, h1, h2, h3, h4⟩ := hr.blk p t n es hg
    have hlt := (Array.getElem?_eq_some_iff.1 h2).1
    refine ⟨l, cs, T, h1, ?_, ?_, h4⟩
    · rw [Array.getElem?_push_lt hlt, ← Array.getElem?_eq_getElem]; exact h2
    · show (if l.b = h.size then _ else _) = none
      rw [if_neg (by omega)]; exact h3
end
end Go.Ab
