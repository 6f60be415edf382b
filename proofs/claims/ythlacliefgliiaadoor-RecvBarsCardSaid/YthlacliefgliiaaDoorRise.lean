/- Lists of numbers that rise. -/
set_option linter.unusedVariables false
namespace Go.Proofs.YthlacliefgliiaaDoor
abbrev Rise (l : List Nat) : Prop := l.Pairwise (· < ·)
theorem rise_nodup {l : List Nat} (h : Rise l) : l.Nodup := h.imp fun hab e => by omega
/-- Two that rise and have the same members are the same. -/
theorem rise_ext : ∀ {l r : List Nat}, Rise l → Rise r → (∀ k, k ∈ l ↔ k ∈ r) → l = r
  | [], [], _, _, _ => rfl
  | [], b :: r, _, _, h => by have := (h b).2 (List.mem_cons_self ..); cases this
  | a :: l, [], _, _, h => by have := (h a).1 (List.mem_cons_self ..); cases this
  | a :: l, b :: r, hl, hr, h => by
    obtain ⟨ha, hl'⟩ := List.pairwise_cons.1 hl
    obtain ⟨hb, hr'⟩ := List.pairwise_cons.1 hr
    have e : a = b := by
      rcases List.mem_cons.1 ((h a).1 (List.mem_cons_self ..)) with h1 | h1
      · exact h1
      · rcases List.mem_cons.1 ((h b).2 (List.mem_cons_self ..)) with h2 | h2
        · exact h2.symm
        · have := hb a h1; have := ha b h2; omega
    subst e
    congr 1
    refine rise_ext hl' hr' fun k => ⟨fun hk => ?_, fun hk => ?_⟩
    · rcases List.mem_cons.1 ((h k).1 (List.mem_cons_of_mem _ hk)) with h1 | h1
      · have := ha k hk; omega
      · exact h1
    · rcases List.mem_cons.1 ((h k).2 (List.mem_cons_of_mem _ hk)) with h1 | h1
      · have := hb k hk; omega
      · exact h1
theorem rise_range' (p m : Nat) : Rise (List.range' p m) := List.pairwise_lt_range'
theorem rise_filter {l : List Nat} {f : Nat → Bool} (h : Rise l) : Rise (l.filter f) := List.Pairwise.sublist List.filter_sublist h
theorem rise_split {l : List Nat} {w : Nat} (h : Rise l) : l = l.filter (fun k => decide (k < w)) ++ l.filter (fun k => decide (w ≤ k)) := by
  refine rise_ext h ?_ fun k => by
    simp only [List.mem_append, List.mem_filter, decide_eq_true_eq]
    constructor
    · intro hk
      rcases Nat.lt_or_ge k w with h1 | h1
      · exact .inl ⟨hk, h1⟩
      · exact .inr ⟨hk, h1⟩
    · rintro (hk | hk)
      · exact hk.1
      · exact hk.1
  refine List.pairwise_append.2 ⟨rise_filter h, rise_filter h, fun a ha b hb => ?_⟩
  have h1 := of_decide_eq_true (List.mem_filter.1 ha).2
  have h2 := of_decide_eq_true (List.mem_filter.1 hb).2
  omega
/-- Where all of so many from w on are there, or are beyond all, the first ones are they. -/
theorem rise_run : ∀ {K : List Nat} {w m q : Nat}, Rise K → (∀ k ∈ K, w ≤ k ∧ k < q) → (∀ i, i < m → w + i ∈ K ∨ w + i = q) → ∀ (i : Nat) (hm : i < m) (hK : i < K.length), K[i] = w + i
  | [], w, m, q, _, _, _, i, _, hK => by simp at hK
  | a :: K, w, m, q, hr, hb, hx, i, hm, hK => by
    obtain ⟨ha, hr'⟩ := List.pairwise_cons.1 hr
    have hba := hb a (List.mem_cons_self ..)
    have e : a = w := by
      rcases hx 0 (by omega) with h | h
      · rcases List.mem_cons.1 h with h | h
        · omega
        · have := ha _ h; omega
      · omega
    subst e
    cases i with
    | zero => rfl
    | succ i =>
      have ih := rise_run (K := K) (w := a + 1) (m := m - 1) (q := q) hr' (fun k hk => ⟨ha k hk, (hb k (List.mem_cons_of_mem _ hk)).2⟩) (fun j hj => by
        have := hx (j + 1) (by omega)
        rw [show a + (j + 1) = a + 1 + j by omega] at this
        rcases this with h | h
        · rcases List.mem_cons.1 h with h | h
          · omega
          · exact .inl h
        · exact .inr h) i (by omega) (by simpa using hK)
      simp only [List.getElem_cons_succ]
      rw [ih]; omega
end Go.Proofs.YthlacliefgliiaaDoor
