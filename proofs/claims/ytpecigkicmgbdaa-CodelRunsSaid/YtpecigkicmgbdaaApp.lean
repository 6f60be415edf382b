/- Appends to a slice that a call has made itself. No program is named here. -/
import Derived.Test.YtpecigkicmgbdaaMem
set_option linter.unusedVariables false
set_option linter.unusedSimpArgs false
namespace Go.Vc
/-- A slice of 'l' elements of 'sz' cells each, the cells 'vs', that this call owns: what must stand of it in the list of blocks. -/
def Own (a : Option Addr) (l c sz : Nat) (vs : List Value) (E : List (Nat × List Value × TypeId)) : Prop :=
  (a = none ∧ l = 0 ∧ c = 0 ∧ vs = [] ∧ E = []) ∨
  ∃ (b : Nat) (rest : List Value) (T : TypeId), a = some ⟨b, 0, none⟩ ∧ l ≤ c ∧ vs.length = l * sz ∧ rest.length = (c - l) * sz ∧ E = [(b, vs ++ rest, T)]
theorem Mem.sub {h0 h : Heap} {S : List Nat} {L L' : List (Nat × List Value × TypeId)} (m : Mem h0 h S L) (hs : ∃ K, L.Perm (L' ++ K)) : Mem h0 h S L' := by
  obtain ⟨K, hp⟩ := hs
  have hsub : ∀ x ∈ L', x ∈ L := fun x hx => hp.mem_iff.2 (List.mem_append_left _ hx)
  refine ⟨m.le, m.keep, fun x hx => m.has x (hsub x hx), fun x hx => m.new x (hsub x hx), ?_⟩
  have := (hp.map (·.1)).nodup_iff.1 m.nd
  rw [List.map_append] at this
  exact (List.nodup_append.1 this).1
section
variable {h0 h : Heap} {S : List Nat} {L E : List (Nat × List Value × TypeId)} {a : Option Addr} {l c sz : Nat} {T : TypeId} {vs : List Value}
theorem Own.nil {sz : Nat} : Own none 0 0 sz [] [] := .inl ⟨rfl, rfl, rfl, rfl, rfl⟩
theorem Own.fresh {b l sz : Nat} {vs : List Value} {T : TypeId} (hl : vs.length = l * sz) : Own (some ⟨b, 0, none⟩) l l sz vs [(b, vs, T)] := .inr ⟨b, [], T, rfl, Nat.le_refl _, hl, by simp, by simp⟩
theorem Own.len (o : Own a l c sz vs E) : vs.length = l * sz := by
  rcases o with ⟨_, rfl, _, rfl, _⟩ | ⟨b, rest, T, _, _, h, _⟩
  · simp
  · exact h
theorem Own.src (o : Own a l c sz vs E) (m : Mem h0 h S (E ++ L)) : Go.Vc.src h a (l * sz) vs := by
  rcases o with ⟨rfl, rfl, rfl, rfl, rfl⟩ | ⟨b, rest, T, rfl, h1, h2, h3, rfl⟩
  · rfl
  · have hb := m.blk 0 rfl
    show Go.Vc.row h b 0 (l * sz) = some vs
    rw [hb.row (by simp; omega)]
    simp [← h2]
/-- Cells of it. -/
theorem Own.row (o : Own a l c sz vs E) (m : Mem h0 h S (E ++ L)) {i n : Nat} (hn : 0 < n) (hi : i + n ≤ vs.length) : ∃ b, a = some ⟨b, 0, none⟩ ∧ Go.Vc.row h b i n = some ((vs.drop i).take n) := by
  rcases o with ⟨rfl, rfl, rfl, rfl, rfl⟩ | ⟨b, rest, T, rfl, h1, h2, h3, rfl⟩
  · simp at hi; omega
  · have hb := m.blk 0 rfl
    refine ⟨b, rfl, ?_⟩
    rw [hb.row (by simp; omega), List.drop_append_of_le_length (by omega), List.take_append_of_le_length (by simp; omega)]
theorem setL_append {vs rest us : List Value} (h : us.length ≤ rest.length) : setL (vs ++ rest) vs.length us = (vs ++ us) ++ rest.drop us.length := by
  rw [setL_eq (by simp; omega)]
  simp [List.drop_append]
/-- append: in place or anew. -/
theorem Own.append {k : Nat} {us : List Value} {bytes e : Nat} {Q : Option Addr → Nat → Heap → Prop} (o : Own a l c sz vs E) (m : Mem h0 h S (E ++ L)) (hus : us.length = k * sz) (hfit : (l + k) * bytes ≤ 140737488355328) (hb0 : 0 < bytes)
    (q : ∀ a' c' E' h', Mem h0 h' S (E' ++ L) → Own a' (l + k) c' sz (vs ++ us) E' → Q a' c' h') :
    (l + k ≤ c → appIn a (Q none c h) fun b o => wrs h b (o + l * sz) us.length ∧ ∀ h1 : Heap, h1 = setr h b (o + l * sz) us → Q (some ⟨b, o, none⟩) c h1) ∧
    (c < l + k → ((l + k) * bytes ≤ 140737488355328 ∧ 0 < bytes) ∧ ∃ olds : List Value, Go.Vc.src h a (l * sz) olds ∧ ∀ (cap : Nat) (zs : List Value) (b : Nat) (h1 : Heap), l + k ≤ cap → zs.length = (cap - (l + k)) * sz → b = h.size →
      h1 = h.push (.cells (olds ++ us ++ zs).toArray e) → Q (some ⟨b, 0, none⟩) cap h1) := by
  refine ⟨fun hle => ?_, fun hlt => ⟨⟨hfit, hb0⟩, vs, o.src m, fun cap zs b h1 h2 h3 h4 h5 => ?_⟩⟩
  · rcases o with ⟨rfl, rfl, rfl, rfl, rfl⟩ | ⟨b, rest, T, rfl, h1, h2, h3, rfl⟩
    · obtain rfl : k = 0 := by omega
      have : us = [] := List.eq_nil_of_length_eq_zero (by rw [hus]; simp)
      subst this
      exact q none 0 [] h m (.inl ⟨rfl, rfl, rfl, rfl, rfl⟩)
    · show wrs h b (0 + l * sz) us.length ∧ _
      rw [Nat.zero_add]
      have hbk := m.blk 0 rfl
      have hlen : us.length ≤ rest.length := by
        rw [hus, h3]; exact Nat.mul_le_mul_right _ (by omega)
      refine ⟨hbk.wrs (by simp; omega), fun h' e9 => ?_⟩
      have m' := m.setr 0 rfl e9
      simp only [List.cons_append, List.nil_append, List.set_cons_zero] at m'
      rw [← h2, setL_append hlen] at m'
      refine q _ _ [(b, (vs ++ us) ++ rest.drop us.length, T)] _ m' (.inr ⟨b, rest.drop us.length, T, rfl, hle, by simp [h2, hus, Nat.add_mul], ?_, rfl⟩)
      rw [List.length_drop, h3, hus, ← Nat.sub_mul]
      congr 1; omega
  · have m' := m.push h5 h4
    rcases o with ⟨rfl, rfl, rfl, rfl, rfl⟩ | ⟨b0, rest, T, rfl, g1, g2, g3, rfl⟩
    · exact q _ _ [(b, [] ++ us ++ zs, e)] _ m' (.inr ⟨b, zs, e, rfl, h2, by simp [hus], h3, rfl⟩)
    · have m2 := m'.forget 1
      exact q _ _ [(b, vs ++ us ++ zs, e)] _ m2 (.inr ⟨b, zs, e, rfl, h2, by simp [g2, hus, Nat.add_mul], h3, rfl⟩)
end
end Go.Vc
