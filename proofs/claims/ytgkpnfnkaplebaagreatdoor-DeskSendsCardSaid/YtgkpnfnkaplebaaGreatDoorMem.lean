/- Memory by blocks: what a call has turned, what it has left. No program is named here. -/
import Derived.Test.YtgkpnfnkaplebaaGreatDoorVc
set_option linter.unusedVariables false
set_option linter.unusedSimpArgs false
namespace Go.Vc

/-- A block's cells. -/
def Blk (h : Heap) (b : Nat) (vs : List Value) (T : TypeId) : Prop := h[b]? = some (.cells vs.toArray T)
section
variable {h h' h0 : Heap} {b b' o n : Nat} {vs ws : List Value} {T T' : TypeId} {v : Value}
theorem Blk.lt (hb : Blk h b vs T) : b < h.size := (Array.getElem?_eq_some_iff.1 hb).1
theorem Blk.cell (hb : Blk h b vs T) : Go.Vc.cell h b o = vs[o]? := by unfold Blk at hb; simp [Go.Vc.cell, hb]
theorem Blk.cell_eq (hb : Blk h b vs T) (e : vs[o]? = some v) : Go.Vc.cell h b o = some v := hb.cell.trans e
theorem row_of_cells : ∀ {n o : Nat} {cs : List Value}, cs.length = n → (∀ j v, cs[j]? = some v → Go.Vc.cell h b (o + j) = some v) → row h b o n = some cs
  | 0, o, cs, hl, _ => by rw [List.eq_nil_of_length_eq_zero hl]; rfl
  | n + 1, o, c :: cs, hl, hc => by
    have h1 := hc 0 c rfl
    have h2 := row_of_cells (n := n) (o := o + 1) (cs := cs) (by simpa using hl) (fun j v hj => by
      have := hc (j + 1) v (by simpa using hj)
      rw [show o + 1 + j = o + (j + 1) by omega]; exact this)
    simp only [row]
    rw [show Go.Vc.cell h b o = some c by simpa using h1, h2]
theorem row_iff {cs : List Value} : row h b o n = some cs ↔ cs.length = n ∧ ∀ j v, cs[j]? = some v → Go.Vc.cell h b (o + j) = some v :=
  ⟨row_cells, fun ⟨h1, h2⟩ => row_of_cells h1 h2⟩
theorem Blk.row (hb : Blk h b vs T) (hl : o + n ≤ vs.length) : Go.Vc.row h b o n = some ((vs.drop o).take n) := by
  refine row_of_cells (by simp; omega) fun j v hj => ?_
  rw [hb.cell]
  have hjn : j < n := by have := (List.getElem?_eq_some_iff.1 hj).1; simp at this; omega
  rw [List.getElem?_take_of_lt hjn, List.getElem?_drop] at hj
  exact hj
theorem Blk.row_eq {cs : List Value} (hb : Blk h b vs T) (e : (vs.drop o).take n = cs) (hl : o + n ≤ vs.length) : Go.Vc.row h b o n = some cs := e ▸ hb.row hl
theorem Blk.wr (hb : Blk h b vs T) (ho : o < vs.length) : Go.Vc.wr h b o := ⟨_, _, 0, 0, hb, by simpa using ho, by omega⟩
theorem Blk.wrs (hb : Blk h b vs T) (ho : o + n ≤ vs.length) : Go.Vc.wrs h b o n := ⟨_, _, 0, 0, hb, by simpa using ho, by omega⟩
theorem setc_size : (setc h b o v).size = h.size := by simp [setc]
theorem setc_ne (hne : b' ≠ b) : (setc h b o v)[b']? = h[b']? := by
  unfold setc
  rw [Array.getElem?_modify]
  simp [Ne.symm hne]
theorem Blk.setc (hb : Blk h b vs T) : Blk (Go.Vc.setc h b o v) b (vs.set o v) T := by
  have := setc_get (o := o) (v := v) hb
  unfold Blk
  rw [this]
  simp
theorem setr_size : ∀ {us : List Value} {h : Heap} {o : Nat}, (setr h b o us).size = h.size
  | [], _, _ => rfl
  | u :: us, h, o => by simp only [setr]; rw [setr_size, setc_size]
theorem setr_ne (hne : b' ≠ b) : ∀ {us : List Value} {h : Heap} {o : Nat}, (setr h b o us)[b']? = h[b']?
  | [], _, _ => rfl
  | u :: us, h, o => by simp only [setr]; rw [setr_ne hne, setc_ne hne]
def setL : List Value → Nat → List Value → List Value
  | vs, _, [] => vs
  | vs, o, u :: us => setL (vs.set o u) (o + 1) us
theorem setL_eq : ∀ {us vs : List Value} {o : Nat}, o + us.length ≤ vs.length → setL vs o us = vs.take o ++ us ++ vs.drop (o + us.length)
  | [], vs, o, _ => by simp [setL]
  | u :: us, vs, o, hl => by
    simp only [setL]
    rw [setL_eq (by simp at hl ⊢; omega)]
    simp at hl
    have e1 : (vs.set o u).take (o + 1) = vs.take o ++ [u] := by
      rw [List.take_add_one, List.take_set_of_le (Nat.le_refl _)]
      simp [show o < vs.length by omega]
    have e2 : (vs.set o u).drop (o + 1 + us.length) = vs.drop (o + (us.length + 1)) := by
      rw [List.drop_set_of_lt (by omega)]; congr 1; omega
    rw [e1, e2]; simp
theorem Blk.setr : ∀ {us vs : List Value} {h : Heap} {o : Nat}, Blk h b vs T → Blk (Go.Vc.setr h b o us) b (setL vs o us) T
  | [], _, _, _, hb => hb
  | u :: us, vs, h, o, hb => by simp only [Go.Vc.setr, setL]; exact Blk.setr hb.setc
theorem Blk.push_old {x : Obj} (hb : Blk h b vs T) : Blk (h.push x) b vs T := by
  unfold Blk at hb ⊢
  rw [Array.getElem?_push_lt (Blk.lt hb)]
  rw [Array.getElem?_eq_getElem (Blk.lt hb)] at hb
  exact hb
theorem Blk.push_new : Blk (h.push (.cells vs.toArray T)) h.size vs T := by unfold Blk; simp
end

/-- From h0 to h: of the old blocks only those in S may have turned; the blocks in L hold what is told, each is in S or new. -/
structure Mem (h0 h : Heap) (S : List Nat) (L : List (Nat × List Value × TypeId)) : Prop where
  le : h0.size ≤ h.size
  keep : ∀ b, b < h0.size → b ∉ S → h[b]? = h0[b]?
  has : ∀ x ∈ L, Blk h x.1 x.2.1 x.2.2
  new : ∀ x ∈ L, x.1 ∈ S ∨ h0.size ≤ x.1
  nd : (L.map (·.1)).Nodup
section
variable {h0 h h' : Heap} {S : List Nat} {L : List (Nat × List Value × TypeId)} {b o n i : Nat} {vs : List Value} {T : TypeId} {v : Value}
theorem Mem.start (h : Heap) : Mem h h [] [] := ⟨Nat.le_refl _, fun _ _ _ => rfl, fun x hx => (by cases hx), fun x hx => (by cases hx), List.nodup_nil⟩
theorem Mem.start1 (hb : Blk h b vs T) : Mem h h [b] [(b, vs, T)] :=
  ⟨Nat.le_refl _, fun _ _ _ => rfl, fun x hx => (by simp at hx; subst hx; exact hb), fun x hx => (by simp at hx; subst hx; simp), by simp⟩
theorem Mem.blk (m : Mem h0 h S L) (i : Nat) (hi : L[i]? = some (b, vs, T)) : Blk h b vs T := m.has _ (List.mem_of_getElem? hi)
theorem Mem.cell (m : Mem h0 h S L) (i : Nat) (hi : L[i]? = some (b, vs, T)) (e : vs[o]? = some v) : cell h b o = some v := (m.blk i hi).cell_eq e
theorem Mem.push (m : Mem h0 h S L) (hh : h' = h.push (.cells vs.toArray T)) (hb : b = h.size) : Mem h0 h' S ((b, vs, T) :: L) := by
  subst hh; subst hb
  refine ⟨by simp; have := m.le; omega, fun b hb hs => ?_, fun x hx => ?_, fun x hx => ?_, ?_⟩
  · rw [Array.getElem?_push_lt (by have := m.le; omega)]
    rw [← m.keep b hb hs, Array.getElem?_eq_getElem]
  · cases hx with
    | head => exact Blk.push_new
    | tail _ hx => exact (m.has x hx).push_old
  · cases hx with
    | head => exact .inr m.le
    | tail _ hx => exact m.new x hx
  · simp only [List.map_cons, List.nodup_cons]
    refine ⟨fun hc => ?_, m.nd⟩
    obtain ⟨x, hx, he⟩ := List.mem_map.1 hc
    have := (m.has x hx).lt
    omega
theorem nodup_ne {L : List (Nat × List Value × TypeId)} (hn : (L.map (·.1)).Nodup) {i j : Nat} {x y : Nat × List Value × TypeId} (hi : L[i]? = some x) (hj : L[j]? = some y) (hij : i ≠ j) : x.1 ≠ y.1 := by
  intro he
  have h1 : (L.map (·.1))[i]? = some x.1 := by simp [hi]
  have h2 : (L.map (·.1))[j]? = some y.1 := by simp [hj]
  have hil := (List.getElem?_eq_some_iff.1 h1).1
  have hjl := (List.getElem?_eq_some_iff.1 h2).1
  have e1 := (List.getElem?_eq_some_iff.1 h1).2
  have e2 := (List.getElem?_eq_some_iff.1 h2).2
  have hp := List.pairwise_iff_getElem.1 hn
  rcases Nat.lt_or_gt_of_ne hij with h | h
  · exact hp i j hil hjl h (by rw [e1, e2, he])
  · exact hp j i hjl hil h (by rw [e1, e2, he])
/-- One block of those that are known turns. -/
theorem Mem.turn {ws : List Value} (m : Mem h0 h S L) (i : Nat) (hi : L[i]? = some (b, vs, T)) (hs : h.size ≤ h'.size) (hb : Blk h' b ws T) (hk : ∀ c, c < h.size → c ≠ b → h'[c]? = h[c]?) :
    Mem h0 h' S (L.set i (b, ws, T)) := by
  have hil := (List.getElem?_eq_some_iff.1 hi).1
  have e1 : (L.set i (b, ws, T)).map (·.1) = L.map (·.1) := by
    rw [List.map_set]
    apply List.ext_getElem?
    intro j
    rw [List.getElem?_set]
    split
    · rename_i h1; subst h1; simp [hil, hi]
      have := (List.getElem?_eq_some_iff.1 hi).2
      rw [this]
    · rfl
  refine ⟨Nat.le_trans m.le hs, fun c hc hcs => ?_, fun x hx => ?_, fun x hx => ?_, by rw [e1]; exact m.nd⟩
  · rw [hk c (Nat.lt_of_lt_of_le hc m.le) ?_, m.keep c hc hcs]
    rintro rfl
    rcases m.new _ (List.mem_of_getElem? hi) with h1 | h1
    · exact hcs h1
    · exact absurd hc (by have h1 : h0.size ≤ c := h1; omega)
  · obtain ⟨j, hj⟩ := List.mem_iff_getElem?.1 hx
    rw [List.getElem?_set] at hj
    split at hj
    · rename_i h1; subst h1; simp [hil] at hj; subst hj; exact hb
    · rename_i hij
      have hx' := m.has x (List.mem_of_getElem? hj)
      unfold Blk
      rw [hk x.1 hx'.lt (nodup_ne m.nd hj hi (Ne.symm hij))]
      exact hx'
  · obtain ⟨j, hj⟩ := List.mem_iff_getElem?.1 hx
    rw [List.getElem?_set] at hj
    split at hj
    · rename_i h1; subst h1; simp [hil] at hj; subst hj; exact m.new (b, vs, T) (List.mem_of_getElem? hi)
    · exact m.new x (List.mem_of_getElem? hj)
theorem Mem.store (m : Mem h0 h S L) (i : Nat) (hi : L[i]? = some (b, vs, T)) (ho : o < vs.length) {Q : Heap → Prop} (k : ∀ h1, Mem h0 h1 S (L.set i (b, vs.set o v, T)) → Q h1) :
    wr h b o ∧ ∀ h1, h1 = setc h b o v → Q h1 :=
  ⟨(m.blk i hi).wr ho, fun h1 e => k h1 (by subst e; exact m.turn i hi (by rw [setc_size]; exact Nat.le_refl _) (m.blk i hi).setc fun c _ hc => setc_ne hc)⟩
theorem Mem.setr {us : List Value} (m : Mem h0 h S L) (i : Nat) (hi : L[i]? = some (b, vs, T)) (hh : h' = setr h b o us) : Mem h0 h' S (L.set i (b, setL vs o us, T)) := by
  subst hh
  exact m.turn i hi (by rw [setr_size]; exact Nat.le_refl _) (m.blk i hi).setr fun c _ hc => setr_ne hc
/-- A call that has turned one of the known blocks. -/
theorem Mem.call1 {ws : List Value} {L' : List (Nat × List Value × TypeId)} (m : Mem h0 h S L) (i : Nat) (hi : L[i]? = some (b, vs, T)) (m' : Mem h h' [b] L') (j : Nat) (hj : L'[j]? = some (b, ws, T)) : Mem h0 h' S (L.set i (b, ws, T)) :=
  m.turn i hi m'.le (m'.blk j hj) fun c hc hcb => m'.keep c hc (by simpa using hcb)
/-- A call that has turned nothing. -/
theorem Mem.call0 {L' : List (Nat × List Value × TypeId)} (m : Mem h0 h S L) (m' : Mem h h' [] L') : Mem h0 h' S L :=
  ⟨Nat.le_trans m.le m'.le, fun c hc hs => (m'.keep c (Nat.lt_of_lt_of_le hc m.le) (by simp)).trans (m.keep c hc hs),
   fun x hx => by have := m.has x hx; unfold Blk at this ⊢; rw [m'.keep _ (Blk.lt (m.has x hx)) (by simp)]; exact this, m.new, m.nd⟩
theorem Mem.forget (m : Mem h0 h S L) (i : Nat) : Mem h0 h S (L.eraseIdx i) :=
  ⟨m.le, m.keep, fun x hx => m.has x (List.mem_of_mem_eraseIdx hx), fun x hx => m.new x (List.mem_of_mem_eraseIdx hx), m.nd.sublist ((List.eraseIdx_sublist L i).map _)⟩
theorem Mem.kept (m : Mem h0 h [] L) : Kept h0 h := ⟨m.le, fun b hb => m.keep b hb (by simp)⟩
theorem Mem.ofKept (k : Kept h0 h) : Mem h0 h [] [] := ⟨k.1, fun b hb _ => k.2 b hb, fun x hx => (by cases hx), fun x hx => (by cases hx), List.nodup_nil⟩
/-- A row that lies in an old block that was not to turn. -/
theorem Mem.row {cs : List Value} (m : Mem h0 h S L) (hb : b ∉ S) (hr : row h0 b o n = some cs) : Go.Vc.row h b o n = some cs := by
  obtain ⟨h1, h2⟩ := row_iff.1 hr
  refine row_iff.2 ⟨h1, fun j v hj => ?_⟩
  have h3 := h2 j v hj
  have hlt : b < h0.size := by
    rcases Nat.lt_or_ge b h0.size with h' | h'
    · exact h'
    · unfold Go.Vc.cell at h3; rw [Array.getElem?_eq_none h'] at h3; cases h3
  unfold Go.Vc.cell at h3 ⊢
  rw [m.keep b hlt hb]; exact h3
theorem Mem.cell_old (m : Mem h0 h S L) (hb : b ∉ S) (hc : Go.Vc.cell h0 b o = some v) : Go.Vc.cell h b o = some v := by
  have hlt : b < h0.size := by
    rcases Nat.lt_or_ge b h0.size with h' | h'
    · exact h'
    · unfold Go.Vc.cell at hc; rw [Array.getElem?_eq_none h'] at hc; cases hc
  unfold Go.Vc.cell at hc ⊢
  rw [m.keep b hlt hb]; exact hc
/-- Where a slice lies. -/
def blkOf : Option Addr → List Nat
  | some ⟨b, _, _⟩ => [b]
  | none => []
theorem Mem.src {a : Option Addr} {cs : List Value} (m : Mem h0 h S L) (hb : ∀ b ∈ blkOf a, b ∉ S) (hr : src h0 a n cs) : src h a n cs := by
  unfold Go.Vc.src at hr ⊢
  split at hr
  · exact hr
  · rename_i b o; exact m.row (hb b (by simp [blkOf])) hr
  · exact hr
theorem src_at {a : Option Addr} {cs : List Value} {N k n : Nat} (hs : src h a N cs) (hk : k + n ≤ cs.length) (hn : 0 < n) : ∃ b o, a = some ⟨b, o, none⟩ ∧ Go.Vc.row h b (o + k) n = some ((cs.drop k).take n) := by
  unfold Go.Vc.src at hs
  split at hs
  · subst hs; simp at hk; omega
  · rename_i b o
    obtain ⟨h1, h2⟩ := row_iff.1 hs
    refine ⟨b, o, rfl, row_iff.2 ⟨by simp; omega, fun j v hj => ?_⟩⟩
    have hjn : j < n := by have := (List.getElem?_eq_some_iff.1 hj).1; simp at this; omega
    rw [List.getElem?_take_of_lt hjn, List.getElem?_drop] at hj
    rw [Nat.add_assoc]
    exact h2 _ v hj
  · obtain ⟨_, rfl⟩ := hs; simp at hk; omega
end
end Go.Vc
