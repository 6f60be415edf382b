import Derived.Test.YtepodifionoigaaGreatDoorVc
import Derived.Test.YtepodifionoigaaGreatDoorGenAll1
set_option linter.unusedVariables false
set_option linter.unusedSimpArgs false
namespace Go.Vc

def Blk (h : Heap) (b : Nat) (vs : List Value) (T : TypeId) : Prop := h[b]? = some (.cells vs.toArray T)
section
variable {h h' h0 : Heap} {b b' o n : Nat} {vs ws : List Value} {T T' : TypeId} {v : Value}
theorem Blk.lt (hb : Blk h b vs T) : b < h.size := (Array.getElem?_eq_some_iff.1 hb).1
theorem Blk.cell (hb : Blk h b vs T) : Go.Vc.cell h b o = vs[o]? := by unfold Blk at hb; simp [Go.Vc.cell, hb]
theorem Blk.cell_eq (hb : Blk h b vs T) (e : vs[o]? = some v) : Go.Vc.cell h b o = some v := hb.cell.trans e
theorem row_of_cells : ∀ {n o : Nat} {cs : List Value}, cs.length = n → (∀ j v, cs[j]? = some v → Go.Vc.cell h b (o + j) = some v) → row h b o n = some cs
  | 0, o, cs, hl, _ => by rw [List.eq_nil_of_length_eq_zero hl]; rfl
  | n + 1, o, c :: cs, hl, hc => by
    have h1 := hc 0 c rfl
    have h2 := row_of_cells (n := n) (o := o + 1) (cs := cs) (by simpa using hl) (fun j v hj => by
      have := hc (j + 1) v (by simpa using hj)
      rw [show o + 1 + j = o + (j + 1) by omega]; exact this)
    simp only [row]
    rw [show Go.Vc.cell h b o = some c by simpa using h1, h2]
theorem row_iff {cs : List Value} : row h b o n = some cs ↔ cs.length = n ∧ ∀ j v, cs[j]? = some v → Go.Vc.cell h b (o + j) = some v :=
  ⟨row_cells, fun ⟨h1, h2⟩ => row_of_cells h1 h2⟩
theorem Blk.row (hb : Blk h b vs T) (hl : o + n ≤ vs.length) : Go.Vc.row h b o n = some ((vs.drop o).take n) := by
  refine row_of_cells (by simp; omega) fun j v hj => ?_
  rw [hb.cell]
  have hjn : j < n := by have := (List.getElem?_eq_some_iff.1 hj).1; simp at this; omega
  rw [List.getElem?_take_of_lt hjn, List.getElem?_drop] at hj
  exact hj
theorem Blk.row_eq {cs : List Value} (hb : Blk h b vs T) (e : (vs.drop o).take n = cs) (hl : o + n ≤ vs.length) : Go.Vc.row h b o n = some cs := e ▸ hb.row hl
theorem Blk.wr (hb : Blk h b vs T) (ho : o < vs.length) : Go.Vc.wr h b o := ⟨_, _, 0, 0, hb, by simpa using ho, by omega⟩
theorem Blk.wrs (hb : Blk h b vs T) (ho : o + n ≤ vs.length) : Go.Vc.wrs h b o n := ⟨_, _, 0, 0, hb, by simpa using ho, by omega⟩
theorem setc_size : (setc h b o v).size = h.size := by simp [setc]
theorem setc_ne (hne : b' ≠ b) : (setc h b o v)[b']? = h[b']? := by
  unfold setc
  rw [Array.getElem?_modify]
  simp [Ne.symm hne]
theorem Blk.setc (hb : Blk h b vs T) : Blk (Go.Vc.setc h b o v) b (vs.set o v) T := by
  have := setc_get (o := o) (v := v) hb
  unfold Blk
  rw [this]
  simp
theorem setr_size : ∀ {us : List Value} {h : Heap} {o : Nat}, (setr h b o us).size = h.size
  | [], _, _ => rfl
  | u :: us, h, o => by simp only [setr]; rw [setr_size, setc_size]
theorem setr_ne (hne : b' ≠ b) : ∀ {us : List Value} {h : Heap} {o : Nat}, (setr h b o us)[b']? = h[b']?
  | [], _, _ => rfl
  | u :: us, h, o => by simp only [setr]; rw [setr_ne hne, setc_ne hne]
def setL : List Value → Nat → List Value → List Value
  | vs, _, [] => vs
  | vs, o, u :: us => setL (vs.set o u) (o + 1) us
theorem setL_eq : ∀ {us vs : List Value} {o : Nat}, o + us.length ≤ vs.length → setL vs o us = vs.take o ++ us ++ vs.drop (o + us.length)
  | [], vs, o, _ => by simp [setL]
  | u :: us, vs, o, hl => by
    simp only [setL]
    rw [setL_eq (by simp at hl ⊢; omega)]
    simp at hl
    have e1 : (vs.set o u).take (o + 1) = vs.take o ++ [u] := by
      rw [List.take_add_one, List.take_set_of_le (Nat.le_refl _)]
      simp [show o < vs.length by omega]
    have e2 : (vs.set o u).drop (o + 1 + us.length) = vs.drop (o + (us.length + 1)) := by
      rw [List.drop_set_of_lt (by omega)]; congr 1; omega
    rw [e1, e2]; simp
theorem Blk.setr : ∀ {us vs : List Value} {h : Heap} {o : Nat}, Blk h b vs T → Blk (Go.Vc.setr h b o us) b (setL vs o us) T
  | [], _, _, _, hb => hb
  | u :: us, vs, h, o, hb => by simp only [Go.Vc.setr, setL]; exact Blk.setr hb.setc
theorem Blk.push_old {x : Obj} (hb : Blk h b vs T) : Blk (h.push x) b vs T := by
  unfold Blk at hb ⊢
  rw [Array.getElem?_push_lt (Blk.lt hb)]
  rw [Array.getElem?_eq_getElem (Blk.lt hb)] at hb
  exact hb
theorem Blk.push_new : Blk (h.push (.cells vs.toArray T)) h.size vs T := by unfold Blk; simp
end

structure Mem (h0 h : Heap) (S : List Nat) (L : List (Nat × List Value × TypeId)) : Prop where
  le : h0.size ≤ h.size
  keep : ∀ b, b < h0.size → b ∉ S → h[b]? = h0[b]?
  has : ∀ x ∈ L, Blk h x.1 x.2.1 x.2.2
  new : ∀ x ∈ L, x.1 ∈ S ∨ h0.size ≤ x.1
  nd : (L.map (·.1)).Nodup
section
variable {h0 h h' : Heap} {S : List Nat} {L : List (Nat × List Value × TypeId)} {b o n i : Nat} {vs : List Value} {T : TypeId} {v : Value}
theorem Mem.start (h : Heap) : Mem h h [] [] := ⟨Nat.le_refl _, fun _ _ _ => rfl, fun x hx => (by cases hx), fun x hx => (by cases hx), List.nodup_nil⟩
theorem Mem.blk (m : Mem h0 h S L) (i : Nat) (hi : L[i]? = some (b, vs, T)) : Blk h b vs T := m.has _ (List.mem_of_getElem? hi)
theorem Mem.cell (m : Mem h0 h S L) (i : Nat) (hi : L[i]? = some (b, vs, T)) (e : vs[o]? = some v) : cell h b o = some v := (m.blk i hi).cell_eq e
theorem Mem.push (m : Mem h0 h S L) (hh : h' = h.push (.cells vs.toArray T)) (hb : b = h.size) : Mem h0 h' S ((b, vs, T) :: L) := by
  subst hh; subst hb
  refine ⟨by simp; have := m.le; omega, fun b hb hs => ?_, fun x hx => ?_, fun x hx => ?_, ?_⟩
  · rw [Array.getElem?_push_lt (by have := m.le; omega)]
    rw [← m.keep b hb hs, Array.getElem?_eq_getElem]
  · cases hx with
    | head => exact Blk.push_new
    | tail _ hx => exact (m.has x hx).push_old
  · cases hx with
    | head => exact .inr m.le
    | tail _ hx => exact m.new x hx
  · simp only [List.map_cons, List.nodup_cons]
    refine ⟨fun hc => ?_, m.nd⟩
    obtain ⟨x, hx, he⟩ := List.mem_map.1 hc
    have := (m.has x hx).lt
    omega
theorem nodup_ne {L : List (Nat × List Value × TypeId)} (hn : (L.map (·.1)).Nodup) {i j : Nat} {x y : Nat × List Value × TypeId} (hi : L[i]? = some x) (hj : L[j]? = some y) (hij : i ≠ j) : x.1 ≠ y.1 := by
  intro he
  have h1 : (L.map (·.1))[i]? = some x.1 := by simp [hi]
  have h2 : (L.map (·.1))[j]? = some y.1 := by simp [hj]
  have hil := (List.getElem?_eq_some_iff.1 h1).1
  have hjl := (List.getElem?_eq_some_iff.1 h2).1
  have e1 := (List.getElem?_eq_some_iff.1 h1).2
  have e2 := (List.getElem?_eq_some_iff.1 h2).2
  have hp := List.pairwise_iff_getElem.1 hn
  rcases Nat.lt_or_gt_of_ne hij with h | h
  · exact hp i j hil hjl h (by rw [e1, e2, he])
  · exact hp j i hjl hil h (by rw [e1, e2, he])
theorem Mem.turn {ws : List Value} (m : Mem h0 h S L) (i : Nat) (hi : L[i]? = some (b, vs, T)) (hs : h.size ≤ h'.size) (hb : Blk h' b ws T) (hk : ∀ c, c < h.size → c ≠ b → h'[c]? = h[c]?) :
    Mem h0 h' S (L.set i (b, ws, T)) := by
  have hil := (List.getElem?_eq_some_iff.1 hi).1
  have e1 : (L.set i (b, ws, T)).map (·.1) = L.map (·.1) := by
    rw [List.map_set]
    apply List.ext_getElem?
    intro j
    rw [List.getElem?_set]
    split
    · rename_i h1; subst h1; simp [hil, hi]
      have := (List.getElem?_eq_some_iff.1 hi).2
      rw [this]
    · rfl
  refine ⟨Nat.le_trans m.le hs, fun c hc hcs => ?_, fun x hx => ?_, fun x hx => ?_, by rw [e1]; exact m.nd⟩
  · rw [hk c (Nat.lt_of_lt_of_le hc m.le) ?_, m.keep c hc hcs]
    rintro rfl
    rcases m.new _ (List.mem_of_getElem? hi) with h1 | h1
    · exact hcs h1
    · exact absurd hc (by have h1 : h0.size ≤ c := h1; omega)
  · obtain ⟨j, hj⟩ := List.mem_iff_getElem?.1 hx
    rw [List.getElem?_set] at hj
    split at hj
    · rename_i h1; subst h1; simp [hil] at hj; subst hj; exact hb
    · rename_i hij
      have hx' := m.has x (List.mem_of_getElem? hj)
      unfold Blk
      rw [hk x.1 hx'.lt (nodup_ne m.nd hj hi (Ne.symm hij))]
      exact hx'
  · obtain ⟨j, hj⟩ := List.mem_iff_getElem?.1 hx
    rw [List.getElem?_set] at hj
    split at hj
    · rename_i h1; subst h1; simp [hil] at hj; subst hj; exact m.new (b, vs, T) (List.mem_of_getElem? hi)
    · exact m.new x (List.mem_of_getElem? hj)
theorem Mem.store (m : Mem h0 h S L) (i : Nat) (hi : L[i]? = some (b, vs, T)) (ho : o < vs.length) {Q : Heap → Prop} (k : ∀ h1, Mem h0 h1 S (L.set i (b, vs.set o v, T)) → Q h1) :
    wr h b o ∧ ∀ h1, h1 = setc h b o v → Q h1 :=
  ⟨(m.blk i hi).wr ho, fun h1 e => k h1 (by subst e; exact m.turn i hi (by rw [setc_size]; exact Nat.le_refl _) (m.blk i hi).setc fun c _ hc => setc_ne hc)⟩
theorem Mem.setr {us : List Value} (m : Mem h0 h S L) (i : Nat) (hi : L[i]? = some (b, vs, T)) (hh : h' = setr h b o us) : Mem h0 h' S (L.set i (b, setL vs o us, T)) := by
  subst hh
  exact m.turn i hi (by rw [setr_size]; exact Nat.le_refl _) (m.blk i hi).setr fun c _ hc => setr_ne hc
theorem Mem.kept (m : Mem h0 h [] L) : Kept h0 h := ⟨m.le, fun b hb => m.keep b hb (by simp)⟩
theorem Mem.row {cs : List Value} (m : Mem h0 h S L) (hb : b ∉ S) (hr : row h0 b o n = some cs) : Go.Vc.row h b o n = some cs := by
  obtain ⟨h1, h2⟩ := row_iff.1 hr
  refine row_iff.2 ⟨h1, fun j v hj => ?_⟩
  have h3 := h2 j v hj
  have hlt : b < h0.size := by
    rcases Nat.lt_or_ge b h0.size with h' | h'
    · exact h'
    · unfold Go.Vc.cell at h3; rw [Array.getElem?_eq_none h'] at h3; cases h3
  unfold Go.Vc.cell at h3 ⊢
  rw [m.keep b hlt hb]; exact h3
def blkOf : Option Addr → List Nat
  | some ⟨b, _, _⟩ => [b]
  | none => []
theorem Mem.src {a : Option Addr} {cs : List Value} (m : Mem h0 h S L) (hb : ∀ b ∈ blkOf a, b ∉ S) (hr : src h0 a n cs) : src h a n cs := by
  unfold Go.Vc.src at hr ⊢
  split at hr
  · exact hr
  · rename_i b o; exact m.row (hb b (by simp [blkOf])) hr
  · exact hr
theorem src_at {a : Option Addr} {cs : List Value} {N k n : Nat} (hs : src h a N cs) (hk : k + n ≤ cs.length) (hn : 0 < n) : ∃ b o, a = some ⟨b, o, none⟩ ∧ Go.Vc.row h b (o + k) n = some ((cs.drop k).take n) := by
  unfold Go.Vc.src at hs
  split at hs
  · subst hs; simp at hk; omega
  · rename_i b o
    obtain ⟨h1, h2⟩ := row_iff.1 hs
    refine ⟨b, o, rfl, row_iff.2 ⟨by simp; omega, fun j v hj => ?_⟩⟩
    have hjn : j < n := by have := (List.getElem?_eq_some_iff.1 hj).1; simp at this; omega
    rw [List.getElem?_take_of_lt hjn, List.getElem?_drop] at hj
    rw [Nat.add_assoc]
    exact h2 _ v hj
  · obtain ⟨_, rfl⟩ := hs; simp at hk; omega
end
end Go.Vc
set_option linter.unusedVariables false
set_option linter.unusedSimpArgs false
namespace Go.Vc
abbrev B3 := Nat × List Value × TypeId
abbrev Grp := List B3
abbrev Wd := Nat → Option Obj
def Wd.le (W W' : Wd) : Prop := ∀ b x, W b = some x → W' b = some x
theorem Wd.le.refl (W : Wd) : W.le W := fun _ _ h => h
theorem Wd.le.trans {A B C : Wd} (h : A.le B) (k : B.le C) : A.le C := fun b x e => k b x (h b x e)
structure Me (W : Wd) (h : Heap) (G : List Grp) : Prop where
  keep : ∀ b x, W b = some x → h[b]? = some x
  has : ∀ x ∈ G.flatten, Blk h x.1 x.2.1 x.2.2
  off : ∀ x ∈ G.flatten, W x.1 = none
  nd : (G.flatten.map (·.1)).Nodup
def Wd.of (h : Heap) : Wd := fun b => h[b]?
def wcell (W : Wd) (b o : Nat) : Option Value := match W b with
  | some (.cells c _ _) => c[o]?
  | _ => none
def wrow (W : Wd) (b o : Nat) : Nat → Option (List Value)
  | 0 => some []
  | n + 1 => match wcell W b o, wrow W b (o + 1) n with
    | some v, some r => some (v :: r)
    | _, _ => none
def wsrc (W : Wd) (a : Option Addr) (n : Nat) (cs : List Value) : Prop :=
  match a with
  | none => cs = []
  | some ⟨b, o, none⟩ => wrow W b o n = some cs
  | some ⟨_, _, some _⟩ => n = 0 ∧ cs = []
section
variable {W W' : Wd} {h h' : Heap} {G G' : List Grp} {E A B : Grp} {b o n i : Nat} {vs ws us : List Value} {T : TypeId} {v : Value}
theorem Me.start (h : Heap) : Me (Wd.of h) h [] := ⟨fun _ _ e => e, fun _ hx => (by cases hx), fun _ hx => (by cases hx), List.nodup_nil⟩
theorem wcell_le (hl : W.le W') (hc : wcell W b o = some v) : wcell W' b o = some v := by
  unfold wcell at hc ⊢
  split at hc
  · rename_i c e f hW; rw [hl _ _ hW]; exact hc
  · cases hc
theorem wrow_le (hl : W.le W') : ∀ {n o : Nat} {cs : List Value}, wrow W b o n = some cs → wrow W' b o n = some cs
  | 0, _, _, hr => hr
  | n + 1, o, cs, hr => by
    simp only [wrow] at hr ⊢
    split at hr
    · rename_i v r e1 e2; rw [wcell_le hl e1, wrow_le hl e2]; exact hr
    · cases hr
theorem wsrc_le {a : Option Addr} {cs : List Value} (hl : W.le W') (hs : wsrc W a n cs) : wsrc W' a n cs := by
  unfold wsrc at hs ⊢
  split at hs
  · exact hs
  · exact wrow_le hl hs
  · exact hs
theorem Me.wcell (m : Me W h G) (hc : wcell W b o = some v) : cell h b o = some v := by
  unfold Go.Vc.wcell at hc
  split at hc
  · rename_i c e f hW; unfold cell; rw [m.keep _ _ hW]; exact hc
  · cases hc
theorem Me.wrow (m : Me W h G) : ∀ {n o : Nat} {cs : List Value}, wrow W b o n = some cs → row h b o n = some cs
  | 0, _, _, hr => hr
  | n + 1, o, cs, hr => by
    simp only [Go.Vc.wrow] at hr
    simp only [row]
    split at hr
    · rename_i v r e1 e2; rw [m.wcell e1, m.wrow e2]; exact hr
    · cases hr
theorem Me.wsrc {a : Option Addr} {cs : List Value} (m : Me W h G) (hs : wsrc W a n cs) : src h a n cs := by
  unfold Go.Vc.wsrc at hs
  unfold src
  split at hs
  · exact hs
  · exact m.wrow hs
  · exact hs
theorem wrow_len : ∀ {n o : Nat} {cs : List Value}, wrow W b o n = some cs → cs.length = n
  | 0, _, _, hr => by cases hr; rfl
  | n + 1, o, cs, hr => by
    simp only [wrow] at hr
    split at hr
    · rename_i v r e1 e2; cases hr; simp [wrow_len e2]
    · cases hr
theorem wrow_cell : ∀ {n o : Nat} {cs : List Value}, wrow W b o n = some cs → ∀ j v, cs[j]? = some v → wcell W b (o + j) = some v
  | 0, _, _, hr, j, v, hj => by cases hr; simp at hj
  | n + 1, o, cs, hr, j, v, hj => by
    simp only [wrow] at hr
    split at hr
    · rename_i u r e1 e2; cases hr
      cases j with
      | zero => simp at hj; subst hj; exact e1
      | succ j => have := wrow_cell e2 j v (by simpa using hj); rw [show o + (j + 1) = o + 1 + j by omega]; exact this
    · cases hr
theorem wrow_of : ∀ {n o : Nat} {cs : List Value}, cs.length = n → (∀ j v, cs[j]? = some v → wcell W b (o + j) = some v) → wrow W b o n = some cs
  | 0, o, cs, hl, _ => by rw [List.eq_nil_of_length_eq_zero hl]; rfl
  | n + 1, o, c :: cs, hl, hc => by
    have h1 := hc 0 c rfl
    have h2 := wrow_of (n := n) (o := o + 1) (cs := cs) (by simpa using hl) (fun j v hj => by
      have := hc (j + 1) v (by simpa using hj)
      rw [show o + 1 + j = o + (j + 1) by omega]; exact this)
    simp only [wrow]
    rw [show wcell W b o = some c by simpa using h1, h2]
theorem wrow_iff {cs : List Value} : wrow W b o n = some cs ↔ cs.length = n ∧ ∀ j v, cs[j]? = some v → wcell W b (o + j) = some v :=
  ⟨fun hr => ⟨wrow_len hr, wrow_cell hr⟩, fun ⟨h1, h2⟩ => wrow_of h1 h2⟩
theorem of_cell (h : Heap) : wcell (Wd.of h) b o = cell h b o := rfl
theorem of_row {h : Heap} : ∀ {n o : Nat}, wrow (Wd.of h) b o n = row h b o n
  | 0, _ => rfl
  | n + 1, o => by simp only [wrow, row, of_row, of_cell]; rfl
theorem of_src {h : Heap} {a : Option Addr} {cs : List Value} : wsrc (Wd.of h) a n cs ↔ src h a n cs := by
  unfold wsrc src
  split <;> simp [of_row]
theorem Me.lt (m : Me W h G) {x : Obj} (hb : W b = some x) : b < h.size := (Array.getElem?_eq_some_iff.1 (m.keep b x hb)).1
theorem Me.kept {h0 : Heap} (m : Me W h G) (hl : (Wd.of h0).le W) : Kept h0 h := by
  refine ⟨Nat.le_of_not_lt fun hlt => ?_, fun b hb => ?_⟩
  · have := m.keep h.size _ (hl h.size _ (Array.getElem?_eq_getElem hlt))
    rw [Array.getElem?_eq_none (Nat.le_refl _)] at this; cases this
  · have e := Array.getElem?_eq_getElem hb
    exact (m.keep b _ (hl b _ e)).trans e.symm
theorem Me.perm (m : Me W h G) (hp : G.flatten.Perm G'.flatten) : Me W h G' :=
  ⟨m.keep, fun x hx => m.has x (hp.mem_iff.2 hx), fun x hx => m.off x (hp.mem_iff.2 hx), (hp.map _).nodup_iff.1 m.nd⟩
theorem Me.sub (m : Me W h G) (hp : ∃ K, G.flatten.Perm (G'.flatten ++ K)) : Me W h G' := by
  obtain ⟨K, hp⟩ := hp
  refine ⟨m.keep, fun x hx => m.has x (hp.mem_iff.2 (List.mem_append_left _ hx)), fun x hx => m.off x (hp.mem_iff.2 (List.mem_append_left _ hx)), ?_⟩
  have := (hp.map (·.1)).nodup_iff.1 m.nd
  rw [List.map_append] at this
  exact (List.nodup_append.1 this).1
theorem flat_set (hi : G[i]? = some A) : G.flatten.Perm (A ++ (G.eraseIdx i).flatten) := by
  induction G generalizing i with
  | nil => simp at hi
  | cons X G ih =>
    cases i with
    | zero => simp at hi; subst hi; simp
    | succ i =>
      simp at hi
      simp only [List.flatten_cons, List.eraseIdx_cons_succ]
      exact ((ih hi).append_left X).trans (by rw [← List.append_assoc, ← List.append_assoc]; exact List.perm_append_comm.append_right _)
theorem Me.focus (m : Me W h G) (i : Nat) (hi : G[i]? = some A) : Me W h (A :: G.eraseIdx i) := m.perm (by simpa using flat_set hi)
theorem Me.drop1 (m : Me W h (A :: G)) : Me W h G := m.sub ⟨A, by simp only [List.flatten_cons]; exact List.perm_append_comm⟩
theorem Me.free (m : Me W h G) (i : Nat) (hi : G[i]? = some A) : Me W h (G.eraseIdx i) := (m.focus i hi).drop1
theorem Me.split (m : Me W h ((A ++ B) :: G)) : Me W h (A :: B :: G) := m.perm (by simp)
theorem Me.nilI (m : Me W h G) : Me W h ([] :: G) := m.perm (by simp)
theorem Me.blk (m : Me W h G) (i : Nat) (hi : G[i]? = some [(b, vs, T)]) : Blk h b vs T := m.has (b, vs, T) (List.mem_flatten.2 ⟨_, List.mem_of_getElem? hi, by simp⟩)
theorem Me.cell (m : Me W h G) (i : Nat) (hi : G[i]? = some [(b, vs, T)]) (e : vs[o]? = some v) : cell h b o = some v := (m.blk i hi).cell_eq e
theorem Me.row (m : Me W h G) (i : Nat) (hi : G[i]? = some [(b, vs, T)]) (e : (vs.drop o).take n = us) (hl : o + n ≤ vs.length) : Go.Vc.row h b o n = some us := (m.blk i hi).row_eq e hl
theorem Me.push (m : Me W h G) (hh : h' = h.push (.cells vs.toArray T)) (hb : b = h.size) : Me W h' ([(b, vs, T)] :: G) := by
  subst hh; subst hb
  refine ⟨fun b x hW => ?_, fun x hx => ?_, fun x hx => ?_, ?_⟩
  · rw [Array.getElem?_push_lt (m.lt hW)]
    rw [← m.keep b x hW, Array.getElem?_eq_getElem]
  · simp only [List.flatten_cons, List.singleton_append, List.mem_cons] at hx
    rcases hx with rfl | hx
    · exact Blk.push_new
    · exact (m.has x hx).push_old
  · simp only [List.flatten_cons, List.singleton_append, List.mem_cons] at hx
    rcases hx with rfl | hx
    · cases hW : W h.size with
      | none => rfl
      | some x => exact absurd (m.lt hW) (by omega)
    · exact m.off x hx
  · simp only [List.flatten_cons, List.singleton_append, List.map_cons, List.nodup_cons]
    refine ⟨fun hc => ?_, m.nd⟩
    obtain ⟨x, hx, he⟩ := List.mem_map.1 hc
    have := (m.has x hx).lt
    omega
theorem Me.turn1 (m : Me W h ([(b, vs, T)] :: G)) (hs : h.size ≤ h'.size) (hb : Blk h' b ws T) (hk : ∀ c, c < h.size → c ≠ b → h'[c]? = h[c]?) : Me W h' ([(b, ws, T)] :: G) := by
  have hoff := m.off (b, vs, T) (by simp)
  have hnd := m.nd
  simp only [List.flatten_cons, List.singleton_append, List.map_cons, List.nodup_cons] at hnd
  refine ⟨fun c x hW => ?_, fun x hx => ?_, fun x hx => ?_, ?_⟩
  · rw [hk c (m.lt hW) (by rintro rfl; simp [hoff] at hW)]; exact m.keep c x hW
  · simp only [List.flatten_cons, List.singleton_append, List.mem_cons] at hx
    rcases hx with rfl | hx
    · exact hb
    · have hx' := m.has x (by simp only [List.flatten_cons, List.singleton_append, List.mem_cons]; exact .inr hx)
      unfold Blk
      rw [hk x.1 hx'.lt (by rintro e; exact hnd.1 (e ▸ List.mem_map_of_mem hx))]
      exact hx'
  · simp only [List.flatten_cons, List.singleton_append, List.mem_cons] at hx
    rcases hx with rfl | hx
    · exact hoff
    · exact m.off x (by simp only [List.flatten_cons, List.singleton_append, List.mem_cons]; exact .inr hx)
  · simp only [List.flatten_cons, List.singleton_append, List.map_cons, List.nodup_cons]; exact hnd
theorem flat_put (hi : G[i]? = some A) : (B ++ (G.eraseIdx i).flatten).Perm (G.set i B).flatten := by
  have hil := (List.getElem?_eq_some_iff.1 hi).1
  have h1 : (G.set i B)[i]? = some B := by simp [hil]
  have h2 := flat_set h1
  rw [List.eraseIdx_set_eq] at h2
  exact h2.symm
theorem Me.turn (m : Me W h G) (i : Nat) (hi : G[i]? = some [(b, vs, T)]) (hs : h.size ≤ h'.size) (hb : Blk h' b ws T) (hk : ∀ c, c < h.size → c ≠ b → h'[c]? = h[c]?) : Me W h' (G.set i [(b, ws, T)]) :=
  ((m.focus i hi).turn1 hs hb hk).perm (by simpa using flat_put (B := [(b, ws, T)]) hi)
theorem Me.setc (m : Me W h G) (i : Nat) (hi : G[i]? = some [(b, vs, T)]) (hh : h' = Go.Vc.setc h b o v) : Me W h' (G.set i [(b, vs.set o v, T)]) := by
  subst hh
  exact m.turn i hi (by rw [setc_size]; exact Nat.le_refl _) (m.blk i hi).setc fun c _ hc => setc_ne hc
theorem Me.setr (m : Me W h G) (i : Nat) (hi : G[i]? = some [(b, vs, T)]) (hh : h' = Go.Vc.setr h b o us) : Me W h' (G.set i [(b, setL vs o us, T)]) := by
  subst hh
  exact m.turn i hi (by rw [setr_size]; exact Nat.le_refl _) (m.blk i hi).setr fun c _ hc => setr_ne hc
theorem Me.store (m : Me W h G) (i : Nat) (hi : G[i]? = some [(b, vs, T)]) (ho : o < vs.length) {Q : Heap → Prop} (k : ∀ h1, Me W h1 (G.set i [(b, vs.set o v, T)]) → Q h1) :
    wr h b o ∧ ∀ h1, h1 = Go.Vc.setc h b o v → Q h1 :=
  ⟨(m.blk i hi).wr ho, fun h1 e => k h1 (m.setc i hi e)⟩
theorem Me.wrs (m : Me W h G) (i : Nat) (hi : G[i]? = some [(b, vs, T)]) (ho : o + n ≤ vs.length) : Go.Vc.wrs h b o n := (m.blk i hi).wrs ho
theorem Me.rowb (m : Me W h G) (i : Nat) (hi : G[i]? = some [(b, vs, T)]) (e : (vs.drop o).take n = us) (hl : Nat.ble (o + n) vs.length = true) : Go.Vc.row h b o n = some us := m.row i hi e (Nat.le_of_ble_eq_true hl)
theorem Me.wrb (m : Me W h G) (i : Nat) (hi : G[i]? = some [(b, vs, T)]) (hl : Nat.ble (o + 1) vs.length = true) : Go.Vc.wr h b o := (m.blk i hi).wr (Nat.le_of_ble_eq_true hl)
theorem Me.wrsb (m : Me W h G) (i : Nat) (hi : G[i]? = some [(b, vs, T)]) (hl : Nat.ble (o + n) vs.length = true) : Go.Vc.wrs h b o n := (m.blk i hi).wrs (Nat.le_of_ble_eq_true hl)
theorem Me.give (m : Me W h (E :: G)) : ∃ W', W.le W' ∧ (∀ x ∈ E, W' x.1 = some (.cells x.2.1.toArray x.2.2)) ∧ Me W' h G := by
  have hnd := m.nd
  simp only [List.flatten_cons, List.map_append] at hnd
  obtain ⟨_, _, hdis⟩ := List.nodup_append.1 hnd
  have hE : ∀ x ∈ E, x ∈ (E :: G).flatten := fun x hx => by simp only [List.flatten_cons]; exact List.mem_append_left _ hx
  have hG : ∀ x ∈ G.flatten, x ∈ (E :: G).flatten := fun x hx => by simp only [List.flatten_cons]; exact List.mem_append_right _ hx
  refine ⟨fun b => if b ∈ E.map (·.1) then h[b]? else W b, fun b x hW => ?_, fun x hx => ?_, ?_, ?_, ?_, ?_⟩
  · show (if b ∈ E.map (·.1) then h[b]? else W b) = _
    split
    · exact m.keep b x hW
    · exact hW
  · show (if x.1 ∈ E.map (·.1) then h[x.1]? else W x.1) = _
    rw [if_pos (List.mem_map_of_mem hx)]
    exact m.has x (hE x hx)
  · intro b x hx
    replace hx : (if b ∈ E.map (·.1) then h[b]? else W b) = some x := hx
    split at hx
    · exact hx
    · exact m.keep b x hx
  · exact fun x hx => m.has x (hG x hx)
  · intro x hx
    show (if x.1 ∈ E.map (·.1) then h[x.1]? else W x.1) = none
    rw [if_neg (fun hc => hdis _ hc _ (List.mem_map_of_mem hx) rfl)]
    exact m.off x (hG x hx)
  · exact m.drop1.nd
theorem Me.same {h2 : Heap} (m : Me W h G) (e : h2 = h) : Me W h2 G := e ▸ m
theorem Me.pick {Es : List Grp} (m : Me W h (Es.flatten :: G)) (k : Nat) (hk : Es[k]? = some E) : Me W h (E :: (Es.eraseIdx k).flatten :: G) :=
  m.perm (by simp only [List.flatten_cons]; rw [← List.append_assoc]; exact (flat_set hk).append_right _)
end
end Go.Vc
set_option linter.unusedVariables false
set_option linter.unusedSimpArgs false
namespace Go.Vc
def Ow (a : Option Addr) (l c sz : Nat) (vs : List Value) (E : Grp) : Prop :=
  (a = none ∧ l = 0 ∧ c = 0 ∧ vs = [] ∧ E = []) ∨
  ∃ (b o : Nat) (j rest t : List Value) (T : TypeId), a = some ⟨b, o, none⟩ ∧ l ≤ c ∧ vs.length = l * sz ∧ rest.length = (c - l) * sz ∧ j.length = o ∧ E = [(b, j ++ (vs ++ (rest ++ t)), T)]
section
variable {W W' : Wd} {h h' : Heap} {G : List Grp} {E : Grp} {a : Option Addr} {l c sz i n : Nat} {T : TypeId} {vs us : List Value}
theorem Ow.nil {sz : Nat} : Ow none 0 0 sz [] [] := .inl ⟨rfl, rfl, rfl, rfl, rfl⟩
theorem Ow.fresh {b l c sz : Nat} {vs rest : List Value} {T : TypeId} (hl : vs.length = l * sz) (hr : rest.length = (c - l) * sz) (hlc : l ≤ c) : Ow (some ⟨b, 0, none⟩) l c sz vs [(b, vs ++ rest, T)] :=
  .inr ⟨b, 0, [], rest, [], T, rfl, hlc, hl, hr, rfl, by simp⟩
theorem Ow.fresh0 {b l sz : Nat} {vs : List Value} {T : TypeId} (hl : vs.length = l * sz) : Ow (some ⟨b, 0, none⟩) l l sz vs [(b, vs, T)] :=
  .inr ⟨b, 0, [], [], [], T, rfl, Nat.le_refl _, hl, by simp, rfl, by simp⟩
theorem Ow.len (o : Ow a l c sz vs E) : vs.length = l * sz := by
  rcases o with ⟨_, rfl, _, rfl, _⟩ | ⟨b, o, j, rest, t, T, _, _, h, _⟩
  · simp
  · exact h
theorem Ow.le (o : Ow a l c sz vs E) : l ≤ c := by
  rcases o with ⟨_, rfl, rfl, rfl, _⟩ | ⟨b, o, j, rest, t, T, _, h, _⟩
  · exact Nat.le_refl _
  · exact h
theorem Ow.src (o : Ow a l c sz vs E) (m : Me W h G) (i : Nat) (hi : G[i]? = some E) : Go.Vc.src h a (l * sz) vs := by
  rcases o with ⟨rfl, rfl, rfl, rfl, rfl⟩ | ⟨b, o, j, rest, t, T, rfl, h1, h2, h3, h4, rfl⟩
  · rfl
  · have hb := m.blk i hi
    show Go.Vc.row h b o (l * sz) = some vs
    rw [hb.row (by simp; omega), ← h4, List.drop_left, ← h2, List.take_left]
theorem Ow.src1 (o : Ow a l c 1 vs E) (m : Me W h G) (i : Nat) (hi : G[i]? = some E) : Go.Vc.src h a l vs := by
  have := o.src m i hi
  rwa [Nat.mul_one] at this
theorem Ow.len1 (o : Ow a l c 1 vs E) : vs.length = l := by have := o.len; rwa [Nat.mul_one] at this
theorem src_part {h : Heap} {a : Option Addr} {N k n : Nat} {cs us : List Value} (hs : src h a N cs) (hk : k + n ≤ cs.length) (hn : 0 < n) (hu : (cs.drop k).take n = us) : ∃ b o, a = some ⟨b, o, none⟩ ∧ Go.Vc.row h b (o + k) n = some us := by
  subst hu; exact src_at hs hk hn
theorem src_cell {h : Heap} {a : Option Addr} {N k : Nat} {cs : List Value} {v : Value} (hs : src h a N cs) (hk : cs[k]? = some v) : ∃ b o, a = some ⟨b, o, none⟩ ∧ cell h b (o + k) = some v := by
  have hkl := (List.getElem?_eq_some_iff.1 hk).1
  obtain ⟨b, o, e, hr⟩ := src_part (n := 1) (us := [v]) hs hkl (by decide) (by rw [List.drop_eq_getElem_cons hkl, (List.getElem?_eq_some_iff.1 hk).2]; rfl)
  refine ⟨b, o, e, ?_⟩
  have := (row_iff.1 hr).2 0 v rfl
  simpa using this
theorem Ow.tail (o : Ow a l c sz vs E) (k : Nat) (hk : k ≤ l) : Ow (slcAddr a k c (k * sz)) (l - k) (c - k) sz (vs.drop (k * sz)) E := by
  rcases o with ⟨rfl, rfl, rfl, rfl, rfl⟩ | ⟨b, o, j, rest, t, T, rfl, h1, h2, h3, h4, rfl⟩
  · refine .inl ⟨?_, by omega, by omega, by simp, rfl⟩
    unfold slcAddr; split <;> rfl
  · unfold slcAddr
    by_cases hc : c = k
    · rw [if_pos hc]
      refine .inr ⟨b, o, j, [], vs ++ (rest ++ t), T, rfl, by omega, ?_, ?_, h4, ?_⟩
      · rw [List.length_drop, h2, ← Nat.sub_mul]
      · rw [show c - k - (l - k) = 0 by omega]; simp
      · rw [List.drop_of_length_le (by rw [h2]; exact Nat.mul_le_mul_right _ (by omega))]; simp
    · rw [if_neg hc]
      refine .inr ⟨b, o + k * sz, j ++ vs.take (k * sz), rest, t, T, by simp only [Option.map_some, add_eq], by omega, ?_, ?_, ?_, ?_⟩
      · rw [List.length_drop, h2, ← Nat.sub_mul]
      · rw [h3]; congr 1; omega
      · have : k * sz ≤ l * sz := Nat.mul_le_mul_right _ hk
        simp [h4]; omega
      · simp only [List.append_assoc]
        rw [← List.append_assoc (List.take (k * sz) vs), List.take_append_drop]
theorem Ow.head (o : Ow a l c sz vs E) (k : Nat) (hk : k ≤ l) : Ow a k c sz (vs.take (k * sz)) E := by
  rcases o with ⟨rfl, rfl, rfl, rfl, rfl⟩ | ⟨b, o, j, rest, t, T, rfl, h1, h2, h3, h4, rfl⟩
  · exact .inl ⟨rfl, by omega, rfl, by simp, rfl⟩
  · have : k * sz ≤ l * sz := Nat.mul_le_mul_right _ hk
    refine .inr ⟨b, o, j, vs.drop (k * sz) ++ rest, t, T, rfl, by omega, by simp [h2, this], ?_, h4, ?_⟩
    · simp [h2, h3]
      rw [← Nat.sub_mul, ← Nat.add_mul]; congr 1; omega
    · simp only [List.append_assoc]
      rw [← List.append_assoc (List.take (k * sz) vs), List.take_append_drop]
theorem setL_mid {j vs us rest : List Value} (h : us.length ≤ rest.length) : setL (j ++ (vs ++ rest)) (j.length + vs.length) us = j ++ (vs ++ (us ++ rest.drop us.length)) := by
  rw [setL_eq (by simp; omega)]
  have e1 : (j ++ (vs ++ rest)).take (j.length + vs.length) = j ++ vs := by
    rw [← List.append_assoc, ← List.length_append, List.take_left]
  have e2 : (j ++ (vs ++ rest)).drop (j.length + vs.length + us.length) = rest.drop us.length := by
    rw [← List.append_assoc, ← List.length_append, ← List.drop_drop, List.drop_left]
  rw [e1, e2]; simp
theorem Ow.app {k bytes e : Nat} {Q : Option Addr → Nat → Heap → Prop} (o : Ow a l c sz vs E) (m : Me W h G) (i : Nat) (hi : G[i]? = some E) (hus : us.length = k * sz) (hfit : (l + k) * bytes ≤ 140737488355328) (hb0 : 0 < bytes)
    (q : ∀ a' c' E' h', Me W h' (G.set i E') → Ow a' (l + k) c' sz (vs ++ us) E' → Q a' c' h') : appK h a l c k sz e bytes us Q := by
  refine ⟨fun hle => ?_, fun hlt => ⟨⟨hfit, hb0⟩, vs, o.src m i hi, fun cap zs b h1 h2 h3 h4 h5 => ?_⟩⟩
  · rcases o with ⟨rfl, rfl, rfl, rfl, rfl⟩ | ⟨b, o, j, rest, t, T, rfl, h1, h2, h3, h4, rfl⟩
    · obtain rfl : k = 0 := by omega
      have : us = [] := List.eq_nil_of_length_eq_zero (by rw [hus]; simp)
      subst this
      refine q none 0 [] h ?_ (.inl ⟨rfl, rfl, rfl, rfl, rfl⟩)
      exact m.perm (by simpa using (flat_set hi).trans (flat_put (B := []) hi))
    · show wrs h b (o + l * sz) us.length ∧ _
      have hbk := m.blk i hi
      have hlen : us.length ≤ rest.length := by
        rw [hus, h3]; exact Nat.mul_le_mul_right _ (by omega)
      refine ⟨hbk.wrs (by simp; omega), fun h' e9 => ?_⟩
      have m' := m.setr i hi e9
      have e1 : o + l * sz = j.length + vs.length := by rw [h4, h2]
      rw [e1, setL_mid (by simp; omega)] at m'
      refine q _ _ [(b, j ++ ((vs ++ us) ++ (rest.drop us.length ++ t)), T)] _ ?_ (.inr ⟨b, o, j, rest.drop us.length, t, T, rfl, hle, by simp [h2, hus, Nat.add_mul], ?_, h4, rfl⟩)
      · rw [List.drop_append_of_le_length hlen] at m'
        simpa using m'
      · rw [List.length_drop, h3, hus, ← Nat.sub_mul]
        congr 1; omega
  · have m' := m.push h5 h4
    have hl := o.len
    have m2 : Me W h1 (G.set i [(b, (vs ++ us) ++ zs, e)]) := by
      have m3 := (m'.focus (i + 1) (A := E) (by simpa using hi)).drop1
      simp only [List.eraseIdx_cons_succ] at m3
      exact m3.perm (by simpa using flat_put (B := [(b, vs ++ us ++ zs, e)]) hi)
    exact q _ _ _ _ m2 (Ow.fresh (by simp [hl, hus, Nat.add_mul]) h3 h2)
theorem Ow.app1 {bytes e : Nat} {e2 : TypeId} {Q : Option Addr → Nat → Heap → Prop} (o : Ow a l c sz vs E) (m : Me W h G) (i : Nat) (hi : G[i]? = some E) (hus : us.length = sz) (h1 : ∀ u ∈ us, u.oneCell' = true) (hfit : (l + 1) * bytes ≤ 140737488355328) (hb0 : 0 < bytes)
    (q : ∀ a' c' E' h', Me W h' (G.set i E') → Ow a' (l + 1) c' sz (vs ++ us) E' → Q a' c' h') :
    ∀ (b3 : Nat) (h3 : Heap), b3 = h.size → h3 = h.push (.cells us.toArray e2) → ∃ news : List Value, (Go.Vc.row h3 b3 0 sz = some news ∧ ∀ u ∈ news, u.oneCell' = true) ∧ appK h3 a l c 1 sz e bytes news Q := by
  intro b3 h3 e1 e2
  have m' := m.push e2 e1
  refine ⟨us, ⟨m'.row 0 rfl (by rw [List.drop_zero, ← hus, List.take_length]) (by omega), h1⟩, ?_⟩
  refine o.app m' (i + 1) (by simpa using hi) (by simp [hus]) hfit hb0 fun a' c' E' h' m2 o2 => q a' c' E' h' ?_ o2
  simp only [List.set_cons_succ] at m2
  exact m2.drop1
theorem Me.on (m : Me W h G) (k : Kept h h') : Me W h' G :=
  ⟨fun b x e => by rw [k.2 b (m.lt e)]; exact m.keep b x e, fun x hx => by have := m.has x hx; unfold Blk; rw [k.2 _ this.lt]; exact this, m.off, m.nd⟩
theorem Kept.le {h h' : Heap} (k : Kept h h') : (Wd.of h).le (Wd.of h') := fun b x e => by
  have hb : b < h.size := (Array.getElem?_eq_some_iff.1 e).1
  show h'[b]? = some x
  rw [k.2 b hb]; exact e
theorem Kept.src {h h' : Heap} {a : Option Addr} {n : Nat} {cs : List Value} (k : Kept h h') (hs : Go.Vc.src h a n cs) : Go.Vc.src h' a n cs := of_src.1 (wsrc_le k.le (of_src.2 hs))
end

def Sq {α : Type} (R : α → List Value → Prop) : List α → List Value → Prop
  | [], vs => vs = []
  | x :: xs, vs => ∃ cs r, vs = cs ++ r ∧ R x cs ∧ Sq R xs r
section
variable {α : Type} {R R' : α → List Value → Prop} {n : Nat}
theorem Sq.mono (h : ∀ x cs, R x cs → R' x cs) : ∀ {xs : List α} {vs : List Value}, Sq R xs vs → Sq R' xs vs
  | [], _, hs => hs
  | x :: xs, _, ⟨cs, r, e, h1, h2⟩ => ⟨cs, r, e, h x cs h1, h2.mono h⟩
theorem Sq.len (hn : ∀ x cs, R x cs → cs.length = n) : ∀ {xs : List α} {vs : List Value}, Sq R xs vs → vs.length = xs.length * n
  | [], _, hs => by cases hs; simp
  | x :: xs, _, ⟨cs, r, e, h1, h2⟩ => by subst e; simp [hn x cs h1, h2.len hn, Nat.add_mul, Nat.add_comm]
theorem Sq.app : ∀ {xs ys : List α} {vs us : List Value}, Sq R xs vs → Sq R ys us → Sq R (xs ++ ys) (vs ++ us)
  | [], _, _, _, hs, ht => by cases hs; exact ht
  | x :: xs, _, _, _, ⟨cs, r, e, h1, h2⟩, ht => ⟨cs, r ++ _, by subst e; simp, h1, h2.app ht⟩
theorem Sq.one {x : α} {cs : List Value} (h : R x cs) : Sq R [x] cs := ⟨cs, [], by simp, h, rfl⟩
theorem Sq.snoc {xs : List α} {vs cs : List Value} {x : α} (hs : Sq R xs vs) (h : R x cs) : Sq R (xs ++ [x]) (vs ++ cs) := hs.app (.one h)
theorem Sq.drop (hn : ∀ x cs, R x cs → cs.length = n) : ∀ (k : Nat) {xs : List α} {vs : List Value}, Sq R xs vs → Sq R (xs.drop k) (vs.drop (k * n))
  | 0, xs, vs, hs => by simpa using hs
  | k + 1, [], _, hs => by cases hs; simp [Sq]
  | k + 1, x :: xs, _, ⟨cs, r, e, h1, h2⟩ => by
    subst e
    have e1 : (cs ++ r).drop ((k + 1) * n) = r.drop (k * n) := by
      rw [show (k + 1) * n = cs.length + k * n by rw [hn x cs h1, Nat.add_mul]; omega, ← List.drop_drop, List.drop_left]
    rw [e1]
    exact h2.drop hn k
theorem Sq.take (hn : ∀ x cs, R x cs → cs.length = n) : ∀ (k : Nat) {xs : List α} {vs : List Value}, Sq R xs vs → Sq R (xs.take k) (vs.take (k * n))
  | 0, xs, vs, hs => by simp [Sq]
  | k + 1, [], _, hs => by cases hs; simp [Sq]
  | k + 1, x :: xs, _, ⟨cs, r, e, h1, h2⟩ => by
    subst e
    rw [show (k + 1) * n = cs.length + k * n by rw [hn x cs h1, Nat.add_mul]; omega, List.take_length_add_append]
    exact ⟨cs, _, rfl, h1, h2.take hn k⟩
theorem Sq.get (hn : ∀ x cs, R x cs → cs.length = n) {xs : List α} {vs : List Value} (hs : Sq R xs vs) {i : Nat} {x : α} (hx : xs[i]? = some x) : ∃ cs, R x cs ∧ (vs.drop (i * n)).take n = cs ∧ i * n + n ≤ vs.length := by
  have hl := hs.len hn
  have hi := (List.getElem?_eq_some_iff.1 hx).1
  have hd := hs.drop hn i
  rw [List.drop_eq_getElem_cons hi, (List.getElem?_eq_some_iff.1 hx).2] at hd
  obtain ⟨cs, r, e, h1, h2⟩ := hd
  refine ⟨cs, h1, by rw [e, ← hn x cs h1, List.take_left], ?_⟩
  rw [hl, ← Nat.succ_mul]; exact Nat.mul_le_mul_right _ hi
theorem Sq.set (hn : ∀ x cs, R x cs → cs.length = n) : ∀ {xs : List α} {vs cs : List Value} {i : Nat} {y : α}, Sq R xs vs → i < xs.length → R y cs → Sq R (xs.set i y) (vs.take (i * n) ++ (cs ++ vs.drop (i * n + n)))
  | [], _, _, _, _, _, hi, _ => by simp at hi
  | x :: xs, _, cs', 0, y, ⟨cs, r, e, h1, h2⟩, _, hy => by
    subst e
    refine ⟨cs', r, ?_, hy, h2⟩
    rw [Nat.zero_mul, Nat.zero_add, ← hn x cs h1, List.drop_left]; simp
  | x :: xs, _, cs', i + 1, y, ⟨cs, r, e, h1, h2⟩, hi, hy => by
    subst e
    refine ⟨cs, _, ?_, h1, h2.set hn (i := i) (by simpa using hi) hy⟩
    have e1 : (i + 1) * n = cs.length + i * n := by rw [hn x cs h1, Nat.add_mul]; omega
    have e2 : (cs ++ r).drop (cs.length + (i * n + n)) = r.drop (i * n + n) := by rw [← List.drop_drop, List.drop_left]
    rw [e1, List.take_length_add_append, Nat.add_assoc, e2]; simp
theorem Sq.all (h1 : ∀ x cs, R x cs → ∀ u ∈ cs, u.oneCell' = true) : ∀ {xs : List α} {vs : List Value}, Sq R xs vs → ∀ u ∈ vs, u.oneCell' = true
  | [], _, hs, u, hu => by cases hs; cases hu
  | x :: xs, _, ⟨cs, r, e, hx, h2⟩, u, hu => by
    subst e
    rcases List.mem_append.1 hu with hu | hu
    · exact h1 x cs hx u hu
    · exact h2.all h1 u hu
end
def ints (k : IntKind) (l : List Int) : List Value := l.map (Value.int k)
theorem ints_len {k : IntKind} {l : List Int} : (ints k l).length = l.length := by simp [ints]
theorem ints_get {k : IntKind} {l : List Int} {i : Nat} {x : Int} (h : l[i]? = some x) : (ints k l)[i]? = some (.int k x) := by simp [ints, h]
theorem ints_one {k : IntKind} {l : List Int} : ∀ u ∈ ints k l, u.oneCell' = true := by
  intro u hu; simp only [ints, List.mem_map] at hu; obtain ⟨x, _, rfl⟩ := hu; rfl
theorem ints_app {k : IntKind} {l r : List Int} : ints k (l ++ r) = ints k l ++ ints k r := by simp [ints]
theorem ints_drop {k : IntKind} {l : List Int} {n : Nat} : (ints k l).drop n = ints k (l.drop n) := by simp [ints]
theorem ints_take {k : IntKind} {l : List Int} {n : Nat} : (ints k l).take n = ints k (l.take n) := by simp [ints]
def Bts (W : Wd) (v : Value) (l : List Int) : Prop := ∃ a c, v = .slice a l.length c ∧ l.length ≤ c ∧ wsrc W a l.length (ints .u8 l)
theorem Bts.le {W W' : Wd} {v : Value} {l : List Int} (hl : W.le W') (hb : Bts W v l) : Bts W' v l := by
  obtain ⟨a, c, e, h1, h2⟩ := hb; exact ⟨a, c, e, h1, wsrc_le hl h2⟩
theorem Bts.nil {W : Wd} : Bts W (.slice none 0 0) [] := ⟨none, 0, rfl, Nat.le_refl _, rfl⟩
end Go.Vc
set_option linter.unusedVariables false
set_option linter.unusedSimpArgs false
namespace Go.Proofs.YtepodifionoigaaGreatDoor
open Go.Vc

section
variable {W W' : Wd} {h h' : Heap} {G L : List Grp} {E : Grp} {s a b : Option Addr} {l c cap sz e bytes n : Nat} {cs vs : List Value} {xs ys : List Int} {x : Int}
theorem _root_.Go.Vc.Me.beside (m : Me W h G) (k : Me (Wd.of h) h' L) : Me W h' (L ++ G) := by
  refine ⟨fun b x e => k.keep b x (m.keep b x e), fun x hx => ?_, fun x hx => ?_, ?_⟩
  · rw [List.flatten_append] at hx
    rcases List.mem_append.1 hx with hx | hx
    · exact k.has x hx
    · exact k.keep _ _ (m.has x hx)
  · rw [List.flatten_append] at hx
    rcases List.mem_append.1 hx with hx | hx
    · have := k.off x hx
      cases hW : W x.1 with
      | none => rfl
      | some y => rw [show Wd.of h x.1 = some y from m.keep _ _ hW] at this; cases this
    · exact m.off x hx
  · rw [List.flatten_append, List.map_append]
    refine List.nodup_append.2 ⟨k.nd, m.nd, fun i hi j hj hij => ?_⟩
    subst hij
    obtain ⟨x, hx, rfl⟩ := List.mem_map.1 hi
    obtain ⟨y, hy, hxy⟩ := List.mem_map.1 hj
    have h1 := k.off x hx
    have h2 : h[y.1]? = _ := m.has y hy
    rw [hxy] at h2
    rw [show Wd.of h x.1 = _ from h2] at h1; cases h1
theorem _root_.Go.Vc.Ow.bts (o : Ow a l c 1 (ints .u8 xs) E) (hl : xs.length = l) (hE : ∀ x ∈ E, W x.1 = some (.cells x.2.1.toArray x.2.2)) : Bts W (.slice a l c) xs := by
  subst hl
  refine ⟨a, c, rfl, o.le, ?_⟩
  rcases o with ⟨rfl, h1, rfl, h2, rfl⟩ | ⟨b, o, j, rest, t, T, rfl, h1, h2, h3, h4, rfl⟩
  · exact h2
  · show wrow W b o xs.length = some _
    have hb := hE _ (List.mem_singleton.2 rfl)
    dsimp only at hb
    refine wrow_of (by simp [ints]) fun k v hk => ?_
    unfold wcell
    rw [hb]
    have hkl := (List.getElem?_eq_some_iff.1 hk).1
    simp only [List.getElem?_toArray]
    rw [← h4, List.getElem?_append_right (by omega), Nat.add_sub_cancel_left, List.getElem?_append_left hkl]
    exact hk
def Made (h : Heap) (l sz : Nat) (cs : List Value) (v : Value) (h' : Heap) : Prop := ∃ a c E, v = .slice a l c ∧ Me (Wd.of h) h' [E] ∧ Ow a l c sz cs E
theorem clone_k {l sz bytes : Nat} (hs : src h s (l * sz) cs) (hl : cs.length = l * sz) (h1 : ∀ u ∈ cs, u.oneCell' = true) (hb : l * bytes ≤ 140737488355328) (hb0 : 0 < bytes) (hz : 0 < sz) :
    bcase (isNilAddr s) (Made h l sz cs (.slice none 0 0) h) (∀ (b1 : Nat) (h1 : Heap), b1 = h.size → h1 = h.push (.cells ([] : List Value).toArray e) →
      ∃ news1 : List Value, (src h1 s (l * sz) news1 ∧ ∀ u ∈ news1, u.oneCell' = true) ∧ appK h1 (some ⟨b1, 0, none⟩) 0 0 l sz e bytes news1 fun (a1 : Option Addr) (cap1 : Nat) (h2 : Heap) => Made h l sz cs (.slice a1 (0 + l) cap1) h2) := by
  refine bcase_intro (fun hn => ?_) fun hn => ?_
  · cases s with
    | some p => simp [isNilAddr] at hn
    | none =>
      have : cs = [] := hs
      subst this
      have h0 : l * sz = 0 := by simpa using hl.symm
      obtain rfl : l = 0 := by
        rcases Nat.mul_eq_zero.1 h0 with h | h
        · exact h
        · omega
      exact ⟨none, 0, [], rfl, (Me.start h).nilI, Ow.nil⟩
  · intro b1 h1' e1 e2
    have m := (Me.start h).push e2 e1
    have k := m.kept (Wd.le.refl _)
    refine ⟨cs, ⟨k.src hs, h1⟩, ?_⟩
    refine (Ow.fresh0 (l := 0) (sz := sz) (by simp)).app m 0 rfl hl (by simpa using hb) hb0 fun a' c' E' h' m' o' => ?_
    rw [Nat.zero_add] at o' ⊢
    exact ⟨a', c', E', rfl, by simpa using m', by simpa using o'⟩
end
theorem clone_byte_c {h : Heap} {s : Option Addr} {l c : Nat} {cs : List Value} (hs : src h s l cs) (hl : cs.length = l) (h1 : ∀ u ∈ cs, u.oneCell' = true) (hb : l ≤ 140737488355328) :
    Runs Tryz.prog 74 #[.slice s l c] h (Made h l 1 cs) :=
  vc_slices_Clone_byte _ _ _ _ _ (clone_k (l := l) (sz := 1) (bytes := 1) (cs := cs) (by simpa using hs) (by simpa using hl) h1 (by omega) (by decide) (by decide))

section
variable {h : Heap} {s : Option Addr} {l c : Nat} {xs ys : List Int} {x : Int}
end
end Go.Proofs.YtepodifionoigaaGreatDoor
set_option linter.unusedVariables false
set_option linter.unusedSimpArgs false
namespace Go.Proofs.YtepodifionoigaaGreatDoor
open Go.Vc

theorem tmod_cases (n m : Int) (hm : 0 < m) : (n.tmod m < 0 ∧ n.tmod m + m = n % m) ∨ (0 ≤ n.tmod m ∧ n.tmod m = n % m) := by
  have h1 := Int.emod_lt_of_pos n hm
  have h2 := Int.emod_nonneg n (show m ≠ 0 by omega)
  by_cases hn : 0 ≤ n
  · rw [Int.tmod_eq_emod_of_nonneg hn]; omega
  · have := Int.tmod_eq_emod (a := n) (b := m)
    split at this <;> omega
end Go.Proofs.YtepodifionoigaaGreatDoor
