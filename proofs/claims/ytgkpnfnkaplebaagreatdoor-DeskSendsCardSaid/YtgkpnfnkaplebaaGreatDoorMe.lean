/- Memory by groups of blocks: what stays (W), what is ours (G: groups of blocks, each block once). No program is named here. -/
import Derived.Test.YtgkpnfnkaplebaaGreatDoorMem
set_option linter.unusedVariables false
set_option linter.unusedSimpArgs false
namespace Go.Vc
abbrev B3 := Nat × List Value × TypeId
abbrev Grp := List B3
abbrev Wd := Nat → Option Obj
def Wd.le (W W' : Wd) : Prop := ∀ b x, W b = some x → W' b = some x
theorem Wd.le.refl (W : Wd) : W.le W := fun _ _ h => h
theorem Wd.le.trans {A B C : Wd} (h : A.le B) (k : B.le C) : A.le C := fun b x e => k b x (h b x e)
/-- What is known of a heap: blocks that stay as they are, blocks that are ours. -/
structure Me (W : Wd) (h : Heap) (G : List Grp) : Prop where
  keep : ∀ b x, W b = some x → h[b]? = some x
  has : ∀ x ∈ G.flatten, Blk h x.1 x.2.1 x.2.2
  off : ∀ x ∈ G.flatten, W x.1 = none
  nd : (G.flatten.map (·.1)).Nodup
/-- The heap as it is, nothing of it ours. -/
def Wd.of (h : Heap) : Wd := fun b => h[b]?
def wcell (W : Wd) (b o : Nat) : Option Value := match W b with
  | some (.cells c _ _) => c[o]?
  | _ => none
def wrow (W : Wd) (b o : Nat) : Nat → Option (List Value)
  | 0 => some []
  | n + 1 => match wcell W b o, wrow W b (o + 1) n with
    | some v, some r => some (v :: r)
    | _, _ => none
def wsrc (W : Wd) (a : Option Addr) (n : Nat) (cs : List Value) : Prop :=
  match a with
  | none => cs = []
  | some ⟨b, o, none⟩ => wrow W b o n = some cs
  | some ⟨_, _, some _⟩ => n = 0 ∧ cs = []
section
variable {W W' : Wd} {h h' : Heap} {G G' : List Grp} {E A B : Grp} {b o n i : Nat} {vs ws us : List Value} {T : TypeId} {v : Value}
theorem Me.start (h : Heap) : Me (Wd.of h) h [] := ⟨fun _ _ e => e, fun _ hx => (by cases hx), fun _ hx => (by cases hx), List.nodup_nil⟩
theorem wcell_le (hl : W.le W') (hc : wcell W b o = some v) : wcell W' b o = some v := by
  unfold wcell at hc ⊢
  split at hc
  · rename_i c e f hW; rw [hl _ _ hW]; exact hc
  · cases hc
theorem wrow_le (hl : W.le W') : ∀ {n o : Nat} {cs : List Value}, wrow W b o n = some cs → wrow W' b o n = some cs
  | 0, _, _, hr => hr
  | n + 1, o, cs, hr => by
    simp only [wrow] at hr ⊢
    split at hr
    · rename_i v r e1 e2; rw [wcell_le hl e1, wrow_le hl e2]; exact hr
    · cases hr
theorem wsrc_le {a : Option Addr} {cs : List Value} (hl : W.le W') (hs : wsrc W a n cs) : wsrc W' a n cs := by
  unfold wsrc at hs ⊢
  split at hs
  · exact hs
  · exact wrow_le hl hs
  · exact hs
theorem Me.wcell (m : Me W h G) (hc : wcell W b o = some v) : cell h b o = some v := by
  unfold Go.Vc.wcell at hc
  split at hc
  · rename_i c e f hW; unfold cell; rw [m.keep _ _ hW]; exact hc
  · cases hc
theorem Me.wrow (m : Me W h G) : ∀ {n o : Nat} {cs : List Value}, wrow W b o n = some cs → row h b o n = some cs
  | 0, _, _, hr => hr
  | n + 1, o, cs, hr => by
    simp only [Go.Vc.wrow] at hr
    simp only [row]
    split at hr
    · rename_i v r e1 e2; rw [m.wcell e1, m.wrow e2]; exact hr
    · cases hr
theorem Me.wsrc {a : Option Addr} {cs : List Value} (m : Me W h G) (hs : wsrc W a n cs) : src h a n cs := by
  unfold Go.Vc.wsrc at hs
  unfold src
  split at hs
  · exact hs
  · exact m.wrow hs
  · exact hs
theorem wrow_len : ∀ {n o : Nat} {cs : List Value}, wrow W b o n = some cs → cs.length = n
  | 0, _, _, hr => by cases hr; rfl
  | n + 1, o, cs, hr => by
    simp only [wrow] at hr
    split at hr
    · rename_i v r e1 e2; cases hr; simp [wrow_len e2]
    · cases hr
theorem wrow_cell : ∀ {n o : Nat} {cs : List Value}, wrow W b o n = some cs → ∀ j v, cs[j]? = some v → wcell W b (o + j) = some v
  | 0, _, _, hr, j, v, hj => by cases hr; simp at hj
  | n + 1, o, cs, hr, j, v, hj => by
    simp only [wrow] at hr
    split at hr
    · rename_i u r e1 e2; cases hr
      cases j with
      | zero => simp at hj; subst hj; exact e1
      | succ j => have := wrow_cell e2 j v (by simpa using hj); rw [show o + (j + 1) = o + 1 + j by omega]; exact this
    · cases hr
theorem wrow_of : ∀ {n o : Nat} {cs : List Value}, cs.length = n → (∀ j v, cs[j]? = some v → wcell W b (o + j) = some v) → wrow W b o n = some cs
  | 0, o, cs, hl, _ => by rw [List.eq_nil_of_length_eq_zero hl]; rfl
  | n + 1, o, c :: cs, hl, hc => by
    have h1 := hc 0 c rfl
    have h2 := wrow_of (n := n) (o := o + 1) (cs := cs) (by simpa using hl) (fun j v hj => by
      have := hc (j + 1) v (by simpa using hj)
      rw [show o + 1 + j = o + (j + 1) by omega]; exact this)
    simp only [wrow]
    rw [show wcell W b o = some c by simpa using h1, h2]
theorem wrow_iff {cs : List Value} : wrow W b o n = some cs ↔ cs.length = n ∧ ∀ j v, cs[j]? = some v → wcell W b (o + j) = some v :=
  ⟨fun hr => ⟨wrow_len hr, wrow_cell hr⟩, fun ⟨h1, h2⟩ => wrow_of h1 h2⟩
theorem of_cell (h : Heap) : wcell (Wd.of h) b o = cell h b o := rfl
theorem of_row {h : Heap} : ∀ {n o : Nat}, wrow (Wd.of h) b o n = row h b o n
  | 0, _ => rfl
  | n + 1, o => by simp only [wrow, row, of_row, of_cell]; rfl
theorem of_src {h : Heap} {a : Option Addr} {cs : List Value} : wsrc (Wd.of h) a n cs ↔ src h a n cs := by
  unfold wsrc src
  split <;> simp [of_row]
theorem Me.lt (m : Me W h G) {x : Obj} (hb : W b = some x) : b < h.size := (Array.getElem?_eq_some_iff.1 (m.keep b x hb)).1
theorem Me.kept {h0 : Heap} (m : Me W h G) (hl : (Wd.of h0).le W) : Kept h0 h := by
  refine ⟨Nat.le_of_not_lt fun hlt => ?_, fun b hb => ?_⟩
  · have := m.keep h.size _ (hl h.size _ (Array.getElem?_eq_getElem hlt))
    rw [Array.getElem?_eq_none (Nat.le_refl _)] at this; cases this
  · have e := Array.getElem?_eq_getElem hb
    exact (m.keep b _ (hl b _ e)).trans e.symm
theorem Me.perm (m : Me W h G) (hp : G.flatten.Perm G'.flatten) : Me W h G' :=
  ⟨m.keep, fun x hx => m.has x (hp.mem_iff.2 hx), fun x hx => m.off x (hp.mem_iff.2 hx), (hp.map _).nodup_iff.1 m.nd⟩
theorem Me.sub (m : Me W h G) (hp : ∃ K, G.flatten.Perm (G'.flatten ++ K)) : Me W h G' := by
  obtain ⟨K, hp⟩ := hp
  refine ⟨m.keep, fun x hx => m.has x (hp.mem_iff.2 (List.mem_append_left _ hx)), fun x hx => m.off x (hp.mem_iff.2 (List.mem_append_left _ hx)), ?_⟩
  have := (hp.map (·.1)).nodup_iff.1 m.nd
  rw [List.map_append] at this
  exact (List.nodup_append.1 this).1
theorem flat_set (hi : G[i]? = some A) : G.flatten.Perm (A ++ (G.eraseIdx i).flatten) := by
  induction G generalizing i with
  | nil => simp at hi
  | cons X G ih =>
    cases i with
    | zero => simp at hi; subst hi; simp
    | succ i =>
      simp at hi
      simp only [List.flatten_cons, List.eraseIdx_cons_succ]
      exact ((ih hi).append_left X).trans (by rw [← List.append_assoc, ← List.append_assoc]; exact List.perm_append_comm.append_right _)
/-- The i-th group to the front. -/
theorem Me.focus (m : Me W h G) (i : Nat) (hi : G[i]? = some A) : Me W h (A :: G.eraseIdx i) := m.perm (by simpa using flat_set hi)
theorem Me.drop1 (m : Me W h (A :: G)) : Me W h G := m.sub ⟨A, by simp only [List.flatten_cons]; exact List.perm_append_comm⟩
theorem Me.free (m : Me W h G) (i : Nat) (hi : G[i]? = some A) : Me W h (G.eraseIdx i) := (m.focus i hi).drop1
theorem Me.split (m : Me W h ((A ++ B) :: G)) : Me W h (A :: B :: G) := m.perm (by simp)
theorem Me.join (m : Me W h (A :: B :: G)) : Me W h ((A ++ B) :: G) := m.perm (by simp)
theorem Me.nilI (m : Me W h G) : Me W h ([] :: G) := m.perm (by simp)
theorem Me.nilE (m : Me W h ([] :: G)) : Me W h G := m.perm (by simp)
theorem Me.blk (m : Me W h G) (i : Nat) (hi : G[i]? = some [(b, vs, T)]) : Blk h b vs T := m.has (b, vs, T) (List.mem_flatten.2 ⟨_, List.mem_of_getElem? hi, by simp⟩)
theorem Me.cell (m : Me W h G) (i : Nat) (hi : G[i]? = some [(b, vs, T)]) (e : vs[o]? = some v) : cell h b o = some v := (m.blk i hi).cell_eq e
theorem Me.row (m : Me W h G) (i : Nat) (hi : G[i]? = some [(b, vs, T)]) (e : (vs.drop o).take n = us) (hl : o + n ≤ vs.length) : Go.Vc.row h b o n = some us := (m.blk i hi).row_eq e hl
theorem Me.push (m : Me W h G) (hh : h' = h.push (.cells vs.toArray T)) (hb : b = h.size) : Me W h' ([(b, vs, T)] :: G) := by
  subst hh; subst hb
  refine ⟨fun b x hW => ?_, fun x hx => ?_, fun x hx => ?_, ?_⟩
  · rw [Array.getElem?_push_lt (m.lt hW)]
    rw [← m.keep b x hW, Array.getElem?_eq_getElem]
  · simp only [List.flatten_cons, List.singleton_append, List.mem_cons] at hx
    rcases hx with rfl | hx
    · exact Blk.push_new
    · exact (m.has x hx).push_old
  · simp only [List.flatten_cons, List.singleton_append, List.mem_cons] at hx
    rcases hx with rfl | hx
    · cases hW : W h.size with
      | none => rfl
      | some x => exact absurd (m.lt hW) (by omega)
    · exact m.off x hx
  · simp only [List.flatten_cons, List.singleton_append, List.map_cons, List.nodup_cons]
    refine ⟨fun hc => ?_, m.nd⟩
    obtain ⟨x, hx, he⟩ := List.mem_map.1 hc
    have := (m.has x hx).lt
    omega
/-- One block turns. -/
theorem Me.turn1 (m : Me W h ([(b, vs, T)] :: G)) (hs : h.size ≤ h'.size) (hb : Blk h' b ws T) (hk : ∀ c, c < h.size → c ≠ b → h'[c]? = h[c]?) : Me W h' ([(b, ws, T)] :: G) := by
  have hoff := m.off (b, vs, T) (by simp)
  have hnd := m.nd
  simp only [List.flatten_cons, List.singleton_append, List.map_cons, List.nodup_cons] at hnd
  refine ⟨fun c x hW => ?_, fun x hx => ?_, fun x hx => ?_, ?_⟩
  · rw [hk c (m.lt hW) (by rintro rfl; simp [hoff] at hW)]; exact m.keep c x hW
  · simp only [List.flatten_cons, List.singleton_append, List.mem_cons] at hx
    rcases hx with rfl | hx
    · exact hb
    · have hx' := m.has x (by simp only [List.flatten_cons, List.singleton_append, List.mem_cons]; exact .inr hx)
      unfold Blk
      rw [hk x.1 hx'.lt (by rintro e; exact hnd.1 (e ▸ List.mem_map_of_mem hx))]
      exact hx'
  · simp only [List.flatten_cons, List.singleton_append, List.mem_cons] at hx
    rcases hx with rfl | hx
    · exact hoff
    · exact m.off x (by simp only [List.flatten_cons, List.singleton_append, List.mem_cons]; exact .inr hx)
  · simp only [List.flatten_cons, List.singleton_append, List.map_cons, List.nodup_cons]; exact hnd
theorem flat_put (hi : G[i]? = some A) : (B ++ (G.eraseIdx i).flatten).Perm (G.set i B).flatten := by
  have hil := (List.getElem?_eq_some_iff.1 hi).1
  have h1 : (G.set i B)[i]? = some B := by simp [hil]
  have h2 := flat_set h1
  rw [List.eraseIdx_set_eq] at h2
  exact h2.symm
theorem Me.turn (m : Me W h G) (i : Nat) (hi : G[i]? = some [(b, vs, T)]) (hs : h.size ≤ h'.size) (hb : Blk h' b ws T) (hk : ∀ c, c < h.size → c ≠ b → h'[c]? = h[c]?) : Me W h' (G.set i [(b, ws, T)]) :=
  ((m.focus i hi).turn1 hs hb hk).perm (by simpa using flat_put (B := [(b, ws, T)]) hi)
theorem Me.setc (m : Me W h G) (i : Nat) (hi : G[i]? = some [(b, vs, T)]) (hh : h' = Go.Vc.setc h b o v) : Me W h' (G.set i [(b, vs.set o v, T)]) := by
  subst hh
  exact m.turn i hi (by rw [setc_size]; exact Nat.le_refl _) (m.blk i hi).setc fun c _ hc => setc_ne hc
theorem Me.setr (m : Me W h G) (i : Nat) (hi : G[i]? = some [(b, vs, T)]) (hh : h' = Go.Vc.setr h b o us) : Me W h' (G.set i [(b, setL vs o us, T)]) := by
  subst hh
  exact m.turn i hi (by rw [setr_size]; exact Nat.le_refl _) (m.blk i hi).setr fun c _ hc => setr_ne hc
theorem Me.store (m : Me W h G) (i : Nat) (hi : G[i]? = some [(b, vs, T)]) (ho : o < vs.length) {Q : Heap → Prop} (k : ∀ h1, Me W h1 (G.set i [(b, vs.set o v, T)]) → Q h1) :
    wr h b o ∧ ∀ h1, h1 = Go.Vc.setc h b o v → Q h1 :=
  ⟨(m.blk i hi).wr ho, fun h1 e => k h1 (m.setc i hi e)⟩
theorem Me.wrs (m : Me W h G) (i : Nat) (hi : G[i]? = some [(b, vs, T)]) (ho : o + n ≤ vs.length) : Go.Vc.wrs h b o n := (m.blk i hi).wrs ho
theorem Me.rowb (m : Me W h G) (i : Nat) (hi : G[i]? = some [(b, vs, T)]) (e : (vs.drop o).take n = us) (hl : Nat.ble (o + n) vs.length = true) : Go.Vc.row h b o n = some us := m.row i hi e (Nat.le_of_ble_eq_true hl)
theorem Me.wrb (m : Me W h G) (i : Nat) (hi : G[i]? = some [(b, vs, T)]) (hl : Nat.ble (o + 1) vs.length = true) : Go.Vc.wr h b o := (m.blk i hi).wr (Nat.le_of_ble_eq_true hl)
theorem Me.wrsb (m : Me W h G) (i : Nat) (hi : G[i]? = some [(b, vs, T)]) (hl : Nat.ble (o + n) vs.length = true) : Go.Vc.wrs h b o n := (m.blk i hi).wrs (Nat.le_of_ble_eq_true hl)
/-- A group that from now on stays as it is. -/
theorem Me.give (m : Me W h (E :: G)) : ∃ W', W.le W' ∧ (∀ x ∈ E, W' x.1 = some (.cells x.2.1.toArray x.2.2)) ∧ Me W' h G := by
  have hnd := m.nd
  simp only [List.flatten_cons, List.map_append] at hnd
  obtain ⟨_, _, hdis⟩ := List.nodup_append.1 hnd
  have hE : ∀ x ∈ E, x ∈ (E :: G).flatten := fun x hx => by simp only [List.flatten_cons]; exact List.mem_append_left _ hx
  have hG : ∀ x ∈ G.flatten, x ∈ (E :: G).flatten := fun x hx => by simp only [List.flatten_cons]; exact List.mem_append_right _ hx
  refine ⟨fun b => if b ∈ E.map (·.1) then h[b]? else W b, fun b x hW => ?_, fun x hx => ?_, ?_, ?_, ?_, ?_⟩
  · show (if b ∈ E.map (·.1) then h[b]? else W b) = _
    split
    · exact m.keep b x hW
    · exact hW
  · show (if x.1 ∈ E.map (·.1) then h[x.1]? else W x.1) = _
    rw [if_pos (List.mem_map_of_mem hx)]
    exact m.has x (hE x hx)
  · intro b x hx
    replace hx : (if b ∈ E.map (·.1) then h[b]? else W b) = some x := hx
    split at hx
    · exact hx
    · exact m.keep b x hx
  · exact fun x hx => m.has x (hG x hx)
  · intro x hx
    show (if x.1 ∈ E.map (·.1) then h[x.1]? else W x.1) = none
    rw [if_neg (fun hc => hdis _ hc _ (List.mem_map_of_mem hx) rfl)]
    exact m.off x (hG x hx)
  · exact m.drop1.nd
theorem Me.same {h2 : Heap} (m : Me W h G) (e : h2 = h) : Me W h2 G := e ▸ m
/-- Of many groups one. -/
theorem Me.pick {Es : List Grp} (m : Me W h (Es.flatten :: G)) (k : Nat) (hk : Es[k]? = some E) : Me W h (E :: (Es.eraseIdx k).flatten :: G) :=
  m.perm (by simp only [List.flatten_cons]; rw [← List.append_assoc]; exact (flat_set hk).append_right _)
theorem Me.unpick {Es : List Grp} {E0 : Grp} (k : Nat) (hk : Es[k]? = some E0) (m : Me W h (E :: (Es.eraseIdx k).flatten :: G)) : Me W h ((Es.set k E).flatten :: G) :=
  m.perm (by simp only [List.flatten_cons]; rw [← List.append_assoc]; exact (flat_put hk).append_right _)
end
end Go.Vc
