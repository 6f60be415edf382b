/- Package sched in memory: the stations' blocks, the turns; what reads and writes them. -/
import Derived.Test.YthnmgpmgfhilhaaDoorSchedPlain
import Derived.Test.YthnmgpmgfhilhaaDoorTurn2
import Derived.Test.YthnmgpmgfhilhaaDoorGenSched
import Derived.Test.YthnmgpmgfhilhaaDoorSee
set_option linter.unusedVariables false
set_option linter.unusedSimpArgs false
set_option maxRecDepth 8000
namespace Go.Proofs.YthnmgpmgfhilhaaDoor
open Go.Vc
def optP : Option En → Value
  | none => .pointer none
  | some e => ptrB e.b
def sptrs (st : List (Option En)) : List Value := st.map optP
def IsV : Option En → Grp → Prop
  | none, g => g = []
  | some e, g => if e.on = true then g = [] else ∃ p, g = eBlk e p
/-- A scheduler's state, opened: the turns' group, the idle ones' groups, its own block. -/
structure Sc (W : Wd) (h : Heap) (b : Nat) (st : List (Option En)) (bt : Nat) (T : TypeId) (l : List En) (Lt : Grp) (Is : List Grp) (R : List Grp) : Prop where
  m : Me W h (Lt :: Is.flatten :: [(b, sptrs st ++ [ptrB bt], T)] :: R)
  v : TuV bt l Lt
  ln : st.length = 16
  il : Is.length = 16
  iv : ∀ (k : Nat) (o : Option En), st[k]? = some o → ∃ g, Is[k]? = some g ∧ IsV o g
  aid : ∀ (k : Nat) (e : En), st[k]? = some (some e) → e.aid = (k : Int) + 1
  pm : l.Perm (acts st)
/-- A scheduler at block b whose state is S. -/
def ScV (b : Nat) (S : Sts) (L : Grp) : Prop := ∃ (st : List (Option En)) (bt : Nat) (T : TypeId) (l : List En) (Lt : Grp) (Is : List Grp),
  st.map strip = S ∧ HOk l.length l ∧ TuV bt l Lt ∧ st.length = 16 ∧ Is.length = 16 ∧ (∀ (k : Nat) (o : Option En), st[k]? = some o → ∃ g, Is[k]? = some g ∧ IsV o g) ∧
  (∀ (k : Nat) (e : En), st[k]? = some (some e) → e.aid = (k : Int) + 1) ∧ l.Perm (acts st) ∧ L = Lt ++ (Is.flatten ++ [(b, sptrs st ++ [ptrB bt], T)])
section
variable {W : Wd} {h h' : Heap} {R : List Grp} {b bt n i j k : Nat} {st : List (Option En)} {l l' : List En} {e e' : En} {L Lt : Grp} {Is : List Grp} {T : TypeId} {S : Sts} {K : Value → Heap → Prop} {Q : Heap → Prop}
theorem ScV.opn (hv : ScV b S L) (m : Me W h (L :: R)) : ∃ st bt T l Lt Is, st.map strip = S ∧ HOk l.length l ∧ Sc W h b st bt T l Lt Is R := by
  obtain ⟨st, bt, T, l, Lt, Is, h1, h2, h3, h4, h5, h6, h7, h8, rfl⟩ := hv
  exact ⟨st, bt, T, l, Lt, Is, h1, h2, ⟨m.perm (by simp), h3, h4, h5, h6, h7, h8⟩⟩
theorem Sc.shut (s : Sc W h b st bt T l Lt Is R) (hh : HOk l.length l) : ∃ L, ScV b (st.map strip) L ∧ Me W h (L :: R) :=
  ⟨_, ⟨st, bt, T, l, Lt, Is, rfl, hh, s.v, s.ln, s.il, s.iv, s.aid, s.pm, rfl⟩, s.m.perm (by simp)⟩
theorem sptrs_len : (sptrs st).length = st.length := by simp [sptrs]
theorem sptrs_get {o : Option En} (h : st[k]? = some o) : (sptrs st ++ [ptrB bt])[k]? = some (optP o) := by
  rw [List.getElem?_append_left (by rw [sptrs_len]; exact (List.getElem?_eq_some_iff.1 h).1)]
  simp [sptrs, h]
theorem sptrs_bt (h : st.length = 16) : (sptrs st ++ [ptrB bt])[16]? = some (ptrB bt) := by
  rw [List.getElem?_append_right (by rw [sptrs_len]; omega), sptrs_len, h]; rfl
theorem Sc.cellS {o : Option En} (s : Sc W h b st bt T l Lt Is R) (hk : st[k]? = some o) : cell h b k = some (optP o) := s.m.cell 2 rfl (sptrs_get hk)
theorem Sc.cellT (s : Sc W h b st bt T l Lt Is R) : cell h b 16 = some (ptrB bt) := s.m.cell 2 rfl (sptrs_bt s.ln)
theorem pm_len (pm : l.Perm (acts st)) (hn : st.length = 16) : l.length ≤ 16 := by
  have h1 := pm.length_eq
  have h2 : ∀ (st : List (Option En)), (acts st).length ≤ st.length := by
    intro st
    induction st with
    | nil => simp [acts]
    | cons o r ih =>
      have : acts (o :: r) = ofE o ++ acts r := rfl
      rw [this, List.length_append]
      have : (ofE o).length ≤ 1 := by
        cases o with
        | none => simp [ofE]
        | some e => unfold ofE; dsimp only; split <;> simp
      simp; omega
  have := h2 st
  omega
theorem Sc.len (s : Sc W h b st bt T l Lt Is R) : l.length ≤ 16 := pm_len s.pm s.ln
/-- A station's cells, wherever its block belongs. -/
theorem Sc.ent (s : Sc W h b st bt T l Lt Is R) (hk : st[k]? = some (some e)) : ∃ p : Int, (∀ (o : Nat) (v : Value), (eCells e p)[o]? = some v → cell h e.b o = some v) ∧ row h e.b 0 5 = some (eCells e p) ∧ (e.on = true → ∃ j : Nat, p = (j : Int) ∧ j < l.length ∧ gt l j = e) := by
  obtain ⟨g, hg, hi⟩ := s.iv k _ hk
  unfold IsV at hi; dsimp only at hi
  by_cases ho : e.on = true
  · have hm : e ∈ l := s.pm.mem_iff.2 (acts_mem.2 ⟨k, hk, ho⟩)
    obtain ⟨j, hj⟩ := List.getElem?_of_mem hm
    have hjl := (List.getElem?_eq_some_iff.1 hj).1
    have hge := gt_of hj
    obtain ⟨a, c, E, T', o', m⟩ := s.v.opn s.m
    have m2 := (m.focus 2 rfl).pick j (blks_get hjl)
    rw [hge, Nat.zero_add] at m2
    exact ⟨j, fun o v hv => m2.cell 0 rfl hv, m2.row 0 rfl (by simp [eCells]) (by simp [eCells]), fun _ => ⟨j, rfl, hjl, hge⟩⟩
  · rw [if_neg ho] at hi
    obtain ⟨p, rfl⟩ := hi
    have m2 := (s.m.focus 1 rfl).pick k hg
    exact ⟨p, fun o v hv => m2.cell 0 rfl hv, m2.row 0 rfl (by simp [eCells]) (by simp [eCells]), fun q => absurd q ho⟩
theorem eptrs_set (h : e'.b = (gt l j).b) (hj : j < l.length) : eptrs (l.set j e') = eptrs l := by
  unfold eptrs
  rw [List.map_set, h]
  have := eptrs_get (l := l) hj
  unfold eptrs at this
  obtain ⟨h1, h2⟩ := List.getElem?_eq_some_iff.1 this
  rw [← h2, List.set_getElem_self]
/-- A cell of an active one is written. -/
theorem TuV.store (m : Me W h (L :: R)) (hv : TuV bt l L) (hj : j < l.length) {o : Nat} {v : Value} (hb : e'.b = (gt l j).b) (hT : e'.T = (gt l j).T) (hc : (eCells (gt l j) j).set o v = eCells e' j) (ho : o < 5)
    (q : ∀ h1 L1, TuV bt (l.set j e') L1 → Me W h1 (L1 :: R) → Q h1) : wr h (gt l j).b o ∧ ∀ h1, h1 = setc h (gt l j).b o v → Q h1 := by
  obtain ⟨a, c, E, T', o', m⟩ := hv.opn m
  have m2 := (m.focus 2 rfl).pick j (blks_get hj)
  rw [Nat.zero_add] at m2
  refine m2.store 0 rfl (by simpa [eCells] using ho) fun h1 m3 => ?_
  have e1 : [((gt l j).b, (eCells (gt l j) j).set o v, (gt l j).T)] = eBlk e' ((0 + j : Nat) : Int) := by rw [hc, Nat.zero_add]; unfold eBlk; rw [hb, hT]
  simp only [List.set_cons_zero] at m3
  rw [e1] at m3
  have m4 := Me.unpick (Es := blks l 0) j (blks_get hj) m3
  rw [blks_set] at m4
  have e2 : (l.set j e').length = l.length := by simp
  rw [← e2, ← eptrs_set hb hj] at o'
  rw [← e2] at m4
  obtain ⟨L1, h2, h3⟩ := TuV.shut (bt := bt) (T := T') (R := R) o' (m4.perm (by
    classical
    refine List.perm_iff_count.2 fun x => ?_
    simp only [List.eraseIdx_cons_succ, List.eraseIdx_cons_zero, List.flatten_cons, List.count_append]; omega))
  exact q h1 L1 h2 h3
theorem get_set {α : Type} {l : List α} {k i : Nat} {x : α} (hk : k < l.length) : (l.set k x)[i]? = if i = k then some x else l[i]? := by
  by_cases h : i = k
  · subst h; rw [if_pos rfl, List.getElem?_set_self hk]
  · rw [if_neg h, List.getElem?_set_ne (Ne.symm h)]
theorem sptrs_set {o : Option En} (hk : st[k]? = some (some e)) (hb : e'.b = e.b) : sptrs (st.set k (some e')) = sptrs st := by
  unfold sptrs
  rw [List.map_set]
  have h1 : (st.map optP)[k]? = some (optP (some e')) := by rw [List.getElem?_map, hk]; simp [optP, hb]
  obtain ⟨h2, h3⟩ := List.getElem?_eq_some_iff.1 h1
  rw [← h3, List.set_getElem_self]
/-- A cell of a station is written: the place it has in the turns stays. -/
theorem Sc.put (s : Sc W h b st bt T l Lt Is R) (hk : st[k]? = some (some e)) {o : Nat} {v : Value} (hb : e'.b = e.b) (hT : e'.T = e.T) (ha : e'.aid = e.aid) (hon : e'.on = e.on) (hc : ∀ p, (eCells e p).set o v = eCells e' p) (ho : o < 5)
    (q : ∀ h1 l1 Lt1 Is1, Sc W h1 b (st.set k (some e')) bt T l1 Lt1 Is1 R → (e.on = false → l1 = l) → (e.on = true → ∃ j, j < l.length ∧ gt l j = e ∧ l1 = l.set j e') → Q h1) : wr h e.b o ∧ ∀ h1, h1 = setc h e.b o v → Q h1 := by
  have hkl := (List.getElem?_eq_some_iff.1 hk).1
  obtain ⟨g, hg, hi⟩ := s.iv k _ hk
  have hgl := (List.getElem?_eq_some_iff.1 hg).1
  unfold IsV at hi; dsimp only at hi
  have haid : ∀ (i : Nat) (x : En), (st.set k (some e'))[i]? = some (some x) → x.aid = (i : Int) + 1 := fun i x hx => by
    rw [get_set hkl] at hx
    split at hx
    · rename_i q; subst q; cases hx; rw [ha]; exact s.aid _ _ hk
    · exact s.aid _ _ hx
  have hacts := acts_set (o' := some e') hk
  have hsp := sptrs_set (o := none) hk hb
  by_cases hO : e.on = true
  · rw [if_pos hO] at hi
    subst hi
    have hO' : e'.on = true := by rw [hon]; exact hO
    have hm : e ∈ l := s.pm.mem_iff.2 (acts_mem.2 ⟨k, hk, hO⟩)
    obtain ⟨j, hj⟩ := List.getElem?_of_mem hm
    have hjl := (List.getElem?_eq_some_iff.1 hj).1
    have hge := gt_of hj
    have := TuV.store (Q := Q) (e' := e') (o := o) (v := v) s.m s.v hjl (by rw [hge]; exact hb) (by rw [hge]; exact hT) (by rw [hge]; exact hc _) ho fun h1 L1 hv1 m1 => by
      refine q h1 (l.set j e') L1 Is ⟨by rw [hsp]; exact m1, hv1, by rw [List.length_set]; exact s.ln, s.il, fun i x hx => ?_, haid, ?_⟩ (fun c => by rw [hO] at c; cases c) fun _ => ⟨j, hjl, hge, rfl⟩
      · rw [get_set hkl] at hx
        split at hx
        · rename_i q; subst q; cases hx
          exact ⟨[], hg, by unfold IsV; dsimp only; rw [if_pos hO']⟩
        · exact s.iv _ _ hx
      · have p1 := set_perm (y := e') hj
        unfold ofE at hacts
        dsimp only at hacts
        rw [if_pos hO, if_pos hO'] at hacts
        have p2 : (e :: acts (st.set k (some e'))).Perm (e' :: acts st) := (List.perm_append_singleton e _).symm.trans (hacts.trans (List.perm_append_singleton e' _))
        exact (p1.trans ((s.pm.cons e').trans p2.symm)).cons_inv
    rw [hge] at this
    exact this
  · rw [if_neg hO] at hi
    obtain ⟨p, rfl⟩ := hi
    have hO' : ¬ e'.on = true := by rw [hon]; exact hO
    have m2 := (s.m.focus 1 rfl).pick k hg
    refine m2.store 0 rfl (by simpa [eCells] using ho) fun h1 m3 => ?_
    simp only [List.set_cons_zero] at m3
    have e1 : [(e.b, (eCells e p).set o v, e.T)] = eBlk e' p := by rw [hc]; unfold eBlk; rw [hb, hT]
    rw [e1] at m3
    have m4 := Me.unpick (Es := Is) k hg m3
    simp only [List.eraseIdx_cons_succ, List.eraseIdx_cons_zero] at m4
    refine q h1 l Lt (Is.set k (eBlk e' p)) ⟨by rw [hsp]; exact m4.focus 1 rfl, s.v, by rw [List.length_set]; exact s.ln, by rw [List.length_set]; exact s.il, fun i x hx => ?_, haid, ?_⟩ (fun _ => rfl) fun c => absurd c hO
    · rw [get_set hkl] at hx
      rw [get_set hgl]
      split at hx
      · rename_i q; subst q; cases hx
        exact ⟨_, if_pos rfl, by unfold IsV; dsimp only; rw [if_neg hO']; exact ⟨p, rfl⟩⟩
      · rename_i q; rw [if_neg q]; exact s.iv _ _ hx
    · unfold ofE at hacts
      dsimp only at hacts
      rw [if_neg hO, if_neg hO', List.append_nil, List.append_nil] at hacts
      exact s.pm.trans hacts.symm
end
end Go.Proofs.YthnmgpmgfhilhaaDoor
