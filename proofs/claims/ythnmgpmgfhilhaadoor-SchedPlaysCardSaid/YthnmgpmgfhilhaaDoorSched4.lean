/- Package sched: Order over the model. -/
import Derived.Test.YthnmgpmgfhilhaaDoorSched3
set_option linter.unusedVariables false
set_option linter.unusedSimpArgs false
set_option maxRecDepth 8000
namespace Go.Vc
def key (e : En) : Int × Int := (e.t, e.aid)
def kle (x y : Int × Int) : Prop := x.1 < y.1 ∨ x.1 = y.1 ∧ x.2 ≤ y.2
section
variable {st : List (Option En)} {ks : List (Int × Int)} {e x y : En}
theorem kle_of (h : ¬ y.lt x) : kle (key x) (key y) := by simp only [kle, key, En.lt] at *; omega
theorem acts_asc : ∀ {st : List (Option En)} {c : Int}, (∀ (k : Nat) (e : En), st[k]? = some (some e) → e.aid = (k : Int) + 1 + c) → (acts st).Pairwise (fun x y => x.aid < y.aid) ∧ ∀ x ∈ acts st, c < x.aid
  | [], c, _ => ⟨List.Pairwise.nil, fun x hx => by cases hx⟩
  | o :: r, c, h => by
    obtain ⟨h1, h2⟩ := acts_asc (st := r) (c := c + 1) fun k e hk => by have := h (k + 1) e (by simpa using hk); omega
    have e1 : acts (o :: r) = ofE o ++ acts r := rfl
    rw [e1]
    cases o with
    | none => exact ⟨h1, fun x hx => by have := h2 x hx; omega⟩
    | some e =>
      have he := h 0 e rfl
      unfold ofE
      dsimp only
      split
      · refine ⟨List.pairwise_cons.2 ⟨fun y hy => by have := h2 y hy; omega, h1⟩, fun x hx => ?_⟩
        rcases List.mem_cons.1 hx with rfl | hx
        · omega
        · have := h2 x hx; omega
      · exact ⟨h1, fun x hx => by have := h2 x hx; omega⟩
theorem isord_of (ha : ∀ (k : Nat) (e : En), st[k]? = some (some e) → e.aid = (k : Int) + 1) (hn : st.length = 16) (hp : ks.Perm ((acts st).map key)) (hs : ks.Pairwise kle) : IsOrd (st.map strip) (ks.map Prod.snd) := by
  have hin : ∀ x ∈ ks, ∃ e, key e = x ∧ e.on = true ∧ getS (st.map strip) x.2 = some ⟨e.w, e.t, e.on⟩ := fun x hx => by
    obtain ⟨e, he, rfl⟩ := List.mem_map.1 (hp.mem_iff.1 hx)
    obtain ⟨n, h1, h2⟩ := acts_mem.1 he
    refine ⟨e, rfl, h2, ?_⟩
    have := getS_at (strip_of h1) (by simpa using hn)
    rw [show (key e).2 = e.aid from rfl, ha _ _ h1]
    exact this
  refine ⟨by rw [← acts_len, List.length_map]; simpa using hp.length_eq, fun a => ⟨fun hm => ?_, fun ⟨s, h1, h2⟩ => ?_⟩, ?_⟩
  · obtain ⟨x, hx, rfl⟩ := List.mem_map.1 hm
    obtain ⟨e, rfl, h1, h2⟩ := hin x hx
    exact ⟨_, h2, h1⟩
  · obtain ⟨h3, h4⟩ := getS_some.1 h1
    obtain ⟨e, h5, rfl⟩ := strip_get h4
    have hk : key e ∈ ks := hp.mem_iff.2 (List.mem_map.2 ⟨e, acts_mem.2 ⟨_, h5, h2⟩, rfl⟩)
    refine List.mem_map.2 ⟨key e, hk, ?_⟩
    have := ha _ _ h5
    show e.aid = a
    rw [this]; unfold kA; omega
  · have h1 := (acts_asc (st := st) (c := 0) fun k e hk => by rw [ha k e hk]; omega).1
    have h2 : ((acts st).map key).Pairwise fun x y => x.2 ≠ y.2 := List.pairwise_map.2 (h1.imp fun h => by show _ ≠ _; simp only [key]; omega)
    have h3 : ks.Pairwise fun x y => x.2 ≠ y.2 := (hp.pairwise_iff (fun h => Ne.symm h)).2 h2
    refine List.pairwise_map.2 ((hs.and h3).imp_of_mem ?_)
    intro x y hx hy ⟨h4, h5⟩
    obtain ⟨e, rfl, _, h6⟩ := hin x hx
    obtain ⟨f, rfl, _, h7⟩ := hin y hy
    refine ⟨_, _, h6, h7, ?_⟩
    simp only [kle, key] at h4 h5 ⊢
    omega
end
end Go.Vc
namespace Go.Proofs.YthnmgpmgfhilhaaDoor
open Go.Vc
section
variable {W : Wd} {h h' : Heap} {R : List Grp} {G : List Grp} {b bt n i j k : Nat} {st : List (Option En)} {l l' : List En} {e e' : En} {L Lt : Grp} {Is : List Grp} {T : TypeId} {S : Sts}
theorem order_c (m : Me W h (L :: R)) (hv : ScV b S L) : Runs Tryd.prog 13 #[ptrB b] h fun v h' =>
    ∃ a c o E, v = .slice a o.length c ∧ Ow a o.length c 1 (ints .i64 o) E ∧ IsOrd S o ∧ Me W h' (E :: L :: R) := by
  have hv0 := hv
  obtain ⟨st, bt, T, l, Lt, Is, rfl, hh, ⟨ta, tc, TE, TT, o, rfl⟩, h4, h5, h6, h7, h8, rfl⟩ := hv
  have hln := pm_len h8 h4
  have back : ∀ {h : Heap} {E : Grp}, Me W h (E :: [(bt, [.slice ta l.length tc], TT)] :: TE :: (blks l 0).flatten :: Is.flatten :: [(b, sptrs st ++ [ptrB bt], T)] :: R) → Me W h (E :: ([(bt, [.slice ta l.length tc], TT)] ++ (TE ++ (blks l 0).flatten) ++ (Is.flatten ++ [(b, sptrs st ++ [ptrB bt], T)])) :: R) := fun m => m.perm (by simp)
  have m0 : Me W h ([(bt, [.slice ta l.length tc], TT)] :: TE :: (blks l 0).flatten :: Is.flatten :: [(b, sptrs st ++ [ptrB bt], T)] :: R) := m.perm (by simp)
  refine vc_sched_Sched_Order _ _ _ ?_
  intro b1 h1 e1 e2
  replace m0 := m0.push e2 e1
  clear e1 e2 m
  generalize eT2 : (59 : TypeId) = T1 at m0
  clear eT2
  refine ⟨_, m0.cell 5 rfl (sptrs_bt h4), _, _, _, m0.cell 1 rfl rfl, ?_⟩
  refine ⟨fun x h' => ∃ (i : Nat) (l2 : List En) (L2 : Grp), x = i ∧ i ≤ l.length ∧ TuV b1 l2 L2 ∧ HOk l2.length l2 ∧ (l2.map key).Perm ((l.take i).map key) ∧ Me W h' (L2 :: [(bt, [.slice ta l.length tc], TT)] :: TE :: (blks l 0).flatten :: Is.flatten :: [(b, sptrs st ++ [ptrB bt], T)] :: R), fun x _ => ((l.length : Int) - x).toNat,
    ⟨0, [], [(b1, [.slice none 0 0], T1)], rfl, by omega, ⟨none, 0, [], T1, Ow.nil, by simp [blks]⟩, fun k a b => by simp at b, by simp, m0⟩, fun _ => ?_⟩
  clear m0
  rintro _ h2 ⟨i, l2, L2, rfl, hi, hv2, hh2, hp, m⟩
  have hl2 : l2.length = i := by have := hp.length_eq; simp at this; omega
  refine dcase_intro (fun q => ?_) fun q => ?_
  · have hil : i < l.length := by omega
    obtain ⟨ab, ao, rfl, hci⟩ := src_cell (o.src1 m 2 rfl) (eptrs_get hil)
    have m2 := (m.focus 3 rfl).pick i (blks_get hil)
    rw [Nat.zero_add] at m2
    refine ⟨⟨by omega, by omega⟩, _, hci, eCells (gt l i) (i : Int), m2.row 0 rfl (by simp [eCells]) (by simp [eCells]), ?_⟩
    intro b5 h3 e1 e2
    replace m := m.push e2 e1
    clear e1 e2 m2
    refine ⟨⟨rfl, m.wrsb 0 rfl rfl, by simp [eCells, Value.oneCell']⟩, ?_⟩
    intro h4' e1
    replace m := m.setr 0 rfl e1
    generalize eT2 : (67 : TypeId) = T5 at m
    clear e1 eT2
    have e3 : (b5, setL [.int .i64 0, .int .i64 0, .int .i64 0, .bool false, .int .i64 0] 0 (eCells (gt l i) (i : Int)), T5) = ((b5, eCells { gt l i with b := b5, T := T5 } (i : Int), T5) : B3) := rfl
    simp only [List.set_cons_zero] at m
    rw [e3] at m
    have m3 := m.focus 1 rfl
    simp only [List.eraseIdx_cons_succ, List.eraseIdx_cons_zero] at m3
    refine (push_c (e := { gt l i with b := b5, T := T5 }) m3 hv2 hh2 (by omega)).mono ?_
    rintro _ h5' ⟨l3, L3, rfl, pm, hh3, hv3, m4⟩
    refine ⟨by simp only [fits]; omega, ⟨i + 1, l3, L3, by omega, by omega, hv3, hh3, ?_, m4⟩, by (try dsimp only); omega⟩
    have e4 : l.take (i + 1) = l.take i ++ [gt l i] := by
      rw [List.take_add_one, get_gt hil]; rfl
    have p1 := pm.map key
    rw [List.map_append] at p1
    rw [e4, List.map_append]
    exact p1.trans (hp.append_right _)
  · obtain rfl : i = l.length := by omega
    rw [List.take_length] at hp
    refine ⟨fun oa ol oc h' => ∃ (ks : List (Int × Int)) (l2 : List En) (L2 E : Grp), ol = ks.length ∧ Ow oa ol oc 1 (ints .i64 (ks.map Prod.snd)) E ∧ TuV b1 l2 L2 ∧ HOk l2.length l2 ∧ (ks ++ l2.map key).Perm (l.map key) ∧ ks.Pairwise kle ∧ (∀ x ∈ ks, ∀ y ∈ l2, kle x (key y)) ∧ Me W h' (L2 :: E :: [(bt, [.slice ta l.length tc], TT)] :: TE :: (blks l 0).flatten :: Is.flatten :: [(b, sptrs st ++ [ptrB bt], T)] :: R), fun _ ol _ _ => l.length - ol,
      ⟨[], l2, L2, [], rfl, Ow.nil, hv2, hh2, by simpa using hp, List.Pairwise.nil, fun x hx => (by cases hx), m.perm (by simp)⟩, fun _ => ?_⟩
    clear m hv2 hh2 hp hl2
    rintro oa _ oc h6' ⟨ks, l2, L2, E, rfl, ow, hv2, hh2, hp, hs, hb, m⟩
    have hkl : ks.length + l2.length = l.length := by have := hp.length_eq; simpa using this
    refine (len_c m hv2).mono ?_
    rintro _ _ ⟨rfl, rfl⟩
    refine ⟨_, rfl, dcase_intro (fun q2 => ?_) fun q2 => ?_⟩
    · obtain ⟨xa, xc, XE, XT, ox, mx⟩ := hv2.opn m
      obtain ⟨ab, ao, rfl, hci⟩ := src_cell (ox.src1 mx 1 rfl) (eptrs_get (k := 0) (by omega))
      refine ⟨_, _, _, mx.cell 0 rfl rfl, ⟨by omega, by omega⟩, _, hci, _, hv2.cellAt m (j := 0) (by omega) rfl, ?_⟩
      refine ow.app1 (us := [.int .i64 (gt l2 0).aid]) (bytes := 8) m 1 rfl rfl (by simp [Value.oneCell']) (by omega) (by decide) ?_
      intro a' c' E' h9 m9 o9
      simp only [List.set_cons_succ, List.set_cons_zero] at m9
      refine (remove_c (i := 0) m9 hv2 hh2 (by omega) (by omega)).mono ?_
      rintro v1 h10 ⟨l3, L3, p, pm, hh3, hv3, m10⟩
      refine ⟨v1, rfl, ⟨ks ++ [key (gt l2 0)], l3, L3, E', by simp, ?_, hv3, hh3, ?_, ?_, ?_, m10.free 1 rfl⟩, by (try dsimp only); omega⟩
      · have e1 : ints .i64 ((ks ++ [key (gt l2 0)]).map Prod.snd) = ints .i64 (ks.map Prod.snd) ++ [.int .i64 (gt l2 0).aid] := by simp [ints, key]
        rw [e1]; exact o9
      · rw [List.append_assoc]
        refine List.Perm.trans (List.Perm.append_left _ ?_) hp
        have p1 := (erase_perm (l := l2) (i := 0) (by omega)).map key
        exact ((pm.map key).cons (key (gt l2 0))).trans p1
      · refine List.pairwise_append.2 ⟨hs, List.pairwise_singleton _ _, fun x hx y hy => ?_⟩
        rw [List.mem_singleton] at hy
        subst hy
        exact hb x hx _ (List.mem_of_getElem? (get_gt (by omega)))
      · intro x hx y hy
        have hy2 : y ∈ l2 := List.mem_of_mem_eraseIdx (pm.mem_iff.1 hy)
        rcases List.mem_append.1 hx with hx | hx
        · exact hb x hx y hy2
        · rw [List.mem_singleton] at hx
          subst hx
          obtain ⟨j, hj⟩ := List.getElem?_of_mem hy2
          have := hh2.head j (List.getElem?_eq_some_iff.1 hj).1
          rw [gt_of hj] at this
          exact kle_of this
    · have hl0 : l2 = [] := List.eq_nil_of_length_eq_zero (by omega)
      subst hl0
      rw [List.map_nil, List.append_nil] at hp
      refine ⟨oa, oc, ks.map Prod.snd, E, by simp, by simpa using ow, isord_of h7 h4 (hp.trans (h8.map key)) hs, back (m.free 0 rfl)⟩
end
end Go.Proofs.YthnmgpmgfhilhaaDoor
