/- The document's turns: Del, Order, Active. -/
import Derived.Test.YthnmgpmgfhilhaaDoorSchedr
set_option linter.unusedVariables false
set_option linter.unusedSimpArgs false
set_option maxRecDepth 8000
namespace Go.Vc
def tlt (x y : Tn) : Prop := x.t < y.t ∨ x.t = y.t ∧ x.a < y.a
theorem tlt_trans {x y z : Tn} (h : tlt x y) (k : tlt y z) : tlt x z := by simp only [tlt] at *; omega
/-- The order, apart from how many. -/
structure Od (S : Sts) (o : List Int) : Prop where
  m : ∀ a, a ∈ o ↔ ∃ s, getS S a = some s ∧ s.on = true
  p : o.Pairwise (ltS S)
theorem IsOrd.od {S : Sts} {o : List Int} (h : IsOrd S o) : Od S o := ⟨h.m, h.p⟩
theorem Od.eq {S : Sts} {o o2 : List Int} (h : Od S o) (k : Od S o2) : o = o2 := IsOrd.uniq h.p k.p fun a => (h.m a).trans (k.m a).symm
theorem Od.least {S : Sts} {a : Int} {o : List Int} (h : Od S (a :: o)) (hn : S.length = 16) : ∃ x, getS S a = some x ∧ x.on = true ∧ leastL S = some x.t := by
  obtain ⟨x, h1, h2⟩ := (h.m a).1 (by simp)
  refine ⟨x, h1, h2, least_of hn ⟨a, x, h1, h2, rfl⟩ fun b y h3 h4 => ?_⟩
  have hb := (h.m b).2 ⟨y, h3, h4⟩
  rcases List.mem_cons.1 hb with rfl | hb
  · rw [h1] at h3; cases h3; exact Int.le_refl _
  · obtain ⟨x', y', h5, h6, h7⟩ := (List.pairwise_cons.1 h.p).1 b hb
    rw [h1] at h5; cases h5
    rw [h3] at h6; cases h6
    omega
theorem Od.none {S : Sts} (h : Od S []) (hn : S.length = 16) : leastL S = none := least_none hn fun a s hs => by
  cases ho : s.on with
  | false => rfl
  | true => exact absurd ((h.m a).2 ⟨s, hs, ho⟩) (by simp)
theorem setS_same {S : Sts} {a : Int} {s : St} (h : getS S a = some s) : S.set (kA a) (some s) = S := by
  have h1 := (getS_some.1 h).2
  obtain ⟨h2, h3⟩ := List.getElem?_eq_some_iff.1 h1
  rw [← h3, List.set_getElem_self]
section
variable {S : Sts} {D X : List Tn} {x y : Tn}
theorem od_of (r : RelS S D) (hp : X.Perm (D.filter Tn.on)) (hs : X.Pairwise tlt) : Od S (X.map Tn.a) := by
  have hin : ∀ x ∈ X, x.on = true ∧ getS S x.a = some ⟨x.w, x.t, x.on⟩ := fun x hx => by
    have := List.mem_filter.1 (hp.mem_iff.1 hx)
    obtain ⟨k, hk⟩ := List.getElem?_of_mem this.1
    exact ⟨this.2, r.at_ hk⟩
  refine ⟨fun a => ⟨fun h => ?_, fun ⟨s, h1, h2⟩ => ?_⟩, ?_⟩
  · obtain ⟨x, hx, rfl⟩ := List.mem_map.1 h
    obtain ⟨h1, h2⟩ := hin x hx
    exact ⟨_, h2, h1⟩
  · obtain ⟨k, hk⟩ := (r.get a s).1 h1
    exact List.mem_map.2 ⟨_, hp.mem_iff.2 (List.mem_filter.2 ⟨List.mem_of_getElem? hk, h2⟩), rfl⟩
  · refine List.pairwise_map.2 (hs.imp_of_mem fun {x y} hx hy h => ?_)
    exact ⟨_, _, (hin x hx).2, (hin y hy).2, h⟩
end
end Go.Vc
namespace Go.Proofs.YthnmgpmgfhilhaaDoor
open Go.Vc
section
variable {W : Wd} {h h' : Heap} {R : List Grp} {G : List Grp} {b n i j k : Nat} {L : Grp} {S : Sts} {D X : List Tn} {a w air : Int} {x y : Tn} {s : St}
theorem rdel_c (m : Me W h (L :: R)) (hv : SrV b S L) : Runs Tryd.prog 23 #[ptrB b, .int .i64 a] h fun v h' =>
    ∃ L', v = .int .i64 (erC (delS S a).2) ∧ SrV b (delS S a).1 L' ∧ Me W h' (L' :: R) := by
  obtain ⟨D, sa, c, E, T, r, hn, o, m1⟩ := hv.opn m
  have hl := r.len
  unfold delS
  refine vc_muezzinref15_Sched_Del _ _ _ _ ((rfindD_c r o m1 a).mono ?_)
  rintro _ _ ⟨rfl, ⟨hg, rfl⟩ | ⟨k, x, rfl, hx, rfl, hg⟩⟩
  · rw [hg]
    exact ⟨_, rfl, dcase_pos (by decide) ⟨L, rfl, hv, m⟩⟩
  · rw [hg]
    have hkl := (List.getElem?_eq_some_iff.1 hx).1
    refine ⟨_, rfl, dcase_neg (by omega) ?_⟩
    intro b1 h2 e1 e2
    have m2 := m1.push e2 e1
    clear e1 e2
    have hle := o.le
    have o1 := (o.tail 0 (by omega)).head k (by omega)
    rw [Nat.zero_mul, List.drop_zero, tAll_take (by omega)] at o1
    have e0 : (k : Int).toNat = k := rfl
    rw [e0]
    refine ⟨_, _, _, m2.cell 1 rfl rfl, ⟨by omega, by omega, by omega⟩, tAll (D.take k), ⟨o1.src m2 2 rfl, tAll_one⟩, ?_⟩
    refine (Ow.fresh0 (b := b1) (l := 0) (sz := 4) (vs := []) rfl).app (bytes := 32) m2 0 rfl (by rw [tAll_len, List.length_take]; omega) (by omega) (by decide) ?_
    intro a1 c1 E1 h3 m3 o3
    simp only [List.set_cons_zero] at m3
    have o2 := o.tail (k + 1) (by omega)
    rw [tAll_drop (by omega)] at o2
    have e1 : ((k : Int) + 1).toNat = k + 1 := by omega
    rw [e1]
    refine ⟨_, _, _, m3.cell 1 rfl rfl, by simp only [fits]; omega, ⟨by omega, by omega⟩, tAll (D.drop (k + 1)), ⟨o2.src m3 2 rfl, tAll_one⟩, ?_⟩
    refine o3.app (bytes := 32) m3 0 rfl (by rw [tAll_len, List.length_drop]) (by omega) (by decide) ?_
    intro a2 c2 E2 h4 m4 o4
    simp only [List.set_cons_zero] at m4
    refine m4.store 1 rfl (by simp) fun h5 m5 => ?_
    simp only [List.set_cons_zero, List.set_cons_succ] at m5
    have e2 : tAll (D.eraseIdx k) = [] ++ tAll (D.take k) ++ tAll (D.drop (k + 1)) := by rw [List.nil_append, ← tAll_app, List.eraseIdx_eq_take_drop_succ]
    have e3 : (D.eraseIdx k).length = 0 + k + (D.length - (k + 1)) := by rw [List.length_eraseIdx_of_lt hkl]; omega
    rw [← e2, ← e3] at o4
    rw [← e3] at m5
    have m6 := (m5.free 2 rfl).focus 1 rfl
    simp only [List.eraseIdx_cons_succ, List.eraseIdx_cons_zero] at m6
    obtain ⟨L', hv', m'⟩ := SrV.shut (r.del hn hx) (by rw [List.length_set]; exact hn) o4 m6
    exact ⟨L', rfl, hv', m'⟩
/-- A turn is put in at k: what stands ahead, the turn, what stands behind, by three appends. -/
theorem ins_c {la : Option Addr} {ll lc b3 : Nat} {EX : Grp} {T3 e : TypeId} {G : List Grp} {K : Option Addr → Nat → Heap → Prop} (oX : Ow la X.length lc 4 (tAll X) EX) (m : Me W h (EX :: [(b3, tCells x, T3)] :: G)) (hll : ll = X.length) (hk : k ≤ X.length) (hX : X.length ≤ 16)
    (q : ∀ a3 c3 E3 h9, Me W h9 (E3 :: G) → Ow a3 (X.take k ++ x :: X.drop k).length c3 4 (tAll (X.take k ++ x :: X.drop k)) E3 → K a3 c3 h9) :
    ∀ (b7 : Nat) (h5 : Heap), b7 = h.size → h5 = h.push (.cells ([] : List Value).toArray e) → (0 ≤ (0 : Int) ∧ (0 : Int) ≤ (k : Int) ∧ (k : Int) ≤ ((lc : Nat) : Int)) ∧
      ∃ news1 : List Value, (src h5 (slcAddr la 0 lc 0) ((k : Int).toNat * 4) news1 ∧ ∀ u ∈ news1, u.oneCell' = true) ∧
      appK h5 (some ⟨b7, 0, none⟩) 0 0 (k : Int).toNat 4 e 32 news1 fun (a1 : Option Addr) (cap1 : Nat) (h6 : Heap) =>
      ∃ cs2 : List Value, row h6 b3 0 4 = some cs2 ∧ cs2.length = 4 ∧
      ∀ (b8 : Nat) (h7 : Heap), b8 = h6.size → h7 = h6.push (.cells ((cs2 ++ [])).toArray e) →
      ∃ news2 : List Value, (row h7 b8 0 4 = some news2 ∧ ∀ u ∈ news2, u.oneCell' = true) ∧
      appK h7 a1 (0 + (k : Int).toNat) cap1 1 4 e 32 news2 fun (a2 : Option Addr) (cap2 : Nat) (h8 : Heap) =>
      (0 ≤ (k : Int) ∧ (k : Int) ≤ ((ll : Nat) : Int)) ∧
      ∃ news3 : List Value, (src h8 (slcAddr la (k : Int).toNat lc ((k : Int).toNat * 4)) ((ll - (k : Int).toNat) * 4) news3 ∧ ∀ u ∈ news3, u.oneCell' = true) ∧
      appK h8 a2 ((0 + (k : Int).toNat) + 1) cap2 (ll - (k : Int).toNat) 4 e 32 news3 K := by
  intro b7 h5 e1 e2
  subst hll
  have e0 : (k : Int).toNat = k := rfl
  rw [e0]
  have hle := oX.le
  have m2 := m.push e2 e1
  clear e1 e2
  have o1 := (oX.tail 0 (by omega)).head k (by omega)
  rw [Nat.zero_mul, List.drop_zero, tAll_take hk] at o1
  refine ⟨⟨by omega, by omega, by omega⟩, tAll (X.take k), ⟨o1.src m2 1 rfl, tAll_one⟩, ?_⟩
  refine (Ow.fresh0 (b := b7) (l := 0) (sz := 4) (vs := []) rfl).app (bytes := 32) m2 0 rfl (by rw [tAll_len, List.length_take]; omega) (by omega) (by decide) ?_
  intro a1 c1 E1 h3 m3 o3
  simp only [List.set_cons_zero] at m3
  refine ⟨tCells x, m3.row 2 rfl rfl (by simp [tCells]), rfl, ?_⟩
  refine o3.app1 (us := tCells x ++ []) (bytes := 32) m3 0 rfl rfl (by simp [tCells, Value.oneCell']) (by omega) (by decide) ?_
  intro a2 c2 E2 h4 m4 o4
  simp only [List.set_cons_zero] at m4
  have o2 := oX.tail k (by omega)
  rw [tAll_drop hk] at o2
  refine ⟨⟨by omega, by omega⟩, tAll (X.drop k), ⟨o2.src m4 1 rfl, tAll_one⟩, ?_⟩
  refine o4.app (bytes := 32) m4 0 rfl (by rw [tAll_len, List.length_drop]) (by omega) (by decide) ?_
  intro a3 c3 E3 h6 m6 o6
  simp only [List.set_cons_zero] at m6
  have e2 : tAll (X.take k ++ x :: X.drop k) = [] ++ tAll (X.take k) ++ (tCells x ++ []) ++ tAll (X.drop k) := by
    rw [tAll_app, List.nil_append, List.append_nil, List.append_assoc]; rfl
  have e3 : (X.take k ++ x :: X.drop k).length = 0 + k + 1 + (X.length - k) := by
    rw [List.length_append, List.length_cons, List.length_take, List.length_drop]; omega
  rw [← e2, ← e3] at o6
  exact q a3 c3 E3 h6 ((m6.free 2 rfl).free 1 rfl) o6
theorem ins_pair {k : Nat} (hs : X.Pairwise tlt) (h1 : ∀ (j : Nat) (y : Tn), j < k → X[j]? = some y → tlt y x) (h2 : ∀ (j : Nat) (y : Tn), k ≤ j → X[j]? = some y → tlt x y) : (X.take k ++ x :: X.drop k).Pairwise tlt := by
  have hs' : (X.take k ++ X.drop k).Pairwise tlt := by rw [List.take_append_drop]; exact hs
  obtain ⟨p1, p2, p3⟩ := List.pairwise_append.1 hs'
  have t1 : ∀ y ∈ X.take k, tlt y x := fun y hy => by
    obtain ⟨j, hj⟩ := List.getElem?_of_mem hy
    have hjl := (List.getElem?_eq_some_iff.1 hj).1
    rw [List.length_take] at hjl
    rw [List.getElem?_take_of_lt (by omega)] at hj
    exact h1 j y (by omega) hj
  have t2 : ∀ y ∈ X.drop k, tlt x y := fun y hy => by
    obtain ⟨j, hj⟩ := List.getElem?_of_mem hy
    rw [List.getElem?_drop] at hj
    exact h2 _ y (by omega) hj
  refine List.pairwise_append.2 ⟨p1, List.pairwise_cons.2 ⟨t2, p2⟩, fun y hy z hz => ?_⟩
  rcases List.mem_cons.1 hz with rfl | hz
  · exact t1 y hy
  · exact p3 y hy z hz
set_option maxHeartbeats 1000000
theorem rorder_c (m : Me W h (L :: R)) (hv : SrV b S L) : Runs Tryd.prog 27 #[ptrB b] h fun v h' =>
    ∃ a c o E, v = .slice a o.length c ∧ Ow a o.length c 1 (ints .i64 o) E ∧ Od S o ∧ Me W h' (E :: L :: R) := by
  obtain ⟨D, sa, c, E, T, r, hn, o, rfl⟩ := hv
  have hl := r.len
  have fl : ∀ {h : Heap} {G : Grp}, Me W h (G :: ([(b, [.slice sa D.length c], T)] ++ E) :: R) ↔ Me W h (G :: [(b, [.slice sa D.length c], T)] :: E :: R) := fun {h G} => ⟨fun m => m.perm (by simp), fun m => m.perm (by simp)⟩
  refine vc_muezzinref15_Sched_Order _ _ _ ⟨fun la ll lc x h' => ∃ (i : Nat) (X : List Tn) (EX : Grp), x = i ∧ i ≤ D.length ∧ ll = X.length ∧ Ow la X.length lc 4 (tAll X) EX ∧ X.Perm ((D.take i).filter Tn.on) ∧ X.Pairwise tlt ∧ Me W h' (EX :: [(b, [.slice sa D.length c], T)] :: E :: R), fun _ _ _ x _ => ((D.length : Int) - x).toNat,
    ⟨0, [], [], rfl, by omega, rfl, Ow.nil, by simp, List.Pairwise.nil, m.perm (by simp)⟩, fun _ => ?_⟩
  clear m
  rintro la _ lc _ h1 ⟨i, X, EX, rfl, hi, rfl, oX, hp, hs, m⟩
  have hX : X.length ≤ 16 := by
    have h2 := hp.length_eq
    have h3 := List.length_filter_le Tn.on (D.take i)
    rw [List.length_take] at h3
    omega
  refine ⟨_, _, _, m.cell 1 rfl rfl, dcase_intro (fun q => ?_) fun q => ?_⟩
  · have hx : D[i]? = some D[i] := List.getElem?_eq_getElem (by omega)
    generalize D[i] = x at hx
    obtain ⟨ob, oo, rfl, hc3⟩ := src_cell (o.src m 2 rfl) (tAll_get (o := 3) hx rfl)
    have hrow : row h1 ob (oo + (i : Int).toNat * 4) 4 = some (tCells x) := by
      obtain ⟨_, _, e, hr⟩ := src_part (k := i * 4) (n := 4) (us := tCells x) (o.src m 2 rfl) (by rw [tAll_len]; omega) (by decide) (tAll_row hx)
      cases e; exact hr
    refine ⟨_, _, _, m.cell 1 rfl rfl, ⟨by omega, by omega⟩, _, by simpa [Nat.add_assoc] using hc3, ?_⟩
    have htk : D.take (i + 1) = D.take i ++ [x] := by rw [List.take_add_one, hx]; rfl
    cases ho : x.on with
    | false =>
      refine bcase_true rfl ⟨by simp only [fits]; omega, ⟨i + 1, X, EX, by omega, by omega, rfl, oX, ?_, hs, m⟩, by (try dsimp only); omega⟩
      rw [htk, List.filter_append]
      simpa [ho] using hp
    | true =>
      refine bcase_false rfl ⟨_, _, _, m.cell 1 rfl rfl, ⟨by omega, by omega⟩, _, hrow, ?_⟩
      intro b3 h2 e1 e2
      replace m := m.push e2 e1
      clear e1 e2
      refine ⟨⟨rfl, m.wrsb 0 rfl rfl, by simp [tCells, Value.oneCell']⟩, ?_⟩
      intro h3 e1
      replace m := m.setr 0 rfl e1
      generalize eT2 : (54 : TypeId) = T3 at m
      clear e1 eT2
      have e3 : (b3, setL [.int .i64 0, .int .i64 0, .int .i64 0, .bool false] 0 (tCells x), T3) = ((b3, tCells x, T3) : B3) := rfl
      simp only [List.set_cons_zero] at m
      rw [e3] at m
      have mX := m.focus 1 rfl
      simp only [List.eraseIdx_cons_succ, List.eraseIdx_cons_zero] at mX
      have hne : ∀ y ∈ X, y.a ≠ x.a := fun y hy e => by
        have h4 := List.mem_filter.1 (hp.mem_iff.1 hy)
        obtain ⟨j, hj⟩ := List.getElem?_of_mem h4.1
        have hjl := (List.getElem?_eq_some_iff.1 hj).1
        rw [List.length_take] at hjl
        rw [List.getElem?_take_of_lt (by omega)] at hj
        have := r.uniq hj hx e
        omega
      refine ⟨fun z h' => ∃ k : Nat, z = k ∧ k ≤ X.length ∧ (∀ (j : Nat) (y : Tn), k ≤ j → X[j]? = some y → tlt x y) ∧ h' = h3, fun z _ => z.toNat, ⟨X.length, rfl, by omega, fun j y hj hy => ?_, rfl⟩, fun _ => ?_⟩
      · have := (List.getElem?_eq_some_iff.1 hy).1; omega
      rintro _ h3 ⟨k, rfl, hk, hgt, rfl⟩
      have fin : ∀ (hlt : ∀ (j : Nat) (y : Tn), j < k → X[j]? = some y → tlt y x) (a3 : Option Addr) (c3 : Nat) (E3 : Grp) (h9 : Heap), Me W h9 (E3 :: [(b, [.slice (some ⟨ob, oo, none⟩) D.length c], T)] :: E :: R) → Ow a3 (X.take k ++ x :: X.drop k).length c3 4 (tAll (X.take k ++ x :: X.drop k)) E3 →
          fits .i64 ((i : Int) + 1) ∧ (∃ (i' : Nat) (X' : List Tn) (EX : Grp), (i : Int) + 1 = i' ∧ i' ≤ D.length ∧ 0 + (k : Int).toNat + 1 + (X.length - (k : Int).toNat) = X'.length ∧ Ow a3 X'.length c3 4 (tAll X') EX ∧ X'.Perm ((D.take i').filter Tn.on) ∧ X'.Pairwise tlt ∧ Me W h9 (EX :: [(b, [.slice (some ⟨ob, oo, none⟩) D.length c], T)] :: E :: R)) ∧ ((D.length : Int) - ((i : Int) + 1)).toNat < ((D.length : Int) - (i : Int)).toNat := by
        intro hlt a3 c3 E3 h9 m9 o9
        refine ⟨by simp only [fits]; omega, ⟨i + 1, _, E3, by omega, by omega, ?_, o9, ?_, ins_pair hs hlt hgt, m9⟩, by omega⟩
        · rw [List.length_append, List.length_cons, List.length_take, List.length_drop]
          show 0 + k + 1 + (X.length - k) = _
          omega
        · rw [htk, List.filter_append]
          have h5 : ([x].filter Tn.on) = [x] := by simp [ho]
          rw [h5]
          have h6 : (X.take k ++ x :: X.drop k).Perm (x :: X) := by
            have := (List.perm_middle (a := x) (l₁ := X.take k) (l₂ := X.drop k))
            rwa [List.take_append_drop] at this
          exact h6.trans ((List.perm_append_singleton x X).symm.trans (hp.append_right _))
      refine dcase_intro (fun q2 => ?_) fun q2 => ins_c oX mX rfl hk hX (fun a3 c3 E3 h9 m9 o9 => fin (fun j y hj => by omega) a3 c3 E3 h9 m9 o9)
      have hy : X[k - 1]? = some X[k - 1] := List.getElem?_eq_getElem (by omega)
      generalize X[k - 1] = y at hy
      have ek : ((k : Int) - 1).toNat = k - 1 := by omega
      obtain ⟨lb, lo, rfl, hc2⟩ := src_cell (oX.src mX 0 rfl) (tAll_get (o := 2) hy rfl)
      obtain ⟨_, _, e, hc0⟩ := src_cell (oX.src mX 0 rfl) (tAll_get (o := 0) hy rfl)
      cases e
      rw [ek]
      have nx : ∀ (hxy : tlt x y), fits .i64 ((k : Int) - 1) ∧ (∃ k' : Nat, (k : Int) - 1 = k' ∧ k' ≤ X.length ∧ (∀ (j : Nat) (y : Tn), k' ≤ j → X[j]? = some y → tlt x y) ∧ h3 = h3) ∧ ((k : Int) - 1).toNat < (k : Int).toNat := fun hxy => by
        refine ⟨by simp only [fits]; omega, ⟨k - 1, by omega, by omega, fun j z hj hz => ?_, rfl⟩, by omega⟩
        by_cases e : j = k - 1
        · subst e; rw [hy] at hz; cases hz; exact hxy
        · exact hgt j z (by omega) hz
      have below : ∀ (hyx : tlt y x) (j : Nat) (z : Tn), j < k → X[j]? = some z → tlt z x := fun hyx j z hj hz => by
        by_cases e : j = k - 1
        · subst e; rw [hy] at hz; cases hz; exact hyx
        · have hj2 := (List.getElem?_eq_some_iff.1 hz).1
          have hk2 := (List.getElem?_eq_some_iff.1 hy).1
          have h7 := List.pairwise_iff_getElem.1 hs j (k - 1) hj2 hk2 (by omega)
          rw [(List.getElem?_eq_some_iff.1 hz).2, (List.getElem?_eq_some_iff.1 hy).2] at h7
          exact tlt_trans h7 hyx
      have c32 := m.cell (o := 2) 0 rfl rfl
      have c30 := m.cell (o := 0) 0 rfl rfl
      refine ⟨by simp only [fits]; omega, ⟨by omega, by omega⟩, _, by simpa [Nat.add_assoc] using hc2, _, c32, dcase_intro (fun q3 => nx (.inl q3)) fun q3 => ⟨by simp only [fits]; omega, ⟨by omega, by omega⟩, _, by simpa [Nat.add_assoc] using hc2, _, c32, dcase_intro (fun q4 => ⟨by simp only [fits]; omega, ⟨by omega, by omega⟩, _, by simpa [Nat.add_assoc] using hc0, _, c30, dcase_intro (fun q5 => nx (.inr ⟨q4.symm, q5⟩)) fun q5 => ?_⟩) fun q4 => ?_⟩⟩
      · have hya := hne y (List.mem_of_getElem? hy)
        exact ins_c oX mX rfl hk hX (fun a3 c3 E3 h9 m9 o9 => fin (below (.inr ⟨q4, by omega⟩)) a3 c3 E3 h9 m9 o9)
      · exact ins_c oX mX rfl hk hX (fun a3 c3 E3 h9 m9 o9 => fin (below (.inl (by omega))) a3 c3 E3 h9 m9 o9)
  · obtain rfl : i = D.length := by omega
    rw [List.take_length] at hp
    have od := od_of r hp hs
    refine ⟨fun oa ol oc z h' => ∃ (k : Nat) (E2 : Grp), z = k ∧ k ≤ X.length ∧ ol = ((X.map Tn.a).take k).length ∧ Ow oa ol oc 1 (ints .i64 ((X.map Tn.a).take k)) E2 ∧ Me W h' (E2 :: EX :: [(b, [.slice sa D.length c], T)] :: E :: R), fun _ _ _ z _ => ((X.length : Int) - z).toNat,
      ⟨0, [], rfl, by omega, rfl, Ow.nil, m.nilI⟩, fun _ => ?_⟩
    clear m
    rintro oa _ oc _ h20 ⟨k, E2, rfl, hk, rfl, o2, m⟩
    refine dcase_intro (fun q2 => ?_) fun q2 => ?_
    · have hy : X[k]? = some X[k] := List.getElem?_eq_getElem (by omega)
      obtain ⟨lb, lo, rfl, hc0⟩ := src_cell (oX.src m 1 rfl) (tAll_get (o := 0) hy rfl)
      rw [Nat.add_zero] at hc0
      have hkl : ((X.map Tn.a).take k).length = k := by simp; omega
      refine ⟨⟨by omega, by omega⟩, _, hc0, ?_⟩
      refine o2.app1 (us := [.int .i64 X[k].a]) (bytes := 8) m 0 rfl rfl (by simp [Value.oneCell']) (by omega) (by decide) ?_
      intro a' c' E' h9 m9 o9
      simp only [List.set_cons_zero] at m9
      have e1 : (X.map Tn.a).take (k + 1) = (X.map Tn.a).take k ++ [X[k].a] := by rw [List.take_add_one, List.getElem?_map, hy]; rfl
      refine ⟨by simp only [fits]; omega, ⟨k + 1, E', by omega, by omega, by rw [e1]; simp, ?_, m9⟩, by (try dsimp only); omega⟩
      rw [e1, ints_app]
      exact o9
    · obtain rfl : k = X.length := by omega
      have e1 : (X.map Tn.a).take X.length = X.map Tn.a := List.take_of_length_le (by simp)
      rw [e1] at o2 ⊢
      exact ⟨oa, oc, _, E2, rfl, o2, od, fl.2 (m.free 1 rfl)⟩
theorem ractive_c {on : Bool} (m : Me W h (L :: R)) (hv : SrV b S L) : Runs Tryd.prog 25 #[ptrB b, .int .i64 a, .bool on] h fun v h' =>
    ∃ L', v = .int .i64 (erC (activeS S a on).2) ∧ SrV b (activeS S a on).1 L' ∧ ∃ R', Me W h' (L' :: R') ∧ ∃ X, R' = X ++ R := by
  have hv0 := hv
  obtain ⟨D, sa, c, E, T, r, hn, o, rfl⟩ := hv
  have hl := r.len
  have m1 : Me W h ([(b, [.slice sa D.length c], T)] :: E :: R) := m.perm (by simp)
  unfold activeS
  refine vc_muezzinref15_Sched_Active _ _ _ _ _ ((rfindD_c r o m1 a).mono ?_)
  rintro _ _ ⟨rfl, ⟨hg, rfl⟩ | ⟨k, x, rfl, hx, rfl, hg⟩⟩
  · rw [hg]
    exact ⟨_, rfl, dcase_pos (by decide) ⟨_, rfl, hv0, R, m, [], rfl⟩⟩
  · rw [hg]
    have hkl := (List.getElem?_eq_some_iff.1 hx).1
    refine ⟨_, rfl, dcase_neg (by omega) ?_⟩
    dsimp only
    obtain ⟨ob, oo, rfl, hc3⟩ := src_cell (o.src m1 1 rfl) (tAll_get (o := 3) hx rfl)
    cases on with
    | false =>
      obtain ⟨_, _, e, w1, w2⟩ := SrV.put (Q := fun h1 => ∃ L', Value.int .i64 0 = .int .i64 (erC none) ∧ SrV b (S.set (kA x.a) (some ⟨x.w, x.t, false⟩)) L' ∧ ∃ R', Me W h1 (L' :: R') ∧ ∃ X, R' = X ++ R) (y := ⟨x.a, x.w, x.t, false⟩) r hn o m1 hx (p := 3) (v := .bool false) rfl rfl (by decide) fun h1 E' o' m' r' => by
        obtain ⟨L', hv', m''⟩ := SrV.shut r' (by rw [List.length_set]; exact hn) o' m'
        exact ⟨L', rfl, hv', R, m'', [], rfl⟩
      cases e
      rw [if_neg (by simp)]
      refine bcase_false rfl ⟨_, _, _, m1.cell 0 rfl rfl, ⟨by omega, by omega⟩, by simpa [Nat.add_assoc] using w1, fun h1 e1 => ?_⟩
      have e1' := w2 h1 (by simpa [Nat.add_assoc] using e1)
      cases ho : x.on with
      | true => rw [if_pos ⟨rfl, rfl⟩]; exact e1'
      | false =>
        rw [if_neg (by simp)]
        rw [ho] at hg
        rw [setS_same hg] at e1'
        exact e1'
    | true =>
      refine bcase_true rfl ⟨_, _, _, m1.cell 0 rfl rfl, ⟨by omega, by omega⟩, _, by simpa [Nat.add_assoc] using hc3, ?_⟩
      cases ho : x.on with
      | true =>
        obtain ⟨_, _, e, w1, w2⟩ := SrV.put (Q := fun h1 => ∃ L', Value.int .i64 0 = .int .i64 (erC none) ∧ SrV b (S.set (kA x.a) (some ⟨x.w, x.t, true⟩)) L' ∧ ∃ R', Me W h1 (L' :: R') ∧ ∃ X, R' = X ++ R) (y := ⟨x.a, x.w, x.t, true⟩) r hn o m1 hx (p := 3) (v := .bool true) rfl rfl (by decide) fun h1 E' o' m' r' => by
          obtain ⟨L', hv', m''⟩ := SrV.shut r' (by rw [List.length_set]; exact hn) o' m'
          exact ⟨L', rfl, hv', R, m'', [], rfl⟩
        cases e
        rw [if_neg (by simp), if_neg (by simp)]
        refine bcase_false rfl ⟨_, _, _, m1.cell 0 rfl rfl, ⟨by omega, by omega⟩, by simpa [Nat.add_assoc] using w1, fun h1 e1 => ?_⟩
        have e1' := w2 h1 (by simpa [Nat.add_assoc] using e1)
        rw [ho] at hg
        rw [setS_same hg] at e1'
        exact e1'
      | false =>
        rw [if_pos ⟨rfl, rfl⟩]
        refine bcase_true rfl ((rorder_c m hv0).mono ?_)
        rintro _ h2 ⟨oa, oc, ol, E2, rfl, ow, od, m2⟩
        have m2' : Me W h2 ([(b, [.slice (some ⟨ob, oo, none⟩) D.length c], T)] :: E :: E2 :: R) := m2.perm (by
          classical
          refine List.perm_iff_count.2 fun x => ?_
          simp only [List.flatten_cons, List.count_append]; omega)
        refine ⟨_, _, _, rfl, dcase_intro (fun q => ?_) fun q => ?_⟩
        · obtain ⟨a0, rest, rfl⟩ : ∃ a0 rest, ol = a0 :: rest := by
            cases ol with
            | nil => simp at q
            | cons a r => exact ⟨a, r, rfl⟩
          obtain ⟨s0, g0, on0, lst⟩ := od.least hn
          obtain ⟨xb, xo, rfl, hco⟩ := src_cell (k := 0) (ow.src1 m2 0 rfl) (ints_get (x := a0) rfl)
          rw [Nat.add_zero] at hco
          obtain ⟨_, _, e, hc2⟩ := src_cell (o.src m2' 1 rfl) (tAll_get (o := 2) hx rfl)
          cases e
          refine ⟨_, _, _, m2'.cell 0 rfl rfl, _, _, _, m2'.cell 0 rfl rfl, ⟨by omega, by omega⟩, _, by simpa [Nat.add_assoc] using hc2, _, _, _, m2'.cell 0 rfl rfl, ⟨by omega, by simp⟩, _, hco, (rfindD_c r o m2' a0).mono ?_⟩
          rintro _ _ ⟨rfl, ⟨hg0, rfl⟩ | ⟨k0, x0, rfl, hx0, rfl, hg0⟩⟩
          · rw [g0] at hg0; cases hg0
          rw [g0] at hg0; cases hg0
          have hk0 := (List.getElem?_eq_some_iff.1 hx0).1
          obtain ⟨_, _, e, hc20⟩ := src_cell (o.src m2' 1 rfl) (tAll_get (o := 2) hx0 rfl)
          cases e
          have hct : comesT S x.t = max x.t x0.t := by unfold comesT; rw [lst]
          rw [hct]
          obtain ⟨_, _, e, w1, w2⟩ := SrV.put (Q := fun h1 => ∃ (s6 : Option Addr) (s6l s6c : Nat), cell h1 b 0 = some (.slice s6 s6l s6c) ∧ (0 ≤ (k : Int) ∧ (k : Int) < ((s6l : Nat) : Int)) ∧ onAddr s6 fun b6 o6 => wr h1 b6 ((o6 + ((k : Int).toNat * 4)) + 3) ∧ ∀ h5 : Heap, h5 = setc h1 b6 ((o6 + ((k : Int).toNat * 4)) + 3) (.bool true) →
              ∃ L', Value.int .i64 0 = .int .i64 (erC none) ∧ SrV b (S.set (kA x.a) (some ⟨x.w, max x.t x0.t, true⟩)) L' ∧ ∃ R', Me W h5 (L' :: R') ∧ ∃ X, R' = X ++ R) (y := ⟨x.a, x.w, max x.t x0.t, x.on⟩) r hn o m2' hx (p := 2) (v := .int .i64 (max x.t x0.t)) rfl rfl (by decide) fun h4 E' o' m' r' => by
            have hkl' : k < (D.set k ⟨x.a, x.w, max x.t x0.t, x.on⟩).length := by rw [List.length_set]; exact hkl
            have hx' : (D.set k ⟨x.a, x.w, max x.t x0.t, x.on⟩)[k]? = some ⟨x.a, x.w, max x.t x0.t, x.on⟩ := List.getElem?_set_self hkl
            obtain ⟨b6, o6, e6, w3, w4⟩ := SrV.put (Q := fun h5 => ∃ L', Value.int .i64 0 = .int .i64 (erC none) ∧ SrV b (S.set (kA x.a) (some ⟨x.w, max x.t x0.t, true⟩)) L' ∧ ∃ R', Me W h5 (L' :: R') ∧ ∃ X, R' = X ++ R) (y := ⟨x.a, x.w, max x.t x0.t, true⟩) r' (by rw [List.length_set]; exact hn) o' m' hx' (p := 3) (v := .bool true) rfl rfl (by decide) fun h5 E5 o5 m5 r5 => by
              rw [List.set_set] at r5
              obtain ⟨L', hv', m''⟩ := SrV.shut r5 (by rw [List.length_set]; exact hn) o5 m5
              exact ⟨L', rfl, hv', _, m'', [E2], rfl⟩
            cases e6
            exact ⟨_, _, _, m'.cell 0 rfl rfl, ⟨by omega, by omega⟩, by simpa [Nat.add_assoc] using w3, fun h5 e5 => w4 h5 (by simpa [Nat.add_assoc] using e5)⟩
          cases e
          refine ⟨_, rfl, m2'.cell 0 rfl rfl, by simpa [Nat.add_assoc] using hc2, m2'.cell 0 rfl rfl, m2'.cell 0 rfl rfl, ⟨by omega, by omega⟩, _, by simpa [Nat.add_assoc] using hc20, ⟨by omega, by omega⟩, by simpa [Nat.add_assoc] using w1, fun h4 e4 => w2 h4 (by simpa [Nat.add_assoc] using e4)⟩
        · have hol : ol = [] := List.eq_nil_of_length_eq_zero (by omega)
          subst hol
          have hct : comesT S x.t = x.t := by unfold comesT; rw [od.none hn]
          rw [hct]
          obtain ⟨_, _, e, w1, w2⟩ := SrV.put (Q := fun h1 => ∃ L', Value.int .i64 0 = .int .i64 (erC none) ∧ SrV b (S.set (kA x.a) (some ⟨x.w, x.t, true⟩)) L' ∧ ∃ R', Me W h1 (L' :: R') ∧ ∃ X, R' = X ++ R) (y := ⟨x.a, x.w, x.t, true⟩) r hn o m2' hx (p := 3) (v := .bool true) rfl rfl (by decide) fun h1 E' o' m' r' => by
            obtain ⟨L', hv', m''⟩ := SrV.shut r' (by rw [List.length_set]; exact hn) o' m'
            exact ⟨L', rfl, hv', _, m'', [E2], rfl⟩
          cases e
          exact ⟨_, _, _, m2'.cell 0 rfl rfl, ⟨by omega, by omega⟩, by simpa [Nat.add_assoc] using w1, fun h1 e1 => w2 h1 (by simpa [Nat.add_assoc] using e1)⟩
end
end Go.Proofs.YthnmgpmgfhilhaaDoor
