/- The methods of sched.turns, and container/heap over it: contracts. -/
import Derived.Test.YthnmgpmgfhilhaaDoorGenTurn
import Derived.Test.YthnmgpmgfhilhaaDoorTurnPlain
import Derived.Test.YthnmgpmgfhilhaaDoorOwn
set_option linter.unusedVariables false
set_option linter.unusedSimpArgs false
set_option maxRecDepth 8000
namespace Go.Proofs.YthnmgpmgfhilhaaDoor
open Go.Vc
def eCells (e : En) (p : Int) : List Value := [.int .i64 e.aid, .int .i64 e.w, .int .i64 e.t, .bool e.on, .int .i64 p]
def eBlk (e : En) (p : Int) : Grp := [(e.b, eCells e p, e.T)]
def blks : List En → Nat → List Grp
  | [], _ => []
  | e :: r, k => eBlk e k :: blks r (k + 1)
def ptrB (b : Nat) : Value := .pointer (some ⟨b, 0, none⟩)
def eptrs (l : List En) : List Value := l.map fun e => ptrB e.b
def TuV (bt : Nat) (l : List En) (L : Grp) : Prop := ∃ a c E T, Ow a l.length c 1 (eptrs l) E ∧ L = [(bt, [.slice a l.length c], T)] ++ (E ++ (blks l 0).flatten)
section
variable {W : Wd} {h h' : Heap} {R : List Grp} {bt n i j k : Nat} {l l' : List En} {e : En} {L : Grp} {T : TypeId} {a : Option Addr} {c : Nat} {E : Grp}
theorem blks_get : ∀ {l : List En} {n k : Nat}, k < l.length → (blks l n)[k]? = some (eBlk (gt l k) ((n + k : Nat) : Int))
  | e :: r, n, 0, _ => rfl
  | e :: r, n, k + 1, h => by
    have := blks_get (l := r) (n := n + 1) (k := k) (by simpa using h)
    simp only [blks, List.getElem?_cons_succ]
    rw [this, show n + 1 + k = n + (k + 1) by omega]
    rfl
theorem blks_set : ∀ {l : List En} {n k : Nat}, (blks l n).set k (eBlk e ((n + k : Nat) : Int)) = blks (l.set k e) n
  | [], n, k => rfl
  | x :: r, n, 0 => rfl
  | x :: r, n, k + 1 => by
    have := blks_set (l := r) (n := n + 1) (k := k)
    simp only [blks, List.set_cons_succ]
    rw [← this, show n + 1 + k = n + (k + 1) by omega]
theorem blks_app : ∀ {l : List En} {n : Nat}, blks (l ++ [e]) n = blks l n ++ [eBlk e ((n + l.length : Nat) : Int)]
  | [], n => rfl
  | x :: r, n => by
    simp only [blks, List.cons_append, List.length_cons]
    rw [blks_app, show n + 1 + r.length = n + (r.length + 1) by omega]
theorem eptrs_get (h : k < l.length) : (eptrs l)[k]? = some (ptrB (gt l k).b) := by simp [eptrs, get_gt h]
theorem eptrs_len : (eptrs l).length = l.length := by simp [eptrs]
theorem eptrs_one : ∀ u ∈ eptrs l, u.oneCell' = true := by
  intro u hu; simp only [eptrs, List.mem_map] at hu; obtain ⟨x, _, rfl⟩ := hu; rfl
theorem flat_swap {α : Type} {Es : List (List α)} {i k : Nat} {A B C D : List α} (hne : i ≠ k) (hi : Es[i]? = some C) (hk : Es[k]? = some D) : ((Es.set k A).set i B).flatten.Perm ((Es.set i A).set k B).flatten := by
  have P : ∀ {Es : List (List α)} {i : Nat} {A C : List α}, Es[i]? = some C → ((Es.set i A).flatten ++ C).Perm (Es.flatten ++ A) := by
    intro Es
    induction Es with
    | nil => intro i A C h; simp at h
    | cons x r ih =>
      intro i A C h
      cases i with
      | zero =>
        simp only [List.getElem?_cons_zero, Option.some.injEq] at h
        subst h
        simp only [List.set_cons_zero, List.flatten_cons]
        refine (List.perm_append_comm).trans ?_
        rw [List.append_assoc]
        exact (List.perm_append_comm (l₁ := A)).append_left x
      | succ i =>
        simp only [List.set_cons_succ, List.flatten_cons, List.append_assoc]
        exact (ih (by simpa using h)).append_left x
  classical
  have h1 := P (A := B) (show (Es.set k A)[i]? = some C by rw [List.getElem?_set_ne (Ne.symm hne)]; exact hi)
  have h2 := P (A := A) hk
  have h3 := P (A := B) (show (Es.set i A)[k]? = some D by rw [List.getElem?_set_ne hne]; exact hk)
  have h4 := P (A := A) hi
  refine List.perm_iff_count.2 fun x => ?_
  have c1 := h1.count_eq x
  have c2 := h2.count_eq x
  have c3 := h3.count_eq x
  have c4 := h4.count_eq x
  simp only [List.count_append] at c1 c2 c3 c4
  omega
theorem TuV.opn (hv : TuV bt l L) (m : Me W h (L :: R)) : ∃ a c E T, Ow a l.length c 1 (eptrs l) E ∧ Me W h ([(bt, [.slice a l.length c], T)] :: E :: (blks l 0).flatten :: R) := by
  obtain ⟨a, c, E, T, o, rfl⟩ := hv
  refine ⟨a, c, E, T, o, m.perm ?_⟩
  simp
theorem TuV.shut (o : Ow a l.length c 1 (eptrs l) E) (m : Me W h ([(bt, [.slice a l.length c], T)] :: E :: (blks l 0).flatten :: R)) : ∃ L, TuV bt l L ∧ Me W h (L :: R) :=
  ⟨_, ⟨a, c, E, T, o, rfl⟩, m.perm (by simp)⟩
theorem nat_fit {n : Nat} (h : n ≤ 1000000) : fits .i64 (n : Int) := by simp only [fits]; omega
theorem toN (n : Nat) : ((n : Nat) : Int).toNat = n := rfl
theorem len_c (m : Me W h (L :: R)) (hv : TuV bt l L) : Runs Tryd.prog 32 #[ptrB bt] h fun v h' => v = .int .i64 (l.length : Int) ∧ h' = h := by
  obtain ⟨a, c, E, T, o, m⟩ := hv.opn m
  exact vc_sched_turns_Len _ _ _ ⟨_, _, _, m.cell 0 rfl rfl, rfl, rfl⟩
theorem less_c (m : Me W h (L :: R)) (hv : TuV bt l L) (hi : i < l.length) (hk : k < l.length) : Runs Tryd.prog 65 #[ptrB bt, .int .i64 (i : Int), .int .i64 (k : Int)] h fun v h' =>
    v = .bool (decide ((gt l i).lt (gt l k))) ∧ h' = h := by
  obtain ⟨a, c, E, T, o, m⟩ := hv.opn m
  have hs := o.src1 m 1 rfl
  obtain ⟨ab, ao, rfl, hci⟩ := src_cell hs (eptrs_get hi)
  obtain ⟨_, _, q, hck⟩ := src_cell hs (eptrs_get hk)
  cases q
  have mi := (m.focus 2 rfl).pick i (blks_get hi)
  have mk := (m.focus 2 rfl).pick k (blks_get hk)
  refine vc_sched_turns_Less _ _ _ _ _ ⟨_, _, _, m.cell 0 rfl rfl, ⟨by omega, by omega⟩, _, hci, _, _, _, m.cell 0 rfl rfl, ⟨by omega, by omega⟩, _, hck, _, mi.cell 0 rfl rfl, _, mk.cell 0 rfl rfl, dcase_intro (fun q => ⟨?_, rfl⟩) fun q =>
    ⟨_, mi.cell 0 rfl rfl, _, mk.cell 0 rfl rfl, dcase_intro (fun q2 => ⟨_, mi.cell 0 rfl rfl, _, mk.cell 0 rfl rfl, ?_, rfl⟩) fun q2 => ⟨?_, rfl⟩⟩⟩
  · rw [decide_eq_true (show (gt l i).lt (gt l k) from .inl q)]
  · have : (gt l i).lt (gt l k) ↔ (gt l i).aid < (gt l k).aid := by simp only [En.lt]; omega
    simp only [this]
  · rw [decide_eq_false (show ¬ (gt l i).lt (gt l k) by simp only [En.lt]; omega)]
theorem swap_c (m : Me W h (L :: R)) (hv : TuV bt l L) (hi : i < l.length) (hk : k < l.length) (hne : i ≠ k) : Runs Tryd.prog 68 #[ptrB bt, .int .i64 (i : Int), .int .i64 (k : Int)] h fun v h' =>
    ∃ L', TuV bt (swp l i k) L' ∧ Me W h' (L' :: R) := by
  obtain ⟨a, c, E, T, o, m⟩ := hv.opn m
  have hs := o.src1 m 1 rfl
  obtain ⟨ab, ao, rfl, hci⟩ := src_cell hs (eptrs_get hi)
  obtain ⟨_, _, q, hck⟩ := src_cell hs (eptrs_get hk)
  cases q
  obtain ⟨_, _, q, hw1, ho1⟩ := o.set1 (v := ptrB (gt l k).b) m 1 rfl (by rw [eptrs_len]; exact hi)
  cases q
  refine vc_sched_turns_Swap _ _ _ _ _ ⟨_, _, _, m.cell 0 rfl rfl, _, _, _, m.cell 0 rfl rfl, _, _, _, m.cell 0 rfl rfl, ⟨by omega, by omega⟩, _, hck, _, _, _, m.cell 0 rfl rfl, ⟨by omega, by omega⟩, _, hci, ⟨by omega, by omega⟩, hw1, ?_⟩
  intro h1 e1
  obtain ⟨E1, m1, o1⟩ := ho1 _ e1
  simp only [List.set_cons_succ, List.set_cons_zero] at m1
  clear hw1 ho1 e1 hci hck hs m o
  obtain ⟨_, _, q, hw2, ho2⟩ := o1.set1 (v := ptrB (gt l i).b) m1 1 rfl (by rw [List.length_set, eptrs_len]; exact hk)
  cases q
  refine ⟨⟨by omega, by omega⟩, hw2, ?_⟩
  intro h2 e2
  obtain ⟨E2, m2, o2⟩ := ho2 _ e2
  simp only [List.set_cons_succ, List.set_cons_zero] at m2
  clear hw2 ho2 e2 m1 o1
  have ov : ((eptrs l).set i (ptrB (gt l k).b)).set k (ptrB (gt l i).b) = eptrs (swp l i k) := by simp [eptrs, swp, List.map_set]
  rw [ov, ← swp_len (l := l) (i := i) (k := k)] at o2
  rw [← swp_len (l := l) (i := i) (k := k)] at m2
  have hi' : i < (swp l i k).length := by rw [swp_len]; exact hi
  have hk' : k < (swp l i k).length := by rw [swp_len]; exact hk
  have hs := o2.src1 m2 1 rfl
  obtain ⟨_, _, q, hci⟩ := src_cell hs (eptrs_get hi')
  cases q
  obtain ⟨_, _, q, hck⟩ := src_cell hs (eptrs_get hk')
  cases q
  rw [swp_l hi hk] at hci
  rw [swp_r hi hk] at hck
  refine ⟨_, _, _, m2.cell 0 rfl rfl, ⟨by omega, by omega⟩, _, hci, _, _, _, m2.cell 0 rfl rfl, ⟨by omega, by omega⟩, _, hck, ?_⟩
  clear hs hci hck
  have mk := (m2.focus 2 rfl).pick k (blks_get hk)
  refine mk.store 0 rfl (by simp [eCells]) fun h3 m3 => ?_
  have hbi : ((blks l 0).set k (eBlk (gt l k) i))[i]? = some (eBlk (gt l i) ((0 + i : Nat) : Int)) := by rw [List.getElem?_set_ne (Ne.symm hne)]; exact blks_get hi
  have m4 := Me.unpick (Es := blks l 0) (E := eBlk (gt l k) i) k (blks_get hk) m3
  clear m3 mk m2
  have mi := m4.pick i hbi
  refine mi.store 0 rfl (by simp [eCells]) fun h4 m5 => ?_
  have m6 := Me.unpick (Es := (blks l 0).set k (eBlk (gt l k) i)) (E := eBlk (gt l i) k) i hbi m5
  clear m5 mi m4
  have hfl := flat_swap (A := eBlk (gt l k) i) (B := eBlk (gt l i) k) hne (blks_get (n := 0) hi) (blks_get (n := 0) hk)
  have e1 : ((blks l 0).set i (eBlk (gt l k) i)).set k (eBlk (gt l i) k) = blks (swp l i k) 0 := by
    have q1 := blks_set (e := gt l k) (l := l) (n := 0) (k := i)
    have q2 := blks_set (e := gt l i) (l := l.set i (gt l k)) (n := 0) (k := k)
    rw [Nat.zero_add] at q1 q2
    rw [q1, q2]; rfl
  rw [e1] at hfl
  refine TuV.shut (T := T) o2 (m6.perm ?_)
  simp only [List.eraseIdx_cons_succ, List.eraseIdx_cons_zero, List.flatten_cons]
  refine (hfl.append_right _).trans ?_
  have pm : ∀ (A B C D : Grp), (A ++ (B ++ (C ++ D))).Perm (B ++ (C ++ (A ++ D))) := fun A B C D => by
    classical
    refine List.perm_iff_count.2 fun x => ?_
    simp only [List.count_append]; omega
  exact pm _ _ _ _
end
end Go.Proofs.YthnmgpmgfhilhaaDoor
