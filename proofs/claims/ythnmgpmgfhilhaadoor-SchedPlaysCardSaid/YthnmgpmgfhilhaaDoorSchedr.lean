/- The document's turns (muezzinref15.Sched) over the same model. -/
import Derived.Test.YthnmgpmgfhilhaaDoorSchedPlain2
import Derived.Test.YthnmgpmgfhilhaaDoorSchedFirst
import Derived.Test.YthnmgpmgfhilhaaDoorGenSchedr
set_option linter.unusedVariables false
set_option linter.unusedSimpArgs false
set_option maxRecDepth 8000
namespace Go.Vc
/-- A turn of the document: number, weight, time, active. -/
structure Tn where
  a : Int
  w : Int
  t : Int
  on : Bool
structure RelS (S : Sts) (D : List Tn) : Prop where
  nd : (D.map Tn.a).Nodup
  get : ∀ (a : Int) (s : St), getS S a = some s ↔ ∃ k : Nat, D[k]? = some (⟨a, s.w, s.t, s.on⟩ : Tn)
section
variable {S : Sts} {D : List Tn} {a : Int} {k j : Nat} {x y : Tn} {s : St}
theorem RelS.uniq (r : RelS S D) (h1 : D[k]? = some x) (h2 : D[j]? = some y) (e : x.a = y.a) : k = j := by
  obtain ⟨l1, e1⟩ := List.getElem?_eq_some_iff.1 h1
  obtain ⟨l2, e2⟩ := List.getElem?_eq_some_iff.1 h2
  have hp := List.pairwise_iff_getElem.1 r.nd
  rcases Nat.lt_trichotomy k j with h | h | h
  · exact (hp k j (by simpa using l1) (by simpa using l2) h (by rw [List.getElem_map, List.getElem_map, e1, e2, e])).elim
  · exact h
  · exact (hp j k (by simpa using l2) (by simpa using l1) h (by rw [List.getElem_map, List.getElem_map, e1, e2, e])).elim
theorem RelS.at_ (r : RelS S D) (h : D[k]? = some x) : getS S x.a = some ⟨x.w, x.t, x.on⟩ := (r.get _ _).2 ⟨k, h⟩
theorem nodup_len : ∀ (N : Nat) (l : List Int), l.Nodup → (∀ x ∈ l, 0 ≤ x ∧ x < N) → l.length ≤ N
  | 0, l, _, h => by
    cases l with
    | nil => simp
    | cons x r => have := h x (by simp); omega
  | N + 1, l, hn, h => by
    by_cases hm : (N : Int) ∈ l
    · have h1 := nodup_len N (l.erase N) (hn.erase _) (fun x hx => by
        have hx' := (List.Nodup.mem_erase_iff hn).1 hx
        have h2 := h x hx'.2
        have h3 : x ≠ N := hx'.1
        omega)
      rw [List.length_erase_of_mem hm] at h1; omega
    · have h1 := nodup_len N l hn (fun x hx => by
        have h2 := h x hx
        have h3 : x ≠ N := fun e => hm (e ▸ hx)
        omega)
      omega
theorem RelS.len (r : RelS S D) : D.length ≤ 16 := by
  have := nodup_len 16 (D.map fun x => x.a - 1) (List.pairwise_map.2 ((List.pairwise_map.1 r.nd).imp fun h => by omega)) fun y hy => by
    obtain ⟨x, hx, rfl⟩ := List.mem_map.1 hy
    obtain ⟨k, hk⟩ := List.getElem?_of_mem hx
    have := getS_there (r.at_ hk)
    omega
  simpa using this
theorem RelS.set (r : RelS S D) (hn : S.length = 16) (h : D[k]? = some x) {w t : Int} {on : Bool} : RelS (S.set (kA x.a) (some ⟨w, t, on⟩)) (D.set k ⟨x.a, w, t, on⟩) := by
  have hl := (List.getElem?_eq_some_iff.1 h).1
  obtain ⟨a0, a1⟩ := getS_there (r.at_ h)
  refine ⟨?_, fun a s => ?_⟩
  · have : (D.set k ⟨x.a, w, t, on⟩).map Tn.a = D.map Tn.a := by
      rw [List.map_set]
      have h1 : (D.map Tn.a)[k]? = some x.a := by simp [h]
      obtain ⟨h2, h3⟩ := List.getElem?_eq_some_iff.1 h1
      rw [← h3, List.set_getElem_self]
    rw [this]; exact r.nd
  · rw [getS_set hn a0 a1]
    by_cases e : a = x.a
    · subst e
      rw [if_pos rfl]
      constructor
      · intro q; cases q
        exact ⟨k, List.getElem?_set_self hl⟩
      · rintro ⟨j, hj⟩
        by_cases e2 : j = k
        · subst e2; rw [List.getElem?_set_self hl] at hj; cases hj; rfl
        · rw [List.getElem?_set_ne (Ne.symm e2)] at hj
          exact absurd (r.uniq hj h rfl) e2
    · rw [if_neg e, r.get]
      constructor
      · rintro ⟨j, hj⟩
        refine ⟨j, ?_⟩
        rw [List.getElem?_set_ne (fun c => by subst c; rw [h] at hj; cases hj; exact e rfl)]
        exact hj
      · rintro ⟨j, hj⟩
        by_cases e2 : j = k
        · subst e2; rw [List.getElem?_set_self hl] at hj; cases hj; exact absurd rfl e
        · rw [List.getElem?_set_ne (Ne.symm e2)] at hj; exact ⟨j, hj⟩
theorem RelS.add (r : RelS S D) (hn : S.length = 16) (a0 : 1 ≤ a) (a1 : a ≤ 16) (hg : getS S a = none) {w : Int} : RelS (S.set (kA a) (some ⟨w, 0, false⟩)) (D ++ [⟨a, w, 0, false⟩]) := by
  have hno : ∀ x ∈ D, x.a ≠ a := fun x hx e => by
    obtain ⟨k, hk⟩ := List.getElem?_of_mem hx
    have := r.at_ hk
    rw [e, hg] at this; cases this
  refine ⟨?_, fun b s => ?_⟩
  · rw [List.map_append]
    refine List.nodup_append.2 ⟨r.nd, by simp, fun c hc d hd => ?_⟩
    obtain ⟨x, hx, rfl⟩ := List.mem_map.1 hc
    simp at hd; subst hd
    exact hno x hx
  · rw [getS_set hn a0 a1]
    by_cases e : b = a
    · subst e
      rw [if_pos rfl]
      constructor
      · intro q; cases q
        exact ⟨D.length, by simp⟩
      · rintro ⟨j, hj⟩
        have hm := List.mem_of_getElem? hj
        rcases List.mem_append.1 hm with h | h
        · exact absurd rfl (hno _ h)
        · simp at h
          obtain ⟨h1, h2, h3⟩ := h
          cases s; simp at h1 h2 h3; rw [h1, h2, h3]
    · rw [if_neg e, r.get]
      constructor
      · rintro ⟨j, hj⟩
        exact ⟨j, by rw [List.getElem?_append_left (List.getElem?_eq_some_iff.1 hj).1]; exact hj⟩
      · rintro ⟨j, hj⟩
        have hm := List.mem_of_getElem? hj
        rcases List.mem_append.1 hm with h | h
        · exact List.getElem?_of_mem h
        · simp at h; exact absurd h.1 e
theorem RelS.del (r : RelS S D) (hn : S.length = 16) (h : D[k]? = some x) : RelS (S.set (kA x.a) none) (D.eraseIdx k) := by
  have hl := (List.getElem?_eq_some_iff.1 h).1
  obtain ⟨a0, a1⟩ := getS_there (r.at_ h)
  refine ⟨(List.Sublist.map Tn.a (List.eraseIdx_sublist D k)).nodup r.nd, fun b s => ?_⟩
  rw [getS_set hn a0 a1]
  by_cases e : b = x.a
  · subst e
    rw [if_pos rfl]
    constructor
    · intro q; cases q
    · rintro ⟨j, hj⟩
      rw [List.getElem?_eraseIdx] at hj
      split at hj
      · rename_i q; have := r.uniq hj h rfl; omega
      · rename_i q; have := r.uniq hj h rfl; omega
  · rw [if_neg e, r.get]
    constructor
    · rintro ⟨j, hj⟩
      have hjk : j ≠ k := fun c => by subst c; rw [h] at hj; cases hj; exact e rfl
      by_cases q : j < k
      · exact ⟨j, by rw [List.getElem?_eraseIdx, if_pos q]; exact hj⟩
      · exact ⟨j - 1, by rw [List.getElem?_eraseIdx, if_neg (by omega), show j - 1 + 1 = j by omega]; exact hj⟩
    · rintro ⟨j, hj⟩
      rw [List.getElem?_eraseIdx] at hj
      split at hj
      · exact ⟨j, hj⟩
      · exact ⟨j + 1, hj⟩
theorem rel0 : RelS sts0 [] := ⟨List.nodup_nil, fun a s => by
  constructor
  · intro h
    have := (getS_some.1 h).2
    unfold sts0 at this
    rw [List.getElem?_replicate] at this
    split at this <;> cases this
  · rintro ⟨k, hk⟩; simp at hk⟩
end
end Go.Vc
namespace Go.Proofs.YthnmgpmgfhilhaaDoor
open Go.Vc
def tCells (x : Tn) : List Value := [.int .i64 x.a, .int .i64 x.w, .int .i64 x.t, .bool x.on]
def tAll (D : List Tn) : List Value := (D.map tCells).flatten
def SrV (b : Nat) (S : Sts) (L : Grp) : Prop := ∃ (D : List Tn) (a : Option Addr) (c : Nat) (E : Grp) (T : TypeId), RelS S D ∧ S.length = 16 ∧ Ow a D.length c 4 (tAll D) E ∧ L = [(b, [.slice a D.length c], T)] ++ E
section
variable {W : Wd} {h h' : Heap} {R : List Grp} {G : List Grp} {b n i j k : Nat} {L : Grp} {S : Sts} {D : List Tn} {a w air : Int} {x y : Tn} {s : St}
theorem tAll_len : ∀ {D : List Tn}, (tAll D).length = D.length * 4
  | [] => rfl
  | x :: r => by
    have : tAll (x :: r) = tCells x ++ tAll r := rfl
    rw [this, List.length_append, tAll_len, List.length_cons]; simp [tCells]; omega
theorem tAll_app {D E : List Tn} : tAll (D ++ E) = tAll D ++ tAll E := by simp [tAll]
theorem tAll_get : ∀ {D : List Tn} {k o : Nat} {x : Tn} {v : Value}, D[k]? = some x → (tCells x)[o]? = some v → (tAll D)[k * 4 + o]? = some v
  | [], k, o, x, v, h, _ => by simp at h
  | y :: r, 0, o, x, v, h, hv => by
    simp at h; subst h
    have : tAll (y :: r) = tCells y ++ tAll r := rfl
    have hl := (List.getElem?_eq_some_iff.1 hv).1
    rw [this, Nat.zero_mul, Nat.zero_add, List.getElem?_append_left hl]; exact hv
  | y :: r, k + 1, o, x, v, h, hv => by
    have : tAll (y :: r) = tCells y ++ tAll r := rfl
    have hl : (tCells y).length = 4 := rfl
    rw [this, List.getElem?_append_right (by omega), hl, show (k + 1) * 4 + o - 4 = k * 4 + o by omega]
    exact tAll_get (by simpa using h) hv
theorem tAll_set : ∀ {D : List Tn} {k o : Nat} {x y : Tn} {v : Value}, D[k]? = some x → (tCells x).set o v = tCells y → o < 4 → (tAll D).set (k * 4 + o) v = tAll (D.set k y)
  | [], k, o, x, y, v, h, _, _ => by simp at h
  | z :: r, 0, o, x, y, v, h, hv, ho => by
    simp at h; subst h
    have e1 : tAll (z :: r) = tCells z ++ tAll r := rfl
    have e2 : tAll ((z :: r).set 0 y) = tCells y ++ tAll r := rfl
    have hl : (tCells z).length = 4 := rfl
    rw [e1, e2, Nat.zero_mul, Nat.zero_add, List.set_append_left _ _ (by omega), hv]
  | z :: r, k + 1, o, x, y, v, h, hv, ho => by
    have e1 : tAll (z :: r) = tCells z ++ tAll r := rfl
    have e2 : tAll ((z :: r).set (k + 1) y) = tCells z ++ tAll (r.set k y) := rfl
    have hl : (tCells z).length = 4 := rfl
    rw [e1, e2, List.set_append_right _ _ (by omega), hl, show (k + 1) * 4 + o - 4 = k * 4 + o by omega, tAll_set (by simpa using h) hv ho]
theorem tAll_row : ∀ {D : List Tn} {k : Nat} {x : Tn}, D[k]? = some x → ((tAll D).drop (k * 4)).take 4 = tCells x
  | [], k, x, h => by simp at h
  | y :: r, 0, x, h => by
    simp at h; subst h
    rfl
  | y :: r, k + 1, x, h => by
    have : tAll (y :: r) = tCells y ++ tAll r := rfl
    have hl : (tCells y).length = 4 := rfl
    rw [this, show (k + 1) * 4 = (tCells y).length + k * 4 by omega, List.drop_append, List.drop_eq_nil_of_le (by omega), List.nil_append, Nat.add_sub_cancel_left]
    exact tAll_row (by simpa using h)
theorem tAll_take {D : List Tn} {k : Nat} (hk : k ≤ D.length) : (tAll D).take (k * 4) = tAll (D.take k) := by
  have e : tAll D = tAll (D.take k) ++ tAll (D.drop k) := by rw [← tAll_app, List.take_append_drop]
  have hl : (tAll (D.take k)).length = k * 4 := by rw [tAll_len, List.length_take, Nat.min_eq_left hk]
  rw [e, ← hl, List.take_left]
theorem tAll_drop {D : List Tn} {k : Nat} (hk : k ≤ D.length) : (tAll D).drop (k * 4) = tAll (D.drop k) := by
  have e : tAll D = tAll (D.take k) ++ tAll (D.drop k) := by rw [← tAll_app, List.take_append_drop]
  have hl : (tAll (D.take k)).length = k * 4 := by rw [tAll_len, List.length_take, Nat.min_eq_left hk]
  rw [e, ← hl, List.drop_left]
theorem tAll_one : ∀ u ∈ tAll D, u.oneCell' = true := by
  intro u hu
  obtain ⟨l, hl, hu⟩ := List.mem_flatten.1 hu
  obtain ⟨x, _, rfl⟩ := List.mem_map.1 hl
  simp [tCells] at hu
  rcases hu with rfl | rfl | rfl | rfl <;> rfl
theorem SrV.opn (hv : SrV b S L) (m : Me W h (L :: R)) : ∃ D a c E T, RelS S D ∧ S.length = 16 ∧ Ow a D.length c 4 (tAll D) E ∧ Me W h ([(b, [.slice a D.length c], T)] :: E :: R) := by
  obtain ⟨D, a, c, E, T, h1, h2, h3, rfl⟩ := hv
  exact ⟨D, a, c, E, T, h1, h2, h3, m.perm (by simp)⟩
theorem SrV.shut {a : Option Addr} {c : Nat} {E : Grp} {T : TypeId} (r : RelS S D) (hn : S.length = 16) (o : Ow a D.length c 4 (tAll D) E) (m : Me W h ([(b, [.slice a D.length c], T)] :: E :: R)) : ∃ L, SrV b S L ∧ Me W h (L :: R) :=
  ⟨_, ⟨D, a, c, E, T, r, hn, o, rfl⟩, m.perm (by simp)⟩
theorem raid_c (a : Int) : Runs Tryd.prog 38 #[.int .i64 a] h fun v h' => v = .bool (thereA a) ∧ h' = h := by
  refine vc_muezzinref15_aid _ _ _ (dcase_intro (fun q => ⟨?_, rfl⟩) fun q => ⟨?_, rfl⟩)
  · unfold thereA; simp [q]
  · unfold thereA; simp [q]
theorem rweight_c (a : Int) : Runs Tryd.prog 39 #[.int .i64 a] h fun v h' => v = .bool (fairW a) ∧ h' = h := by
  refine vc_muezzinref15_weight _ _ _ (dcase_intro (fun q => ⟨?_, rfl⟩) fun q => ⟨?_, rfl⟩)
  · unfold fairW; simp [q]
  · unfold fairW; simp [q]
/-- Where a number's turn stands: none of the list before n has it. -/
theorem rfindD_c {sa : Option Addr} {c : Nat} {E : Grp} {T : TypeId} (r : RelS S D) (o : Ow sa D.length c 4 (tAll D) E) (m : Me W h ([(b, [.slice sa D.length c], T)] :: E :: R)) (a : Int) : Runs Tryd.prog 28 #[ptrB b, .int .i64 a] h fun v h' => h' = h ∧
    ((getS S a = none ∧ v = .int .i64 (-1)) ∨ ∃ (k : Nat) (x : Tn), v = .int .i64 (k : Int) ∧ D[k]? = some x ∧ x.a = a ∧ getS S a = some ⟨x.w, x.t, x.on⟩) := by
  have hl := r.len
  refine vc_muezzinref15_Sched_Find _ _ _ _ ⟨fun x h' => ∃ i : Nat, x = i ∧ i ≤ D.length ∧ (∀ (k : Nat) (x : Tn), k < i → D[k]? = some x → x.a ≠ a) ∧ h' = h, fun x _ => ((D.length : Int) - x).toNat, ⟨0, rfl, by omega, fun k x q => by omega, rfl⟩, fun _ => ?_⟩
  rintro _ _ ⟨i, rfl, hi, hno, rfl⟩
  refine ⟨_, _, _, m.cell 0 rfl rfl, dcase_intro (fun q => ?_) fun q => ?_⟩
  · have hx : D[i]? = some D[i] := List.getElem?_eq_getElem (by omega)
    obtain ⟨ob, oo, rfl, hc⟩ := src_cell (o.src m 1 rfl) (tAll_get (o := 0) hx rfl)
    rw [Nat.add_zero] at hc
    refine ⟨_, _, _, m.cell 0 rfl rfl, ⟨by omega, by omega⟩, _, hc, dcase_intro (fun q2 => ⟨rfl, .inr ⟨i, _, rfl, hx, q2, ?_⟩⟩) fun q2 => ⟨by simp only [fits]; omega, ⟨i + 1, by omega, by omega, fun k x hk hx2 => ?_, rfl⟩, by (try dsimp only); omega⟩⟩
    · rw [← q2]; exact r.at_ hx
    · by_cases e : k = i
      · subst e; rw [hx] at hx2; cases hx2; exact q2
      · exact hno k x (by omega) hx2
  · refine ⟨rfl, .inl ⟨?_, rfl⟩⟩
    cases hg : getS S a with
    | none => rfl
    | some s =>
      obtain ⟨k, hk⟩ := (r.get a s).1 hg
      have := (List.getElem?_eq_some_iff.1 hk).1
      exact absurd rfl (hno k _ (by omega) hk)
theorem radd_c (m : Me W h (L :: R)) (hv : SrV b S L) : Runs Tryd.prog 22 #[ptrB b, .int .i64 a, .int .i64 w] h fun v h' =>
    ∃ L', v = .int .i64 (erC (addS S a w).2) ∧ SrV b (addS S a w).1 L' ∧ Me W h' (L' :: R) := by
  refine vc_muezzinref15_Sched_Add _ _ _ _ _ ((raid_c a).mono ?_)
  rintro _ _ ⟨rfl, rfl⟩
  refine ⟨_, rfl, ?_⟩
  unfold addS
  by_cases ht : thereA a = true
  case neg =>
    rw [if_neg fun q => ht q.1]
    exact bcase_true (by simp [ht]) ⟨L, rfl, hv, m⟩
  refine bcase_false (by simp [ht]) ((rweight_c w).mono ?_)
  rintro _ _ ⟨rfl, rfl⟩
  refine ⟨_, rfl, ?_⟩
  by_cases hf : fairW w = true
  case neg =>
    rw [if_neg fun q => hf q.2]
    exact bcase_true (by simp [hf]) ⟨L, rfl, hv, m⟩
  rw [if_pos ⟨ht, hf⟩]
  have hta := there_iff.1 ht
  obtain ⟨D, sa, c, E, T, r, hn, o, m1⟩ := hv.opn m
  have hl := r.len
  refine bcase_false (by simp [hf]) ((rfindD_c r o m1 a).mono ?_)
  rintro _ _ ⟨rfl, ⟨hg, rfl⟩ | ⟨k, x, rfl, hx, rfl, hg⟩⟩
  · rw [hg]
    refine ⟨_, rfl, dcase_neg (by decide) ⟨_, _, _, m1.cell 0 rfl rfl, rfl, ?_⟩⟩
    refine o.app1 (us := tCells ⟨a, w, 0, false⟩) (bytes := 32) m1 1 rfl rfl (by simp [tCells, Value.oneCell']) (by omega) (by decide) ?_
    intro a' c' E' h3 m3 o3
    simp only [List.set_cons_succ, List.set_cons_zero] at m3
    refine m3.store 0 rfl (by simp) fun h4 m4 => ?_
    simp only [List.set_cons_zero] at m4
    have e1 : tAll D ++ tCells ⟨a, w, 0, false⟩ = tAll (D ++ [(⟨a, w, 0, false⟩ : Tn)]) := by rw [tAll_app]; simp [tAll]
    have e2 : (D ++ [(⟨a, w, 0, false⟩ : Tn)]).length = D.length + 1 := by simp
    rw [e1, ← e2] at o3
    rw [← e2] at m4
    obtain ⟨L', hv', m'⟩ := SrV.shut (r.add hn hta.1 hta.2 hg) (by rw [List.length_set]; exact hn) o3 m4
    exact ⟨L', rfl, hv', m'⟩
  · rw [hg]
    exact ⟨_, rfl, dcase_pos (by omega) ⟨L, rfl, hv, m⟩⟩
/-- A cell of a turn is written. -/
theorem SrV.put {sa : Option Addr} {c : Nat} {E : Grp} {T : TypeId} {Q : Heap → Prop} (r : RelS S D) (hn : S.length = 16) (o : Ow sa D.length c 4 (tAll D) E) (m : Me W h ([(b, [.slice sa D.length c], T)] :: E :: R)) (hk : D[k]? = some x) {p : Nat} {v : Value} (hc : (tCells x).set p v = tCells y) (ha : y.a = x.a) (hp : p < 4)
    (q : ∀ h1 E', Ow sa (D.set k y).length c 4 (tAll (D.set k y)) E' → Me W h1 ([(b, [.slice sa (D.set k y).length c], T)] :: E' :: R) → RelS (S.set (kA x.a) (some ⟨y.w, y.t, y.on⟩)) (D.set k y) → Q h1) :
    ∃ ob oo, sa = some ⟨ob, oo, none⟩ ∧ wr h ob (oo + (k * 4 + p)) ∧ ∀ h1, h1 = setc h ob (oo + (k * 4 + p)) v → Q h1 := by
  have hkl := (List.getElem?_eq_some_iff.1 hk).1
  obtain ⟨ob, oo, e, h1, h2⟩ := o.set1 (v := v) m 1 rfl (k := k * 4 + p) (by rw [tAll_len]; omega)
  refine ⟨ob, oo, e, h1, fun h3 e3 => ?_⟩
  obtain ⟨E', m3, o3⟩ := h2 h3 e3
  have el : (D.set k y).length = D.length := List.length_set
  rw [tAll_set hk hc hp, ← el] at o3
  simp only [List.set_cons_succ, List.set_cons_zero] at m3
  rw [← el] at m3
  have r' := r.set hn hk (w := y.w) (t := y.t) (on := y.on)
  have ey : (⟨x.a, y.w, y.t, y.on⟩ : Tn) = y := by cases y; simp at ha; simp [ha]
  rw [ey] at r'
  exact q h3 E' o3 m3 r'
theorem rweigh_c (m : Me W h (L :: R)) (hv : SrV b S L) : Runs Tryd.prog 24 #[ptrB b, .int .i64 a, .int .i64 w] h fun v h' =>
    ∃ L', v = .int .i64 (erC (weighS S a w).2) ∧ SrV b (weighS S a w).1 L' ∧ Me W h' (L' :: R) := by
  obtain ⟨D, sa, c, E, T, r, hn, o, m1⟩ := hv.opn m
  have hl := r.len
  unfold weighS
  refine vc_muezzinref15_Sched_Weigh _ _ _ _ _ ((rfindD_c r o m1 a).mono ?_)
  rintro _ _ ⟨rfl, ⟨hg, rfl⟩ | ⟨k, x, rfl, hx, rfl, hg⟩⟩
  · rw [hg]
    exact ⟨_, rfl, dcase_pos (by decide) ⟨L, rfl, hv, m⟩⟩
  · rw [hg]
    have hkl := (List.getElem?_eq_some_iff.1 hx).1
    refine ⟨_, rfl, dcase_neg (by omega) ((rweight_c w).mono ?_)⟩
    rintro _ _ ⟨rfl, rfl⟩
    refine ⟨_, rfl, ?_⟩
    dsimp only
    by_cases hf : fairW w = true
    case neg =>
      rw [if_neg hf]
      exact bcase_true (by simp [hf]) ⟨L, rfl, hv, m⟩
    rw [if_pos hf]
    obtain ⟨ob, oo, rfl, w1, w2⟩ := SrV.put (Q := fun h1 => ∃ L', Value.int .i64 0 = .int .i64 (erC none) ∧ SrV b (S.set (kA x.a) (some ⟨w, x.t, x.on⟩)) L' ∧ Me W h1 (L' :: R)) (y := ⟨x.a, w, x.t, x.on⟩) r hn o m1 hx (p := 1) (v := .int .i64 w) rfl rfl (by decide) fun h1 E' o' m' r' => by
      obtain ⟨L', hv', m''⟩ := SrV.shut r' (by rw [List.length_set]; exact hn) o' m'
      exact ⟨L', rfl, hv', m''⟩
    exact bcase_false (by simp [hf]) ⟨_, _, _, m1.cell 0 rfl rfl, ⟨by omega, by omega⟩, w1, w2⟩
theorem rcharge_c (m : Me W h (L :: R)) (hv : SrV b S L) (ok : SOk S) : Runs Tryd.prog 26 #[ptrB b, .int .i64 a, .int .i64 air] h fun v h' =>
    ∃ L', v = .int .i64 (erC (chargeS S a air).2) ∧ SrV b (chargeS S a air).1 L' ∧ Me W h' (L' :: R) := by
  obtain ⟨D, sa, c, E, T, r, hn, o, m1⟩ := hv.opn m
  have hl := r.len
  unfold chargeS
  refine vc_muezzinref15_Sched_Charge _ _ _ _ _ ((rfindD_c r o m1 a).mono ?_)
  rintro _ _ ⟨rfl, ⟨hg, rfl⟩ | ⟨k, x, rfl, hx, rfl, hg⟩⟩
  · rw [hg]
    exact ⟨_, rfl, dcase_pos (by decide) ⟨L, rfl, hv, m⟩⟩
  · rw [hg]
    have hkl := (List.getElem?_eq_some_iff.1 hx).1
    obtain ⟨o1, o2, o3, o4⟩ := ok.get hg
    dsimp only at o1 o2 o3 o4 ⊢
    refine ⟨_, rfl, dcase_neg (by omega) ?_⟩
    by_cases h0 : 0 ≤ air ∧ air ≤ 1099511627776
    case neg =>
      rw [if_neg h0]
      exact dcase_intro (fun _ => ⟨L, rfl, hv, m⟩) fun q => dcase_intro (fun _ => ⟨L, rfl, hv, m⟩) fun q2 => absurd ⟨by omega, by omega⟩ h0
    rw [if_pos h0]
    obtain ⟨h0, h1'⟩ := h0
    have hd0 : 0 ≤ 10000 * air / x.w := Int.ediv_nonneg (by omega) (by omega)
    have hd1 : 10000 * air / x.w ≤ 10000 * air := Int.ediv_le_self _ (by omega)
    obtain ⟨ob, oo, rfl, w1, w2⟩ := SrV.put (Q := fun h1 => ∃ L', Value.int .i64 0 = .int .i64 (erC none) ∧ SrV b (S.set (kA x.a) (some ⟨x.w, min (x.t + 10000 * air / x.w) 1152921504606846976, x.on⟩)) L' ∧ Me W h1 (L' :: R)) (y := ⟨x.a, x.w, min (x.t + 10000 * air / x.w) 1152921504606846976, x.on⟩) r hn o m1 hx (p := 2) (v := .int .i64 (min (x.t + 10000 * air / x.w) 1152921504606846976)) rfl rfl (by decide) fun h1 E' o' m' r' => by
      obtain ⟨L', hv', m''⟩ := SrV.shut r' (by rw [List.length_set]; exact hn) o' m'
      exact ⟨L', rfl, hv', m''⟩
    obtain ⟨_, _, e, hc2⟩ := src_cell (o.src m1 1 rfl) (tAll_get (o := 2) hx rfl)
    cases e
    obtain ⟨_, _, e, hc1⟩ := src_cell (o.src m1 1 rfl) (tAll_get (o := 1) hx rfl)
    cases e
    exact dcase_neg (by omega) (dcase_neg (by omega) ⟨_, _, _, m1.cell 0 rfl rfl, _, _, _, m1.cell 0 rfl rfl, ⟨by omega, by omega⟩, _, hc2, by simp only [fits]; omega, _, _, _, m1.cell 0 rfl rfl, ⟨by omega, by omega⟩, _, hc1, ⟨by omega, by omega, by simp only [fits]; omega⟩, by simp only [fits]; omega, ⟨by omega, by omega⟩, w1, w2⟩)
end
end Go.Proofs.YthnmgpmgfhilhaaDoor
