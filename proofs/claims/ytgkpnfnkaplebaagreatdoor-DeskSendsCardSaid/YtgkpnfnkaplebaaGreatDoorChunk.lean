/- Cells of a struct that holds a row of structs of one size: reading and writing one of them. No program is named here. -/
import Derived.Test.YtgkpnfnkaplebaaGreatDoorOwn
set_option linter.unusedVariables false
set_option linter.unusedSimpArgs false
namespace Go.Vc
/-- The least number of which something holds (0 where there is none): for loops whose measure stands in no slot. -/
theorem exists_least {P : Nat → Prop} (h : ∃ n, P n) : ∃ n, P n ∧ ∀ k, P k → n ≤ k := by
  obtain ⟨n, hn⟩ := h
  induction n using Nat.strongRecOn with
  | _ n ih =>
    by_cases hx : ∃ k, k < n ∧ P k
    · obtain ⟨k, hk, hp⟩ := hx; exact ih k hk hp
    · exact ⟨n, hn, fun k hp => Nat.le_of_not_lt fun hk => hx ⟨k, hk, hp⟩⟩
open Classical in
noncomputable def lea (P : Nat → Prop) : Nat := if h : ∃ n, P n then Classical.choose (exists_least h) else 0
theorem lea_spec {P : Nat → Prop} (h : ∃ n, P n) : ∃ n, P n ∧ lea P = n := by
  unfold lea
  rw [dif_pos h]
  exact ⟨_, (Classical.choose_spec (exists_least h)).1, rfl⟩
theorem lea_lt {P : Nat → Prop} {n k : Nat} (hp : P k) (hk : k < n) : (∃ n, P n) ∧ lea P < n := by
  refine ⟨⟨k, hp⟩, Nat.lt_of_le_of_lt ?_ hk⟩
  unfold lea
  rw [dif_pos ⟨k, hp⟩]
  exact (Classical.choose_spec (exists_least ⟨k, hp⟩)).2 k hp
theorem lea_next {P P' : Nat → Prop} {n k : Nat} (hn : lea P = n) (hp : P' k) (hk : k < n) : (∃ n, P' n) ∧ lea P' < lea P := hn ▸ lea_lt hp hk
def ck (pre : List Value) (css : List (List Value)) (post : List Value) : List Value := pre ++ (css.flatten ++ post)
section
variable {pre post cs us : List Value} {css : List (List Value)} {n k j o m : Nat} {v : Value}
theorem flat_len (hn : ∀ c ∈ css, c.length = n) : css.flatten.length = css.length * n := by
  induction css with
  | nil => simp
  | cons c r ih => simp [hn c (by simp), ih fun x hx => hn x (by simp [hx]), Nat.add_mul, Nat.add_comm]
theorem flat_drop : ∀ {css : List (List Value)} {k : Nat} {cs : List Value}, (∀ c ∈ css, c.length = n) → css[k]? = some cs → css.flatten.drop (k * n) = cs ++ (css.drop (k + 1)).flatten
  | [], k, cs, _, h => by simp at h
  | c :: r, 0, cs, hn, h => by simp at h; subst h; simp
  | c :: r, k + 1, cs, hn, h => by
    have ih := flat_drop (css := r) (k := k) (cs := cs) (fun x hx => hn x (by simp [hx])) (by simpa using h)
    rw [show (k + 1) * n = c.length + k * n by rw [hn c (by simp), Nat.add_mul]; omega, List.flatten_cons, ← List.drop_drop, List.drop_left, ih]
    simp
theorem ck_len (hn : ∀ c ∈ css, c.length = n) : (ck pre css post).length = pre.length + css.length * n + post.length := by
  simp [ck, flat_len hn]; omega
theorem flat_bound (hk : css[k]? = some cs) : k * n + n ≤ css.length * n := by
  have := (List.getElem?_eq_some_iff.1 hk).1
  rw [← Nat.succ_mul]; exact Nat.mul_le_mul_right _ this
theorem ck_drop (hn : ∀ c ∈ css, c.length = n) (hk : css[k]? = some cs) (ho : o = pre.length + k * n + j) (hj : j ≤ n) : (ck pre css post).drop o = cs.drop j ++ ((css.drop (k + 1)).flatten ++ post) := by
  have hc := hn cs (List.mem_of_getElem? hk)
  have hb := flat_bound (n := n) hk
  have hf := flat_len hn
  subst ho
  unfold ck
  rw [Nat.add_assoc, ← List.drop_drop, List.drop_left, List.drop_append_of_le_length (by omega), ← List.drop_drop, flat_drop hn hk, List.drop_append_of_le_length (by omega)]
  simp
theorem ck_row (hn : ∀ c ∈ css, c.length = n) (hk : css[k]? = some cs) (ho : o = pre.length + k * n + j) (hj : j + m ≤ n) (hu : (cs.drop j).take m = us) : ((ck pre css post).drop o).take m = us := by
  have hc := hn cs (List.mem_of_getElem? hk)
  rw [ck_drop hn hk ho (by omega), List.take_append_of_le_length (by simp; omega), hu]
theorem ck_get (hn : ∀ c ∈ css, c.length = n) (hk : css[k]? = some cs) (ho : o = pre.length + k * n + j) (hv : cs[j]? = some v) : (ck pre css post)[o]? = some v := by
  have hc := hn cs (List.mem_of_getElem? hk)
  have hj := (List.getElem?_eq_some_iff.1 hv).1
  have h1 := ck_drop (post := post) hn hk ho (by omega)
  have h2 : ((ck pre css post).drop o)[0]? = some v := by
    rw [h1, List.getElem?_append_left (by simp; omega), List.getElem?_drop]; simpa using hv
  rw [List.getElem?_drop] at h2
  simpa using h2
theorem flat_set_at : ∀ {css : List (List Value)} {k j : Nat} {cs : List Value}, (∀ c ∈ css, c.length = n) → css[k]? = some cs → j < n → css.flatten.set (k * n + j) v = (css.set k (cs.set j v)).flatten
  | [], k, j, cs, _, h, _ => by simp at h
  | c :: r, 0, j, cs, hn, h, hj => by
    simp at h; subst h
    have := hn c (by simp)
    rw [Nat.zero_mul, Nat.zero_add, List.flatten_cons, List.set_append_left _ _ (by omega)]; simp
  | c :: r, k + 1, j, cs, hn, h, hj => by
    have ih := flat_set_at (css := r) (k := k) (j := j) (cs := cs) (fun x hx => hn x (by simp [hx])) (by simpa using h) hj
    have := hn c (by simp)
    rw [show (k + 1) * n + j = c.length + (k * n + j) by rw [this, Nat.add_mul]; omega, List.flatten_cons, List.set_append_right _ _ (by omega), Nat.add_sub_cancel_left, ih]
    simp
theorem ck_set (hn : ∀ c ∈ css, c.length = n) (hk : css[k]? = some cs) (ho : o = pre.length + k * n + j) (hj : j < n) : (ck pre css post).set o v = ck pre (css.set k (cs.set j v)) post := by
  have hb := flat_bound (n := n) hk
  have hf := flat_len hn
  subst ho
  unfold ck
  rw [Nat.add_assoc, List.set_append_right _ _ (by omega), Nat.add_sub_cancel_left, List.set_append_left _ _ (by omega), flat_set_at hn hk hj]
theorem ck_setL : ∀ {us : List Value} {cs : List Value} {css : List (List Value)} {o j : Nat}, (∀ c ∈ css, c.length = n) → css[k]? = some cs → o = pre.length + k * n + j → j + us.length ≤ n →
    setL (ck pre css post) o us = ck pre (css.set k (setL cs j us)) post
  | [], cs, css, o, j, hn, hk, ho, hj => by
    simp only [setL]
    congr 1
    apply List.ext_getElem?
    intro i
    rw [List.getElem?_set]
    split
    · rename_i e; subst e
      have := (List.getElem?_eq_some_iff.1 hk).1
      simp [this, hk]
      exact (List.getElem?_eq_some_iff.1 hk).2
    · rfl
  | u :: us, cs, css, o, j, hn, hk, ho, hj => by
    simp only [setL]
    simp only [List.length_cons] at hj
    have hc := hn cs (List.mem_of_getElem? hk)
    have hkl := (List.getElem?_eq_some_iff.1 hk).1
    rw [ck_set hn hk ho (by omega)]
    rw [ck_setL (us := us) (cs := cs.set j u) (css := css.set k (cs.set j u)) (o := o + 1) (j := j + 1) (fun c hc' => ?_) (by simp [hkl]) (by omega) (by omega)]
    · rw [List.set_set]
    · rcases List.mem_or_eq_of_mem_set hc' with h | rfl
      · exact hn c h
      · simp [hc]
theorem ck_post (hn : ∀ c ∈ css, c.length = n) (ho : o = pre.length + css.length * n + j) : (ck pre css post)[o]? = post[j]? := by
  have hf := flat_len hn
  subst ho
  unfold ck
  rw [Nat.add_assoc, List.getElem?_append_right (by omega), Nat.add_sub_cancel_left, List.getElem?_append_right (by omega), hf, Nat.add_sub_cancel_left]
theorem ck_post_set (hn : ∀ c ∈ css, c.length = n) (ho : o = pre.length + css.length * n + j) : (ck pre css post).set o v = ck pre css (post.set j v) := by
  have hf := flat_len hn
  subst ho
  unfold ck
  rw [Nat.add_assoc, List.set_append_right _ _ (by omega), Nat.add_sub_cancel_left, List.set_append_right _ _ (by omega), hf, Nat.add_sub_cancel_left]
theorem set_all (hn : ∀ c ∈ css, c.length = n) (hc : cs.length = n) : ∀ c ∈ css.set k cs, c.length = n := fun c hm => by
  rcases List.mem_or_eq_of_mem_set hm with h | rfl
  · exact hn c h
  · exact hc
theorem set_at {α : Type} {l : List α} {k : Nat} {a b : α} (hk : l[k]? = some a) : (l.set k b)[k]? = some b := by
  have := (List.getElem?_eq_some_iff.1 hk).1
  simp [this]
section
variable {W : Wd} {h h' : Heap} {G : List Grp} {b i N : Nat} {T : TypeId}
theorem ckn (hn : ∀ c ∈ css, c.length = n) (hc : cs.length = n) : ∀ c ∈ css.set k cs, c.length = n := set_all hn hc
theorem ckk (hk : k < css.length) : (css.set k cs)[k]? = some cs := by simp [hk]
theorem Me.fget (m : Me W h G) (i : Nat) (hi : G[i]? = some [(b, ck pre (css.set k cs) post, T)]) (hn : ∀ c ∈ css, c.length = n) (hk : k < css.length) (hc : cs.length = n) (j : Nat) (ho : o = pre.length + k * n + j) (hv : cs[j]? = some v) : Go.Vc.cell h b o = some v :=
  m.cell i hi (ck_get (ckn hn hc) (ckk hk) ho hv)
theorem Me.frow {l : Nat} (m : Me W h G) (i : Nat) (hi : G[i]? = some [(b, ck pre (css.set k cs) post, T)]) (hn : ∀ c ∈ css, c.length = n) (hk : k < css.length) (hc : cs.length = n) (j : Nat) (ho : o = pre.length + k * n + j) (hv : (cs.drop j).take l = us) (hj : Nat.ble (j + l) n = true) : Go.Vc.row h b o l = some us := by
  have hj := Nat.le_of_ble_eq_true hj
  refine m.row i hi (ck_row (ckn hn hc) (ckk hk) ho hj hv) ?_
  have h1 := flat_bound (n := n) (ckk (cs := cs) hk)
  rw [ck_len (ckn hn hc)]; omega
theorem Me.fset (m : Me W h G) (i : Nat) (hi : G[i]? = some [(b, ck pre (css.set k cs) post, T)]) (hn : ∀ c ∈ css, c.length = n) (hk : k < css.length) (hc : cs.length = n) (j : Nat) (ho : o = pre.length + k * n + j) (hj : Nat.ble (j + 1) n = true) {Q : Heap → Prop}
    (q : ∀ h1, Me W h1 (G.set i [(b, ck pre (css.set k (cs.set j v)) post, T)]) → Q h1) : Go.Vc.wr h b o ∧ ∀ h1, h1 = Go.Vc.setc h b o v → Q h1 := by
  have hj := Nat.le_of_ble_eq_true hj
  have h1 := flat_bound (n := n) (ckk (cs := cs) hk)
  refine m.store i hi (by rw [ck_len (ckn hn hc)]; omega) fun h1 m' => q h1 ?_
  rw [ck_set (ckn hn hc) (ckk hk) ho (by omega), List.set_set] at m'
  exact m'
theorem Me.fwrs {l : Nat} (m : Me W h G) (i : Nat) (hi : G[i]? = some [(b, ck pre (css.set k cs) post, T)]) (hn : ∀ c ∈ css, c.length = n) (hk : k < css.length) (hc : cs.length = n) (j : Nat) (ho : o = pre.length + k * n + j) (hj : Nat.ble (j + l) n = true) : Go.Vc.wrs h b o l := by
  have hj := Nat.le_of_ble_eq_true hj
  have h1 := flat_bound (n := n) (ckk (cs := cs) hk)
  exact m.wrs i hi (by rw [ck_len (ckn hn hc)]; omega)
theorem Me.fsetr (m : Me W h G) (i : Nat) (hi : G[i]? = some [(b, ck pre (css.set k cs) post, T)]) (hn : ∀ c ∈ css, c.length = n) (hk : k < css.length) (hc : cs.length = n) (j : Nat) (ho : o = pre.length + k * n + j) (hj : j + us.length ≤ n) (e : h' = Go.Vc.setr h b o us) :
    Me W h' (G.set i [(b, ck pre (css.set k (setL cs j us)) post, T)]) := by
  have m' := m.setr i hi e
  rw [ck_setL (ckn hn hc) (ckk hk) ho hj, List.set_set] at m'
  exact m'
theorem Me.pget (m : Me W h G) (i : Nat) (hi : G[i]? = some [(b, ck pre css post, T)]) (hn : ∀ c ∈ css, c.length = n) (hN : css.length = N) (j : Nat) (ho : o = pre.length + N * n + j) (hv : post[j]? = some v) : Go.Vc.cell h b o = some v :=
  m.cell i hi ((ck_post hn (by rw [hN]; exact ho)).trans hv)
theorem Me.pset (m : Me W h G) (i : Nat) (hi : G[i]? = some [(b, ck pre css post, T)]) (hn : ∀ c ∈ css, c.length = n) (hN : css.length = N) (j : Nat) (ho : o = pre.length + N * n + j) (hj : j < post.length) {Q : Heap → Prop}
    (q : ∀ h1, Me W h1 (G.set i [(b, ck pre css (post.set j v), T)]) → Q h1) : Go.Vc.wr h b o ∧ ∀ h1, h1 = Go.Vc.setc h b o v → Q h1 := by
  refine m.store i hi (by rw [ck_len hn, hN]; omega) fun h1 m' => q h1 ?_
  rw [ck_post_set hn (by rw [hN]; exact ho)] at m'
  exact m'
theorem Me.hget (m : Me W h G) (i : Nat) (hi : G[i]? = some [(b, ck pre css post, T)]) (ho : o < pre.length) (hv : pre[o]? = some v) : Go.Vc.cell h b o = some v :=
  m.cell i hi (by unfold ck; rw [List.getElem?_append_left ho]; exact hv)
end
end
end Go.Vc
