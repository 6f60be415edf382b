/- Slices of our own; appends to them; lists of structs as cells. No program is named here. -/
import Derived.Test.YtgkpnfnkaplebaaGreatDoorMe
set_option linter.unusedVariables false
set_option linter.unusedSimpArgs false
namespace Go.Vc
/-- A slice of 'l' elements of 'sz' cells each, the cells 'vs', that is ours: the group that holds it. -/
def Ow (a : Option Addr) (l c sz : Nat) (vs : List Value) (E : Grp) : Prop :=
  (a = none ∧ l = 0 ∧ c = 0 ∧ vs = [] ∧ E = []) ∨
  ∃ (b o : Nat) (j rest t : List Value) (T : TypeId), a = some ⟨b, o, none⟩ ∧ l ≤ c ∧ vs.length = l * sz ∧ rest.length = (c - l) * sz ∧ j.length = o ∧ E = [(b, j ++ (vs ++ (rest ++ t)), T)]
section
variable {W W' : Wd} {h h' : Heap} {G : List Grp} {E : Grp} {a : Option Addr} {l c sz i n : Nat} {T : TypeId} {vs us : List Value}
theorem Ow.nil {sz : Nat} : Ow none 0 0 sz [] [] := .inl ⟨rfl, rfl, rfl, rfl, rfl⟩
theorem Ow.fresh {b l c sz : Nat} {vs rest : List Value} {T : TypeId} (hl : vs.length = l * sz) (hr : rest.length = (c - l) * sz) (hlc : l ≤ c) : Ow (some ⟨b, 0, none⟩) l c sz vs [(b, vs ++ rest, T)] :=
  .inr ⟨b, 0, [], rest, [], T, rfl, hlc, hl, hr, rfl, by simp⟩
theorem Ow.fresh0 {b l sz : Nat} {vs : List Value} {T : TypeId} (hl : vs.length = l * sz) : Ow (some ⟨b, 0, none⟩) l l sz vs [(b, vs, T)] :=
  .inr ⟨b, 0, [], [], [], T, rfl, Nat.le_refl _, hl, by simp, rfl, by simp⟩
theorem Ow.len (o : Ow a l c sz vs E) : vs.length = l * sz := by
  rcases o with ⟨_, rfl, _, rfl, _⟩ | ⟨b, o, j, rest, t, T, _, _, h, _⟩
  · simp
  · exact h
theorem Ow.le (o : Ow a l c sz vs E) : l ≤ c := by
  rcases o with ⟨_, rfl, rfl, rfl, _⟩ | ⟨b, o, j, rest, t, T, _, h, _⟩
  · exact Nat.le_refl _
  · exact h
theorem Ow.src (o : Ow a l c sz vs E) (m : Me W h G) (i : Nat) (hi : G[i]? = some E) : Go.Vc.src h a (l * sz) vs := by
  rcases o with ⟨rfl, rfl, rfl, rfl, rfl⟩ | ⟨b, o, j, rest, t, T, rfl, h1, h2, h3, h4, rfl⟩
  · rfl
  · have hb := m.blk i hi
    show Go.Vc.row h b o (l * sz) = some vs
    rw [hb.row (by simp; omega), ← h4, List.drop_left, ← h2, List.take_left]
theorem Ow.src1 (o : Ow a l c 1 vs E) (m : Me W h G) (i : Nat) (hi : G[i]? = some E) : Go.Vc.src h a l vs := by
  have := o.src m i hi
  rwa [Nat.mul_one] at this
theorem Ow.len1 (o : Ow a l c 1 vs E) : vs.length = l := by have := o.len; rwa [Nat.mul_one] at this
/-- A part of it, read. -/
theorem src_part {h : Heap} {a : Option Addr} {N k n : Nat} {cs us : List Value} (hs : src h a N cs) (hk : k + n ≤ cs.length) (hn : 0 < n) (hu : (cs.drop k).take n = us) : ∃ b o, a = some ⟨b, o, none⟩ ∧ Go.Vc.row h b (o + k) n = some us := by
  subst hu; exact src_at hs hk hn
theorem src_cell {h : Heap} {a : Option Addr} {N k : Nat} {cs : List Value} {v : Value} (hs : src h a N cs) (hk : cs[k]? = some v) : ∃ b o, a = some ⟨b, o, none⟩ ∧ cell h b (o + k) = some v := by
  have hkl := (List.getElem?_eq_some_iff.1 hk).1
  obtain ⟨b, o, e, hr⟩ := src_part (n := 1) (us := [v]) hs hkl (by decide) (by rw [List.drop_eq_getElem_cons hkl, (List.getElem?_eq_some_iff.1 hk).2]; rfl)
  refine ⟨b, o, e, ?_⟩
  have := (row_iff.1 hr).2 0 v rfl
  simpa using this
/-- A cell of it is written. -/
theorem Ow.set1 {k : Nat} {v : Value} (o : Ow a l c sz vs E) (m : Me W h G) (i : Nat) (hi : G[i]? = some E) (hk : k < vs.length) : ∃ b p, a = some ⟨b, p, none⟩ ∧ Go.Vc.wr h b (p + k) ∧
    ∀ h1, h1 = Go.Vc.setc h b (p + k) v → ∃ E', Me W h1 (G.set i E') ∧ Ow a l c sz (vs.set k v) E' := by
  rcases o with ⟨rfl, rfl, rfl, rfl, rfl⟩ | ⟨b, o, j, rest, t, T, rfl, h1, h2, h3, h4, rfl⟩
  · simp at hk
  · refine ⟨b, o, rfl, (m.blk i hi).wr (by simp; omega), fun h1' e => ?_⟩
    have m' := m.setc i hi e
    have e1 : (j ++ (vs ++ (rest ++ t))).set (o + k) v = j ++ (vs.set k v ++ (rest ++ t)) := by
      rw [List.set_append_right _ _ (by omega), show o + k - j.length = k by omega, List.set_append_left _ _ hk]
    rw [e1] at m'
    exact ⟨_, m', .inr ⟨b, o, j, rest, t, T, rfl, h1, by simpa using h2, h3, h4, rfl⟩⟩
/-- The first elements go. -/
theorem Ow.tail (o : Ow a l c sz vs E) (k : Nat) (hk : k ≤ l) : Ow (slcAddr a k c (k * sz)) (l - k) (c - k) sz (vs.drop (k * sz)) E := by
  rcases o with ⟨rfl, rfl, rfl, rfl, rfl⟩ | ⟨b, o, j, rest, t, T, rfl, h1, h2, h3, h4, rfl⟩
  · refine .inl ⟨?_, by omega, by omega, by simp, rfl⟩
    unfold slcAddr; split <;> rfl
  · unfold slcAddr
    by_cases hc : c = k
    · rw [if_pos hc]
      refine .inr ⟨b, o, j, [], vs ++ (rest ++ t), T, rfl, by omega, ?_, ?_, h4, ?_⟩
      · rw [List.length_drop, h2, ← Nat.sub_mul]
      · rw [show c - k - (l - k) = 0 by omega]; simp
      · rw [List.drop_of_length_le (by rw [h2]; exact Nat.mul_le_mul_right _ (by omega))]; simp
    · rw [if_neg hc]
      refine .inr ⟨b, o + k * sz, j ++ vs.take (k * sz), rest, t, T, by simp only [Option.map_some, add_eq], by omega, ?_, ?_, ?_, ?_⟩
      · rw [List.length_drop, h2, ← Nat.sub_mul]
      · rw [h3]; congr 1; omega
      · have : k * sz ≤ l * sz := Nat.mul_le_mul_right _ hk
        simp [h4]; omega
      · simp only [List.append_assoc]
        rw [← List.append_assoc (List.take (k * sz) vs), List.take_append_drop]
/-- The last elements go. -/
theorem Ow.head (o : Ow a l c sz vs E) (k : Nat) (hk : k ≤ l) : Ow a k c sz (vs.take (k * sz)) E := by
  rcases o with ⟨rfl, rfl, rfl, rfl, rfl⟩ | ⟨b, o, j, rest, t, T, rfl, h1, h2, h3, h4, rfl⟩
  · exact .inl ⟨rfl, by omega, rfl, by simp, rfl⟩
  · have : k * sz ≤ l * sz := Nat.mul_le_mul_right _ hk
    refine .inr ⟨b, o, j, vs.drop (k * sz) ++ rest, t, T, rfl, by omega, by simp [h2, this], ?_, h4, ?_⟩
    · simp [h2, h3]
      rw [← Nat.sub_mul, ← Nat.add_mul]; congr 1; omega
    · simp only [List.append_assoc]
      rw [← List.append_assoc (List.take (k * sz) vs), List.take_append_drop]
theorem setL_mid {j vs us rest : List Value} (h : us.length ≤ rest.length) : setL (j ++ (vs ++ rest)) (j.length + vs.length) us = j ++ (vs ++ (us ++ rest.drop us.length)) := by
  rw [setL_eq (by simp; omega)]
  have e1 : (j ++ (vs ++ rest)).take (j.length + vs.length) = j ++ vs := by
    rw [← List.append_assoc, ← List.length_append, List.take_left]
  have e2 : (j ++ (vs ++ rest)).drop (j.length + vs.length + us.length) = rest.drop us.length := by
    rw [← List.append_assoc, ← List.length_append, ← List.drop_drop, List.drop_left]
  rw [e1, e2]; simp
/-- append: in place or anew. -/
theorem Ow.app {k bytes e : Nat} {Q : Option Addr → Nat → Heap → Prop} (o : Ow a l c sz vs E) (m : Me W h G) (i : Nat) (hi : G[i]? = some E) (hus : us.length = k * sz) (hfit : (l + k) * bytes ≤ 140737488355328) (hb0 : 0 < bytes)
    (q : ∀ a' c' E' h', Me W h' (G.set i E') → Ow a' (l + k) c' sz (vs ++ us) E' → Q a' c' h') : appK h a l c k sz e bytes us Q := by
  refine ⟨fun hle => ?_, fun hlt => ⟨⟨hfit, hb0⟩, vs, o.src m i hi, fun cap zs b h1 h2 h3 h4 h5 => ?_⟩⟩
  · rcases o with ⟨rfl, rfl, rfl, rfl, rfl⟩ | ⟨b, o, j, rest, t, T, rfl, h1, h2, h3, h4, rfl⟩
    · obtain rfl : k = 0 := by omega
      have : us = [] := List.eq_nil_of_length_eq_zero (by rw [hus]; simp)
      subst this
      refine q none 0 [] h ?_ (.inl ⟨rfl, rfl, rfl, rfl, rfl⟩)
      exact m.perm (by simpa using (flat_set hi).trans (flat_put (B := []) hi))
    · show wrs h b (o + l * sz) us.length ∧ _
      have hbk := m.blk i hi
      have hlen : us.length ≤ rest.length := by
        rw [hus, h3]; exact Nat.mul_le_mul_right _ (by omega)
      refine ⟨hbk.wrs (by simp; omega), fun h' e9 => ?_⟩
      have m' := m.setr i hi e9
      have e1 : o + l * sz = j.length + vs.length := by rw [h4, h2]
      rw [e1, setL_mid (by simp; omega)] at m'
      refine q _ _ [(b, j ++ ((vs ++ us) ++ (rest.drop us.length ++ t)), T)] _ ?_ (.inr ⟨b, o, j, rest.drop us.length, t, T, rfl, hle, by simp [h2, hus, Nat.add_mul], ?_, h4, rfl⟩)
      · rw [List.drop_append_of_le_length hlen] at m'
        simpa using m'
      · rw [List.length_drop, h3, hus, ← Nat.sub_mul]
        congr 1; omega
  · have m' := m.push h5 h4
    have hl := o.len
    have m2 : Me W h1 (G.set i [(b, (vs ++ us) ++ zs, e)]) := by
      have m3 := (m'.focus (i + 1) (A := E) (by simpa using hi)).drop1
      simp only [List.eraseIdx_cons_succ] at m3
      exact m3.perm (by simpa using flat_put (B := [(b, vs ++ us ++ zs, e)]) hi)
    exact q _ _ _ _ m2 (Ow.fresh (by simp [hl, hus, Nat.add_mul]) h3 h2)
/-- append of one, which is laid into a block of its own first. -/
theorem Ow.app1 {bytes e : Nat} {e2 : TypeId} {Q : Option Addr → Nat → Heap → Prop} (o : Ow a l c sz vs E) (m : Me W h G) (i : Nat) (hi : G[i]? = some E) (hus : us.length = sz) (h1 : ∀ u ∈ us, u.oneCell' = true) (hfit : (l + 1) * bytes ≤ 140737488355328) (hb0 : 0 < bytes)
    (q : ∀ a' c' E' h', Me W h' (G.set i E') → Ow a' (l + 1) c' sz (vs ++ us) E' → Q a' c' h') :
    ∀ (b3 : Nat) (h3 : Heap), b3 = h.size → h3 = h.push (.cells us.toArray e2) → ∃ news : List Value, (Go.Vc.row h3 b3 0 sz = some news ∧ ∀ u ∈ news, u.oneCell' = true) ∧ appK h3 a l c 1 sz e bytes news Q := by
  intro b3 h3 e1 e2
  have m' := m.push e2 e1
  refine ⟨us, ⟨m'.row 0 rfl (by rw [List.drop_zero, ← hus, List.take_length]) (by omega), h1⟩, ?_⟩
  refine o.app m' (i + 1) (by simpa using hi) (by simp [hus]) hfit hb0 fun a' c' E' h' m2 o2 => q a' c' E' h' ?_ o2
  simp only [List.set_cons_succ] at m2
  exact m2.drop1
theorem Me.leOf (m : Me W h G) : W.le (Wd.of h) := m.keep
theorem Me.on (m : Me W h G) (k : Kept h h') : Me W h' G :=
  ⟨fun b x e => by rw [k.2 b (m.lt e)]; exact m.keep b x e, fun x hx => by have := m.has x hx; unfold Blk; rw [k.2 _ this.lt]; exact this, m.off, m.nd⟩
theorem Kept.le {h h' : Heap} (k : Kept h h') : (Wd.of h).le (Wd.of h') := fun b x e => by
  have hb : b < h.size := (Array.getElem?_eq_some_iff.1 e).1
  show h'[b]? = some x
  rw [k.2 b hb]; exact e
theorem Kept.src {h h' : Heap} {a : Option Addr} {n : Nat} {cs : List Value} (k : Kept h h') (hs : Go.Vc.src h a n cs) : Go.Vc.src h' a n cs := of_src.1 (wsrc_le k.le (of_src.2 hs))
theorem Ow.fromW {b o n : Nat} (hl : vs.length = l * sz) : True := trivial
end

/-- A list of things, each of which lies in cells, one behind the other. -/
def Sq {α : Type} (R : α → List Value → Prop) : List α → List Value → Prop
  | [], vs => vs = []
  | x :: xs, vs => ∃ cs r, vs = cs ++ r ∧ R x cs ∧ Sq R xs r
section
variable {α : Type} {R R' : α → List Value → Prop} {n : Nat}
theorem Sq.mono (h : ∀ x cs, R x cs → R' x cs) : ∀ {xs : List α} {vs : List Value}, Sq R xs vs → Sq R' xs vs
  | [], _, hs => hs
  | x :: xs, _, ⟨cs, r, e, h1, h2⟩ => ⟨cs, r, e, h x cs h1, h2.mono h⟩
theorem Sq.len (hn : ∀ x cs, R x cs → cs.length = n) : ∀ {xs : List α} {vs : List Value}, Sq R xs vs → vs.length = xs.length * n
  | [], _, hs => by cases hs; simp
  | x :: xs, _, ⟨cs, r, e, h1, h2⟩ => by subst e; simp [hn x cs h1, h2.len hn, Nat.add_mul, Nat.add_comm]
theorem Sq.app : ∀ {xs ys : List α} {vs us : List Value}, Sq R xs vs → Sq R ys us → Sq R (xs ++ ys) (vs ++ us)
  | [], _, _, _, hs, ht => by cases hs; exact ht
  | x :: xs, _, _, _, ⟨cs, r, e, h1, h2⟩, ht => ⟨cs, r ++ _, by subst e; simp, h1, h2.app ht⟩
theorem Sq.one {x : α} {cs : List Value} (h : R x cs) : Sq R [x] cs := ⟨cs, [], by simp, h, rfl⟩
theorem Sq.snoc {xs : List α} {vs cs : List Value} {x : α} (hs : Sq R xs vs) (h : R x cs) : Sq R (xs ++ [x]) (vs ++ cs) := hs.app (.one h)
theorem Sq.drop (hn : ∀ x cs, R x cs → cs.length = n) : ∀ (k : Nat) {xs : List α} {vs : List Value}, Sq R xs vs → Sq R (xs.drop k) (vs.drop (k * n))
  | 0, xs, vs, hs => by simpa using hs
  | k + 1, [], _, hs => by cases hs; simp [Sq]
  | k + 1, x :: xs, _, ⟨cs, r, e, h1, h2⟩ => by
    subst e
    have e1 : (cs ++ r).drop ((k + 1) * n) = r.drop (k * n) := by
      rw [show (k + 1) * n = cs.length + k * n by rw [hn x cs h1, Nat.add_mul]; omega, ← List.drop_drop, List.drop_left]
    rw [e1]
    exact h2.drop hn k
theorem Sq.take (hn : ∀ x cs, R x cs → cs.length = n) : ∀ (k : Nat) {xs : List α} {vs : List Value}, Sq R xs vs → Sq R (xs.take k) (vs.take (k * n))
  | 0, xs, vs, hs => by simp [Sq]
  | k + 1, [], _, hs => by cases hs; simp [Sq]
  | k + 1, x :: xs, _, ⟨cs, r, e, h1, h2⟩ => by
    subst e
    rw [show (k + 1) * n = cs.length + k * n by rw [hn x cs h1, Nat.add_mul]; omega, List.take_length_add_append]
    exact ⟨cs, _, rfl, h1, h2.take hn k⟩
/-- The i-th's cells. -/
theorem Sq.get (hn : ∀ x cs, R x cs → cs.length = n) {xs : List α} {vs : List Value} (hs : Sq R xs vs) {i : Nat} {x : α} (hx : xs[i]? = some x) : ∃ cs, R x cs ∧ (vs.drop (i * n)).take n = cs ∧ i * n + n ≤ vs.length := by
  have hl := hs.len hn
  have hi := (List.getElem?_eq_some_iff.1 hx).1
  have hd := hs.drop hn i
  rw [List.drop_eq_getElem_cons hi, (List.getElem?_eq_some_iff.1 hx).2] at hd
  obtain ⟨cs, r, e, h1, h2⟩ := hd
  refine ⟨cs, h1, by rw [e, ← hn x cs h1, List.take_left], ?_⟩
  rw [hl, ← Nat.succ_mul]; exact Nat.mul_le_mul_right _ hi
theorem Sq.set (hn : ∀ x cs, R x cs → cs.length = n) : ∀ {xs : List α} {vs cs : List Value} {i : Nat} {y : α}, Sq R xs vs → i < xs.length → R y cs → Sq R (xs.set i y) (vs.take (i * n) ++ (cs ++ vs.drop (i * n + n)))
  | [], _, _, _, _, _, hi, _ => by simp at hi
  | x :: xs, _, cs', 0, y, ⟨cs, r, e, h1, h2⟩, _, hy => by
    subst e
    refine ⟨cs', r, ?_, hy, h2⟩
    rw [Nat.zero_mul, Nat.zero_add, ← hn x cs h1, List.drop_left]; simp
  | x :: xs, _, cs', i + 1, y, ⟨cs, r, e, h1, h2⟩, hi, hy => by
    subst e
    refine ⟨cs, _, ?_, h1, h2.set hn (i := i) (by simpa using hi) hy⟩
    have e1 : (i + 1) * n = cs.length + i * n := by rw [hn x cs h1, Nat.add_mul]; omega
    have e2 : (cs ++ r).drop (cs.length + (i * n + n)) = r.drop (i * n + n) := by rw [← List.drop_drop, List.drop_left]
    rw [e1, List.take_length_add_append, Nat.add_assoc, e2]; simp
theorem Sq.all (h1 : ∀ x cs, R x cs → ∀ u ∈ cs, u.oneCell' = true) : ∀ {xs : List α} {vs : List Value}, Sq R xs vs → ∀ u ∈ vs, u.oneCell' = true
  | [], _, hs, u, hu => by cases hs; cases hu
  | x :: xs, _, ⟨cs, r, e, hx, h2⟩, u, hu => by
    subst e
    rcases List.mem_append.1 hu with hu | hu
    · exact h1 x cs hx u hu
    · exact h2.all h1 u hu
end
/-- Whole numbers of a kind, a cell each. -/
def ints (k : IntKind) (l : List Int) : List Value := l.map (Value.int k)
theorem ints_len {k : IntKind} {l : List Int} : (ints k l).length = l.length := by simp [ints]
theorem ints_get {k : IntKind} {l : List Int} {i : Nat} {x : Int} (h : l[i]? = some x) : (ints k l)[i]? = some (.int k x) := by simp [ints, h]
theorem ints_one {k : IntKind} {l : List Int} : ∀ u ∈ ints k l, u.oneCell' = true := by
  intro u hu; simp only [ints, List.mem_map] at hu; obtain ⟨x, _, rfl⟩ := hu; rfl
theorem ints_app {k : IntKind} {l r : List Int} : ints k (l ++ r) = ints k l ++ ints k r := by simp [ints]
theorem ints_drop {k : IntKind} {l : List Int} {n : Nat} : (ints k l).drop n = ints k (l.drop n) := by simp [ints]
theorem ints_take {k : IntKind} {l : List Int} {n : Nat} : (ints k l).take n = ints k (l.take n) := by simp [ints]
theorem ints_inj {k : IntKind} {l r : List Int} (h : ints k l = ints k r) : l = r := by
  unfold ints at h
  exact List.map_inj_right (fun x y e => by cases e; rfl) |>.1 h
/-- Bytes (or other numbers) that stay as they are: a slice's value. -/
def Bts (W : Wd) (v : Value) (l : List Int) : Prop := ∃ a c, v = .slice a l.length c ∧ l.length ≤ c ∧ wsrc W a l.length (ints .u8 l)
theorem Bts.le {W W' : Wd} {v : Value} {l : List Int} (hl : W.le W') (hb : Bts W v l) : Bts W' v l := by
  obtain ⟨a, c, e, h1, h2⟩ := hb; exact ⟨a, c, e, h1, wsrc_le hl h2⟩
theorem Bts.nil {W : Wd} : Bts W (.slice none 0 0) [] := ⟨none, 0, rfl, Nat.le_refl _, rfl⟩
end Go.Vc
