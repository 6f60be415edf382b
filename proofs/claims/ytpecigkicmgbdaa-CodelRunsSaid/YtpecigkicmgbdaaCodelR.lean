/- The walk of CodelRuns. -/
import Derived.Test.YtpecigkicmgbdaaCodelC
set_option linter.unusedVariables false
set_option linter.unusedSimpArgs false
namespace Go.Proofs.Ytpecigkicmgbdaa
open Go.Vc

/-- The bounds of what is kept of a queue. -/
structure CBd (s : CSt) : Prop where
  f0 : 0 ≤ s.first
  f1 : s.first ≤ 2251799813685248
  d0 : 0 ≤ s.drop
  d1 : s.drop ≤ 2251799813685248
  c0 : 0 ≤ s.count
  c1 : s.count < 4294967296
  l0 : 0 ≤ s.last
  l1 : s.last < 4294967296
theorem COk.bd {l : List (Int × Int)} {s : CSt} (h : COk l s) : CBd s := ⟨h.f0, h.f1, h.d0, h.d1, h.c0, h.c1, h.l0, h.l1⟩
theorem moreZ_bd {now tg iv : Int} {l : List (Int × Int)} (hE : CEn now tg iv l) : ∀ (n : Nat) (s : CSt) (is : Bool), COk l s → (s.dropping = true → s.pos < l.length) → CBd (moreZ now tg iv l n s is).1
  | 0, s, is, h1, h2 => h1.bd
  | n + 1, s, is, h1, h2 => by
    by_cases hc : s.drop ≤ now ∧ s.dropping = true
    · have hlt := h2 hc.2
      have hk2 := h1.look hE (by omega)
      obtain ⟨e1, e2, e3, e4, e5⟩ := lookZ_same now tg iv l { s with pos := s.pos + 1, count := upC s.count }
      have his := lookZ_is now tg iv l { s with pos := s.pos + 1, count := upC s.count }
      generalize hr : lookZ now tg iv l { s with pos := s.pos + 1, count := upC s.count } = r at *
      obtain ⟨t, i2, l2⟩ := r
      dsimp only at *
      rw [more_step hc hr]
      by_cases hb : i2 = true ∧ l2 = true
      · rw [if_pos hb]
        obtain ⟨z0, z1⟩ := nextZ_ok t.drop iv t.count.toNat
        exact moreZ_bd hE n _ _ ⟨hk2.f0, hk2.f1, z0, z1, hk2.c0, hk2.c1, hk2.l0, hk2.l1, hk2.b0, hk2.b1, hk2.p⟩ (fun _ => by rw [hb.1] at his; simp at his ⊢; omega)
      · rw [if_neg hb]
        exact moreZ_bd hE n _ _ ⟨hk2.f0, hk2.f1, hk2.d0, hk2.d1, hk2.c0, hk2.c1, hk2.l0, hk2.l1, hk2.b0, hk2.b1, hk2.p⟩ (fun h => by cases h)
    · rw [more_stop hc]; exact h1.bd
theorem runZ_bd {now tg iv : Int} {l : List (Int × Int)} {s : CSt} (hE : CEn now tg iv l) (hk : CIn s) : CBd (runZ now tg iv l s).1 := by
  have hk2 := hk.ok hE
  unfold runZ
  obtain ⟨e1, e2, e3, e4, e5⟩ := lookZ_same now tg iv l s
  have his := lookZ_is now tg iv l s
  have hp := hk.p
  generalize lookZ now tg iv l s = r at *
  obtain ⟨t, i2, l2⟩ := r
  dsimp only at *
  by_cases h1 : i2 = false
  · rw [if_pos h1]; exact ⟨hk2.f0, hk2.f1, hk2.d0, hk2.d1, hk2.c0, hk2.c1, hk2.l0, hk2.l1⟩
  · rw [if_neg h1]
    have h1 : i2 = true := by simpa using h1
    rw [h1] at his
    simp at his
    by_cases h2 : t.dropping = true
    · rw [if_pos h2]
      by_cases h3 : l2 = false
      · rw [if_pos h3]; exact ⟨hk2.f0, hk2.f1, hk2.d0, hk2.d1, hk2.c0, hk2.c1, hk2.l0, hk2.l1⟩
      · rw [if_neg h3]; exact moreZ_bd hE _ _ _ hk2 (fun _ => by omega)
    · rw [if_neg h2]
      by_cases h3 : l2 = true
      · rw [if_pos h3]
        unfold beginsZ
        obtain ⟨g1, g2, g3, g4, g5⟩ := lookZ_same now tg iv l { t with pos := t.pos + 1 }
        obtain ⟨f0, f1⟩ := lookZ_first (s := { t with pos := t.pos + 1 }) hE hk2.f0 hk2.f1
        generalize lookZ now tg iv l { t with pos := t.pos + 1 } = r at *
        obtain ⟨u, i3, l3⟩ := r
        dsimp only at *
        obtain ⟨z0, z1⟩ := deltaZ_ok now iv u
        obtain ⟨y0, y1⟩ := nextZ_ok now iv (deltaZ now iv u).toNat
        exact ⟨f0, f1, y0, y1, z0, z1, z0, z1⟩
      · rw [if_neg h3]; exact hk2.bd
theorem own_src {h0 h : Heap} {S : List Nat} {L E : List (Nat × List Value × TypeId)} {a : Option Addr} {l c k : Nat} {its : List (Int × Int)} (ho : Own a l c 2 (flatI its) E) (m : Mem h0 h S (E ++ L)) (hl : its.length = l) (hk : k ≤ l) :
    src h (slcAddr a k c (k * 2)) ((l - k) * 2) (flatI (its.drop k)) := by
  have hlen := ho.len
  rcases ho with ⟨rfl, rfl, rfl, hn, rfl⟩ | ⟨b, rest, T, rfl, h1, h2, h3, rfl⟩
  · have : its = [] := List.eq_nil_of_length_eq_zero hl
    subst this
    unfold slcAddr
    split <;> simp [src, flatI]
  · have hb := m.blk 0 rfl
    by_cases hc : c = k
    · have : l = k := by omega
      subst this
      unfold slcAddr
      rw [if_pos hc, List.drop_of_length_le (by omega), Nat.sub_self, Nat.zero_mul]
      rfl
    · unfold slcAddr
      rw [if_neg hc]
      simp only [Option.map_some, add_eq]
      show row h b (0 + k * 2) ((l - k) * 2) = some _
      rw [Nat.zero_add, hb.row (by simp; omega), List.drop_append_of_le_length (by omega), flatI_drop, List.take_append_of_le_length (by rw [flatI_len]; simp; omega)]
      rw [show (l - k) * 2 = (flatI (its.drop k)).length by rw [flatI_len]; simp; omega, List.take_length]
theorem own_itm0 {h0 h : Heap} {S : List Nat} {L E : List (Nat × List Value × TypeId)} {a : Option Addr} {l c : Nat} {its : List (Int × Int)} (ho : Own a l c 2 (flatI its) E) (m : Mem h0 h S (E ++ L)) : Itm h a its := by
  intro j x hx
  have hj := (List.getElem?_eq_some_iff.1 hx).1
  obtain ⟨b, rfl, hr⟩ := ho.row m (i := j * 2) (n := 2) (by decide) (by rw [flatI_len]; omega)
  refine ⟨b, 0, rfl, ?_⟩
  rw [Nat.zero_add, hr, flatI_drop, List.drop_eq_getElem_cons hj, (List.getElem?_eq_some_iff.1 hx).2]
  rfl
theorem Itm.src {h : Heap} {a : Option Addr} {l : List (Int × Int)} (hs : Itm h a l) : src h a (l.length * 2) (flatI l) := by
  rcases l with _ | ⟨x0, r⟩
  · rcases a with _ | ⟨b, o, _ | s⟩
    · rfl
    · rfl
    · exact ⟨rfl, rfl⟩
  · obtain ⟨b, o, rfl, _⟩ := hs 0 x0 rfl
    refine row_of_cells (flatI_len _) fun j v hj => ?_
    have hjl := (List.getElem?_eq_some_iff.1 hj).1
    rw [flatI_len] at hjl
    obtain ⟨x, hx⟩ : ∃ x, (x0 :: r)[j / 2]? = some x := ⟨_, List.getElem?_eq_getElem (by omega)⟩
    obtain ⟨b', o', e, hrow⟩ := hs (j / 2) x hx
    cases e
    have hd : (flatI (x0 :: r)).drop (j / 2 * 2) = .int .i64 x.1 :: .int .i64 x.2 :: flatI ((x0 :: r).drop (j / 2 + 1)) := by
      rw [flatI_drop]
      have : (x0 :: r).drop (j / 2) = x :: (x0 :: r).drop (j / 2 + 1) := by
        rw [List.drop_eq_getElem_cons (List.getElem?_eq_some_iff.1 hx).1, (List.getElem?_eq_some_iff.1 hx).2]
      rw [this]; rfl
    have h2 : ((flatI (x0 :: r)).drop (j / 2 * 2))[j % 2]? = some v := by
      rw [List.getElem?_drop, show j / 2 * 2 + j % 2 = j by omega]; exact hj
    rw [hd] at h2
    have h3 := (row_iff.1 hrow).2 (j % 2) v (by
      rcases Nat.mod_two_eq_zero_or_one j with h | h <;> rw [h] at h2 ⊢ <;> exact h2)
    rw [show o + j = o + j / 2 * 2 + j % 2 by omega]
    exact h3
/-- A slice of whole numbers: where each lies. -/
def Nums (h : Heap) (a : Option Addr) (l : List Int) : Prop := ∀ (i : Nat) (x : Int), l[i]? = some x → ∃ b o, a = some ⟨b, o, none⟩ ∧ cell h b (o + i) = some (.int .i64 x)
theorem Nums.mem {h0 h : Heap} {L : List (Nat × List Value × TypeId)} {a : Option Addr} {l : List Int} (hi : Nums h0 a l) (m : Mem h0 h [] L) : Nums h a l := by
  intro i x hx
  obtain ⟨b, o, rfl, h2⟩ := hi i x hx
  exact ⟨b, o, rfl, m.cell_old (by simp) h2⟩
theorem flatI_one (l : List (Int × Int)) : ∀ u ∈ flatI l, u.oneCell' = true := by
  induction l with
  | nil => simp [flatI]
  | cons x r ih => intro u hu; simp only [flatI, List.mem_cons] at hu; rcases hu with rfl | rfl | hu <;> first | rfl | exact ih u hu
/-- What an item of a queue may be. -/
def fair (x : Int × Int) : Prop := 0 ≤ x.1 ∧ x.1 ≤ 1099511627776 ∧ 0 ≤ x.2 ∧ x.2 ≤ 1048576
theorem sumF_bd : ∀ {l : List (Int × Int)}, (∀ x ∈ l, fair x) → 0 ≤ sumI l ∧ sumI l ≤ 1048576 * l.length
  | [], _ => by simp [sumI]
  | x :: r, h => by
    obtain ⟨h1, h2⟩ := sumF_bd (l := r) fun y hy => h y (by simp [hy])
    obtain ⟨_, _, h3, h4⟩ := h x (by simp)
    simp only [sumI, List.length_cons]
    exact ⟨by omega, by omega⟩
theorem drop_at {l : List (Int × Int)} {k : Nat} (hk : k < l.length) : ∃ y, l[k]? = some y ∧ l.drop k = y :: l.drop (k + 1) :=
  ⟨l[k], List.getElem?_eq_getElem hk, List.drop_eq_getElem_cons hk⟩
theorem take_at {l : List (Int × Int)} {k : Nat} {y : Int × Int} (hy : l[k]? = some y) : l.take (k + 1) = l.take k ++ [y] := by
  rw [List.take_add_one, hy]; rfl
section
variable {target interval : Int} {a g : Option Addr} {cap gcap : Nat} {l : List (Int × Int)} {gs : List Int} {h : Heap}
theorem codelRuns_r (hs : Itm h a l) (hg : Nums h g gs) : Runs Try.prog 8 #[.slice a l.length cap, .slice g gs.length gcap, .int .i64 target, .int .i64 interval] h fun v h' => v = .bool true ∧ Kept h h' := by
  refine vc_muezzinlaw11_CodelRuns _ _ _ _ _ _ _ _ _ _ ((first11_c _).mono ?_)
  rintro _ h1 ⟨rfl, k⟩
  have m := Mem.ofKept k
  refine ⟨_, rfl, bcase_false rfl ?_⟩
  refine ⟨fun x h' => h' = h1 ∧ (x = false → l.length ≤ 40 ∧ gs.length ≤ 60), dcase_intro (fun _ => ⟨rfl, fun h => by cases h⟩) (fun q => ⟨rfl, fun q2 => by simp at q2; omega⟩), fun _ => ?_⟩
  rintro x1 h2 ⟨rfl, hx1⟩
  refine ⟨fun x h' => h' = h2 ∧ (x = false → l.length ≤ 40 ∧ gs.length ≤ 60 ∧ 0 ≤ target), bcase_intro (fun _ => ⟨rfl, fun h => by cases h⟩) (fun q => ⟨rfl, fun q2 => by have := hx1 q; simp at q2; omega⟩), fun _ => ?_⟩
  rintro x2 h3 ⟨rfl, hx2⟩
  refine ⟨fun x h' => h' = h3 ∧ (x = false → l.length ≤ 40 ∧ gs.length ≤ 60 ∧ 0 ≤ target ∧ target ≤ 1073741824), bcase_intro (fun _ => ⟨rfl, fun h => by cases h⟩) (fun q => ⟨rfl, fun q2 => by have := hx2 q; simp at q2; omega⟩), fun _ => ?_⟩
  rintro x3 h4 ⟨rfl, hx3⟩
  refine ⟨fun x h' => h' = h4 ∧ (x = false → l.length ≤ 40 ∧ gs.length ≤ 60 ∧ 0 ≤ target ∧ target ≤ 1073741824 ∧ 0 ≤ interval), bcase_intro (fun _ => ⟨rfl, fun h => by cases h⟩) (fun q => ⟨rfl, fun q2 => by have := hx3 q; simp at q2; omega⟩), fun _ => ?_⟩
  rintro x4 h5 ⟨rfl, hx4⟩
  refine bcase_intro (fun _ => ⟨rfl, m.kept⟩) fun q => ?_
  obtain ⟨ll, lg, t0, t1, i0⟩ := hx4 q
  refine dcase_intro (fun _ => ⟨rfl, m.kept⟩) fun i1 => ?_
  clear hx1 hx2 hx3 hx4 q
  refine ⟨fun now bytes i h' => ∃ k : Nat, i = k ∧ k ≤ l.length ∧ Mem h h' [] [] ∧ 0 ≤ now ∧ now ≤ 1099511627776 ∧ bytes = sumI (l.take k) ∧ ∀ x ∈ l.take k, fair x,
    fun _ _ i _ => ((l.length : Nat) - i : Int).toNat, ⟨0, rfl, by omega, m, by decide, by decide, rfl, by simp⟩, fun _ => ?_⟩
  clear m k
  rintro now _ _ h6 ⟨k, rfl, hk, m, n0, n1, rfl, hf⟩
  refine dcase_intro (fun q => ?_) fun q => ?_
  · have hkl : k < l.length := by omega
    obtain ⟨y, hy, hd⟩ := drop_at hkl
    obtain ⟨b, o, rfl, hrow⟩ := hs.mem m (by simp) k y hy
    have hc0 := (row_iff.1 hrow).2 0 _ rfl
    have hc1 := (row_iff.1 hrow).2 1 _ rfl
    simp only [Nat.add_zero] at hc0
    obtain ⟨s0, s1⟩ := sumF_bd hf
    have hlt : (l.take k).length ≤ 40 := by simp; omega
    simp only [onAddr, Int.toNat_natCast]
    refine ⟨fun x h' => h' = h6 ∧ (x = false → 0 ≤ y.1 ∧ y.1 ≤ 1099511627776), ⟨⟨by omega, by omega⟩, _, hc0, dcase_intro (fun _ => ⟨rfl, fun h => by cases h⟩) fun q1 => ⟨⟨by omega, by omega⟩, _, hc0, rfl, fun q2 => by simp at q2; omega⟩⟩, fun _ => ?_⟩
    rintro x8 h7 ⟨rfl, hx8⟩
    refine ⟨fun x h' => h' = h7 ∧ (x = false → 0 ≤ y.1 ∧ y.1 ≤ 1099511627776 ∧ 0 ≤ y.2), bcase_intro (fun _ => ⟨rfl, fun h => by cases h⟩) (fun q1 => ⟨⟨by omega, by omega⟩, _, hc1, rfl, fun q2 => by have := hx8 q1; simp at q2; omega⟩), fun _ => ?_⟩
    rintro x9 h8 ⟨rfl, hx9⟩
    refine bcase_intro (fun _ => ⟨trivial, m.kept⟩) fun q1 => ⟨⟨by omega, by omega⟩, _, hc1, dcase_intro (fun _ => ⟨trivial, m.kept⟩) fun q2 => ?_⟩
    obtain ⟨y0, y1, y2⟩ := hx9 q1
    refine ⟨⟨by omega, by omega⟩, _, hc0, ⟨by omega, by omega⟩, _, hc1, by simp only [fits]; omega, by simp only [fits]; omega, ⟨k + 1, by omega, by omega, m, by omega, by omega, ?_, ?_⟩, by omega⟩
    · rw [take_at hy, sumI_append]; simp [sumI]
    · rw [take_at hy]
      intro z hz
      rcases List.mem_append.1 hz with hz | hz
      · exact hf z hz
      · simp at hz; subst hz; exact ⟨y0, y1, y2, by omega⟩
  · have hkl : k = l.length := by omega
    subst hkl
    rw [List.take_length] at hf ⊢
    intro b7 h9 e1 e2 b8 h10 e3 e4
    replace m := (m.push e2 e1).push e4 e3
    obtain ⟨T7, T8, m⟩ : ∃ T7 T8, Mem h h10 [] [(b8, cV z0, T8), (b7, cV z0, T7)] := ⟨_, _, m⟩
    clear e1 e2 e3 e4 q hk
    refine ⟨fun ra rl rc h' => rl = l.length ∧ ∃ E, Mem h h' [] (E ++ [(b8, cV z0, T8), (b7, cV z0, T7)]) ∧ Own ra rl rc 2 (flatI l) E, ?_, fun _ => ?_⟩
    · intro b9 h11 e1 e2
      replace m := m.push e2 e1
      refine ⟨flatI l, ⟨(hs.mem m (by simp)).src, flatI_one l⟩, ?_⟩
      exact (Own.fresh (b := b9) (l := 0) (sz := 2) (vs := []) (T := _) rfl).append (k := l.length) (us := flatI l) (bytes := 16) (Q := fun a' c' h' => 0 + l.length = l.length ∧ ∃ E, Mem h h' [] (E ++ [(b8, cV z0, T8), (b7, cV z0, T7)]) ∧ Own a' (0 + l.length) c' 2 (flatI l) E) m (flatI_len l) (by omega) (by decide) fun a' c' E' h' m' o' => ⟨by omega, E', m', o'⟩
    · clear m
      rintro ra rl rc h14 ⟨rfl, E, m, ho⟩
      refine ⟨fun now bytes ra rl rc i h' => ∃ (its : List (Int × Int)) (s : CSt) (E : List (Nat × List Value × TypeId)) (k : Nat), i = k ∧ k ≤ gs.length ∧ Mem h h' [] (E ++ [(b8, cV s, T8), (b7, cV s, T7)]) ∧ Own ra rl rc 2 (flatI its) E ∧ its.length = rl ∧ rl ≤ 40 ∧ bytes = sumI its ∧
          0 ≤ now ∧ now ≤ 1099511627776 + 1048576 * (k : Int) ∧ (∀ x ∈ its, fair x) ∧ CBd s,
        fun _ _ _ _ _ i _ => ((gs.length : Nat) - i : Int).toNat, ⟨l, z0, E, 0, rfl, by omega, m, ho, rfl, ll, rfl, n0, by omega, hf, by constructor <;> decide⟩, fun _ => ?_⟩
      clear m ho hf n0 n1
      rintro now _ ra rl rc _ h15 ⟨its, s, E, k, rfl, hk, m, ho, hl, hl40, rfl, n0, n1, hf, hb⟩
      refine dcase_intro (fun q => ?_) fun q => ⟨rfl, m.sub (L' := []) ⟨_, List.Perm.refl _⟩ |>.kept⟩
      obtain ⟨x, hx⟩ : ∃ x, gs[k]? = some x := ⟨_, List.getElem?_eq_getElem (by omega)⟩
      obtain ⟨b, o, rfl, hgc⟩ := hg.mem m k x hx
      obtain ⟨u0, u1⟩ := sumF_bd hf
      refine ⟨fun now' bytes' ra' rl' rc' h' => ∃ (its : List (Int × Int)) (s : CSt) (E : List (Nat × List Value × TypeId)), Mem h h' [] (E ++ [(b8, cV s, T8), (b7, cV s, T7)]) ∧ Own ra' rl' rc' 2 (flatI its) E ∧ its.length = rl' ∧ rl' ≤ 40 ∧ bytes' = sumI its ∧
          0 ≤ now' ∧ now' ≤ 1099511627776 + 1048576 * ((k : Int) + 1) ∧ (∀ x ∈ its, fair x) ∧ CBd s, ?_, fun _ => ?_⟩
      rotate_left
      · rintro now' _ ra' rl' rc' h33 ⟨its', s', E', m', ho', hl', hl40', rfl, n0', n1', hf', hb'⟩
        exact ⟨by simp only [fits]; omega, ⟨its', s', E', k + 1, by omega, by omega, m', ho', hl', hl40', rfl, n0', by omega, hf', hb'⟩, by dsimp only; omega⟩
      simp only [onAddr, Int.toNat_natCast]
      refine ⟨⟨by omega, by omega⟩, _, hgc, (number_c _ _ _ (by decide) (by decide)).ret ⟨_, rfl, ?_⟩⟩
      have nn : 0 ≤ x % 1048576 ∧ x % 1048576 < 1048576 := by omega
      generalize x % 1048576 = d at *
      refine ⟨by simp only [fits]; omega, ?_⟩
      have hnow : 0 ≤ now + d ∧ now + d ≤ 1099511627776 + 1048576 * ((k : Int) + 1) := by omega
      generalize now + d = now' at *
      replace m : Mem h h15 [] ((b8, cV s, T8) :: (b7, cV s, T7) :: E) := m.sub ⟨[], by rw [List.append_nil]; exact List.perm_append_comm⟩
      have toE : ∀ {h' : Heap} {K : List (Nat × List Value × TypeId)}, Mem h h' [] (K ++ E) → Mem h h' [] (E ++ K) := fun m => m.sub ⟨[], by rw [List.append_nil]; exact List.perm_append_comm⟩
      have hlen := ho.len
      have tc : clampZ target 1073741824 = target := by unfold clampZ; omega
      have ic : clampZ interval 1073741824 = interval := by unfold clampZ; omega
      have hE : CEn now' (clampZ target 1073741824) (clampZ interval 1073741824) its := ⟨by omega, by omega, by omega, by omega, by omega, by omega, by omega, fun x hx => by
        obtain ⟨h1, h2, h3, h4⟩ := hf x hx
        exact ⟨h1, by omega, h4⟩⟩
      have hI : CIn { s with bytes := sumI its, pos := 0 } := ⟨hb.f0, hb.f1, hb.d0, hb.d1, hb.c0, hb.c1, hb.l0, hb.l1, by dsimp only; omega, by dsimp only; omega, rfl⟩
      have hit : ∀ {h' : Heap} {K : List (Nat × List Value × TypeId)}, Mem h h' [] (K ++ E) → Itm h' ra its := fun m => own_itm0 ho (toE m)
      refine ⟨_, (m.blk 1 rfl).row_eq rfl (Nat.le_of_ble_eq_true rfl), ?_⟩
      have p1 := pull_c (cap := rc) (c := s) hE (hit (K := [_, _]) m) hI
      have p2 : ∀ h', Itm h' ra its → _ := fun h' hi => refpull_c (cap := rc) (c := s) hE (h := h') hi hI
      have hbd := runZ_bd hE hI
      obtain ⟨f1, f2, f3⟩ := runZ_facts (now := now') (tg := clampZ target 1073741824) (iv := clampZ interval 1073741824) (l := its) (s := { s with bytes := sumI its, pos := 0 }) rfl rfl
      generalize runZ now' (clampZ target 1073741824) (clampZ interval 1073741824) its { s with bytes := sumI its, pos := 0 } = R at *
      rw [hl] at p1 p2
      obtain ⟨t, is⟩ := R
      dsimp only at *
      refine p1.mono ?_
      rintro _ h17 ⟨rfl, k'⟩
      replace m := m.call0 (Mem.ofKept k')
      clear k' p1
      refine ⟨_, _, _, rfl, ?_⟩
      intro b12 h18 e1 e2
      replace m := m.push e2 e1
      refine ⟨⟨rfl, (m.blk 0 rfl).wrs (Nat.le_of_ble_eq_true rfl), by simp [cV, Value.oneCell']⟩, ?_⟩
      intro h19 e3
      replace m := m.setr 0 rfl e3
      obtain ⟨Ta, m⟩ : ∃ Ta, Mem h h19 [] ((b12, cV t, Ta) :: (b8, cV s, T8) :: (b7, cV s, T7) :: E) := ⟨_, m⟩
      clear e1 e2 e3
      refine ⟨_, (m.blk 1 rfl).row_eq rfl (Nat.le_of_ble_eq_true rfl), ?_⟩
      refine (p2 _ (hit (K := [_, _, _]) m)).mono ?_
      rintro _ h20 ⟨rfl, k'⟩
      replace m := m.call0 (Mem.ofKept k')
      clear k' p2
      refine ⟨_, _, _, rfl, ?_⟩
      intro b13 h21 e1 e2
      replace m := m.push e2 e1
      refine ⟨⟨rfl, (m.blk 0 rfl).wrs (Nat.le_of_ble_eq_true rfl), by simp [cV, Value.oneCell']⟩, ?_⟩
      intro h22 e3
      replace m := m.setr 0 rfl e3
      obtain ⟨Tb, m⟩ : ∃ Tb, Mem h h22 [] ((b13, cV t, Tb) :: (b12, cV t, Ta) :: (b8, cV s, T8) :: (b7, cV s, T7) :: E) := ⟨_, m⟩
      clear e1 e2 e3
      refine ⟨fun x h' => x = false ∧ Mem h h' [] ((b13, cV t, Tb) :: (b12, cV t, Ta) :: (b8, cV s, T8) :: (b7, cV s, T7) :: E), ?_, fun _ => ?_⟩
      · refine ⟨_, (m.blk 1 rfl).row_eq rfl (Nat.le_of_ble_eq_true rfl), ?_⟩
        refine ⟨_, (m.blk 0 rfl).row_eq rfl (Nat.le_of_ble_eq_true rfl), ?_⟩
        refine (same_c t t _).mono ?_
        rintro _ h23 ⟨rfl, k'⟩
        exact ⟨_, rfl, bcase_false (by rw [sameZ_refl]; rfl) ⟨by simp, m.call0 (Mem.ofKept k')⟩⟩
      clear m
      rintro _ h24 ⟨rfl, m⟩
      refine segF (h := h24) (bcase_false rfl ⟨by simp, rfl⟩) (bcase_false rfl (dcase_neg (by omega) ?_))
      refine ⟨_, (m.blk 1 rfl).row_eq rfl (Nat.le_of_ble_eq_true rfl), ⟨rfl, (m.blk 3 rfl).wrs (Nat.le_of_ble_eq_true rfl), by simp [cV, Value.oneCell']⟩, ?_⟩
      intro h26 e3
      replace m := m.setr 3 rfl e3
      refine ⟨_, (m.blk 0 rfl).row_eq rfl (Nat.le_of_ble_eq_true rfl), ⟨rfl, (m.blk 2 rfl).wrs (Nat.le_of_ble_eq_true rfl), by simp [cV, Value.oneCell']⟩, ?_⟩
      intro h27 e4
      replace m := m.setr 2 rfl e4
      replace m : Mem h h27 [] ((b13, cV t, Tb) :: (b12, cV t, Ta) :: (b8, cV t, T8) :: (b7, cV t, T7) :: E) := m
      clear e3 e4
      refine ⟨fun n h' => h' = h27 ∧ ∃ j : Nat, n = j ∧ j ≤ its.length, bcase_intro (fun q1 => ⟨by simp only [fits]; omega, rfl, t.pos + 1, by omega, by rw [q1] at f1; simp at f1; omega⟩) (fun q1 => ⟨rfl, t.pos, rfl, f2⟩), fun _ => ?_⟩
      rintro _ h28 ⟨rfl, n, rfl, hn⟩
      refine ⟨fun bytes i h' => h' = h28 ∧ ∃ j : Nat, i = j ∧ j ≤ n ∧ bytes = sumI (its.drop j), fun _ i _ => ((n : Int) - i).toNat, ⟨rfl, 0, rfl, by omega, rfl⟩, fun _ => ?_⟩
      rintro _ _ h29 ⟨rfl, j, rfl, hj, rfl⟩
      refine dcase_intro (fun q1 => ?_) fun q1 => ?_
      · obtain ⟨y, hy, hd⟩ := drop_at (show j < its.length by omega)
        obtain ⟨b', o', rfl, hrow⟩ := (hit (K := [_, _, _, _]) m) j y hy
        have hc1 := (row_iff.1 hrow).2 1 _ rfl
        have hfd : ∀ x ∈ its.drop j, fair x := fun x hx => hf x (List.mem_of_mem_drop hx)
        obtain ⟨w0, w1⟩ := sumF_bd hfd
        have wl : (its.drop j).length ≤ 40 := by simp; omega
        obtain ⟨_, _, y2, y3⟩ := hf y (List.mem_of_getElem? hy)
        have hs1 : sumI (its.drop j) = y.2 + sumI (its.drop (j + 1)) := by rw [hd]; rfl
        refine ⟨⟨by omega, by omega⟩, ?_⟩
        refine ⟨_, hc1, by simp only [fits]; omega, by simp only [fits]; omega, ⟨rfl, j + 1, by omega, by omega, by omega⟩, by dsimp only; omega⟩
      · have hjn : j = n := by omega
        subst hjn
        intro b15 h30 e1 e2
        replace m := m.push e2 e1
        have mE : Mem h h30 [] (E ++ [(b15, [], _), (b13, cV t, Tb), (b12, cV t, Ta), (b8, cV t, T8), (b7, cV t, T7)]) := toE (K := [_, _, _, _, _]) m
        refine ⟨⟨by omega, by omega⟩, flatI (its.drop j), ⟨own_src ho mE hl (by omega), flatI_one _⟩, ?_⟩
        have m3 : Mem h h30 [] ([(b15, [], _)] ++ [(b8, cV t, T8), (b7, cV t, T7)]) := m.sub ⟨(b13, cV t, Tb) :: (b12, cV t, Ta) :: E, by
          refine (List.Perm.cons _ ?_)
          refine (List.perm_append_comm (l₁ := [_, _]) (l₂ := [_, _] ++ E)).trans ?_
          rw [List.append_assoc]
          exact List.Perm.append_left _ List.perm_append_comm⟩
        exact (Own.fresh (b := b15) (l := 0) (sz := 2) (vs := []) (T := _) rfl).append (k := rl - j) (us := flatI (its.drop j)) (bytes := 16) (Q := fun a' c' h' => ∃ (it2 : List (Int × Int)) (s2 : CSt) (E : List (Nat × List Value × TypeId)), Mem h h' [] (E ++ [(b8, cV s2, T8), (b7, cV s2, T7)]) ∧ Own a' (0 + (rl - j)) c' 2 (flatI it2) E ∧ it2.length = 0 + (rl - j) ∧ 0 + (rl - j) ≤ 40 ∧ sumI (its.drop j) = sumI it2 ∧
          0 ≤ now' ∧ now' ≤ 1099511627776 + 1048576 * ((k : Int) + 1) ∧ (∀ x ∈ it2, fair x) ∧ CBd s2) m3 (by rw [flatI_len]; simp; omega) (by omega) (by decide) fun a' c' E' h' m' o' => ⟨its.drop j, t, E', m', o', by simp; omega, by omega, rfl, hnow.1, hnow.2, fun x hx => hf x (List.mem_of_mem_drop hx), hbd⟩
end
theorem walk_CodelRuns (w : World) (a0 : Option Addr) (len0 cap0 : Nat) (z0 : List (Int × Int)) (zl0 : z0.length = len0) (lc0 : len0 ≤ cap0) (hz0 : ∀ (i : Nat) (x : Int × Int), z0[i]? = some x → (∃ b o, a0 = some ⟨b, o, none⟩ ∧ row w.heap b (o + i * 2) 2 = some [.int .i64 (x.1), .int .i64 (x.2)]) ∧ (Lit.int .i64 x.1).wf = true ∧ (Lit.int .i64 x.2).wf = true)
    (a1 : Option Addr) (len1 cap1 : Nat) (z1 : List Int) (zl1 : z1.length = len1) (lc1 : len1 ≤ cap1) (hz1 : ∀ (i : Nat) (x : Int), z1[i]? = some x → (∃ b o, a1 = some ⟨b, o, none⟩ ∧ cell w.heap b (o + i) = some (.int .i64 x)) ∧ (Lit.int .i64 x).wf = true)
    (a2 : Int) (_ : (Lit.int .i64 a2).wf = true) (a3 : Int) (_ : (Lit.int .i64 a3).wf = true) :
    Calls Try.prog 8 #[.slice a0 len0 cap0, .slice a1 len1 cap1, .int .i64 a2, .int .i64 a3] w fun e w' => e = .returned (.bool true) ∧ Go.RowKit.Below w.heap.size w w' := by
  subst zl0 zl1
  exact calls_of_runs (codelRuns_r (fun i x hx => (hz0 i x hx).1) fun i x hx => (hz1 i x hx).1)
end Go.Proofs.Ytpecigkicmgbdaa
