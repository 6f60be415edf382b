/- The contracts of the package codel and of the document's pull. -/
import Derived.Test.YtpcilleldanfmaaDoorGenAll1
import Derived.Test.YtpcilleldanfmaaDoorCodelPlain
import Derived.Test.YtpcilleldanfmaaDoorInv
import Derived.Test.YtpcilleldanfmaaDoorMem
set_option linter.unusedVariables false
set_option linter.unusedSimpArgs false
namespace Go.Proofs.YtpcilleldanfmaaDoor
open Go.Vc


def itemV (x : Int × Int) : List Value := [.int .i64 x.1, .int .i64 x.2]
def flatI : List (Int × Int) → List Value
  | [] => []
  | x :: r => .int .i64 x.1 :: .int .i64 x.2 :: flatI r
theorem flatI_len : ∀ l : List (Int × Int), (flatI l).length = l.length * 2
  | [] => rfl
  | x :: r => by simp only [flatI, List.length_cons, flatI_len r]; omega
/-- A slice of items: where each lies. -/
def Itm (h : Heap) (a : Option Addr) (l : List (Int × Int)) : Prop :=
  ∀ (i : Nat) (x : Int × Int), l[i]? = some x → ∃ b o, a = some ⟨b, o, none⟩ ∧ row h b (o + i * 2) 2 = some [.int .i64 x.1, .int .i64 x.2]
theorem Itm.mem {h0 h : Heap} {S : List Nat} {L : List (Nat × List Value × TypeId)} {a : Option Addr} {l : List (Int × Int)} (hi : Itm h0 a l) (m : Mem h0 h S L) (hne : l ≠ [] → ∀ b ∈ blkOf a, b ∉ S) : Itm h a l := by
  intro i x hx
  obtain ⟨b, o, rfl, h2⟩ := hi i x hx
  exact ⟨b, o, rfl, m.row (hne (by rintro rfl; simp at hx) b (by simp [blkOf])) h2⟩
theorem Itm.lt {h : Heap} {a : Option Addr} {l : List (Int × Int)} (hi : Itm h a l) (hl : l ≠ []) : ∀ b ∈ blkOf a, b < h.size := by
  intro b hb
  obtain ⟨x, hx⟩ : ∃ x, l[0]? = some x := ⟨_, List.getElem?_eq_getElem (List.length_pos_iff.2 hl)⟩
  obtain ⟨c, o, rfl, h2⟩ := hi 0 x hx
  simp [blkOf] at hb; subst hb
  have h3 := (row_iff.1 h2).2 0 _ rfl
  rcases Nat.lt_or_ge b h.size with h' | h'
  · exact h'
  · unfold cell at h3; rw [Array.getElem?_eq_none h'] at h3; cases h3
theorem Itm.of_src {h : Heap} {a : Option Addr} {l : List (Int × Int)} (hs : ∀ l' : List Value, l' = flatI l → src h a (l.length * 2) l') : Itm h a l := by
  intro i x hx
  have hi := (List.getElem?_eq_some_iff.1 hx).1
  obtain ⟨b, o, h1, h2⟩ := src_at (k := i * 2) (n := 2) (hs _ rfl) (by rw [flatI_len]; omega) (by decide)
  refine ⟨b, o, h1, ?_⟩
  rw [h2]
  have key : ∀ {l : List (Int × Int)} {i : Nat}, l[i]? = some x → ((flatI l).drop (i * 2)).take 2 = [.int .i64 x.1, .int .i64 x.2] := by
    intro l
    induction l with
    | nil => intro i h; simp at h
    | cons y r ih =>
      intro i h
      cases i with
      | zero => simp at h; subst h; simp [flatI]
      | succ i =>
        rw [show (i + 1) * 2 = i * 2 + 2 by omega]
        simp only [flatI, List.drop_succ_cons]
        exact ih (by simpa using h)
  rw [key hx]
/-- The cells of a queue that is looked at. -/
def stV (now tg iv : Int) (a : Option Addr) (len cap : Nat) (s : CSt) : List Value :=
  [.int .i64 s.first, .int .i64 s.drop, .int .u32 s.count, .int .u32 s.last, .bool s.dropping, .int .i64 now, .int .i64 tg, .int .i64 iv, .int .i64 s.bytes, .slice a len cap, .int .i64 s.pos]

section
variable {now tg iv : Int} {a : Option Addr} {cap : Nat} {l : List (Int × Int)} {s : CSt} {h : Heap} {b : Nat} {T : TypeId}
theorem look_c (hE : CEn now tg iv l) (hb : Blk h b (stV now tg iv a l.length cap s) T) (hs : Itm h a l) (hne : l ≠ [] → b ∉ blkOf a)
    (f0 : 0 ≤ s.first) (f1 : s.first ≤ 2251799813685248) (b0 : -1152921504606846976 ≤ s.bytes) (b1 : s.bytes ≤ 1152921504606846976) :
    Runs Tryd.prog 91 #[.pointer (some ⟨b, 0, none⟩)] h fun v h' =>
      v = .tuple #[.bool (lookZ now tg iv l s).2.1, .bool (lookZ now tg iv l s).2.2] ∧ Mem h h' [b] [(b, stV now tg iv a l.length cap (lookZ now tg iv l s).1, T)] := by
  obtain ⟨n0, n1, t0, t1, i0, i1, len, ia⟩ := hE
  refine vc_codel_state_look _ _ _ ?_
  simp only [onAddr, Nat.zero_add]
  have m := Mem.start1 hb
  unfold stV at m
  refine ⟨_, Mem.cell m 0 rfl rfl, ?_⟩
  refine ⟨_, _, _, Mem.cell m 0 rfl rfl, ?_⟩
  refine dcase_intro (fun c => ?_) fun c => ?_
  · (refine Mem.store m 0 rfl (by simp only [List.length]; decide) ?_; clear m; intro _ m; simp only [List.set_cons_zero, List.set_cons_succ] at m)
    have e : l[s.pos]? = none := List.getElem?_eq_none (by omega)
    refine ⟨by simp only [lookZ, e], ?_⟩
    simp only [lookZ, e]; exact m
  · have hlt : s.pos < l.length := by omega
    obtain ⟨x, hx⟩ : ∃ x, l[s.pos]? = some x := ⟨_, List.getElem?_eq_getElem hlt⟩
    obtain ⟨x0, x1, x2⟩ := ia x (List.mem_of_getElem? hx)
    obtain ⟨ba, oa, rfl, hrow⟩ := hs _ _ hx
    refine ⟨_, _, _, Mem.cell m 0 rfl rfl, ?_⟩
    refine ⟨_, Mem.cell m 0 rfl rfl, ?_⟩
    refine ⟨⟨by omega, by omega⟩, ?_⟩
    simp only [Int.toNat_natCast]
    refine ⟨_, hrow, ?_⟩
    intro b7 h2 e7 e8
    replace m := m.push e8 e7
    refine ⟨⟨rfl, (m.blk 0 rfl).wrs (by decide), by simp [Value.oneCell']⟩, ?_⟩
    intro h3 e9
    replace m := m.setr 0 rfl e9
    simp only [List.set_cons_zero, List.set_cons_succ, setL] at m
    refine ⟨_, Mem.cell m 1 rfl rfl, ?_⟩
    refine ⟨_, Mem.cell m 0 rfl rfl, ?_⟩
    refine ⟨by simp only [fits]; omega, ?_⟩
    (refine Mem.store m 1 rfl (by simp only [List.length]; decide) ?_; clear m; intro _ m; simp only [List.set_cons_zero, List.set_cons_succ] at m)
    refine ⟨_, Mem.cell m 1 rfl rfl, ?_⟩
    refine ⟨_, Mem.cell m 0 rfl rfl, ?_⟩
    refine ⟨by simp only [fits]; omega, ?_⟩
    refine ⟨_, Mem.cell m 1 rfl rfl, ?_⟩
    refine dcase_intro (fun c1 => ?_) fun c1 => ?_
    · (refine Mem.store m 1 rfl (by simp only [List.length]; decide) ?_; clear m; intro _ m; simp only [List.set_cons_zero, List.set_cons_succ] at m)
      simp only [lookZ, hx]
      rw [if_pos (.inl c1)]
      exact ⟨rfl, m.forget 0⟩
    · refine ⟨_, Mem.cell m 1 rfl rfl, ?_⟩
      refine dcase_intro (fun c2 => ?_) fun c2 => ?_
      · (refine Mem.store m 1 rfl (by simp only [List.length]; decide) ?_; clear m; intro _ m; simp only [List.set_cons_zero, List.set_cons_succ] at m)
        simp only [lookZ, hx]
        rw [if_pos (.inr c2)]
        exact ⟨rfl, m.forget 0⟩
      · refine ⟨_, Mem.cell m 1 rfl rfl, ?_⟩
        simp only [lookZ, hx]
        rw [if_neg (by omega)]
        refine dcase_intro (fun c3 => ?_) fun c3 => ?_
        · refine ⟨_, Mem.cell m 1 rfl rfl, ?_⟩
          refine ⟨_, Mem.cell m 1 rfl rfl, ?_⟩
          refine ⟨by simp only [fits]; omega, ?_⟩
          (refine Mem.store m 1 rfl (by simp only [List.length]; decide) ?_; clear m; intro _ m; simp only [List.set_cons_zero, List.set_cons_succ] at m)
          rw [if_pos c3]
          exact ⟨rfl, m.forget 0⟩
        · refine ⟨_, Mem.cell m 1 rfl rfl, ?_⟩
          refine ⟨_, Mem.cell m 1 rfl rfl, ?_⟩
          rw [if_neg c3]
          exact ⟨rfl, m.forget 0⟩
theorem reflook_c (hE : CEn now tg iv l) (hb : Blk h b (stV now tg iv a l.length cap s) T) (hs : Itm h a l) (hne : l ≠ [] → b ∉ blkOf a)
    (f0 : 0 ≤ s.first) (f1 : s.first ≤ 2251799813685248) (b0 : -1152921504606846976 ≤ s.bytes) (b1 : s.bytes ≤ 1152921504606846976) :
    Runs Tryd.prog 84 #[.pointer (some ⟨b, 0, none⟩)] h fun v h' =>
      v = .tuple #[.bool (lookZ now tg iv l s).2.1, .bool (lookZ now tg iv l s).2.2] ∧ Mem h h' [b] [(b, stV now tg iv a l.length cap (lookZ now tg iv l s).1, T)] := by
  obtain ⟨n0, n1, t0, t1, i0, i1, len, ia⟩ := hE
  refine vc_muezzinref8_pull_look _ _ _ ?_
  simp only [onAddr, Nat.zero_add]
  have m := Mem.start1 hb
  unfold stV at m
  refine ⟨_, Mem.cell m 0 rfl rfl, ?_⟩
  refine ⟨_, _, _, Mem.cell m 0 rfl rfl, ?_⟩
  refine dcase_intro (fun c => ?_) fun c => ?_
  · (refine Mem.store m 0 rfl (by simp only [List.length]; decide) ?_; clear m; intro _ m; simp only [List.set_cons_zero, List.set_cons_succ] at m)
    have e : l[s.pos]? = none := List.getElem?_eq_none (by omega)
    refine ⟨by simp only [lookZ, e], ?_⟩
    simp only [lookZ, e]; exact m
  · have hlt : s.pos < l.length := by omega
    obtain ⟨x, hx⟩ : ∃ x, l[s.pos]? = some x := ⟨_, List.getElem?_eq_getElem hlt⟩
    obtain ⟨x0, x1, x2⟩ := ia x (List.mem_of_getElem? hx)
    obtain ⟨ba, oa, rfl, hrow⟩ := hs _ _ hx
    have hc0 := (row_iff.1 hrow).2 0 _ rfl
    have hc1 := (row_iff.1 hrow).2 1 _ rfl
    simp only [Nat.add_zero] at hc0
    have hba : ba ≠ b := fun e => hne (by rintro rfl; simp at hx) (by simp [blkOf, e])
    refine ⟨_, Mem.cell m 0 rfl rfl, ?_⟩
    refine ⟨_, _, _, Mem.cell m 0 rfl rfl, ?_⟩
    refine ⟨_, Mem.cell m 0 rfl rfl, ?_⟩
    refine ⟨⟨by omega, by omega⟩, ?_⟩
    simp only [Int.toNat_natCast]
    refine ⟨_, hc1, by simp only [fits]; omega, ?_⟩
    (refine Mem.store m 0 rfl (by simp only [List.length]; decide) ?_; clear m; intro _ m; simp only [List.set_cons_zero, List.set_cons_succ] at m)
    refine ⟨_, Mem.cell m 0 rfl rfl, ?_⟩
    refine ⟨_, _, _, Mem.cell m 0 rfl rfl, ?_⟩
    refine ⟨_, Mem.cell m 0 rfl rfl, ?_⟩
    refine ⟨⟨by omega, by omega⟩, ?_⟩
    simp only [Int.toNat_natCast]
    refine ⟨_, m.cell_old (by simpa using hba) hc0, by simp only [fits]; omega, ?_⟩
    refine ⟨_, Mem.cell m 0 rfl rfl, ?_⟩
    refine dcase_intro (fun c1 => ?_) fun c1 => ?_
    · (refine Mem.store m 0 rfl (by simp only [List.length]; decide) ?_; clear m; intro _ m; simp only [List.set_cons_zero, List.set_cons_succ] at m)
      simp only [lookZ, hx]
      rw [if_pos (.inl c1)]
      exact ⟨rfl, m⟩
    · refine ⟨_, Mem.cell m 0 rfl rfl, ?_⟩
      refine dcase_intro (fun c2 => ?_) fun c2 => ?_
      · (refine Mem.store m 0 rfl (by simp only [List.length]; decide) ?_; clear m; intro _ m; simp only [List.set_cons_zero, List.set_cons_succ] at m)
        simp only [lookZ, hx]
        rw [if_pos (.inr c2)]
        exact ⟨rfl, m⟩
      · refine ⟨_, Mem.cell m 0 rfl rfl, ?_⟩
        simp only [lookZ, hx]
        rw [if_neg (by omega)]
        refine dcase_intro (fun c3 => ?_) fun c3 => ?_
        · refine ⟨_, Mem.cell m 0 rfl rfl, ?_⟩
          refine ⟨_, Mem.cell m 0 rfl rfl, ?_⟩
          refine ⟨by simp only [fits]; omega, ?_⟩
          (refine Mem.store m 0 rfl (by simp only [List.length]; decide) ?_; clear m; intro _ m; simp only [List.set_cons_zero, List.set_cons_succ] at m)
          rw [if_pos c3]
          exact ⟨rfl, m⟩
        · refine ⟨_, Mem.cell m 0 rfl rfl, ?_⟩
          refine ⟨_, Mem.cell m 0 rfl rfl, ?_⟩
          rw [if_neg c3]
          exact ⟨rfl, m⟩
theorem apart1 (hne : l ≠ [] → b ∉ blkOf a) : l ≠ [] → ∀ c ∈ blkOf a, c ∉ [b] := fun hl c hc hcb => hne hl (by simp at hcb; exact hcb ▸ hc)
theorem COk.look (hE : CEn now tg iv l) (hk : COk l s) (hp : s.pos + 1 ≤ l.length) : COk l (lookZ now tg iv l { s with pos := s.pos + 1, count := upC s.count }).1 := by
  obtain ⟨e1, e2, e3, e4, e5⟩ := lookZ_same now tg iv l { s with pos := s.pos + 1, count := upC s.count }
  obtain ⟨f0, f1⟩ := lookZ_first (s := { s with pos := s.pos + 1, count := upC s.count }) hE hk.f0 hk.f1
  obtain ⟨b0, b1⟩ := lookZ_bytes (s := { s with pos := s.pos + 1, count := upC s.count }) hE
  obtain ⟨u0, u1⟩ := upC_ok hk.c0 hk.c1
  have := hk.b0
  have := hk.b1
  dsimp only at *
  exact ⟨f0, f1, by rw [e1]; exact hk.d0, by rw [e1]; exact hk.d1, by rw [e2]; exact u0, by rw [e2]; exact u1, by rw [e3]; exact hk.l0, by rw [e3]; exact hk.l1, by rw [e5]; omega, by omega, by rw [e5]; omega⟩
def posOf (h : Heap) (b : Nat) : Nat := match cell h b 10 with | some (.int _ n) => n.toNat | _ => 0
theorem more_c (hE : CEn now tg iv l) (hb : Blk h b (stV now tg iv a l.length cap s) T) (hs : Itm h a l) (hne : l ≠ [] → b ∉ blkOf a) (hk : COk l s) (hp : s.pos < l.length) :
    Runs Tryd.prog 92 #[.pointer (some ⟨b, 0, none⟩)] h fun v h' =>
      v = .bool (moreZ now tg iv l (l.length + 1) s true).2 ∧ Mem h h' [b] [(b, stV now tg iv a l.length cap (moreZ now tg iv l (l.length + 1) s true).1, T)] := by
  refine vc_codel_state_more _ _ _ ?_
  simp only [onAddr, Nat.zero_add]
  refine ⟨fun is h1 => ∃ t n, Mem h h1 [b] [(b, stV now tg iv a l.length cap t, T)] ∧ COk l t ∧ (t.dropping = true → t.pos < l.length) ∧ l.length + 1 ≤ n + t.pos ∧ moreZ now tg iv l n t is = moreZ now tg iv l (l.length + 1) s true,
    fun _ h1 => l.length + 1 - posOf h1 b, ⟨s, l.length + 1, Mem.start1 hb, hk, fun _ => hp, by omega, rfl⟩, fun _ => ?_⟩
  rintro is h1 ⟨t, n, m, kt, kp, kn, kr⟩
  rw [← kr]
  clear kr
  have hpos : posOf h1 b = t.pos := by unfold posOf; rw [m.cell (o := 10) 0 rfl rfl]; rfl
  dsimp only
  rw [hpos]
  have len := hE.len
  unfold stV at m
  refine ⟨_, Mem.cell m 0 rfl rfl, ?_⟩
  refine ⟨_, Mem.cell m 0 rfl rfl, ?_⟩
  have fin : ¬ (t.drop ≤ now ∧ t.dropping = true) → moreZ now tg iv l n t is = (t, is) := fun hc => by
    cases n with
    | zero => rfl
    | succ n => simp only [moreZ]; rw [if_neg hc]
  refine dcase_intro (fun c => ?_) fun c => ?_
  · refine ⟨_, Mem.cell m 0 rfl rfl, ?_⟩
    refine bcase_intro (fun c2 => ?_) fun c2 => ?_
    · have hlt := kp c2
      obtain ⟨n, rfl⟩ : ∃ k, n = k + 1 := ⟨n - 1, by omega⟩
      simp only [moreZ]
      rw [if_pos ⟨c, c2⟩]
      obtain ⟨e1, e2, e3, e4, e5⟩ := lookZ_same now tg iv l { t with pos := t.pos + 1, count := upC t.count }
      have hk2 := kt.look hE (by omega)
      have his := lookZ_is now tg iv l { t with pos := t.pos + 1, count := upC t.count }
      have hla := lookZ_late now tg iv l { t with pos := t.pos + 1, count := upC t.count }
      refine ⟨_, Mem.cell m 0 rfl rfl, ?_⟩
      refine ⟨by simp only [fits]; omega, ?_⟩
      (refine Mem.store m 0 rfl (by simp only [List.length]; decide) ?_; clear m; intro _ m; simp only [List.set_cons_zero, List.set_cons_succ] at m)
      refine ⟨fun h' => Mem h h' [b] [(b, stV now tg iv a l.length cap { t with pos := t.pos + 1, count := upC t.count }, T)], ?_, fun _ => ?_⟩
      · refine ⟨_, Mem.cell m 0 rfl rfl, ?_⟩
        refine dcase_intro (fun c3 => ?_) fun c3 => ?_
        · refine ⟨_, Mem.cell m 0 rfl rfl, ?_⟩
          refine ⟨by simp only [fits]; have := kt.c0; omega, ?_⟩
          (refine Mem.store m 0 rfl (by simp only [List.length]; decide) ?_; clear m; intro _ m; simp only [List.set_cons_zero, List.set_cons_succ] at m)
          unfold upC; rw [if_pos c3]; exact m
        · unfold upC; rw [if_neg c3]; exact m
      · clear m
        intro h4 m
        have b0 := kt.b0
        have b1 := kt.b1
        refine (look_c hE (m.blk 0 rfl) (hs.mem m (apart1 hne)) hne kt.f0 kt.f1 (by simp; omega) (by simp; omega)).mono ?_
        rintro _ h5 ⟨rfl, m'⟩
        replace m := m.call1 0 rfl m' 0 rfl
        clear m'
        simp only [List.set_cons_zero] at m
        generalize lookZ now tg iv l { t with pos := t.pos + 1, count := upC t.count } = r at *
        obtain ⟨u, i2, l2⟩ := r
        dsimp only at *
        refine ⟨_, _, rfl, ?_⟩
        unfold stV at m
        have hfalse : ∀ h6, Mem h h6 [b] [(b, stV now tg iv a l.length cap { u with dropping := false }, T)] → ¬ (i2 = true ∧ l2 = true) →
            (∃ t' n', Mem h h6 [b] [(b, stV now tg iv a l.length cap t', T)] ∧ COk l t' ∧ (t'.dropping = true → t'.pos < l.length) ∧ l.length + 1 ≤ n' + t'.pos ∧ moreZ now tg iv l n' t' i2 = (if i2 = true ∧ l2 = true then moreZ now tg iv l n { u with drop := nextZ u.drop iv u.count.toNat } i2 else moreZ now tg iv l n { u with dropping := false } i2)) ∧ l.length + 1 - posOf h6 b < l.length + 1 - t.pos := by
          intro h6 m6 hn
          refine ⟨⟨{ u with dropping := false }, n, m6, ⟨hk2.f0, hk2.f1, hk2.d0, hk2.d1, hk2.c0, hk2.c1, hk2.l0, hk2.l1, hk2.b0, hk2.b1, hk2.p⟩, fun hf => (by cases hf), by simp; omega, by rw [if_neg hn]⟩, ?_⟩
          have : posOf h6 b = u.pos := by unfold posOf; rw [m6.cell (o := 10) 0 rfl rfl]; rfl
          rw [this]; omega
        refine bcase_intro (fun c4 => ?_) fun c4 => ?_
        · (refine Mem.store m 0 rfl (by simp only [List.length]; decide) ?_; clear m; intro _ m; simp only [List.set_cons_zero, List.set_cons_succ] at m)
          exact hfalse _ m (by simp at c4; simp [c4])
        · refine bcase_intro (fun c5 => ?_) fun c5 => ?_
          · (refine Mem.store m 0 rfl (by simp only [List.length]; decide) ?_; clear m; intro _ m; simp only [List.set_cons_zero, List.set_cons_succ] at m)
            exact hfalse _ m (by simp at c5; simp [c5])
          · refine ⟨_, Mem.cell m 0 rfl rfl, ?_⟩
            refine ⟨_, Mem.cell m 0 rfl rfl, ?_⟩
            refine ⟨_, Mem.cell m 0 rfl rfl, ?_⟩
            refine (next_c _ _ _ _ hk2.c0 hk2.c1).ret ⟨_, rfl, ?_⟩
            (refine Mem.store m 0 rfl (by simp only [List.length]; decide) ?_; clear m; intro _ m; simp only [List.set_cons_zero, List.set_cons_succ] at m)
            obtain ⟨z0, z1⟩ := nextZ_ok u.drop iv u.count.toNat
            have hi2 : i2 = true := by simpa using c4
            refine ⟨⟨{ u with drop := nextZ u.drop iv u.count.toNat }, n, m, ⟨hk2.f0, hk2.f1, z0, z1, hk2.c0, hk2.c1, hk2.l0, hk2.l1, hk2.b0, hk2.b1, hk2.p⟩, fun _ => ?_, by simp; omega, by rw [if_pos (by simp at c4 c5; simp [c4, c5])]⟩, ?_⟩
            · rw [hi2] at his; simp at his ⊢; omega
            · have : posOf ‹_› b = u.pos := by unfold posOf; rw [m.cell (o := 10) 0 rfl rfl]; rfl
              rw [this]; omega
    · rw [fin (by simp [c2])]
      exact ⟨rfl, m⟩
  · rw [fin (by simp; omega)]
    exact ⟨rfl, m⟩
theorem wrap_u32 (n : Int) : IntKind.u32.wrap n = wrap32 n := by
  unfold IntKind.wrap wrap32
  rw [show IntKind.u32.signed = false from rfl]; rfl
theorem deltaZ_ok (now iv : Int) (t : CSt) : 0 ≤ deltaZ now iv t ∧ deltaZ now iv t < 4294967296 := by
  unfold deltaZ wrap32; split <;> omega
theorem begins_c (hE : CEn now tg iv l) (hb : Blk h b (stV now tg iv a l.length cap s) T) (hs : Itm h a l) (hne : l ≠ [] → b ∉ blkOf a) (hk : COk l s) (hp : s.pos < l.length) :
    Runs Tryd.prog 93 #[.pointer (some ⟨b, 0, none⟩)] h fun v h' =>
      v = .bool (beginsZ now tg iv l s).2 ∧ Mem h h' [b] [(b, stV now tg iv a l.length cap (beginsZ now tg iv l s).1, T)] := by
  refine vc_codel_state_begins _ _ _ ?_
  simp only [onAddr, Nat.zero_add]
  have m := Mem.start1 hb
  have len := hE.len
  unfold stV at m
  refine ⟨_, Mem.cell m 0 rfl rfl, ?_⟩
  refine ⟨by simp only [fits]; omega, ?_⟩
  (refine Mem.store m 0 rfl (by simp only [List.length]; decide) ?_; clear m; intro _ m; simp only [List.set_cons_zero, List.set_cons_succ] at m)
  have b0 := hk.b0
  have b1 := hk.b1
  replace m : Mem h _ [b] [(b, stV now tg iv a l.length cap { s with pos := s.pos + 1 }, T)] := m
  refine (look_c hE (m.blk 0 rfl) (hs.mem m (apart1 hne)) hne hk.f0 hk.f1 (by simp; omega) (by simp; omega)).mono ?_
  rintro _ h5 ⟨rfl, m'⟩
  replace m := m.call1 0 rfl m' 0 rfl
  clear m'
  simp only [List.set_cons_zero] at m
  unfold beginsZ
  obtain ⟨e1, e2, e3, e4, e5⟩ := lookZ_same now tg iv l { s with pos := s.pos + 1 }
  generalize lookZ now tg iv l { s with pos := s.pos + 1 } = r at *
  obtain ⟨t, i2, l2⟩ := r
  dsimp only at *
  refine ⟨_, _, rfl, ?_⟩
  unfold stV at m
  (refine Mem.store m 0 rfl (by simp only [List.length]; decide) ?_; clear m; intro _ m; simp only [List.set_cons_zero, List.set_cons_succ] at m)
  refine ⟨_, Mem.cell m 0 rfl rfl, ?_⟩
  refine ⟨_, Mem.cell m 0 rfl rfl, ?_⟩
  rw [wrap_u32]
  (refine Mem.store m 0 rfl (by simp only [List.length]; decide) ?_; clear m; intro _ m; simp only [List.set_cons_zero, List.set_cons_succ] at m)
  have d0 := hk.d0
  have d1 := hk.d1
  have n0 := hE.n0
  have n1 := hE.n1
  have i0 := hE.i0
  have i1 := hE.i1
  refine ⟨fun h' => Mem h h' [b] [(b, stV now tg iv a l.length cap { t with dropping := true, count := deltaZ now iv t }, T)], ?_, fun _ => ?_⟩
  · unfold deltaZ
    refine dcase_intro (fun c => ?_) fun c => ?_
    · refine ⟨_, Mem.cell m 0 rfl rfl, ?_⟩
      refine ⟨_, Mem.cell m 0 rfl rfl, ?_⟩
      refine ⟨by simp only [fits]; omega, ?_⟩
      refine ⟨_, Mem.cell m 0 rfl rfl, ?_⟩
      refine ⟨by simp only [fits]; omega, ?_⟩
      refine dcase_intro (fun c2 => ?_) fun c2 => ?_
      · (refine Mem.store m 0 rfl (by simp only [List.length]; decide) ?_; clear m; intro _ m; simp only [List.set_cons_zero, List.set_cons_succ] at m)
        rw [if_pos ⟨c, c2⟩]; exact m
      · rw [if_neg (by omega)]; exact m
    · rw [if_neg (by omega)]; exact m
  · clear m
    intro h6 m
    unfold stV at m
    obtain ⟨z0, z1⟩ := deltaZ_ok now iv t
    refine ⟨_, Mem.cell m 0 rfl rfl, ?_⟩
    (refine Mem.store m 0 rfl (by simp only [List.length]; decide) ?_; clear m; intro _ m; simp only [List.set_cons_zero, List.set_cons_succ] at m)
    refine ⟨_, Mem.cell m 0 rfl rfl, ?_⟩
    refine ⟨_, Mem.cell m 0 rfl rfl, ?_⟩
    refine ⟨_, Mem.cell m 0 rfl rfl, ?_⟩
    refine (next_c _ _ _ _ z0 z1).ret ⟨_, rfl, ?_⟩
    (refine Mem.store m 0 rfl (by simp only [List.length]; decide) ?_; clear m; intro _ m; simp only [List.set_cons_zero, List.set_cons_succ] at m)
    exact ⟨rfl, m⟩
theorem COk.first (hE : CEn now tg iv l) (f0 : 0 ≤ s.first) (f1 : s.first ≤ 2251799813685248) (d0 : 0 ≤ s.drop) (d1 : s.drop ≤ 2251799813685248) (c0 : 0 ≤ s.count) (c1 : s.count < 4294967296) (l0 : 0 ≤ s.last) (l1 : s.last < 4294967296)
    (b0 : 0 ≤ s.bytes) (b1 : s.bytes ≤ 1099511627776) (hp : s.pos = 0) : COk l (lookZ now tg iv l s).1 := by
  obtain ⟨e1, e2, e3, e4, e5⟩ := lookZ_same now tg iv l s
  obtain ⟨g0, g1⟩ := lookZ_first (s := s) hE f0 f1
  obtain ⟨k0, k1⟩ := lookZ_bytes (s := s) hE
  exact ⟨g0, g1, by rw [e1]; exact d0, by rw [e1]; exact d1, by rw [e2]; exact c0, by rw [e2]; exact c1, by rw [e3]; exact l0, by rw [e3]; exact l1, by rw [e5]; omega, by omega, by rw [e5]; omega⟩
/-- What a state may be ahead of a pull. -/
structure CIn (s : CSt) : Prop where
  f0 : 0 ≤ s.first
  f1 : s.first ≤ 2251799813685248
  d0 : 0 ≤ s.drop
  d1 : s.drop ≤ 2251799813685248
  c0 : 0 ≤ s.count
  c1 : s.count < 4294967296
  l0 : 0 ≤ s.last
  l1 : s.last < 4294967296
  b0 : 0 ≤ s.bytes
  b1 : s.bytes ≤ 1099511627776
  p : s.pos = 0
theorem CIn.ok (hE : CEn now tg iv l) (hk : CIn s) : COk l (lookZ now tg iv l s).1 := COk.first hE hk.f0 hk.f1 hk.d0 hk.d1 hk.c0 hk.c1 hk.l0 hk.l1 hk.b0 hk.b1 hk.p
theorem run_c (hE : CEn now tg iv l) (hb : Blk h b (stV now tg iv a l.length cap s) T) (hs : Itm h a l) (hne : l ≠ [] → b ∉ blkOf a) (hk : CIn s) :
    Runs Tryd.prog 86 #[.pointer (some ⟨b, 0, none⟩)] h fun v h' =>
      v = .bool (runZ now tg iv l s).2 ∧ Mem h h' [b] [(b, stV now tg iv a l.length cap (runZ now tg iv l s).1, T)] := by
  refine vc_codel_state_run _ _ _ ?_
  simp only [onAddr, Nat.zero_add]
  have m := Mem.start1 hb
  have len := hE.len
  have b0 := hk.b0
  have b1 := hk.b1
  refine (look_c hE (m.blk 0 rfl) (hs.mem m (apart1 hne)) hne hk.f0 hk.f1 (by omega) (by omega)).mono ?_
  rintro _ h5 ⟨rfl, m'⟩
  replace m := m.call1 0 rfl m' 0 rfl
  clear m'
  simp only [List.set_cons_zero] at m
  unfold runZ
  have hk2 := hk.ok hE
  obtain ⟨e1, e2, e3, e4, e5⟩ := lookZ_same now tg iv l s
  have his := lookZ_is now tg iv l s
  generalize lookZ now tg iv l s = r at *
  obtain ⟨t, i2, l2⟩ := r
  dsimp only at *
  refine ⟨_, _, rfl, ?_⟩
  refine bcase_intro (fun c => ?_) fun c => ?_
  · unfold stV at m
    (refine Mem.store m 0 rfl (by simp only [List.length]; decide) ?_; clear m; intro _ m; simp only [List.set_cons_zero, List.set_cons_succ] at m)
    rw [if_pos (by simpa using c)]
    exact ⟨rfl, m⟩
  · have hi2 : i2 = true := by simpa using c
    rw [if_neg (by simp [hi2])]
    have hlt : t.pos < l.length := by rw [hi2] at his; simp at his; omega
    have more : t.dropping = true → l2 = true → Runs Tryd.prog 92 #[.pointer (some ⟨b, 0, none⟩)] h5 fun r2 h4 => ∃ t5 : Bool, r2 = (.bool t5) ∧
        (Value.bool t5 = Value.bool (if t.dropping = true then if l2 = false then ({ t with dropping := false }, true) else moreZ now tg iv l (l.length + 1) t true else if l2 = true then beginsZ now tg iv l t else (t, true)).2 ∧
         Mem h h4 [b] [(b, stV now tg iv a l.length cap (if t.dropping = true then if l2 = false then ({ t with dropping := false }, true) else moreZ now tg iv l (l.length + 1) t true else if l2 = true then beginsZ now tg iv l t else (t, true)).1, T)]) := by
      intro hd hl
      refine (more_c hE (m.blk 0 rfl) (hs.mem m (apart1 hne)) hne hk2 hlt).mono ?_
      rintro _ h4 ⟨rfl, m'⟩
      replace m := m.call1 0 rfl m' 0 rfl
      simp only [List.set_cons_zero] at m
      rw [if_pos hd, if_neg (by simp [hl])]
      exact ⟨_, rfl, rfl, m⟩
    have fin : t.dropping = false → bcase l2 (Runs Tryd.prog 93 #[.pointer (some ⟨b, 0, none⟩)] h5 fun r2 h4 => ∃ t5 : Bool, r2 = (.bool t5) ∧
        (Value.bool t5 = Value.bool (if t.dropping = true then if l2 = false then ({ t with dropping := false }, true) else moreZ now tg iv l (l.length + 1) t true else if l2 = true then beginsZ now tg iv l t else (t, true)).2 ∧
         Mem h h4 [b] [(b, stV now tg iv a l.length cap (if t.dropping = true then if l2 = false then ({ t with dropping := false }, true) else moreZ now tg iv l (l.length + 1) t true else if l2 = true then beginsZ now tg iv l t else (t, true)).1, T)]))
        (Value.bool true = Value.bool (if t.dropping = true then if l2 = false then ({ t with dropping := false }, true) else moreZ now tg iv l (l.length + 1) t true else if l2 = true then beginsZ now tg iv l t else (t, true)).2 ∧
         Mem h h5 [b] [(b, stV now tg iv a l.length cap (if t.dropping = true then if l2 = false then ({ t with dropping := false }, true) else moreZ now tg iv l (l.length + 1) t true else if l2 = true then beginsZ now tg iv l t else (t, true)).1, T)]) := by
      intro hd
      rw [if_neg (by simp [hd])]
      refine bcase_intro (fun c3 => ?_) fun c3 => ?_
      · refine (begins_c hE (m.blk 0 rfl) (hs.mem m (apart1 hne)) hne hk2 hlt).mono ?_
        rintro _ h4 ⟨rfl, m'⟩
        replace m := m.call1 0 rfl m' 0 rfl
        simp only [List.set_cons_zero] at m
        rw [if_pos c3]
        exact ⟨_, rfl, rfl, m⟩
      · rw [if_neg (by simp [c3])]
        exact ⟨rfl, m⟩
    have m2 := m
    unfold stV at m
    refine ⟨_, Mem.cell m 0 rfl rfl, ?_⟩
    refine bcase_intro (fun c2 => ?_) fun c2 => ?_
    · refine bcase_intro (fun c3 => ?_) fun c3 => ?_
      · (refine Mem.store m 0 rfl (by simp only [List.length]; decide) ?_; clear m; intro _ m; simp only [List.set_cons_zero, List.set_cons_succ] at m)
        rw [if_pos c2, if_pos (by simpa using c3)]
        exact ⟨rfl, m⟩
      · refine ⟨_, Mem.cell m 0 rfl rfl, ?_⟩
        exact bcase_true c2 (more c2 (by simpa using c3))
    · refine ⟨_, Mem.cell m 0 rfl rfl, ?_⟩
      exact bcase_false c2 (fin c2)
def cV (s : CSt) : List Value := [.int .i64 s.first, .int .i64 s.drop, .int .u32 s.count, .int .u32 s.last, .bool s.dropping]
end
def outV (t : CSt) (pos : Int) (is : Bool) : Value := .tuple #[.agg (cV t).toArray, .int .i64 pos, .bool is]
section
variable {now target interval bytes : Int} {a : Option Addr} {cap : Nat} {l : List (Int × Int)} {c : CSt} {h : Heap}
theorem pull_c (hE : CEn now (clampZ target 1073741824) (clampZ interval 1073741824) l) (hs : Itm h a l) (hk : CIn { c with bytes := bytes, pos := 0 }) :
    Runs Tryd.prog 77 #[.agg (cV c).toArray, .int .i64 now, .int .i64 target, .int .i64 interval, .int .i64 bytes, .slice a l.length cap] h fun v h' =>
      v = outV (runZ now (clampZ target 1073741824) (clampZ interval 1073741824) l { c with bytes := bytes, pos := 0 }).1
        (runZ now (clampZ target 1073741824) (clampZ interval 1073741824) l { c with bytes := bytes, pos := 0 }).1.pos
        (runZ now (clampZ target 1073741824) (clampZ interval 1073741824) l { c with bytes := bytes, pos := 0 }).2 ∧ Kept h h' := by
  refine vc_codel_Codel_Pull _ _ _ _ _ _ _ _ _ _ ?_
  intro b1 h1 e1 e2 b2 h2 e3 e4
  have m := ((Mem.start h).push e2 e1).push e4 e3
  unfold cV at m
  refine ⟨_, (m.blk 1 rfl).row_eq rfl (Nat.le_of_ble_eq_true rfl), rfl, ?_⟩
  intro b3 h3 e5 e6
  replace m := m.push e6 e5
  have hblk := m.blk 0 rfl
  have hlt3 : h.size ≤ b3 := by subst e1 e2 e3 e4 e5; simp; omega
  have hne : l ≠ [] → b3 ∉ blkOf a := fun hl hb => by have := hs.lt hl _ hb; omega
  refine (run_c hE (s := { c with bytes := bytes, pos := 0 }) (cap := cap) (T := _) hblk (hs.mem m (by simp)) hne hk).mono ?_
  rintro _ h4 ⟨rfl, m'⟩
  replace m := m.call1 0 rfl m' 0 rfl
  clear m' hblk
  generalize runZ now (clampZ target 1073741824) (clampZ interval 1073741824) l { c with bytes := bytes, pos := 0 } = r at *
  obtain ⟨t, is⟩ := r
  dsimp only at *
  simp only [List.set_cons_zero] at m
  unfold stV at m
  refine ⟨_, rfl, _, (m.blk 0 rfl).row_eq rfl (Nat.le_of_ble_eq_true rfl), ?_⟩
  refine ⟨_, Mem.cell m 0 rfl rfl, ?_⟩
  refine ⟨⟨rfl, (m.blk 1 rfl).wrs (by decide), by simp [Value.oneCell']⟩, ?_⟩
  intro h5 e7
  replace m := m.setr 1 rfl e7
  simp only [List.set_cons_zero, List.set_cons_succ, setL, List.drop_zero, List.take_succ_cons, List.take_zero] at m
  refine ⟨m.cell 0 rfl rfl, _, (m.blk 1 rfl).row_eq rfl (Nat.le_of_ble_eq_true rfl), ?_⟩
  exact ⟨rfl, m.kept⟩
theorem refclamp_c (n hi : Int) (h : Heap) : Runs Tryd.prog 83 #[.int .i64 n, .int .i64 0, .int .i64 hi] h fun v h' => v = .int .i64 (clampZ n hi) ∧ h' = h := vc_muezzinref8_clamp _ _ _ _ _ ⟨rfl, rfl⟩
theorem refret {now tg iv : Int} {h' : Heap} {b2 b3 : Nat} {T2 T3 : TypeId} {t : CSt} {is : Bool} {z0 z1 z2 z3 z4 : Value} {len : Nat} {L : List (Nat × List Value × TypeId)} {R : CSt × Bool}
    (m : Mem h h' [] ((b3, stV now tg iv a len cap t, T3) :: (b2, [z0, z1, z2, z3, z4], T2) :: L)) (hR : R = (t, is)) :
    ∃ cs6 : List Value, row h' b3 0 5 = some cs6 ∧
    ∃ n12 : Int, cell h' b3 10 = some (.int .i64 n12) ∧
    (((cs6)).length = 5 ∧ wrs h' b2 0 5 ∧ ∀ u ∈ ((cs6) : List Value), u.oneCell' = true) ∧ ∀ h20 : Heap, h20 = setr h' b2 0 (cs6) →
    cell h20 b3 10 = some (.int .i64 n12) ∧
    ∃ cs7 : List Value, row h20 b2 0 5 = some cs7 ∧
    ((.tuple #[(.agg (cs7).toArray), (.int .i64 n12), (.bool is)] : Value) = outV R.1 R.1.pos R.2 ∧ Kept h h20) := by
  subst hR
  unfold stV at m
  refine ⟨_, (m.blk 0 rfl).row_eq rfl (Nat.le_of_ble_eq_true rfl), ?_⟩
  refine ⟨_, Mem.cell m 0 rfl rfl, ?_⟩
  refine ⟨⟨rfl, (m.blk 1 rfl).wrs (Nat.le_of_ble_eq_true rfl), by simp [Value.oneCell']⟩, ?_⟩
  intro h5 e7
  replace m := m.setr 1 rfl e7
  simp only [List.set_cons_zero, List.set_cons_succ, setL, List.drop_zero, List.take_succ_cons, List.take_zero] at m
  exact ⟨m.cell 0 rfl rfl, _, (m.blk 1 rfl).row_eq rfl (Nat.le_of_ble_eq_true rfl), rfl, m.kept⟩
theorem refret0 {now tg iv : Int} {h' : Heap} {b2 b3 : Nat} {T2 T3 : TypeId} {t : CSt} {is : Bool} {z0 z1 z2 z3 z4 : Value} {len : Nat} {L : List (Nat × List Value × TypeId)} {R : CSt × Bool}
    (m : Mem h h' [] ((b3, stV now tg iv a len cap t, T3) :: (b2, [z0, z1, z2, z3, z4], T2) :: L)) (hR : R = (t, is)) (hp : t.pos = 0) :
    ∃ cs6 : List Value, row h' b3 0 5 = some cs6 ∧
    (((cs6)).length = 5 ∧ wrs h' b2 0 5 ∧ ∀ u ∈ ((cs6) : List Value), u.oneCell' = true) ∧ ∀ h20 : Heap, h20 = setr h' b2 0 (cs6) →
    ∃ cs7 : List Value, row h20 b2 0 5 = some cs7 ∧
    ((.tuple #[(.agg (cs7).toArray), (.int .i64 (0 : Int)), (.bool is)] : Value) = outV R.1 R.1.pos R.2 ∧ Kept h h20) := by
  subst hR
  unfold stV at m
  refine ⟨_, (m.blk 0 rfl).row_eq rfl (Nat.le_of_ble_eq_true rfl), ?_⟩
  refine ⟨⟨rfl, (m.blk 1 rfl).wrs (Nat.le_of_ble_eq_true rfl), by simp [Value.oneCell']⟩, ?_⟩
  intro h5 e7
  replace m := m.setr 1 rfl e7
  simp only [List.set_cons_zero, List.set_cons_succ, setL, List.drop_zero, List.take_succ_cons, List.take_zero] at m
  exact ⟨_, (m.blk 1 rfl).row_eq rfl (Nat.le_of_ble_eq_true rfl), by simp [outV, cV, hp], m.kept⟩
theorem refpull_c (hE : CEn now (clampZ target 1073741824) (clampZ interval 1073741824) l) (hs : Itm h a l) (hk : CIn { c with bytes := bytes, pos := 0 }) :
    Runs Tryd.prog 72 #[.agg (cV c).toArray, .int .i64 now, .int .i64 target, .int .i64 interval, .int .i64 bytes, .slice a l.length cap] h fun v h' =>
      v = outV (runZ now (clampZ target 1073741824) (clampZ interval 1073741824) l { c with bytes := bytes, pos := 0 }).1
        (runZ now (clampZ target 1073741824) (clampZ interval 1073741824) l { c with bytes := bytes, pos := 0 }).1.pos
        (runZ now (clampZ target 1073741824) (clampZ interval 1073741824) l { c with bytes := bytes, pos := 0 }).2 ∧ Kept h h' := by
  refine vc_muezzinref8_Pull _ _ _ _ _ _ _ _ _ _ ?_
  intro b1 h1 e1 e2 b2 h2 e3 e4
  have m := ((Mem.start h).push e2 e1).push e4 e3
  unfold cV at m
  have hr0 := (m.blk 1 rfl).row_eq (n := 5) (o := 0) rfl (Nat.le_of_ble_eq_true rfl)
  refine ⟨_, hr0, (refclamp_c _ _ _).ret ⟨_, rfl, hr0, (refclamp_c _ _ _).ret ⟨_, rfl, hr0, rfl, ?_⟩⟩⟩
  intro b3 h3 e5 e6
  replace m := m.push e6 e5
  have hlt3 : h.size ≤ b3 := by subst e1 e2 e3 e4 e5; simp; omega
  have hne : l ≠ [] → b3 ∉ blkOf a := fun hl hb => by have := hs.lt hl _ hb; omega
  clear hr0 e1 e2 e3 e4 e5 e6
  have len := hE.len
  have kb0 := hk.b0
  have kb1 := hk.b1
  dsimp only at kb0 kb1
  replace m : Mem h h3 [] ((b3, stV now (clampZ target 1073741824) (clampZ interval 1073741824) a l.length cap { c with bytes := bytes, pos := 0 }, _) :: _) := m
  refine (reflook_c hE (m.blk 0 rfl) (hs.mem m (by simp)) hne hk.f0 hk.f1 (by dsimp only; omega) (by dsimp only; omega)).mono ?_
  rintro _ h6 ⟨rfl, m'⟩
  replace m := m.call1 0 rfl m' 0 rfl
  clear m'
  simp only [List.set_cons_zero] at m
  have hk2 := hk.ok hE
  obtain ⟨q1, q2, q3, q4, q5⟩ := lookZ_same now (clampZ target 1073741824) (clampZ interval 1073741824) l { c with bytes := bytes, pos := 0 }
  have his := lookZ_is now (clampZ target 1073741824) (clampZ interval 1073741824) l { c with bytes := bytes, pos := 0 }
  have hrun : runZ now (clampZ target 1073741824) (clampZ interval 1073741824) l { c with bytes := bytes, pos := 0 } = (match lookZ now (clampZ target 1073741824) (clampZ interval 1073741824) l { c with bytes := bytes, pos := 0 } with
    | (t, is, late) =>
      if is = false then ({ t with dropping := false }, false)
      else if t.dropping = true then
        if late = false then ({ t with dropping := false }, true) else moreZ now (clampZ target 1073741824) (clampZ interval 1073741824) l (l.length + 1) t true
      else if late = true then beginsZ now (clampZ target 1073741824) (clampZ interval 1073741824) l t else (t, true)) := rfl
  generalize lookZ now (clampZ target 1073741824) (clampZ interval 1073741824) l { c with bytes := bytes, pos := 0 } = r at *
  obtain ⟨s, i2, l2⟩ := r
  generalize clampZ target 1073741824 = tg at *
  generalize clampZ interval 1073741824 = iv at *
  generalize runZ now tg iv l { c with bytes := bytes, pos := 0 } = R at *
  dsimp only at *
  obtain ⟨T3, T2, z0, z1, z2, z3, z4, L, m⟩ : ∃ (T3 T2 : TypeId) (z0 z1 z2 z3 z4 : Value) (L : List (Nat × List Value × TypeId)), Mem h h6 [] ((b3, stV now tg iv a l.length cap s, T3) :: (b2, [z0, z1, z2, z3, z4], T2) :: L) := ⟨_, _, _, _, _, _, _, _, m⟩
  refine ⟨_, _, rfl, ?_⟩
  refine bcase_intro (fun c1 => ?_) fun c1 => ?_
  · rw [if_pos (by simpa using c1)] at hrun
    unfold stV at m
    (refine Mem.store m 0 rfl (by simp only [List.length]; decide) ?_; clear m; intro _ m; simp only [List.set_cons_zero, List.set_cons_succ] at m)
    exact refret0 (t := { s with dropping := false }) m hrun q5
  · have hi2 : i2 = true := by simpa using c1
    rw [if_neg (by simp [hi2])] at hrun
    have hlt : s.pos < l.length := by rw [hi2] at his; simp at his; omega
    have m2 := m
    unfold stV at m
    refine ⟨_, Mem.cell m 0 rfl rfl, ?_⟩
    refine bcase_intro (fun c2 => ?_) fun c2 => ?_
    · rw [if_pos c2] at hrun
      refine bcase_intro (fun c3 => ?_) fun c3 => ?_
      · rw [if_pos (by simpa using c3)] at hrun
        (refine Mem.store m 0 rfl (by simp only [List.length]; decide) ?_; clear m; intro _ m; simp only [List.set_cons_zero, List.set_cons_succ] at m)
        exact refret0 (t := { s with dropping := false }) m hrun q5
      · rw [if_neg (by simpa using c3)] at hrun
        clear m
        refine ⟨fun is h1 => ∃ t n, Mem h h1 [] ((b3, stV now tg iv a l.length cap t, T3) :: (b2, [z0, z1, z2, z3, z4], T2) :: L) ∧ COk l t ∧ (t.dropping = true → t.pos < l.length) ∧ l.length + 1 ≤ n + t.pos ∧ R = moreZ now tg iv l n t is,
          fun _ h1 => l.length + 1 - posOf h1 b3, ⟨s, l.length + 1, m2, hk2, fun _ => hlt, by omega, by rw [hrun, hi2]⟩, fun _ => ?_⟩
        clear hk2 q1 q2 q3 q4 q5 his hlt c3 c2 c1 hi2 m2 hrun
        rintro is h1 ⟨t, n, m, kt, kp, kn, kr⟩
        have hpos : posOf h1 b3 = t.pos := by unfold posOf; rw [m.cell (o := 10) 0 rfl rfl]; rfl
        dsimp only
        rw [hpos]
        have m2 := m
        unfold stV at m
        have fin : ¬ (t.drop ≤ now ∧ t.dropping = true) → moreZ now tg iv l n t is = (t, is) := fun hc => by
          cases n with
          | zero => rfl
          | succ n => simp only [moreZ]; rw [if_neg hc]
        refine ⟨_, Mem.cell m 0 rfl rfl, ?_⟩
        refine bcase_intro (fun c2 => ?_) fun c2 => ?_
        · refine ⟨_, Mem.cell m 0 rfl rfl, ?_⟩
          refine ⟨_, Mem.cell m 0 rfl rfl, ?_⟩
          refine dcase_intro (fun c => ?_) fun c => ?_
          · have hlt := kp c2
            obtain ⟨n, rfl⟩ : ∃ k, n = k + 1 := ⟨n - 1, by omega⟩
            simp only [moreZ] at kr
            rw [if_pos ⟨c, c2⟩] at kr
            obtain ⟨e1, e2, e3, e4, e5⟩ := lookZ_same now tg iv l { t with pos := t.pos + 1, count := upC t.count }
            have hk2 := kt.look hE (by omega)
            have his := lookZ_is now tg iv l { t with pos := t.pos + 1, count := upC t.count }
            refine ⟨_, Mem.cell m 0 rfl rfl, ?_⟩
            refine ⟨by simp only [fits]; omega, ?_⟩
            (refine Mem.store m 0 rfl (by simp only [List.length]; decide) ?_; clear m; intro _ m; simp only [List.set_cons_zero, List.set_cons_succ] at m)
            refine ⟨fun h' => Mem h h' [] ((b3, stV now tg iv a l.length cap { t with pos := t.pos + 1, count := upC t.count }, T3) :: (b2, [z0, z1, z2, z3, z4], T2) :: L), ?_, fun _ => ?_⟩
            · refine ⟨_, Mem.cell m 0 rfl rfl, ?_⟩
              refine dcase_intro (fun c3 => ?_) fun c3 => ?_
              · refine ⟨_, Mem.cell m 0 rfl rfl, ?_⟩
                refine ⟨by simp only [fits]; have := kt.c0; omega, ?_⟩
                (refine Mem.store m 0 rfl (by simp only [List.length]; decide) ?_; clear m; intro _ m; simp only [List.set_cons_zero, List.set_cons_succ] at m)
                unfold upC; rw [if_pos c3]; exact m
              · unfold upC; rw [if_neg c3]; exact m
            · clear m m2
              intro h4 m
              have b0 := kt.b0
              have b1 := kt.b1
              refine (reflook_c hE (m.blk 0 rfl) (hs.mem m (by simp)) hne kt.f0 kt.f1 (by simp; omega) (by simp; omega)).mono ?_
              rintro _ h5 ⟨rfl, m'⟩
              replace m := m.call1 0 rfl m' 0 rfl
              clear m'
              simp only [List.set_cons_zero] at m
              generalize lookZ now tg iv l { t with pos := t.pos + 1, count := upC t.count } = r at *
              obtain ⟨u, i3, l3⟩ := r
              dsimp only at *
              refine ⟨_, _, rfl, ?_⟩
              unfold stV at m
              refine bcase_intro (fun c4 => ?_) fun c4 => ?_
              · (refine Mem.store m 0 rfl (by simp only [List.length]; decide) ?_; clear m; intro _ m; simp only [List.set_cons_zero, List.set_cons_succ] at m)
                rw [if_neg (by simp at c4; simp [c4])] at kr
                refine ⟨⟨{ u with dropping := false }, n, m, ⟨hk2.f0, hk2.f1, hk2.d0, hk2.d1, hk2.c0, hk2.c1, hk2.l0, hk2.l1, hk2.b0, hk2.b1, hk2.p⟩, fun hf => (by cases hf), by simp; omega, kr⟩, ?_⟩
                have : posOf ‹_› b3 = u.pos := by unfold posOf; rw [m.cell (o := 10) 0 rfl rfl]; rfl
                rw [this]; omega
              · refine bcase_intro (fun c5 => ?_) fun c5 => ?_
                · (refine Mem.store m 0 rfl (by simp only [List.length]; decide) ?_; clear m; intro _ m; simp only [List.set_cons_zero, List.set_cons_succ] at m)
                  rw [if_neg (by simp at c5; simp [c5])] at kr
                  refine ⟨⟨{ u with dropping := false }, n, m, ⟨hk2.f0, hk2.f1, hk2.d0, hk2.d1, hk2.c0, hk2.c1, hk2.l0, hk2.l1, hk2.b0, hk2.b1, hk2.p⟩, fun hf => (by cases hf), by simp; omega, kr⟩, ?_⟩
                  have : posOf ‹_› b3 = u.pos := by unfold posOf; rw [m.cell (o := 10) 0 rfl rfl]; rfl
                  rw [this]; omega
                · refine ⟨_, Mem.cell m 0 rfl rfl, ?_⟩
                  refine ⟨_, Mem.cell m 0 rfl rfl, ?_⟩
                  refine ⟨_, Mem.cell m 0 rfl rfl, ?_⟩
                  refine (refnext_c _ _ _ _ hk2.c0 hk2.c1).ret ⟨_, rfl, ?_⟩
                  (refine Mem.store m 0 rfl (by simp only [List.length]; decide) ?_; clear m; intro _ m; simp only [List.set_cons_zero, List.set_cons_succ] at m)
                  rw [if_pos (by simp at c4 c5; simp [c4, c5])] at kr
                  obtain ⟨z0, z1⟩ := nextZ_ok u.drop iv u.count.toNat
                  have hi3 : i3 = true := by simpa using c4
                  refine ⟨⟨{ u with drop := nextZ u.drop iv u.count.toNat }, n, m, ⟨hk2.f0, hk2.f1, z0, z1, hk2.c0, hk2.c1, hk2.l0, hk2.l1, hk2.b0, hk2.b1, hk2.p⟩, fun _ => ?_, by simp; omega, kr⟩, ?_⟩
                  · rw [hi3] at his; simp at his ⊢; omega
                  · have : posOf ‹_› b3 = u.pos := by unfold posOf; rw [m.cell (o := 10) 0 rfl rfl]; rfl
                    rw [this]; omega
          · exact refret m2 (by rw [kr, fin (by omega)])
        · exact refret m2 (by rw [kr, fin (by simp [c2])])
    · rw [if_neg (by simp [c2])] at hrun
      refine bcase_intro (fun c3 => ?_) fun c3 => ?_
      · rw [if_pos c3] at hrun
        (refine Mem.store m 0 rfl (by simp only [List.length]; decide) ?_; clear m; intro _ m; simp only [List.set_cons_zero, List.set_cons_succ] at m)
        have b0 := hk2.b0
        have b1 := hk2.b1
        have hs1 : s.pos + 1 = 1 := by omega
        rename_i h7
        replace m : Mem h h7 [] ((b3, stV now tg iv a l.length cap { s with pos := s.pos + 1 }, T3) :: (b2, [z0, z1, z2, z3, z4], T2) :: L) := by rw [show ({ s with pos := s.pos + 1 } : CSt) = { s with pos := 1 } by rw [hs1]]; exact m
        refine (reflook_c hE (m.blk 0 rfl) (hs.mem m (by simp)) hne hk2.f0 hk2.f1 (by simp; omega) (by simp; omega)).mono ?_
        rintro _ h5 ⟨rfl, m'⟩
        replace m := m.call1 0 rfl m' 0 rfl
        clear m'
        simp only [List.set_cons_zero] at m
        unfold beginsZ at hrun
        obtain ⟨e1, e2, e3, e4, e5⟩ := lookZ_same now tg iv l { s with pos := s.pos + 1 }
        generalize lookZ now tg iv l { s with pos := s.pos + 1 } = r at *
        obtain ⟨t, i3, l3⟩ := r
        dsimp only at *
        refine ⟨_, _, rfl, ?_⟩
        unfold stV at m
        (refine Mem.store m 0 rfl (by simp only [List.length]; decide) ?_; clear m; intro _ m; simp only [List.set_cons_zero, List.set_cons_succ] at m)
        refine ⟨_, Mem.cell m 0 rfl rfl, ?_⟩
        refine ⟨_, Mem.cell m 0 rfl rfl, ?_⟩
        rw [wrap_u32]
        have d0 := hk2.d0
        have d1 := hk2.d1
        have n0 := hE.n0
        have n1 := hE.n1
        have i0 := hE.i0
        have i1 := hE.i1
        refine ⟨fun x h' => x = deltaZ now iv t ∧ Mem h h' [] ((b3, stV now tg iv a l.length cap { t with dropping := true }, T3) :: (b2, [z0, z1, z2, z3, z4], T2) :: L), ?_, fun _ => ?_⟩
        · unfold deltaZ
          refine dcase_intro (fun c => ?_) fun c => ?_
          · rw [if_neg (by omega)]; exact ⟨rfl, m⟩
          · refine ⟨_, Mem.cell m 0 rfl rfl, ?_⟩
            refine ⟨_, Mem.cell m 0 rfl rfl, ?_⟩
            refine ⟨by simp only [fits]; omega, ?_⟩
            refine ⟨_, Mem.cell m 0 rfl rfl, ?_⟩
            refine ⟨by simp only [fits]; omega, ?_⟩
            refine dcase_intro (fun c4 => ?_) fun c4 => ?_
            · rw [if_neg (by omega)]; exact ⟨rfl, m⟩
            · rw [if_pos (by omega)]; exact ⟨rfl, m⟩
        · clear m m2
          rintro _ h6 ⟨rfl, m⟩
          unfold stV at m
          obtain ⟨z0, z1⟩ := deltaZ_ok now iv t
          (refine Mem.store m 0 rfl (by simp only [List.length]; decide) ?_; clear m; intro _ m; simp only [List.set_cons_zero, List.set_cons_succ] at m)
          (refine Mem.store m 0 rfl (by simp only [List.length]; decide) ?_; clear m; intro _ m; simp only [List.set_cons_zero, List.set_cons_succ] at m)
          refine ⟨_, Mem.cell m 0 rfl rfl, ?_⟩
          refine ⟨_, Mem.cell m 0 rfl rfl, ?_⟩
          refine (refnext_c _ _ _ _ z0 z1).ret ⟨_, rfl, ?_⟩
          (refine Mem.store m 0 rfl (by simp only [List.length]; decide) ?_; clear m; intro _ m; simp only [List.set_cons_zero, List.set_cons_succ] at m)
          exact refret (t := { t with dropping := true, count := deltaZ now iv t, last := deltaZ now iv t, drop := nextZ now iv (deltaZ now iv t).toNat }) m hrun
      · rw [if_neg (by simp [c3])] at hrun
        exact refret m2 (by rw [hrun, hi2])
end
end Go.Proofs.YtpcilleldanfmaaDoor
