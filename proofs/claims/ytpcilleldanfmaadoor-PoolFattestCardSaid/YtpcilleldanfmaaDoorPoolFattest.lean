/- The walk of PoolFattest: of a great flow and small ones the great one's are dropped, from its first on. -/
import Derived.Test.YtpcilleldanfmaaDoorPoolFirst
import Derived.Test.YtpcilleldanfmaaDoorFqCalm
import Derived.Test.YtpcilleldanfmaaDoorOpnPk
set_option linter.unusedVariables false
set_option linter.unusedSimpArgs false
set_option maxRecDepth 8000
namespace Go.Proofs.YtpcilleldanfmaaDoor
open Go.Vc
theorem fatN_stay : ∀ {l : List Fl} {k : Int} {s : Int × Int}, (∀ f ∈ l, f.l = [] ∨ bytP f.l ≤ s.2) → fatN l k s = s
  | [], _, _, _ => rfl
  | f :: l, k, s, h => by
    have : ¬ (f.l ≠ [] ∧ s.2 < bytP f.l) := fun hc => by
      rcases h f (by simp) with h | h
      · exact hc.1 h
      · omega
    simp only [fatN]
    rw [if_neg this]
    exact fatN_stay fun f hf => h f (by simp [hf])
theorem fatN_best : ∀ {l : List Fl} {k : Int} {s : Int × Int} {j : Nat} {f : Fl}, l[j]? = some f → f.l ≠ [] → (∀ (i : Nat) g, l[i]? = some g → i ≠ j → g.l = [] ∨ bytP g.l < bytP f.l) → s.2 < bytP f.l → fatN l k s = (k + (j : Int), bytP f.l)
  | [], _, _, _, _, h, _, _, _ => by simp at h
  | g :: l, k, s, 0, f, h, hf, ho, hs => by
    simp at h; subst h
    simp only [fatN]
    rw [if_pos ⟨hf, hs⟩, fatN_stay fun x hx => ?_]
    · simp
    · obtain ⟨i, hi⟩ := List.mem_iff_getElem?.1 hx
      rcases ho (i + 1) x (by simpa using hi) (by omega) with h | h
      · exact .inl h
      · exact .inr (by dsimp only; omega)
  | g :: l, k, s, j + 1, f, h, hf, ho, hs => by
    simp only [fatN]
    rw [fatN_best (l := l) (j := j) (f := f) (by simpa using h) hf (fun i x hx hi => ho (i + 1) x (by simpa using hx) (by omega)) ?_]
    · rw [show k + 1 + (j : Int) = k + ((j + 1 : Nat) : Int) by omega]
    · split
      · rename_i hc
        rcases ho 0 g rfl (by omega) with h | h
        · exact absurd h hc.1
        · exact h
      · exact hs
theorem fatQ_stay : ∀ {l : List Qu} {k : Nat} {s : FatS}, (∀ q ∈ l, q.cnt = 0 ∨ q.fattest.2 ≤ s.2.2) → fatQ l k s = s
  | [], _, _, _ => rfl
  | q :: l, k, s, h => by
    have : fatS k q s = s := by
      unfold fatS
      rw [if_neg fun hc => ?_]
      rcases h q (by simp) with h | h
      · omega
      · omega
    simp only [fatQ]
    rw [this]
    exact fatQ_stay fun f hf => h f (by simp [hf])
theorem fatQ_best : ∀ {l : List Qu} {k : Nat} {s : FatS} {j : Nat} {q : Qu}, l[j]? = some q → 0 < q.cnt → (∀ (i : Nat) g, l[i]? = some g → i ≠ j → g.cnt = 0 ∨ g.fattest.2 < q.fattest.2) → s.2.2 < q.fattest.2 → fatQ l k s = (some (k + j), q.fattest.1, q.fattest.2)
  | [], _, _, _, _, h, _, _, _ => by simp at h
  | g :: l, k, s, 0, q, h, hf, ho, hs => by
    simp at h; subst h
    have : fatS k g s = (some k, g.fattest.1, g.fattest.2) := by unfold fatS; rw [if_pos ⟨hf, hs⟩]
    simp only [fatQ]
    rw [this, fatQ_stay fun x hx => ?_]
    · rfl
    · obtain ⟨i, hi⟩ := List.mem_iff_getElem?.1 hx
      rcases ho (i + 1) x (by simpa using hi) (by omega) with h | h
      · exact .inl h
      · exact .inr (by dsimp only; omega)
  | g :: l, k, s, j + 1, q, h, hf, ho, hs => by
    simp only [fatQ]
    rw [fatQ_best (l := l) (j := j) (q := q) (by simpa using h) hf (fun i x hx hi => ho (i + 1) x (by simpa using hx) (by omega)) ?_]
    · rw [show k + 1 + j = k + (j + 1) by omega]
    · unfold fatS
      split
      · rename_i hc
        rcases ho 0 g rfl (by omega) with h | h
        · omega
        · exact h
      · exact hs
def B9 : Int := bucketZ 9 3
theorem B9_bd : 0 ≤ B9 ∧ B9 < 16 := bucketZ_bd 9 3
theorem b89 : bucketZ 8 3 ≠ B9 := by decide
/-- A small queue, a great flow in another one, nothing else. -/
structure FatI (P : Po) (k2 : Nat) (N : Int) (G : List Pk) : Prop where
  ok : PoOk P
  mp : P.mp = N
  mb : P.mb = 1048576
  k0 : k2 ≠ 0
  k1 : k2 < 128
  sd : (P.qu k2).seed = 3
  big : ((P.qu k2).flow B9).l = G
  oth : ∀ j, 0 ≤ j → j < 16 → j ≠ B9 → bytP ((P.qu k2).flow j).l ≤ 20
  one : ∀ j, 0 ≤ j → j < 16 → bytP ((P.qu 0).flow j).l ≤ 10
  rest : ∀ k, k < 128 → k ≠ 0 → k ≠ k2 → (P.qu k).cnt = 0
  c1 : 0 < (P.qu 0).cnt
  len : P.len = 2 + G.length
  g : ∀ p ∈ G, p.body.length = 400
  all : ∀ p ∈ P.all, p.body.length ≤ 400
def pkF (id t : Int) : Pk := ⟨id, 9, t, 0, List.replicate 400 0⟩
theorem pkF_len (id t : Int) : (pkF id t).body.length = 400 := List.length_replicate
section
variable {P : Po} {k2 : Nat} {N id t : Int} {G r : List Pk} {p x : Pk}
theorem bytP_all {n : Nat} : ∀ {G : List Pk}, (∀ p ∈ G, p.body.length = n) → bytP G = (n : Int) * G.length
  | [], _ => by simp [bytP]
  | p :: G, h => by
    have h1 := bytP_all (G := G) fun p hp => h p (by simp [hp])
    have h2 := h p (by simp)
    simp only [bytP, List.length_cons]
    rw [h1, h2, show ((G.length + 1 : Nat) : Int) = (G.length : Int) + 1 by omega, Int.mul_add]
    omega
theorem FatI.put (i : FatI P k2 N G) (hl : P.len < 1048576) : FatI (P.put1 k2 (pkF id t)) k2 N (G ++ [pkF id t]) := by
  have hb : (pkF id t).body.length ≤ 1048576 := by rw [pkF_len]; decide
  obtain ⟨a1, a2, a3, a4⟩ := put1_spec i.ok i.k1 (p := pkF id t) (Int.le_refl _) (show (0 : Int) ≤ 1125899906842624 by decide) hb hl
  have hcn := i.ok.cnt i.k1
  obtain ⟨w', f1, f2⟩ := (i.ok.qu i.k1).2.put (p := pkF id t) (Int.le_refl _) (show (0 : Int) ≤ 1125899906842624 by decide) hb (by omega)
  have hk : bucketZ (pkF id t).flow (P.qu k2).seed = B9 := by rw [i.sd]; rfl
  rw [hk] at f1 f2
  have hq : (P.put1 k2 (pkF id t)).qu k2 = (P.qu k2).put (pkF id t) := qu_set i.ok i.k1
  have hn : ∀ k, k ≠ k2 → (P.put1 k2 (pkF id t)).qu k = P.qu k := fun k h => qu_set_ne h
  refine ⟨a1, a2.mp.trans i.mp, a2.mb.trans i.mb, i.k0, i.k1, by rw [hq, put_seed]; exact i.sd, by rw [hq, f1, i.big], fun j j0 j1 hj => ?_, fun j j0 j1 => ?_, fun k hk h0 h2 => ?_, ?_, ?_, fun p hp => ?_, fun p hp => ?_⟩
  · rw [hq, f2 j j0 hj]; exact i.oth j j0 j1 hj
  · rw [hn 0 (Ne.symm i.k0)]; exact i.one j j0 j1
  · rw [hn k h2]; exact i.rest k hk h0 h2
  · rw [hn 0 (Ne.symm i.k0)]; exact i.c1
  · rw [a4, i.len]; simp; omega
  · rcases List.mem_append.1 hp with hp | hp
    · exact i.g p hp
    · simp at hp; subst hp; exact pkF_len _ _
  · have := a3.mem_iff.1 hp
    rcases List.mem_cons.1 this with rfl | h
    · rw [pkF_len]; decide
    · exact i.all p h
theorem FatI.fat (i : FatI P k2 N G) (hG : 2 ≤ G.length) : P.fat = (some k2, B9, 400 * (G.length : Int)) := by
  obtain ⟨e, w⟩ := i.ok.qu i.k1
  obtain ⟨b0, b1⟩ := B9_bd
  have hby := bytP_all i.g
  have hne : G ≠ [] := fun e => by rw [e] at hG; simp at hG
  have hf : (P.qu k2).fattest = (B9, 400 * (G.length : Int)) := by
    have hfl := (w.ok.flow b0 b1).1
    have h1 := fatN_best (k := 0) (s := (0, -1)) hfl (by rw [i.big]; exact hne) (fun j g hg hj => ?_) (by rw [i.big, hby]; dsimp only; omega)
    · unfold Qu.fattest
      rw [h1, i.big, hby]
      have e1 : (0 : Int) + ((B9.toNat : Nat) : Int) = B9 := by omega
      dsimp only
      rw [e1]
      congr 1
      omega
    · have hj1 := (List.getElem?_eq_some_iff.1 hg).1
      rw [w.ok.len] at hj1
      have h2 := flow_at w.ok hj1
      rw [hg] at h2; cases h2
      right
      have := i.oth (j : Int) (by omega) (by omega) (by omega)
      rw [i.big, hby]
      omega
  have hc : 0 < (P.qu k2).cnt := by
    have := cntL_ge (w.ok.flow b0 b1).1
    rw [i.big] at this
    show 0 < cntL (P.qu k2).fl
    omega
  have h1 := fatQ_best (k := 0) (s := (none, 0, -1)) e hc (fun j g hg hj => ?_) (by rw [hf]; dsimp only; omega)
  · rw [hf] at h1
    rw [Nat.zero_add] at h1
    exact h1
  · have hj1 := (List.getElem?_eq_some_iff.1 hg).1
    rw [i.ok.n] at hj1
    have h2 := (i.ok.qu hj1).1
    rw [hg] at h2; cases h2
    by_cases h0 : j = 0
    · subst h0
      right
      obtain ⟨c0, c1, _, c2⟩ := fattest_flow (i.ok.qu hj1).2.ok i.c1
      have := i.one _ c0 c1
      rw [c2, hf]
      dsimp only
      omega
    · exact .inl (i.rest j hj1 h0 hj)
theorem FatI.shrink (i : FatI P k2 N (x :: r)) (hr : 1 ≤ r.length) : P.shrink.2 = x ∧ FatI P.shrink.1 k2 N r := by
  obtain ⟨b0, b1⟩ := B9_bd
  have hf := i.fat (by simp; omega)
  obtain ⟨e, w⟩ := i.ok.qu i.k1
  have hd := dropHead_cons b0 b1 i.big
  have hs : P.shrink = (P.set k2 ((P.qu k2).setF B9 (((P.qu k2).flow B9).setL r)), x) := by unfold Po.shrink; rw [hf]; dsimp only; rw [hd]; rfl
  obtain ⟨_, x', _, _, _, _, hok, hal, hp, hl, _⟩ := shrink_spec i.ok (by rw [i.len]; simp; omega)
  rw [hs] at hok hal hp hl ⊢
  dsimp only at hok hal hp hl ⊢
  have hq := qu_set (q := (P.qu k2).setF B9 (((P.qu k2).flow B9).setL r)) i.ok i.k1
  have hn : ∀ k, k ≠ k2 → (P.set k2 ((P.qu k2).setF B9 (((P.qu k2).flow B9).setL r))).qu k = P.qu k := fun k h => qu_set_ne h
  refine ⟨rfl, hok, hal.mp.trans i.mp, hal.mb.trans i.mb, i.k0, i.k1, by rw [hq]; exact i.sd, by rw [hq, flow_setF w.ok b0 b1]; rfl, fun j j0 j1 hj => ?_, fun j j0 j1 => ?_, fun k hk h0 h2 => ?_, ?_, ?_, fun p hp => i.g p (by simp [hp]), fun p hp' => ?_⟩
  · rw [hq, flow_setF_ne b0 j0 hj]; exact i.oth j j0 j1 hj
  · rw [hn 0 (Ne.symm i.k0)]; exact i.one j j0 j1
  · rw [hn k h2]; exact i.rest k hk h0 h2
  · rw [hn 0 (Ne.symm i.k0)]; exact i.c1
  · have := i.len; simp at this; omega
  · exact i.all p (hp.mem_iff.1 (List.mem_cons_of_mem _ hp'))
theorem FatI.byt (i : FatI P k2 N G) (h : G.length ≤ 100) : P.byt ≤ 1048576 := by
  have := bytP_le (N := 400) i.all
  rw [← Po.byt_all, ← Po.len_all, i.len] at this
  omega
/-- One more of the great flow. -/
theorem FatI.step (i : FatI P k2 N G) (h2 : 4 ≤ N) (hN : N ≤ 20) (hg : (G.length : Int) + 2 ≤ N) : ((G.length : Int) + 2 < N ∧ P.put k2 (pkF id t) = (P.put1 k2 (pkF id t), []) ∧ FatI (P.put1 k2 (pkF id t)) k2 N (G ++ [pkF id t])) ∨
    (∃ x r, (G.length : Int) + 2 = N ∧ G = x :: r ∧ (P.put k2 (pkF id t)).2 = [x] ∧ FatI (P.put k2 (pkF id t)).1 k2 N (r ++ [pkF id t])) := by
  have hl : P.len < 1048576 := by have := i.len; omega
  have i1 := i.put (id := id) (t := t) hl
  have hb := i1.byt (by simp; omega)
  have hlen := i1.len
  rw [List.length_append, List.length_singleton] at hlen
  by_cases hc : (G.length : Int) + 2 < N
  · left
    refine ⟨hc, ?_, i1⟩
    unfold Po.put
    refine shrN_done fun hm => ?_
    rw [i1.mp, i1.mb] at hm
    rcases hm with hm | hm <;> omega
  · right
    cases G with
    | nil => simp at hg hc; omega
    | cons x r =>
      have hr : 1 ≤ (r ++ [pkF id t]).length := by simp
      obtain ⟨s1, s2⟩ := FatI.shrink (x := x) (r := r ++ [pkF id t]) (by simpa using i1) hr
      have hb2 := s2.byt (by simp at hg ⊢; omega)
      have hl2 := s2.len
      simp at hg hlen hl2
      have he : P.put k2 (pkF id t) = ((P.put1 k2 (pkF id t)).shrink.1, [x]) := by
        unfold Po.put
        obtain ⟨m, hm⟩ : ∃ m, (P.put1 k2 (pkF id t)).len = m + 1 := ⟨(P.put1 k2 (pkF id t)).len - 1, by omega⟩
        rw [hm, shrN_more (.inl (by rw [i1.mp]; simp at hc; omega)), s1, List.nil_append]
        refine shrN_done fun hm => ?_
        rw [s2.mp, s2.mb] at hm
        simp at hc
        rcases hm with hm | hm <;> omega
      rw [he]
      exact ⟨x, r, by simp at hc ⊢; omega, rfl, rfl, s2⟩
theorem q0flow (seed tg iv k : Int) : ((qu0 seed tg iv).flow k).l = [] := by
  unfold Qu.flow qu0
  simp only [List.getElem?_replicate]
  split <;> rfl
def pkL (id flow t : Int) (n : Nat) : Pk := ⟨id, flow, t, 0, List.replicate n 0⟩
theorem pkL_len (id flow t : Int) (n : Nat) : (pkL id flow t n).body.length = n := List.length_replicate
theorem pkL_v {W : Wd} {b n : Nat} (id flow t : Int) (hb : Bts W (.slice (some ⟨b, 0, none⟩) n n) (List.replicate n 0)) : PkV W (pkL id flow t n) [.int .i64 id, .int .u32 flow, .int .i64 t, .int .i64 0, .slice (some ⟨b, 0, none⟩) n n] :=
  ⟨some ⟨b, 0, none⟩, n, by rw [pkL_len]; rfl, by rw [pkL_len]; exact hb⟩
theorem bytP_one (p : Pk) : bytP [p] = p.body.length := by simp [bytP]
theorem fat_init (h2 : 4 ≤ N) (hN : N ≤ 20) (k0 : k2 ≠ 0) (k1 : k2 < 128) : (po0 3 50 1000 N 1048576).put 0 (pkL 1 0 0 10) = ((po0 3 50 1000 N 1048576).put1 0 (pkL 1 0 0 10), []) ∧
    ((po0 3 50 1000 N 1048576).put1 0 (pkL 1 0 0 10)).put k2 (pkL 2 8 t 20) = (((po0 3 50 1000 N 1048576).put1 0 (pkL 1 0 0 10)).put1 k2 (pkL 2 8 t 20), []) ∧
    FatI (((po0 3 50 1000 N 1048576).put1 0 (pkL 1 0 0 10)).put1 k2 (pkL 2 8 t 20)) k2 N [] := by
  have hP0 : PoOk (po0 3 50 1000 N 1048576) := pok0 _ _ _ (by omega) (by omega) (by decide) (by decide)
  have l0 := len0 3 50 1000 N 1048576
  have y0 := byt0 3 50 1000 N 1048576
  have z0 : ∀ k, (po0 3 50 1000 N 1048576).qu k = qu0 3 50 1000 := po0_qu _ _ _ _ _
  have m0 : (po0 3 50 1000 N 1048576).mp = N := rfl
  have n0 : (po0 3 50 1000 N 1048576).mb = 1048576 := rfl
  have hb1 : (pkL 1 0 0 10).body.length = 10 := pkL_len _ _ _ _
  have hb2 : (pkL 2 8 t 20).body.length = 20 := pkL_len _ _ _ _
  generalize po0 3 50 1000 N 1048576 = P0 at *
  obtain ⟨a1, a2⟩ := put_none hP0 (k := 0) (p := pkL 1 0 0 10) (by decide) rfl (by omega) (by omega) (by omega)
  obtain ⟨c1, c2, c3, c4⟩ := put1_spec hP0 (k := 0) (p := pkL 1 0 0 10) (by decide) (Int.le_refl _) (show (0 : Int) ≤ 1125899906842624 by decide) (by omega) (by omega)
  have cc1 := put1_cnt hP0 (k := 0) (p := pkL 1 0 0 10) (by decide) rfl (by omega) (by omega)
  have q1 : (P0.put1 0 (pkL 1 0 0 10)).qu 0 = (qu0 3 50 1000).put (pkL 1 0 0 10) := by rw [← z0 0]; exact qu_set hP0 (by decide)
  have q1n : ∀ k, k ≠ 0 → (P0.put1 0 (pkL 1 0 0 10)).qu k = qu0 3 50 1000 := fun k hk => (qu_set_ne hk).trans (z0 k)
  generalize P0.put1 0 (pkL 1 0 0 10) = P1 at *
  have hm1 := c2.mp
  have hn1 := c2.mb
  obtain ⟨b1, b2⟩ := put_none c1 (k := k2) (p := pkL 2 8 t 20) k1 rfl (by omega) (by omega) (by omega)
  obtain ⟨d1, d2, d3, d4⟩ := put1_spec c1 (k := k2) (p := pkL 2 8 t 20) k1 (Int.le_refl _) (show (0 : Int) ≤ 1125899906842624 by decide) (by omega) (by omega)
  have q2 : (P1.put1 k2 (pkL 2 8 t 20)).qu k2 = (qu0 3 50 1000).put (pkL 2 8 t 20) := by rw [← q1n k2 k0]; exact qu_set c1 k1
  have q2n : ∀ k, k ≠ k2 → (P1.put1 k2 (pkL 2 8 t 20)).qu k = P1.qu k := fun k hk => qu_set_ne hk
  generalize P1.put1 k2 (pkL 2 8 t 20) = P2 at *
  obtain ⟨_, f1, f2⟩ := (well0 3 50 1000).put (p := pkL 1 0 0 10) (Int.le_refl _) (show (0 : Int) ≤ 1125899906842624 by decide) (by omega) (by show 0 < 1048576; decide)
  obtain ⟨_, g1, g2⟩ := (well0 3 50 1000).put (p := pkL 2 8 t 20) (Int.le_refl _) (show (0 : Int) ≤ 1125899906842624 by decide) (by omega) (by show 0 < 1048576; decide)
  have hk8 : bucketZ (pkL 2 8 t 20).flow (qu0 3 50 1000).seed = bucketZ 8 3 := rfl
  rw [hk8] at g1 g2
  rw [q0flow, List.nil_append] at f1 g1
  refine ⟨a1, b1, d1, d2.mp.trans (hm1.trans m0), d2.mb.trans (hn1.trans n0), k0, k1, by rw [q2, put_seed]; rfl, ?_, fun j j0 j1 hj => ?_, fun j j0 j1 => ?_, fun k hk h0 h2 => ?_, ?_, ?_, fun p hp => (by cases hp), fun p hp => ?_⟩
  · rw [q2, g2 B9 B9_bd.1 (fun e => b89 e.symm)]; exact q0flow _ _ _ _
  · rw [q2]
    by_cases e : j = bucketZ 8 3
    · rw [e, g1, bytP_one, hb2]; decide
    · rw [g2 j j0 e, q0flow]; decide
  · rw [q2n 0 (Ne.symm k0), q1]
    by_cases e : j = bucketZ (pkL 1 0 0 10).flow (qu0 3 50 1000).seed
    · rw [e, f1, bytP_one, hb1]; decide
    · rw [f2 j j0 e, q0flow]; decide
  · rw [q2n k h2, q1n k h0]; rfl
  · rw [q2n 0 (Ne.symm k0)]; omega
  · simp only [List.length_nil]; omega
  · rcases List.mem_cons.1 (d3.mem_iff.1 hp) with rfl | h
    · omega
    · rcases List.mem_cons.1 (c3.mem_iff.1 h) with rfl | h
      · omega
      · have := List.length_pos_of_mem h
        rw [← Po.len_all] at this
        omega
theorem pix10 : pix 1 0 = 0 := by decide
theorem there10 : thereZ 1 0 = true := by decide
set_option maxHeartbeats 1000000
theorem poolFattest_r {h : Heap} {a : Addr} (hg : wcell (Wd.of h) 0 0 = some (ptE a)) (n aid tid : Int) : Runs Tryd.prog 3 #[.int .i64 n, .int .i64 aid, .int .i64 tid] h fun v h' => v = .bool true ∧ Kept h h' := by
  refine vc_muezzinlaw14_PoolFattest _ _ _ _ _ ((first14_c (Me.start h) hg).mono ?_)
  rintro _ h1 ⟨rfl, W1, hle, m⟩
  refine ⟨_, rfl, bcase_false rfl ((number_c n 12 _ (by decide) (by decide)).ret ⟨_, rfl, ?_⟩)⟩
  have n0 := Int.emod_nonneg n (show (12 : Int) ≠ 0 by decide)
  have n1 := Int.emod_lt_of_pos n (show (0 : Int) < 12 by decide)
  refine ⟨by simp only [fits]; omega, (number_c aid 15 _ (by decide) (by decide)).ret ⟨_, rfl, ?_⟩⟩
  have a0 := Int.emod_nonneg aid (show (15 : Int) ≠ 0 by decide)
  have a1 := Int.emod_lt_of_pos aid (show (0 : Int) < 15 by decide)
  refine ⟨by simp only [fits]; omega, (number_c tid 8 _ (by decide) (by decide)).ret ⟨_, rfl, ?_⟩⟩
  have t0 := Int.emod_nonneg tid (show (8 : Int) ≠ 0 by decide)
  have t1 := Int.emod_lt_of_pos tid (show (0 : Int) < 8 by decide)
  generalize tid % 8 = t at *
  obtain ⟨N, hN⟩ : ∃ N, N = n % 12 + 4 := ⟨_, rfl⟩
  obtain ⟨A, hA⟩ : ∃ A, A = aid % 15 + 2 := ⟨_, rfl⟩
  rw [← hN, ← hA]
  have hth : thereZ A t = true := thereZ_iff.2 ⟨by omega, by omega, by omega, by omega⟩
  have hk1 := pix_lt hth
  have hk0 : pix A t ≠ 0 := by unfold pix; omega
  obtain ⟨k2, hk2⟩ : ∃ k2, k2 = pix A t := ⟨_, rfl⟩
  rw [← hk2] at hk1 hk0
  obtain ⟨s1, s2, s3⟩ := fat_init (N := N) (k2 := k2) (t := t) (by omega) (by omega) hk0 hk1
  refine (poNew_c m (wcell_le hle hg) 3 50 1000 N 1048576).mono ?_
  rintro _ h5 ⟨-, hok⟩
  obtain ⟨b, L, rfl, hv, m⟩ := hok ⟨by omega, by omega, by decide, by decide⟩
  have hP0 : PoOk (po0 3 50 1000 N 1048576) := pok0 _ _ _ (by omega) (by omega) (by decide) (by decide)
  refine ⟨_, _, rfl, bcase_false rfl ⟨true, rfl, bcase_false rfl ⟨⟨by decide, by decide, by decide, by decide⟩, ?_⟩⟩⟩
  intro b1 h6 e1 e2
  replace m := m.push e2 e1
  clear e1 e2
  obtain ⟨W2, hle2, m, hbt⟩ := made_bytes (n := 10) m
  have hgW := wcell_le (hle.trans hle2) hg
  refine (poPut_c (aid := 1) m (hv.le hle2) hP0 (by rw [len0]; decide) (pkL_v 1 0 0 hbt) (Int.le_refl _) (show (0 : Int) ≤ 1125899906842624 by decide) (by rw [pkL_len]; decide) hgW).mono ?_
  rintro _ h7 ⟨oa, oc, vs, E, W3, L1, rfl, _, hle3, _, hv1, m⟩
  replace m := m.drop1
  have p1 : (po0 3 50 1000 N 1048576).putZ 1 (pkL 1 0 0 10) = ((po0 3 50 1000 N 1048576).put1 0 (pkL 1 0 0 10), []) := s1
  rw [p1] at hv1 ⊢
  dsimp only at hv1 ⊢
  have hl1 : ((po0 3 50 1000 N 1048576).put1 0 (pkL 1 0 0 10)).len ≤ 100 := by
    obtain ⟨_, _, _, c4⟩ := put1_spec hP0 (k := 0) (p := pkL 1 0 0 10) (by decide) (Int.le_refl _) (show (0 : Int) ≤ 1125899906842624 by decide) (by rw [pkL_len]; decide) (by rw [len0]; decide)
    rw [c4, len0]; decide
  have hP1 : PoOk ((po0 3 50 1000 N 1048576).put1 0 (pkL 1 0 0 10)) := (put1_spec hP0 (k := 0) (p := pkL 1 0 0 10) (by decide) (Int.le_refl _) (show (0 : Int) ≤ 1125899906842624 by decide) (by rw [pkL_len]; decide) (by rw [len0]; decide)).1
  generalize (po0 3 50 1000 N 1048576).put1 0 (pkL 1 0 0 10) = P1 at *
  refine ⟨_, _, _, _, rfl, ⟨by decide, by decide, by decide, by decide⟩, ?_⟩
  intro b2 h8 e1 e2
  replace m := m.push e2 e1
  clear e1 e2
  obtain ⟨W4, hle4, m, hbt2⟩ := made_bytes (n := 20) m
  have hgW2 := wcell_le (hle3.trans hle4) hgW
  refine (poPut_c (aid := A) m (hv1.le hle4) hP1 (by omega) (pkL_v 2 8 t hbt2) (Int.le_refl _) (show (0 : Int) ≤ 1125899906842624 by decide) (by rw [pkL_len]; decide) hgW2).mono ?_
  rintro _ h9 ⟨oa, oc, vs, E, W5, L2, rfl, _, hle5, _, hv2, m⟩
  replace m := m.drop1
  have p2 : P1.putZ A (pkL 2 8 t 20) = (P1.put1 k2 (pkL 2 8 t 20), []) := by
    unfold Po.putZ
    have : thereZ A (pkL 2 8 t 20).tid = true := hth
    rw [if_pos this]
    have e : pix A (pkL 2 8 t 20).tid = k2 := hk2.symm
    rw [e]; exact s2
  rw [p2] at hv2 ⊢
  dsimp only at hv2 ⊢
  generalize P1.put1 k2 (pkL 2 8 t 20) = P2 at *
  have hleA := (hle.trans hle2).trans ((hle3.trans hle4).trans hle5)
  refine ⟨_, _, _, _, rfl, ?_⟩
  refine ⟨fun x h' => ∃ (W6 : Wd) (L : Grp) (P : Po) (G : List Pk), (Wd.of h).le W6 ∧ 3 ≤ x ∧ x ≤ N + 8 ∧ FatI P k2 N G ∧ PoV W6 b P L ∧ Me W6 h' (L :: []) ∧ (G.length : Int) + 2 ≤ N ∧ ((G.length : Int) + 2 < N → x = G.length + 3) ∧ ((G.length : Int) + 2 = N → N + 1 ≤ x) ∧
    ∀ (i : Nat) p, G[i]? = some p → p.id = x - G.length + i, fun x _ => (N + 8 - x).toNat, ⟨W5, L2, P2, [], hleA, by omega, by omega, s3, hv2, m, by simp only [List.length_nil]; omega, fun _ => rfl, fun e => by simp only [List.length_nil] at e; omega, fun i p hp => by simp at hp⟩, fun _ => ?_⟩
  clear m hv2 s3 hv1 hv hbt hbt2 hP0 hP1 p1 p2 s1 s2
  rintro i h10 ⟨W6, L, P, G, hle6, i3, i8, I, hv, m, hgl, hg1, hg2, hid⟩
  refine ⟨by simp only [fits]; omega, dcase_intro (fun q => ?_) fun q => ?_⟩
  · refine ⟨⟨by decide, by decide, by decide, by decide⟩, ?_⟩
    intro b3 h11 e1 e2
    replace m := m.push e2 e1
    clear e1 e2
    obtain ⟨W7, hle7, m, hbt⟩ := made_bytes (n := 400) m
    have hlen := I.len
    have hgW := wcell_le (hle6.trans hle7) hg
    refine (poPut_c (aid := A) m (hv.le hle7) I.ok (by omega) (p := pkF i t) (pkL_v i 9 t hbt) (Int.le_refl _) (show (0 : Int) ≤ 1125899906842624 by decide) (by rw [pkF_len]; decide) hgW).mono ?_
    rintro _ h12 ⟨oa, oc, vs, E, W8, L8, rfl, o, hle8, hs, hv8, m⟩
    have e1 : P.putZ A (pkF i t) = P.put k2 (pkF i t) := by
      unfold Po.putZ
      have : thereZ A (pkF i t).tid = true := hth
      rw [if_pos this]
      have e : pix A (pkF i t).tid = k2 := hk2.symm
      rw [e]
    have e2 : (if thereZ A (pkF i t).tid = true then Value.nilIface else ptE a) = .nilIface := if_pos hth
    rw [e1] at hv8 o hs ⊢
    rw [e2]
    refine ⟨_, _, _, _, rfl, true, rfl, bcase_false rfl ((refbucket_c 8 3 _).ret ⟨_, rfl, (refbucket_c 9 3 _).ret ⟨_, rfl, dcase_neg b89 ?_⟩⟩)⟩
    have hleX := (hle6.trans hle7).trans hle8
    rcases I.step (id := i) (t := t) (by omega) (by omega) hgl with ⟨c1, c2, c3⟩ | ⟨x, r, c1, rfl, c2, c3⟩
    · have hi := hg1 c1
      rw [c2] at hv8 ⊢
      dsimp only at hv8 ⊢
      refine ⟨fun x h' => x = false ∧ h' = h12, dcase_intro (fun _ => ⟨rfl, rfl⟩) (fun _ => ⟨rfl, rfl⟩), fun _ => ?_⟩
      rintro _ _ ⟨rfl, rfl⟩
      refine bcase_false rfl (dcase_neg (by omega) ⟨by simp only [fits]; omega, ⟨W8, L8, _, _, hleX, by omega, by omega, c3, hv8, m.drop1, ?_, ?_, ?_, ?_⟩, by (try dsimp only); omega⟩)
      · simp; omega
      · intro _; simp; omega
      · intro e; simp at e; omega
      · intro j p hp
        rw [List.length_append, List.length_singleton]
        by_cases hj : j < G.length
        · rw [List.getElem?_append_left hj] at hp
          have := hid j p hp; omega
        · rw [List.getElem?_append_right (by omega)] at hp
          have hj2 : j = G.length := by
            have := (List.getElem?_eq_some_iff.1 hp).1
            simp at this; omega
          subst hj2
          simp at hp; subst hp
          show i = _
          omega
    · have hi := hg2 c1
      have hx := hid 0 x rfl
      rw [c2] at o hs ⊢
      simp only [List.length_cons, List.length_nil] at o hs c1 hx hgl hlen hid ⊢
      refine ⟨fun x h' => x = false ∧ h' = h12, dcase_intro (fun q => by omega) (fun _ => ⟨rfl, rfl⟩), fun _ => ?_⟩
      rintro _ _ ⟨rfl, rfl⟩
      obtain ⟨cs, hcv, hrow, hrl⟩ := hs.get (fun _ _ => PkV.len) (i := 0) (x := x) rfl
      obtain ⟨pa, pc, rfl, hbx⟩ := hcv
      obtain ⟨sb, so, rfl, hr⟩ := src_part (k := 0 * 5) (n := 5) (o.src m 0 rfl) hrl (by decide) hrow
      have hc0 := (row_iff.1 hr).2 0 _ rfl
      refine bcase_false rfl (dcase_pos (by omega) (bcase_false rfl ⟨⟨by omega, by omega⟩, _, by simpa using hc0, by simp only [fits]; omega, by simp only [fits]; omega, ?_⟩))
      refine bcase_false (by have : x.id = i - N + 2 := by omega
                             simp [this]) ⟨by simp only [fits]; omega, ⟨W8, L8, _, _, hleX, by omega, by omega, c3, hv8, m.drop1, ?_, ?_, ?_, ?_⟩, by (try dsimp only); omega⟩
      · simp; omega
      · intro e; simp at e; omega
      · intro _; omega
      · intro j p hp
        rw [List.length_append, List.length_singleton]
        by_cases hj : j < r.length
        · rw [List.getElem?_append_left hj] at hp
          have := hid (j + 1) p (by simpa using hp); omega
        · rw [List.getElem?_append_right (by omega)] at hp
          have hj2 : j = r.length := by
            have := (List.getElem?_eq_some_iff.1 hp).1
            simp at this; omega
          subst hj2
          simp at hp; subst hp
          show i = _
          omega
  · have hx : (G.length : Int) + 2 = N := by
      rcases Int.lt_or_eq_of_le hgl with h | h
      · have := hg1 h; omega
      · exact h
    have hlen := I.len
    have hkk := m.kept hle6
    refine ⟨fun x h' => x = true ∧ h' = h10, bcase_true rfl ((poHas_c m hv I.ok 1 0).mono ?_), fun _ => ?_⟩
    · rintro _ h11 ⟨rfl, rfl⟩
      refine ⟨_, rfl, ?_, rfl⟩
      rw [there10, pix10]
      simpa using I.c1
    rintro _ h10 ⟨rfl, rfl⟩
    refine ⟨fun x h' => x = true ∧ h' = h10, bcase_true rfl ((poHas_c m hv I.ok A t).mono ?_), fun _ => ?_⟩
    · rintro _ h11 ⟨rfl, rfl⟩
      refine ⟨_, rfl, ?_, rfl⟩
      rw [hth, ← hk2]
      have := cntL_ge ((I.ok.qu I.k1).2.ok.flow B9_bd.1 B9_bd.2).1
      rw [I.big] at this
      have hc : 0 < (P.qu k2).cnt := by show 0 < cntL (P.qu k2).fl; omega
      simpa using hc
    rintro _ h10 ⟨rfl, rfl⟩
    refine bcase_true rfl ((poLen_c m hv I.ok (by omega)).mono ?_)
    rintro _ h12 ⟨rfl, m⟩
    refine ⟨_, rfl, ?_, m.kept hle6⟩
    have : (P.len : Int) = N := by omega
    simp [this]
end
theorem walk_PoolFattest (w : World) (hE : ∃ a, wcell (Wd.of w.heap) 0 0 = some (ptE a)) (a0 : Int) (w0 : (Lit.int .i64 a0).wf = true) (a1 : Int) (w1 : (Lit.int .i64 a1).wf = true) (a2 : Int) (w2 : (Lit.int .i64 a2).wf = true) :
    Calls Tryd.prog 3 #[.int .i64 a0, .int .i64 a1, .int .i64 a2] w fun e w' => e = .returned (.bool true) ∧ Go.RowKit.Below w.heap.size w w' := by
  obtain ⟨a, ha⟩ := hE
  exact calls_of_runs (poolFattest_r ha a0 a1 a2)
end Go.Proofs.YtpcilleldanfmaaDoor
