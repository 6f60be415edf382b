/- A pool of queues (chapter 14), as plain mathematics: the program's pool and the document's one go this way. -/
import Derived.Test.YtpcilleldanfmaaDoorFqOut
set_option linter.unusedVariables false
set_option linter.unusedSimpArgs false
namespace Go.Proofs.YtpcilleldanfmaaDoor
structure Po where
  seed : Int
  tg : Int
  iv : Int
  mp : Int
  mb : Int
  q : List Qu
def po0 (seed tg iv mp mb : Int) : Po := ⟨seed, tg, iv, mp, mb, List.replicate 128 (qu0 seed tg iv)⟩
def Po.new (P : Po) : Qu := qu0 P.seed P.tg P.iv
def Po.qu (P : Po) (k : Nat) : Qu := (P.q[k]?).getD P.new
def Po.set (P : Po) (k : Nat) (q : Qu) : Po := ⟨P.seed, P.tg, P.iv, P.mp, P.mb, P.q.set k q⟩
def cntQ : List Qu → Nat
  | [] => 0
  | q :: r => q.cnt + cntQ r
def bytQ : List Qu → Int
  | [] => 0
  | q :: r => q.byt + bytQ r
def allQ (l : List Qu) : List Pk := (l.map fun q => allL q.fl).flatten
def Po.len (P : Po) : Nat := cntQ P.q
def Po.byt (P : Po) : Int := bytQ P.q
def Po.all (P : Po) : List Pk := allQ P.q
abbrev FatS := Option Nat × Int × Int
def fatS (k : Nat) (q : Qu) (s : FatS) : FatS := if 0 < q.cnt ∧ s.2.2 < q.fattest.2 then (some k, q.fattest.1, q.fattest.2) else s
/-- The fattest flow of all, among the queues from k on. -/
def fatQ : List Qu → Nat → FatS → FatS
  | [], _, s => s
  | q :: r, k, s => fatQ r (k + 1) (fatS k q s)
def Po.fat (P : Po) : FatS := fatQ P.q 0 (none, 0, -1)
def Po.shrink (P : Po) : Po × Pk := match P.fat.1 with
  | none => (P, pk0)
  | some k => (P.set k ((P.qu k).dropHead P.fat.2.1).1, ((P.qu k).dropHead P.fat.2.1).2.getD pk0)
def shrN : Nat → Po → List Pk → Po × List Pk
  | 0, P, d => (P, d)
  | n + 1, P, d => if P.mp < P.len ∨ P.mb < P.byt then shrN n P.shrink.1 (d ++ [P.shrink.2]) else (P, d)
def thereZ (aid tid : Int) : Bool := decide (1 ≤ aid ∧ aid ≤ 16 ∧ 0 ≤ tid ∧ tid < 8)
def pix (aid tid : Int) : Nat := (aid - 1).toNat * 8 + tid.toNat
def Po.put1 (P : Po) (k : Nat) (p : Pk) : Po := P.set k ((P.qu k).put p)
def Po.put (P : Po) (k : Nat) (p : Pk) : Po × List Pk := shrN (P.put1 k p).len (P.put1 k p) []
def Po.take (P : Po) (k : Nat) (now : Int) : Po × List Pk × Option Pk := (P.set k ((P.qu k).take now).1, ((P.qu k).take now).2)
def outN (P : Po) (b : Nat) : Nat → List Pk
  | 0 => []
  | n + 1 => outN P b n ++ allL (P.qu (b + n)).fl
def wipeN (P : Po) (b : Nat) : Nat → Po
  | 0 => P
  | n + 1 => (wipeN P b n).set (b + n) P.new
def Po.drop (P : Po) (aid : Int) : Po × List Pk := if thereZ aid 0 = true then (wipeN P ((aid - 1).toNat * 8) 8, outN P ((aid - 1).toNat * 8) 8) else (P, [])
structure PoOk (P : Po) : Prop where
  n : P.q.length = 128
  w : ∀ q ∈ P.q, Well q
  p0 : 1 ≤ P.mp
  p1 : P.mp ≤ 512
  b0 : 1 ≤ P.mb
  b1 : P.mb ≤ 1048576
/-- The pools go the same way apart from their queues. -/
structure Alike (P P' : Po) : Prop where
  seed : P'.seed = P.seed
  tg : P'.tg = P.tg
  iv : P'.iv = P.iv
  mp : P'.mp = P.mp
  mb : P'.mb = P.mb
theorem Alike.refl (P : Po) : Alike P P := ⟨rfl, rfl, rfl, rfl, rfl⟩
theorem Alike.trans {A B C : Po} (h : Alike A B) (k : Alike B C) : Alike A C := ⟨k.seed.trans h.seed, k.tg.trans h.tg, k.iv.trans h.iv, k.mp.trans h.mp, k.mb.trans h.mb⟩
theorem thereZ_iff {aid tid : Int} : thereZ aid tid = true ↔ (1 ≤ aid ∧ aid ≤ 16 ∧ 0 ≤ tid ∧ tid < 8) := by simp [thereZ]
theorem pix_lt {aid tid : Int} (h : thereZ aid tid = true) : pix aid tid < 128 := by
  have := thereZ_iff.1 h
  unfold pix; omega
theorem pix_inj {a b s t : Int} (h : thereZ a s = true) (k : thereZ b t = true) (e : pix a s = pix b t) : a = b ∧ s = t := by
  have h1 := thereZ_iff.1 h
  have h2 := thereZ_iff.1 k
  unfold pix at e; omega
section
variable {P P' : Po} {q q' : Qu} {k j n : Nat} {l : List Qu} {p : Pk} {f g : Fl} {s : FatS} {r : List Pk} {c : Int}
-- what a queue holds, what a pool holds
theorem perm_count {a b : List Pk} : a.Perm b ↔ ∀ x, a.count x = b.count x := List.perm_iff_count
theorem bytP_perm {a b : List Pk} (h : a.Perm b) : bytP a = bytP b := by
  induction h with
  | nil => rfl
  | cons x _ ih => simp only [bytP, ih]
  | swap x y l => simp only [bytP]; omega
  | trans _ _ h1 h2 => exact h1.trans h2
theorem allL_cons (f : Fl) (l : List Fl) : allL (f :: l) = f.l ++ allL l := by simp [allL]
theorem allQ_cons (q : Qu) (l : List Qu) : allQ (q :: l) = allL q.fl ++ allQ l := by simp [allQ]
theorem allL_set : ∀ {l : List Fl} {k : Nat} {f g : Fl}, l[k]? = some f → (allL (l.set k g) ++ f.l).Perm (allL l ++ g.l)
  | [], k, f, g, h => by simp at h
  | x :: l, 0, f, g, h => by
    simp at h; subst h
    rw [List.set_cons_zero, allL_cons, allL_cons]
    exact perm_count.2 fun x => by simp only [List.count_append]; omega
  | x :: l, k + 1, f, g, h => by
    have := perm_count.1 (allL_set (l := l) (k := k) (g := g) (by simpa using h))
    rw [List.set_cons_succ, allL_cons, allL_cons]
    exact perm_count.2 fun x => by have := this x; simp only [List.count_append] at this ⊢; omega
theorem allQ_set : ∀ {l : List Qu} {k : Nat} {q q' : Qu}, l[k]? = some q → (allQ (l.set k q') ++ allL q.fl).Perm (allQ l ++ allL q'.fl)
  | [], k, f, g, h => by simp at h
  | x :: l, 0, f, g, h => by
    simp at h; subst h
    rw [List.set_cons_zero, allQ_cons, allQ_cons]
    exact perm_count.2 fun x => by simp only [List.count_append]; omega
  | x :: l, k + 1, f, g, h => by
    have := perm_count.1 (allQ_set (l := l) (k := k) (q' := g) (by simpa using h))
    rw [List.set_cons_succ, allQ_cons, allQ_cons]
    exact perm_count.2 fun x => by have := this x; simp only [List.count_append] at this ⊢; omega
theorem bytL_all : ∀ (l : List Fl), bytL l = bytP (allL l)
  | [] => rfl
  | f :: r => by rw [allL_cons, bytP_app]; simp only [bytL]; rw [bytL_all r]
theorem cntQ_all : ∀ (l : List Qu), cntQ l = (allQ l).length
  | [] => rfl
  | q :: r => by rw [allQ_cons, List.length_append, allL_len]; simp only [cntQ]; rw [cntQ_all r]; rfl
theorem bytQ_all : ∀ (l : List Qu), bytQ l = bytP (allQ l)
  | [] => rfl
  | q :: r => by rw [allQ_cons, bytP_app, ← bytL_all]; simp only [bytQ]; rw [bytQ_all r]; rfl
theorem Po.len_all (P : Po) : P.len = P.all.length := cntQ_all _
theorem Po.byt_all (P : Po) : P.byt = bytP P.all := bytQ_all _
theorem cntQ_ge : ∀ {l : List Qu} {k : Nat} {q : Qu}, l[k]? = some q → q.cnt ≤ cntQ l
  | [], k, f, h => by simp at h
  | x :: l, 0, f, h => by simp at h; subst h; simp only [cntQ]; omega
  | x :: l, k + 1, f, h => by have := cntQ_ge (l := l) (k := k) (by simpa using h); simp only [cntQ]; omega
theorem cntQ_take : ∀ {l : List Qu} {k : Nat} {q : Qu}, l[k]? = some q → cntQ (l.take (k + 1)) = cntQ (l.take k) + q.cnt
  | [], k, f, h => by simp at h
  | x :: l, 0, f, h => by simp at h; subst h; simp [cntQ]
  | x :: l, k + 1, f, h => by have := cntQ_take (l := l) (k := k) (by simpa using h); simp only [List.take_succ_cons, cntQ]; omega
theorem bytQ_take : ∀ {l : List Qu} {k : Nat} {q : Qu}, l[k]? = some q → bytQ (l.take (k + 1)) = bytQ (l.take k) + q.byt
  | [], k, f, h => by simp at h
  | x :: l, 0, f, h => by simp at h; subst h; simp [bytQ]
  | x :: l, k + 1, f, h => by have := bytQ_take (l := l) (k := k) (by simpa using h); simp only [List.take_succ_cons, bytQ]; omega
theorem cntQ_take_le : ∀ (l : List Qu) (k : Nat), cntQ (l.take k) ≤ cntQ l
  | [], k => by simp [cntQ]
  | x :: l, 0 => by simp [cntQ]
  | x :: l, k + 1 => by have := cntQ_take_le l k; simp only [List.take_succ_cons, cntQ]; omega
theorem bytQ_nn : ∀ (l : List Qu), 0 ≤ bytQ l
  | [] => by simp [bytQ]
  | q :: r => by have := bytQ_nn r; have := bytL_nn q.fl; simp only [bytQ, Qu.byt]; omega
theorem bytQ_take_le : ∀ (l : List Qu) (k : Nat), bytQ (l.take k) ≤ bytQ l
  | [], k => by simp [bytQ]
  | x :: l, 0 => by have := bytQ_nn (x :: l); simpa [bytQ] using this
  | x :: l, k + 1 => by have := bytQ_take_le l k; simp only [List.take_succ_cons, bytQ]; omega
theorem QOk.all_len (hq : QOk q) : ∀ p ∈ allL q.fl, p.body.length ≤ 1048576 := by
  intro p hp
  simp [allL] at hp
  obtain ⟨_, ⟨f, hf, rfl⟩, hp⟩ := hp
  exact ((hq.f f hf).p p hp).2.2
theorem PoOk.all_len (hP : PoOk P) : ∀ p ∈ P.all, p.body.length ≤ 1048576 := by
  intro p hp
  simp [Po.all, allQ] at hp
  obtain ⟨_, ⟨q, hq, rfl⟩, hp⟩ := hp
  exact (hP.w q hq).ok.all_len p hp
theorem PoOk.byt_le (hP : PoOk P) : P.byt ≤ 1048576 * P.len := by
  rw [Po.byt_all, Po.len_all]
  exact bytP_le (N := 1048576) hP.all_len
theorem Po.byt_nn (P : Po) : 0 ≤ P.byt := by rw [Po.byt_all]; exact bytP_nn _
-- one queue of a pool
theorem PoOk.qu (hP : PoOk P) (hk : k < 128) : P.q[k]? = some (P.qu k) ∧ Well (P.qu k) := by
  have hlt : k < P.q.length := by rw [hP.n]; omega
  have e : P.q[k]? = some (P.qu k) := by unfold Po.qu; rw [List.getElem?_eq_getElem hlt]; rfl
  exact ⟨e, hP.w _ (List.mem_of_getElem? e)⟩
theorem PoOk.cnt (hP : PoOk P) (hk : k < 128) : (P.qu k).cnt ≤ P.len := cntQ_ge (hP.qu hk).1
theorem qu_set (hP : PoOk P) (hk : k < 128) : (P.set k q).qu k = q := by
  have hlt : k < P.q.length := by rw [hP.n]; omega
  simp [Po.qu, Po.set, hlt]
theorem qu_set_ne (h : j ≠ k) : (P.set k q).qu j = P.qu j := by
  unfold Po.qu Po.set
  dsimp only
  rw [List.getElem?_set_ne (by omega)]
  rfl
theorem set_alike : Alike P (P.set k q) := ⟨rfl, rfl, rfl, rfl, rfl⟩
theorem set_set (q q' : Qu) : (P.set k q).set k q' = P.set k q' := by simp [Po.set]
theorem PoOk.set (hP : PoOk P) (hq : Well q) : PoOk (P.set k q) := by
  refine ⟨by simp [Po.set, hP.n], fun x hx => ?_, hP.p0, hP.p1, hP.b0, hP.b1⟩
  rcases List.mem_or_eq_of_mem_set hx with hx | rfl
  · exact hP.w x hx
  · exact hq
theorem all_set (hP : PoOk P) (hk : k < 128) : ((P.set k q).all ++ allL (P.qu k).fl).Perm (P.all ++ allL q.fl) := allQ_set (hP.qu hk).1
theorem len_set (hP : PoOk P) (hk : k < 128) : (P.set k q).len + (P.qu k).cnt = P.len + q.cnt := by
  have := (all_set (q := q) hP hk).length_eq
  rw [List.length_append, List.length_append, allL_len, allL_len, ← Po.len_all, ← Po.len_all] at this
  exact this
theorem pok0 (seed tg iv : Int) {mp mb : Int} (p0 : 1 ≤ mp) (p1 : mp ≤ 512) (b0 : 1 ≤ mb) (b1 : mb ≤ 1048576) : PoOk (po0 seed tg iv mp mb) :=
  ⟨List.length_replicate, fun q hq => by simp [po0] at hq; subst hq; exact well0 _ _ _, p0, p1, b0, b1⟩
theorem all0 (seed tg iv : Int) : allL (qu0 seed tg iv).fl = [] := rfl
theorem cntQ0 (q : Qu) (h : q.cnt = 0) : ∀ n, cntQ (List.replicate n q) = 0
  | 0 => rfl
  | n + 1 => by rw [List.replicate_succ]; simp only [cntQ]; rw [cntQ0 q h n]; omega
theorem len0 (seed tg iv mp mb : Int) : (po0 seed tg iv mp mb).len = 0 := cntQ0 _ rfl _
theorem po0_qu (seed tg iv mp mb : Int) (k : Nat) : (po0 seed tg iv mp mb).qu k = qu0 seed tg iv := by
  unfold Po.qu po0
  dsimp only
  rw [List.getElem?_replicate]
  split <;> rfl
-- the fattest
theorem fatN_spec : ∀ {l : List Fl} {k : Int} {s : Int × Int}, fatN l k s = s ∨ ∃ (j : Nat) (f : Fl), l[j]? = some f ∧ f.l ≠ [] ∧ fatN l k s = (k + (j : Int), bytP f.l)
  | [], _, _ => .inl rfl
  | f :: l, k, s => by
    rcases fatN_spec (l := l) (k := k + 1) (s := if f.l ≠ [] ∧ s.2 < bytP f.l then (k, bytP f.l) else s) with h | ⟨j, g, h1, h2, h3⟩
    · by_cases hc : f.l ≠ [] ∧ s.2 < bytP f.l
      · refine .inr ⟨0, f, rfl, hc.1, ?_⟩
        simp only [fatN]; rw [h, if_pos hc]; simp
      · left; simp only [fatN]; rw [h, if_neg hc]
    · refine .inr ⟨j + 1, g, by simpa using h1, h2, ?_⟩
      simp only [fatN]; rw [h3]
      rw [show k + 1 + (j : Int) = k + ((j + 1 : Nat) : Int) by omega]
theorem fatN_pos : ∀ {l : List Fl} {k : Int} {s : Int × Int}, s.2 < 0 → 0 < cntL l → ∃ (j : Nat) (f : Fl), l[j]? = some f ∧ f.l ≠ [] ∧ fatN l k s = (k + (j : Int), bytP f.l)
  | [], _, _, _, h => by simp [cntL] at h
  | f :: l, k, s, hs, h => by
    by_cases hf : f.l = []
    · simp only [cntL, hf, List.length_nil] at h
      obtain ⟨j, g, h1, h2, h3⟩ := fatN_pos (l := l) (k := k + 1) hs (by omega)
      refine ⟨j + 1, g, by simpa using h1, h2, ?_⟩
      simp only [fatN]; rw [if_neg (by simp [hf]), h3]
      rw [show k + 1 + (j : Int) = k + ((j + 1 : Nat) : Int) by omega]
    · have hb := bytP_nn f.l
      have hc : f.l ≠ [] ∧ s.2 < bytP f.l := ⟨hf, by omega⟩
      rcases fatN_spec (l := l) (k := k + 1) (s := (k, bytP f.l)) with h | ⟨j, g, h1, h2, h3⟩
      · refine ⟨0, f, rfl, hf, ?_⟩
        simp only [fatN]; rw [if_pos hc, h]; simp
      · refine ⟨j + 1, g, by simpa using h1, h2, ?_⟩
        simp only [fatN]; rw [if_pos hc, h3]
        rw [show k + 1 + (j : Int) = k + ((j + 1 : Nat) : Int) by omega]
/-- A queue that holds something: its fattest flow holds something. -/
theorem fattest_flow (hq : QOk q) (hc : 0 < q.cnt) : 0 ≤ q.fattest.1 ∧ q.fattest.1 < 16 ∧ (q.flow q.fattest.1).l ≠ [] ∧ q.fattest.2 = bytP (q.flow q.fattest.1).l := by
  obtain ⟨j, f, h1, h2, h3⟩ := fatN_pos (l := q.fl) (k := 0) (s := (0, -1)) (by decide) hc
  have hj : j < 16 := by have := (List.getElem?_eq_some_iff.1 h1).1; rw [hq.len] at this; exact this
  have e1 : q.fattest.1 = (j : Int) := by unfold Qu.fattest; dsimp only; rw [h3]; simp
  have e2 : q.fattest.2 = bytP f.l := by unfold Qu.fattest; dsimp only; rw [h3]; have := bytP_nn f.l; dsimp only; omega
  have e3 := flow_at hq hj
  rw [h1] at e3
  cases e3
  rw [e1]
  exact ⟨by omega, by omega, h2, e2⟩
theorem fattest_nn : 0 ≤ q.fattest.2 := by unfold Qu.fattest; dsimp only; omega
theorem fatQ_step {l : List Qu} {k : Nat} {q : Qu} {s : FatS} (hf : l[k]? = some q) : fatQ (l.drop k) k s = fatQ (l.drop (k + 1)) (k + 1) (fatS k q s) := by
  rw [List.drop_eq_getElem_cons (List.getElem?_eq_some_iff.1 hf).1, (List.getElem?_eq_some_iff.1 hf).2]
  rfl
theorem fatQ_spec : ∀ {l : List Qu} {k : Nat} {s : FatS}, fatQ l k s = s ∨ ∃ j q, l[j]? = some q ∧ 0 < q.cnt ∧ fatQ l k s = (some (k + j), q.fattest.1, q.fattest.2)
  | [], _, _ => .inl rfl
  | q :: l, k, s => by
    rcases fatQ_spec (l := l) (k := k + 1) (s := fatS k q s) with h | ⟨j, g, h1, h2, h3⟩
    · by_cases hc : 0 < q.cnt ∧ s.2.2 < q.fattest.2
      · refine .inr ⟨0, q, rfl, hc.1, ?_⟩
        simp only [fatQ]; rw [h]; unfold fatS; rw [if_pos hc]; rfl
      · left; simp only [fatQ]; rw [h]; unfold fatS; rw [if_neg hc]
    · refine .inr ⟨j + 1, g, by simpa using h1, h2, ?_⟩
      simp only [fatQ]; rw [h3]
      rw [show k + 1 + j = k + (j + 1) by omega]
theorem fatQ_some : ∀ {l : List Qu} {k : Nat} {s : FatS}, (s.1.isSome = true ∨ s.2.2 < 0) → 0 < cntQ l → (fatQ l k s).1.isSome = true
  | [], _, _, _, h => by simp [cntQ] at h
  | q :: l, k, s, hs, h => by
    have key : ∀ (l : List Qu) (k : Nat) (s : FatS), s.1.isSome = true → (fatQ l k s).1.isSome = true := by
      intro l k s hs
      rcases fatQ_spec (l := l) (k := k) (s := s) with h | ⟨j, g, h1, h2, h3⟩
      · rw [h]; exact hs
      · rw [h3]; rfl
    simp only [fatQ]
    by_cases hc : 0 < q.cnt
    · refine key _ _ _ ?_
      unfold fatS
      split
      · rfl
      · rename_i hn
        rcases hs with hs | hs
        · exact hs
        · have := fattest_nn (q := q)
          exact absurd ⟨hc, by omega⟩ hn
    · have : fatS k q s = s := by unfold fatS; rw [if_neg (fun h => hc h.1)]
      rw [this]
      simp only [cntQ] at h
      exact fatQ_some hs (by omega)
theorem Po.fat_some (hP : PoOk P) (h : 0 < P.len) : ∃ k, k < 128 ∧ 0 < (P.qu k).cnt ∧ P.fat = (some k, (P.qu k).fattest.1, (P.qu k).fattest.2) := by
  have h1 := fatQ_some (l := P.q) (k := 0) (s := (none, 0, -1)) (.inr (by decide)) h
  rcases fatQ_spec (l := P.q) (k := 0) (s := (none, 0, -1)) with h2 | ⟨j, q, h2, h3, h4⟩
  · rw [h2] at h1; cases h1
  · have hj : j < 128 := by have := (List.getElem?_eq_some_iff.1 h2).1; rw [hP.n] at this; exact this
    have e := (hP.qu hj).1
    rw [h2] at e; cases e
    exact ⟨j, hj, h3, by rw [Nat.zero_add] at h4; exact h4⟩
-- the first of a flow is dropped
theorem dropHead_cons {c : Int} (k0 : 0 ≤ c) (k1 : c < 16) (hl : (q.flow c).l = p :: r) : q.dropHead c = (q.setF c ((q.flow c).setL r), some p) := by
  have hh : q.head c = some p := by unfold Qu.head; rw [if_pos ⟨k0, k1⟩, hl]; rfl
  unfold Qu.dropHead; rw [hh, hl]; rfl
theorem mem_allL {l : List Fl} {p : Pk} (h : p ∈ allL l) : ∃ f ∈ l, p ∈ f.l := by
  simp [allL] at h
  obtain ⟨_, ⟨f, hf, rfl⟩, hp⟩ := h
  exact ⟨f, hf, hp⟩
theorem head_len {k : Int} (hq : QOk q) : ((q.head k).getD pk0).body.length ≤ 1048576 := by
  unfold Qu.head
  by_cases hk : 0 ≤ k ∧ k < 16
  · rw [if_pos hk]
    cases he : (q.flow k).l with
    | nil => simp [pk0]
    | cons x r => exact ((hq.flow hk.1 hk.2).2.p x (by rw [he]; simp)).2.2
  · rw [if_neg hk]; simp [pk0]
theorem dropHead_snd {k : Int} : (q.dropHead k).2 = q.head k := by unfold Qu.dropHead; cases q.head k <;> rfl
theorem Well.dropHead {k : Int} (w : Well q) : Well (q.dropHead k).1 ∧ (q.dropHead k).1.cnt ≤ q.cnt := by
  unfold Qu.dropHead
  cases hh : q.head k with
  | none => exact ⟨w, Nat.le_refl _⟩
  | some p =>
    have hk : 0 ≤ k ∧ k < 16 := by
      unfold Qu.head at hh
      by_cases hk : 0 ≤ k ∧ k < 16
      · exact hk
      · rw [if_neg hk] at hh; cases hh
    obtain ⟨k0, k1⟩ := hk
    have hfo := (w.ok.flow k0 k1).2
    have hlt : (q.flow k).l.tail.length ≤ (q.flow k).l.length := by simp
    have hok := w.ok.setF k0 k1 (g := (q.flow k).setL (q.flow k).l.tail) ⟨hfo.c, fun x hx => hfo.p x (List.mem_of_mem_tail hx), hfo.d0, hfo.d1⟩ hlt
    have c3 := cntL_set (g := (q.flow k).setL (q.flow k).l.tail) (w.ok.flow k0 k1).1
    have e : q.cnt = cntL q.fl := rfl
    simp only [setL_l] at c3
    refine ⟨⟨hok, fun j j0 j1 hj => ?_, fun j j0 j1 p hp => ?_⟩, by show cntL (q.fl.set k.toNat _) ≤ _; omega⟩
    · by_cases h : j = k
      · subst h
        rw [flow_setF w.ok k0 k1] at hj
        refine w.busy j j0 j1 fun e => hj ?_
        simp [e]
      · rw [flow_setF_ne k0 j0 h] at hj
        exact w.busy j j0 j1 hj
    · by_cases h : j = k
      · subst h
        rw [flow_setF w.ok k0 k1] at hp
        exact w.wp j j0 j1 p (List.mem_of_mem_tail hp)
      · rw [flow_setF_ne k0 j0 h] at hp
        exact w.wp j j0 j1 p hp
theorem setF_all {c : Int} (hq : QOk q) (k0 : 0 ≤ c) (k1 : c < 16) : (allL (q.setF c g).fl ++ (q.flow c).l).Perm (allL q.fl ++ g.l) := allL_set (hq.flow k0 k1).1
theorem dropHead_all {c : Int} (hq : QOk q) (k0 : 0 ≤ c) (k1 : c < 16) (hl : (q.flow c).l = p :: r) : (p :: allL (q.dropHead c).1.fl).Perm (allL q.fl) := by
  rw [dropHead_cons k0 k1 hl]
  have := perm_count.1 (setF_all (g := (q.flow c).setL r) hq k0 k1)
  refine perm_count.2 fun x => ?_
  have := this x
  rw [hl] at this
  simp only [List.count_append, List.count_cons, setL_l] at this ⊢
  omega
theorem put_all (hq : QOk q) : (allL (q.put p).fl).Perm (p :: allL q.fl) := by
  obtain ⟨k0, k1⟩ := bucketZ_bd p.flow q.seed
  have key : ∀ g : Fl, g.l = (q.flow (bucketZ p.flow q.seed)).l ++ [p] → (allL (q.setF (bucketZ p.flow q.seed) g).fl).Perm (p :: allL q.fl) := by
    intro g hg
    have := perm_count.1 (setF_all (g := g) hq k0 k1)
    refine perm_count.2 fun x => ?_
    have := this x
    rw [hg] at this
    simp only [List.count_append, List.count_cons, List.count_nil] at this ⊢
    omega
  by_cases h : bucketZ p.flow q.seed ∈ q.fresh ∨ bucketZ p.flow q.seed ∈ q.elder
  · rw [put_in h]; exact key _ rfl
  · rw [put_out h]; exact key _ rfl
-- the pool shrinks
theorem shrink_spec (hP : PoOk P) (h : 0 < P.len) : ∃ k p, k < 128 ∧ P.fat = (some k, (P.qu k).fattest.1, (P.qu k).fattest.2) ∧ P.shrink = (P.set k ((P.qu k).dropHead (P.qu k).fattest.1).1, p) ∧ ((P.qu k).dropHead (P.qu k).fattest.1).2 = some p ∧
    PoOk P.shrink.1 ∧ Alike P P.shrink.1 ∧ (p :: P.shrink.1.all).Perm P.all ∧ P.shrink.1.len + 1 = P.len ∧ P.shrink.1.byt + p.body.length = P.byt := by
  obtain ⟨k, hk, hc, hf⟩ := Po.fat_some hP h
  obtain ⟨e, w⟩ := hP.qu hk
  obtain ⟨k0, k1, hne, _⟩ := fattest_flow w.ok hc
  obtain ⟨p, r, hl⟩ : ∃ p r, ((P.qu k).flow (P.qu k).fattest.1).l = p :: r := by
    cases hx : ((P.qu k).flow (P.qu k).fattest.1).l with
    | nil => exact absurd hx hne
    | cons p r => exact ⟨p, r, rfl⟩
  have hd := dropHead_cons k0 k1 hl
  have hd2 : ((P.qu k).dropHead (P.qu k).fattest.1).2 = some p := by rw [hd]
  have hs : P.shrink = (P.set k ((P.qu k).dropHead (P.qu k).fattest.1).1, p) := by unfold Po.shrink; rw [hf]; dsimp only; rw [hd2]; rfl
  have hp : (p :: P.shrink.1.all).Perm P.all := by
    have h1 := perm_count.1 (all_set (q := ((P.qu k).dropHead (P.qu k).fattest.1).1) hP hk)
    have h2 := perm_count.1 (dropHead_all w.ok k0 k1 hl)
    rw [hs]
    refine perm_count.2 fun x => ?_
    have h1 := h1 x
    have h2 := h2 x
    simp only [List.count_append, List.count_cons] at h1 h2 ⊢
    omega
  refine ⟨k, p, hk, hf, hs, hd2, ?_, ?_, hp, ?_, ?_⟩
  · rw [hs]; exact hP.set w.dropHead.1
  · rw [hs]; exact set_alike
  · have := hp.length_eq
    rw [Po.len_all, Po.len_all]
    simpa using this
  · have := bytP_perm hp
    rw [Po.byt_all, Po.byt_all]
    simp only [bytP] at this
    omega
theorem more_pos (hP : PoOk P) (h : P.mp < P.len ∨ P.mb < P.byt) : 0 < P.len := by
  have h1 := hP.p0
  have h2 := hP.b0
  have h3 := hP.byt_le
  rcases h with h | h
  · omega
  · rcases Nat.eq_zero_or_pos P.len with e | e
    · rw [e] at h3; omega
    · exact e
theorem shrN_spec : ∀ (n : Nat) {P : Po} {d : List Pk}, PoOk P → P.len ≤ n → ∃ e, (shrN n P d).2 = d ++ e ∧ PoOk (shrN n P d).1 ∧ Alike P (shrN n P d).1 ∧ (e ++ (shrN n P d).1.all).Perm P.all ∧ (shrN n P d).1.len ≤ P.mp ∧ (shrN n P d).1.byt ≤ P.mb
  | 0, P, d, hP, h => by
    refine ⟨[], by simp [shrN], hP, Alike.refl _, .refl _, ?_, ?_⟩
    · have := hP.p0; simp only [shrN]; omega
    · have := hP.b0; have := hP.byt_le; simp only [shrN]; omega
  | n + 1, P, d, hP, h => by
    by_cases hc : P.mp < P.len ∨ P.mb < P.byt
    · obtain ⟨k, p, hk, _, hs, _, hok, hal, hp, hl, _⟩ := shrink_spec hP (more_pos hP hc)
      have e0 : shrN (n + 1) P d = shrN n P.shrink.1 (d ++ [P.shrink.2]) := by simp only [shrN]; rw [if_pos hc]
      have e1 : P.shrink.2 = p := by rw [hs]
      rw [e0, e1]
      obtain ⟨e, h1, h2, h3, h4, h5, h6⟩ := shrN_spec n (P := P.shrink.1) (d := d ++ [p]) hok (by omega)
      refine ⟨p :: e, by rw [h1]; simp, h2, hal.trans h3, ?_, by rw [hal.mp] at h5; exact h5, by rw [hal.mb] at h6; exact h6⟩
      rw [List.cons_append]
      exact (h4.cons p).trans hp
    · have e0 : shrN (n + 1) P d = (P, d) := by simp only [shrN]; rw [if_neg hc]
      rw [e0]
      exact ⟨[], by simp, hP, Alike.refl _, .refl _, by dsimp only; omega, by dsimp only; omega⟩
theorem shrN_more {n : Nat} {d : List Pk} (h : P.mp < P.len ∨ P.mb < P.byt) : shrN (n + 1) P d = shrN n P.shrink.1 (d ++ [P.shrink.2]) := by simp only [shrN]; rw [if_pos h]
theorem shrN_done {n : Nat} {d : List Pk} (h : ¬ (P.mp < P.len ∨ P.mb < P.byt)) : shrN n P d = (P, d) := by
  cases n with
  | zero => rfl
  | succ n => simp only [shrN]; rw [if_neg h]
theorem put1_spec (hP : PoOk P) (hk : k < 128) (h0 : 0 ≤ p.at_) (h1 : p.at_ ≤ 1125899906842624) (hl : p.body.length ≤ 1048576) (hc : P.len < 1048576) :
    PoOk (P.put1 k p) ∧ Alike P (P.put1 k p) ∧ (P.put1 k p).all.Perm (p :: P.all) ∧ (P.put1 k p).len = P.len + 1 := by
  obtain ⟨e, w⟩ := hP.qu hk
  have hcn := hP.cnt hk
  obtain ⟨w', _⟩ := w.put (p := p) h0 h1 hl (by omega)
  have hp : (P.put1 k p).all.Perm (p :: P.all) := by
    have h1 := perm_count.1 (all_set (q := (P.qu k).put p) hP hk)
    have h2 := perm_count.1 (put_all (p := p) w.ok)
    refine perm_count.2 fun x => ?_
    have h1 := h1 x
    have h2 := h2 x
    simp only [List.count_append, List.count_cons, Po.put1] at h1 h2 ⊢
    omega
  refine ⟨hP.set w', set_alike, hp, ?_⟩
  have := hp.length_eq
  rw [Po.len_all, Po.len_all]
  simpa using this
/-- What a put makes of a pool: what is told to be dropped, what is left. -/
theorem put_spec (hP : PoOk P) (hk : k < 128) (h0 : 0 ≤ p.at_) (h1 : p.at_ ≤ 1125899906842624) (hl : p.body.length ≤ 1048576) (hc : P.len < 1048576) :
    PoOk (P.put k p).1 ∧ Alike P (P.put k p).1 ∧ ((P.put k p).2 ++ (P.put k p).1.all).Perm (p :: P.all) ∧ (P.put k p).1.len ≤ P.mp ∧ (P.put k p).1.byt ≤ P.mb := by
  obtain ⟨a1, a2, a3, a4⟩ := put1_spec hP hk h0 h1 hl hc
  obtain ⟨e, b1, b2, b3, b4, b5, b6⟩ := shrN_spec (P.put1 k p).len (P := P.put1 k p) (d := []) a1 (Nat.le_refl _)
  unfold Po.put
  rw [b1, List.nil_append]
  exact ⟨b2, a2.trans b3, b4.trans a3, by rw [← a2.mp]; exact b5, by rw [← a2.mb]; exact b6⟩
-- a station goes
theorem wipeN_spec (hP : PoOk P) (b : Nat) : ∀ n, b + n ≤ 128 → PoOk (wipeN P b n) ∧ Alike P (wipeN P b n) ∧ (outN P b n ++ (wipeN P b n).all).Perm P.all ∧ ∀ j, (wipeN P b n).qu j = if b ≤ j ∧ j < b + n then P.new else P.qu j
  | 0, _ => ⟨hP, Alike.refl _, .refl _, fun j => by rw [if_neg (by omega)]; rfl⟩
  | n + 1, h => by
    obtain ⟨h1, h2, h3, h4⟩ := wipeN_spec hP b n (by omega)
    refine ⟨h1.set (well0 _ _ _), h2.trans set_alike, ?_, fun j => ?_⟩
    · have e := h4 (b + n)
      rw [if_neg (by omega)] at e
      have k1 := perm_count.1 (all_set (q := P.new) h1 (k := b + n) (by omega))
      have k2 := perm_count.1 h3
      refine perm_count.2 fun x => ?_
      have k1 := k1 x
      have k2 := k2 x
      have e2 : allL P.new.fl = [] := rfl
      rw [e, e2] at k1
      simp only [wipeN, outN, List.count_append, List.append_nil] at k1 k2 ⊢
      omega
    · by_cases hj : j = b + n
      · subst hj
        rw [if_pos (by omega)]
        exact qu_set h1 (by omega)
      · show ((wipeN P b n).set (b + n) P.new).qu j = _
        rw [qu_set_ne hj, h4 j]
        by_cases hc : b ≤ j ∧ j < b + n
        · rw [if_pos hc, if_pos (by omega)]
        · rw [if_neg hc, if_neg (by omega)]
theorem drop_spec (hP : PoOk P) (aid : Int) : PoOk (P.drop aid).1 ∧ Alike P (P.drop aid).1 ∧ ((P.drop aid).2 ++ (P.drop aid).1.all).Perm P.all := by
  unfold Po.drop
  by_cases h : thereZ aid 0 = true
  · rw [if_pos h]
    have := thereZ_iff.1 h
    obtain ⟨h1, h2, h3, _⟩ := wipeN_spec hP ((aid - 1).toNat * 8) 8 (by omega)
    exact ⟨h1, h2, h3⟩
  · rw [if_neg h]
    exact ⟨hP, Alike.refl _, .refl _⟩
theorem take_spec {now : Int} (hP : PoOk P) (hk : k < 128) (n0 : 0 ≤ now) (n1 : now ≤ 1125899906842624) : PoOk (P.take k now).1 ∧ Alike P (P.take k now).1 ∧ (P.take k now).1.len ≤ P.len := by
  obtain ⟨e, w⟩ := hP.qu hk
  have hl := take_law n0 n1 w
  have hc := hl.cnt w.ok
  refine ⟨hP.set hl.w, set_alike, ?_⟩
  have := len_set (q := ((P.qu k).take now).1) hP hk
  show (P.set k ((P.qu k).take now).1).len ≤ _
  omega
end
end Go.Proofs.YtpcilleldanfmaaDoor
