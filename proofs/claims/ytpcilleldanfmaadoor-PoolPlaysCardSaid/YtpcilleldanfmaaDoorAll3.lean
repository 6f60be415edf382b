/- The texts of this proof, laid together (part 3). -/
import Derived.Test.YtpcilleldanfmaaDoorAll2
import Derived.Test.YtpcilleldanfmaaDoorRows
import Derived.Test.YtpcilleldanfmaaDoorAll1
/- A pool of queues (chapter 14), as plain mathematics: the program's pool and the document's one go this way. -/
set_option linter.unusedVariables false
set_option linter.unusedSimpArgs false
namespace Go.Proofs.YtpcilleldanfmaaDoor
structure Po where
  seed : Int
  tg : Int
  iv : Int
  mp : Int
  mb : Int
  q : List Qu
def po0 (seed tg iv mp mb : Int) : Po := ⟨seed, tg, iv, mp, mb, List.replicate 128 (qu0 seed tg iv)⟩
def Po.new (P : Po) : Qu := qu0 P.seed P.tg P.iv
def Po.qu (P : Po) (k : Nat) : Qu := (P.q[k]?).getD P.new
def Po.set (P : Po) (k : Nat) (q : Qu) : Po := ⟨P.seed, P.tg, P.iv, P.mp, P.mb, P.q.set k q⟩
def cntQ : List Qu → Nat
  | [] => 0
  | q :: r => q.cnt + cntQ r
def bytQ : List Qu → Int
  | [] => 0
  | q :: r => q.byt + bytQ r
def allQ (l : List Qu) : List Pk := (l.map fun q => allL q.fl).flatten
def Po.len (P : Po) : Nat := cntQ P.q
def Po.byt (P : Po) : Int := bytQ P.q
def Po.all (P : Po) : List Pk := allQ P.q
abbrev FatS := Option Nat × Int × Int
def fatS (k : Nat) (q : Qu) (s : FatS) : FatS := if 0 < q.cnt ∧ s.2.2 < q.fattest.2 then (some k, q.fattest.1, q.fattest.2) else s
/-- The fattest flow of all, among the queues from k on. -/
def fatQ : List Qu → Nat → FatS → FatS
  | [], _, s => s
  | q :: r, k, s => fatQ r (k + 1) (fatS k q s)
def Po.fat (P : Po) : FatS := fatQ P.q 0 (none, 0, -1)
def Po.shrink (P : Po) : Po × Pk := match P.fat.1 with
  | none => (P, pk0)
  | some k => (P.set k ((P.qu k).dropHead P.fat.2.1).1, ((P.qu k).dropHead P.fat.2.1).2.getD pk0)
def shrN : Nat → Po → List Pk → Po × List Pk
  | 0, P, d => (P, d)
  | n + 1, P, d => if P.mp < P.len ∨ P.mb < P.byt then shrN n P.shrink.1 (d ++ [P.shrink.2]) else (P, d)
def thereZ (aid tid : Int) : Bool := decide (1 ≤ aid ∧ aid ≤ 16 ∧ 0 ≤ tid ∧ tid < 8)
def pix (aid tid : Int) : Nat := (aid - 1).toNat * 8 + tid.toNat
def Po.put1 (P : Po) (k : Nat) (p : Pk) : Po := P.set k ((P.qu k).put p)
def Po.put (P : Po) (k : Nat) (p : Pk) : Po × List Pk := shrN (P.put1 k p).len (P.put1 k p) []
def Po.take (P : Po) (k : Nat) (now : Int) : Po × List Pk × Option Pk := (P.set k ((P.qu k).take now).1, ((P.qu k).take now).2)
def outN (P : Po) (b : Nat) : Nat → List Pk
  | 0 => []
  | n + 1 => outN P b n ++ allL (P.qu (b + n)).fl
def wipeN (P : Po) (b : Nat) : Nat → Po
  | 0 => P
  | n + 1 => (wipeN P b n).set (b + n) P.new
def Po.drop (P : Po) (aid : Int) : Po × List Pk := if thereZ aid 0 = true then (wipeN P ((aid - 1).toNat * 8) 8, outN P ((aid - 1).toNat * 8) 8) else (P, [])
structure PoOk (P : Po) : Prop where
  n : P.q.length = 128
  w : ∀ q ∈ P.q, Well q
  p0 : 1 ≤ P.mp
  p1 : P.mp ≤ 512
  b0 : 1 ≤ P.mb
  b1 : P.mb ≤ 1048576
/-- The pools go the same way apart from their queues. -/
structure Alike (P P' : Po) : Prop where
  seed : P'.seed = P.seed
  tg : P'.tg = P.tg
  iv : P'.iv = P.iv
  mp : P'.mp = P.mp
  mb : P'.mb = P.mb
theorem Alike.refl (P : Po) : Alike P P := ⟨rfl, rfl, rfl, rfl, rfl⟩
theorem Alike.trans {A B C : Po} (h : Alike A B) (k : Alike B C) : Alike A C := ⟨k.seed.trans h.seed, k.tg.trans h.tg, k.iv.trans h.iv, k.mp.trans h.mp, k.mb.trans h.mb⟩
theorem thereZ_iff {aid tid : Int} : thereZ aid tid = true ↔ (1 ≤ aid ∧ aid ≤ 16 ∧ 0 ≤ tid ∧ tid < 8) := by simp [thereZ]
theorem pix_lt {aid tid : Int} (h : thereZ aid tid = true) : pix aid tid < 128 := by
  have := thereZ_iff.1 h
  unfold pix; omega
theorem pix_inj {a b s t : Int} (h : thereZ a s = true) (k : thereZ b t = true) (e : pix a s = pix b t) : a = b ∧ s = t := by
  have h1 := thereZ_iff.1 h
  have h2 := thereZ_iff.1 k
  unfold pix at e; omega
section
variable {P P' : Po} {q q' : Qu} {k j n : Nat} {l : List Qu} {p : Pk} {f g : Fl} {s : FatS} {r : List Pk} {c : Int}
-- what a queue holds, what a pool holds
theorem perm_count {a b : List Pk} : a.Perm b ↔ ∀ x, a.count x = b.count x := List.perm_iff_count
theorem bytP_perm {a b : List Pk} (h : a.Perm b) : bytP a = bytP b := by
  induction h with
  | nil => rfl
  | cons x _ ih => simp only [bytP, ih]
  | swap x y l => simp only [bytP]; omega
  | trans _ _ h1 h2 => exact h1.trans h2
theorem allL_cons (f : Fl) (l : List Fl) : allL (f :: l) = f.l ++ allL l := by simp [allL]
theorem allQ_cons (q : Qu) (l : List Qu) : allQ (q :: l) = allL q.fl ++ allQ l := by simp [allQ]
theorem allL_set : ∀ {l : List Fl} {k : Nat} {f g : Fl}, l[k]? = some f → (allL (l.set k g) ++ f.l).Perm (allL l ++ g.l)
  | [], k, f, g, h => by simp at h
  | x :: l, 0, f, g, h => by
    simp at h; subst h
    rw [List.set_cons_zero, allL_cons, allL_cons]
    exact perm_count.2 fun x => by simp only [List.count_append]; omega
  | x :: l, k + 1, f, g, h => by
    have := perm_count.1 (allL_set (l := l) (k := k) (g := g) (by simpa using h))
    rw [List.set_cons_succ, allL_cons, allL_cons]
    exact perm_count.2 fun x => by have := this x; simp only [List.count_append] at this ⊢; omega
theorem allQ_set : ∀ {l : List Qu} {k : Nat} {q q' : Qu}, l[k]? = some q → (allQ (l.set k q') ++ allL q.fl).Perm (allQ l ++ allL q'.fl)
  | [], k, f, g, h => by simp at h
  | x :: l, 0, f, g, h => by
    simp at h; subst h
    rw [List.set_cons_zero, allQ_cons, allQ_cons]
    exact perm_count.2 fun x => by simp only [List.count_append]; omega
  | x :: l, k + 1, f, g, h => by
    have := perm_count.1 (allQ_set (l := l) (k := k) (q' := g) (by simpa using h))
    rw [List.set_cons_succ, allQ_cons, allQ_cons]
    exact perm_count.2 fun x => by have := this x; simp only [List.count_append] at this ⊢; omega
theorem bytL_all : ∀ (l : List Fl), bytL l = bytP (allL l)
  | [] => rfl
  | f :: r => by rw [allL_cons, bytP_app]; simp only [bytL]; rw [bytL_all r]
theorem cntQ_all : ∀ (l : List Qu), cntQ l = (allQ l).length
  | [] => rfl
  | q :: r => by rw [allQ_cons, List.length_append, allL_len]; simp only [cntQ]; rw [cntQ_all r]; rfl
theorem bytQ_all : ∀ (l : List Qu), bytQ l = bytP (allQ l)
  | [] => rfl
  | q :: r => by rw [allQ_cons, bytP_app, ← bytL_all]; simp only [bytQ]; rw [bytQ_all r]; rfl
theorem Po.len_all (P : Po) : P.len = P.all.length := cntQ_all _
theorem Po.byt_all (P : Po) : P.byt = bytP P.all := bytQ_all _
theorem cntQ_ge : ∀ {l : List Qu} {k : Nat} {q : Qu}, l[k]? = some q → q.cnt ≤ cntQ l
  | [], k, f, h => by simp at h
  | x :: l, 0, f, h => by simp at h; subst h; simp only [cntQ]; omega
  | x :: l, k + 1, f, h => by have := cntQ_ge (l := l) (k := k) (by simpa using h); simp only [cntQ]; omega
theorem cntQ_take : ∀ {l : List Qu} {k : Nat} {q : Qu}, l[k]? = some q → cntQ (l.take (k + 1)) = cntQ (l.take k) + q.cnt
  | [], k, f, h => by simp at h
  | x :: l, 0, f, h => by simp at h; subst h; simp [cntQ]
  | x :: l, k + 1, f, h => by have := cntQ_take (l := l) (k := k) (by simpa using h); simp only [List.take_succ_cons, cntQ]; omega
theorem bytQ_take : ∀ {l : List Qu} {k : Nat} {q : Qu}, l[k]? = some q → bytQ (l.take (k + 1)) = bytQ (l.take k) + q.byt
  | [], k, f, h => by simp at h
  | x :: l, 0, f, h => by simp at h; subst h; simp [bytQ]
  | x :: l, k + 1, f, h => by have := bytQ_take (l := l) (k := k) (by simpa using h); simp only [List.take_succ_cons, bytQ]; omega
theorem cntQ_take_le : ∀ (l : List Qu) (k : Nat), cntQ (l.take k) ≤ cntQ l
  | [], k => by simp [cntQ]
  | x :: l, 0 => by simp [cntQ]
  | x :: l, k + 1 => by have := cntQ_take_le l k; simp only [List.take_succ_cons, cntQ]; omega
theorem bytQ_nn : ∀ (l : List Qu), 0 ≤ bytQ l
  | [] => by simp [bytQ]
  | q :: r => by have := bytQ_nn r; have := bytL_nn q.fl; simp only [bytQ, Qu.byt]; omega
theorem bytQ_take_le : ∀ (l : List Qu) (k : Nat), bytQ (l.take k) ≤ bytQ l
  | [], k => by simp [bytQ]
  | x :: l, 0 => by have := bytQ_nn (x :: l); simpa [bytQ] using this
  | x :: l, k + 1 => by have := bytQ_take_le l k; simp only [List.take_succ_cons, bytQ]; omega
theorem QOk.all_len (hq : QOk q) : ∀ p ∈ allL q.fl, p.body.length ≤ 1048576 := by
  intro p hp
  simp [allL] at hp
  obtain ⟨_, ⟨f, hf, rfl⟩, hp⟩ := hp
  exact ((hq.f f hf).p p hp).2.2
theorem PoOk.all_len (hP : PoOk P) : ∀ p ∈ P.all, p.body.length ≤ 1048576 := by
  intro p hp
  simp [Po.all, allQ] at hp
  obtain ⟨_, ⟨q, hq, rfl⟩, hp⟩ := hp
  exact (hP.w q hq).ok.all_len p hp
theorem PoOk.byt_le (hP : PoOk P) : P.byt ≤ 1048576 * P.len := by
  rw [Po.byt_all, Po.len_all]
  exact bytP_le (N := 1048576) hP.all_len
theorem Po.byt_nn (P : Po) : 0 ≤ P.byt := by rw [Po.byt_all]; exact bytP_nn _
-- one queue of a pool
theorem PoOk.qu (hP : PoOk P) (hk : k < 128) : P.q[k]? = some (P.qu k) ∧ Well (P.qu k) := by
  have hlt : k < P.q.length := by rw [hP.n]; omega
  have e : P.q[k]? = some (P.qu k) := by unfold Po.qu; rw [List.getElem?_eq_getElem hlt]; rfl
  exact ⟨e, hP.w _ (List.mem_of_getElem? e)⟩
theorem PoOk.cnt (hP : PoOk P) (hk : k < 128) : (P.qu k).cnt ≤ P.len := cntQ_ge (hP.qu hk).1
theorem qu_set (hP : PoOk P) (hk : k < 128) : (P.set k q).qu k = q := by
  have hlt : k < P.q.length := by rw [hP.n]; omega
  simp [Po.qu, Po.set, hlt]
theorem qu_set_ne (h : j ≠ k) : (P.set k q).qu j = P.qu j := by
  unfold Po.qu Po.set
  dsimp only
  rw [List.getElem?_set_ne (by omega)]
  rfl
theorem set_alike : Alike P (P.set k q) := ⟨rfl, rfl, rfl, rfl, rfl⟩
theorem set_set (q q' : Qu) : (P.set k q).set k q' = P.set k q' := by simp [Po.set]
theorem PoOk.set (hP : PoOk P) (hq : Well q) : PoOk (P.set k q) := by
  refine ⟨by simp [Po.set, hP.n], fun x hx => ?_, hP.p0, hP.p1, hP.b0, hP.b1⟩
  rcases List.mem_or_eq_of_mem_set hx with hx | rfl
  · exact hP.w x hx
  · exact hq
theorem all_set (hP : PoOk P) (hk : k < 128) : ((P.set k q).all ++ allL (P.qu k).fl).Perm (P.all ++ allL q.fl) := allQ_set (hP.qu hk).1
theorem len_set (hP : PoOk P) (hk : k < 128) : (P.set k q).len + (P.qu k).cnt = P.len + q.cnt := by
  have := (all_set (q := q) hP hk).length_eq
  rw [List.length_append, List.length_append, allL_len, allL_len, ← Po.len_all, ← Po.len_all] at this
  exact this
theorem pok0 (seed tg iv : Int) {mp mb : Int} (p0 : 1 ≤ mp) (p1 : mp ≤ 512) (b0 : 1 ≤ mb) (b1 : mb ≤ 1048576) : PoOk (po0 seed tg iv mp mb) :=
  ⟨List.length_replicate, fun q hq => by simp [po0] at hq; subst hq; exact well0 _ _ _, p0, p1, b0, b1⟩
theorem all0 (seed tg iv : Int) : allL (qu0 seed tg iv).fl = [] := rfl
theorem cntQ0 (q : Qu) (h : q.cnt = 0) : ∀ n, cntQ (List.replicate n q) = 0
  | 0 => rfl
  | n + 1 => by rw [List.replicate_succ]; simp only [cntQ]; rw [cntQ0 q h n]; omega
theorem len0 (seed tg iv mp mb : Int) : (po0 seed tg iv mp mb).len = 0 := cntQ0 _ rfl _
theorem po0_qu (seed tg iv mp mb : Int) (k : Nat) : (po0 seed tg iv mp mb).qu k = qu0 seed tg iv := by
  unfold Po.qu po0
  dsimp only
  rw [List.getElem?_replicate]
  split <;> rfl
-- the fattest
theorem fatN_spec : ∀ {l : List Fl} {k : Int} {s : Int × Int}, fatN l k s = s ∨ ∃ (j : Nat) (f : Fl), l[j]? = some f ∧ f.l ≠ [] ∧ fatN l k s = (k + (j : Int), bytP f.l)
  | [], _, _ => .inl rfl
  | f :: l, k, s => by
    rcases fatN_spec (l := l) (k := k + 1) (s := if f.l ≠ [] ∧ s.2 < bytP f.l then (k, bytP f.l) else s) with h | ⟨j, g, h1, h2, h3⟩
    · by_cases hc : f.l ≠ [] ∧ s.2 < bytP f.l
      · refine .inr ⟨0, f, rfl, hc.1, ?_⟩
        simp only [fatN]; rw [h, if_pos hc]; simp
      · left; simp only [fatN]; rw [h, if_neg hc]
    · refine .inr ⟨j + 1, g, by simpa using h1, h2, ?_⟩
      simp only [fatN]; rw [h3]
      rw [show k + 1 + (j : Int) = k + ((j + 1 : Nat) : Int) by omega]
theorem fatN_pos : ∀ {l : List Fl} {k : Int} {s : Int × Int}, s.2 < 0 → 0 < cntL l → ∃ (j : Nat) (f : Fl), l[j]? = some f ∧ f.l ≠ [] ∧ fatN l k s = (k + (j : Int), bytP f.l)
  | [], _, _, _, h => by simp [cntL] at h
  | f :: l, k, s, hs, h => by
    by_cases hf : f.l = []
    · simp only [cntL, hf, List.length_nil] at h
      obtain ⟨j, g, h1, h2, h3⟩ := fatN_pos (l := l) (k := k + 1) hs (by omega)
      refine ⟨j + 1, g, by simpa using h1, h2, ?_⟩
      simp only [fatN]; rw [if_neg (by simp [hf]), h3]
      rw [show k + 1 + (j : Int) = k + ((j + 1 : Nat) : Int) by omega]
    · have hb := bytP_nn f.l
      have hc : f.l ≠ [] ∧ s.2 < bytP f.l := ⟨hf, by omega⟩
      rcases fatN_spec (l := l) (k := k + 1) (s := (k, bytP f.l)) with h | ⟨j, g, h1, h2, h3⟩
      · refine ⟨0, f, rfl, hf, ?_⟩
        simp only [fatN]; rw [if_pos hc, h]; simp
      · refine ⟨j + 1, g, by simpa using h1, h2, ?_⟩
        simp only [fatN]; rw [if_pos hc, h3]
        rw [show k + 1 + (j : Int) = k + ((j + 1 : Nat) : Int) by omega]
/-- A queue that holds something: its fattest flow holds something. -/
theorem fattest_flow (hq : QOk q) (hc : 0 < q.cnt) : 0 ≤ q.fattest.1 ∧ q.fattest.1 < 16 ∧ (q.flow q.fattest.1).l ≠ [] ∧ q.fattest.2 = bytP (q.flow q.fattest.1).l := by
  obtain ⟨j, f, h1, h2, h3⟩ := fatN_pos (l := q.fl) (k := 0) (s := (0, -1)) (by decide) hc
  have hj : j < 16 := by have := (List.getElem?_eq_some_iff.1 h1).1; rw [hq.len] at this; exact this
  have e1 : q.fattest.1 = (j : Int) := by unfold Qu.fattest; dsimp only; rw [h3]; simp
  have e2 : q.fattest.2 = bytP f.l := by unfold Qu.fattest; dsimp only; rw [h3]; have := bytP_nn f.l; dsimp only; omega
  have e3 := flow_at hq hj
  rw [h1] at e3
  cases e3
  rw [e1]
  exact ⟨by omega, by omega, h2, e2⟩
theorem fattest_nn : 0 ≤ q.fattest.2 := by unfold Qu.fattest; dsimp only; omega
theorem fatQ_step {l : List Qu} {k : Nat} {q : Qu} {s : FatS} (hf : l[k]? = some q) : fatQ (l.drop k) k s = fatQ (l.drop (k + 1)) (k + 1) (fatS k q s) := by
  rw [List.drop_eq_getElem_cons (List.getElem?_eq_some_iff.1 hf).1, (List.getElem?_eq_some_iff.1 hf).2]
  rfl
theorem fatQ_spec : ∀ {l : List Qu} {k : Nat} {s : FatS}, fatQ l k s = s ∨ ∃ j q, l[j]? = some q ∧ 0 < q.cnt ∧ fatQ l k s = (some (k + j), q.fattest.1, q.fattest.2)
  | [], _, _ => .inl rfl
  | q :: l, k, s => by
    rcases fatQ_spec (l := l) (k := k + 1) (s := fatS k q s) with h | ⟨j, g, h1, h2, h3⟩
    · by_cases hc : 0 < q.cnt ∧ s.2.2 < q.fattest.2
      · refine .inr ⟨0, q, rfl, hc.1, ?_⟩
        simp only [fatQ]; rw [h]; unfold fatS; rw [if_pos hc]; rfl
      · left; simp only [fatQ]; rw [h]; unfold fatS; rw [if_neg hc]
    · refine .inr ⟨j + 1, g, by simpa using h1, h2, ?_⟩
      simp only [fatQ]; rw [h3]
      rw [show k + 1 + j = k + (j + 1) by omega]
theorem fatQ_some : ∀ {l : List Qu} {k : Nat} {s : FatS}, (s.1.isSome = true ∨ s.2.2 < 0) → 0 < cntQ l → (fatQ l k s).1.isSome = true
  | [], _, _, _, h => by simp [cntQ] at h
  | q :: l, k, s, hs, h => by
    have key : ∀ (l : List Qu) (k : Nat) (s : FatS), s.1.isSome = true → (fatQ l k s).1.isSome = true := by
      intro l k s hs
      rcases fatQ_spec (l := l) (k := k) (s := s) with h | ⟨j, g, h1, h2, h3⟩
      · rw [h]; exact hs
      · rw [h3]; rfl
    simp only [fatQ]
    by_cases hc : 0 < q.cnt
    · refine key _ _ _ ?_
      unfold fatS
      split
      · rfl
      · rename_i hn
        rcases hs with hs | hs
        · exact hs
        · have := fattest_nn (q := q)
          exact absurd ⟨hc, by omega⟩ hn
    · have : fatS k q s = s := by unfold fatS; rw [if_neg (fun h => hc h.1)]
      rw [this]
      simp only [cntQ] at h
      exact fatQ_some hs (by omega)
theorem Po.fat_some (hP : PoOk P) (h : 0 < P.len) : ∃ k, k < 128 ∧ 0 < (P.qu k).cnt ∧ P.fat = (some k, (P.qu k).fattest.1, (P.qu k).fattest.2) := by
  have h1 := fatQ_some (l := P.q) (k := 0) (s := (none, 0, -1)) (.inr (by decide)) h
  rcases fatQ_spec (l := P.q) (k := 0) (s := (none, 0, -1)) with h2 | ⟨j, q, h2, h3, h4⟩
  · rw [h2] at h1; cases h1
  · have hj : j < 128 := by have := (List.getElem?_eq_some_iff.1 h2).1; rw [hP.n] at this; exact this
    have e := (hP.qu hj).1
    rw [h2] at e; cases e
    exact ⟨j, hj, h3, by rw [Nat.zero_add] at h4; exact h4⟩
-- the first of a flow is dropped
theorem dropHead_cons {c : Int} (k0 : 0 ≤ c) (k1 : c < 16) (hl : (q.flow c).l = p :: r) : q.dropHead c = (q.setF c ((q.flow c).setL r), some p) := by
  have hh : q.head c = some p := by unfold Qu.head; rw [if_pos ⟨k0, k1⟩, hl]; rfl
  unfold Qu.dropHead; rw [hh, hl]; rfl
theorem mem_allL {l : List Fl} {p : Pk} (h : p ∈ allL l) : ∃ f ∈ l, p ∈ f.l := by
  simp [allL] at h
  obtain ⟨_, ⟨f, hf, rfl⟩, hp⟩ := h
  exact ⟨f, hf, hp⟩
theorem head_len {k : Int} (hq : QOk q) : ((q.head k).getD pk0).body.length ≤ 1048576 := by
  unfold Qu.head
  by_cases hk : 0 ≤ k ∧ k < 16
  · rw [if_pos hk]
    cases he : (q.flow k).l with
    | nil => simp [pk0]
    | cons x r => exact ((hq.flow hk.1 hk.2).2.p x (by rw [he]; simp)).2.2
  · rw [if_neg hk]; simp [pk0]
theorem dropHead_snd {k : Int} : (q.dropHead k).2 = q.head k := by unfold Qu.dropHead; cases q.head k <;> rfl
theorem Well.dropHead {k : Int} (w : Well q) : Well (q.dropHead k).1 ∧ (q.dropHead k).1.cnt ≤ q.cnt := by
  unfold Qu.dropHead
  cases hh : q.head k with
  | none => exact ⟨w, Nat.le_refl _⟩
  | some p =>
    have hk : 0 ≤ k ∧ k < 16 := by
      unfold Qu.head at hh
      by_cases hk : 0 ≤ k ∧ k < 16
      · exact hk
      · rw [if_neg hk] at hh; cases hh
    obtain ⟨k0, k1⟩ := hk
    have hfo := (w.ok.flow k0 k1).2
    have hlt : (q.flow k).l.tail.length ≤ (q.flow k).l.length := by simp
    have hok := w.ok.setF k0 k1 (g := (q.flow k).setL (q.flow k).l.tail) ⟨hfo.c, fun x hx => hfo.p x (List.mem_of_mem_tail hx), hfo.d0, hfo.d1⟩ hlt
    have c3 := cntL_set (g := (q.flow k).setL (q.flow k).l.tail) (w.ok.flow k0 k1).1
    have e : q.cnt = cntL q.fl := rfl
    simp only [setL_l] at c3
    refine ⟨⟨hok, fun j j0 j1 hj => ?_, fun j j0 j1 p hp => ?_⟩, by show cntL (q.fl.set k.toNat _) ≤ _; omega⟩
    · by_cases h : j = k
      · subst h
        rw [flow_setF w.ok k0 k1] at hj
        refine w.busy j j0 j1 fun e => hj ?_
        simp [e]
      · rw [flow_setF_ne k0 j0 h] at hj
        exact w.busy j j0 j1 hj
    · by_cases h : j = k
      · subst h
        rw [flow_setF w.ok k0 k1] at hp
        exact w.wp j j0 j1 p (List.mem_of_mem_tail hp)
      · rw [flow_setF_ne k0 j0 h] at hp
        exact w.wp j j0 j1 p hp
theorem setF_all {c : Int} (hq : QOk q) (k0 : 0 ≤ c) (k1 : c < 16) : (allL (q.setF c g).fl ++ (q.flow c).l).Perm (allL q.fl ++ g.l) := allL_set (hq.flow k0 k1).1
theorem dropHead_all {c : Int} (hq : QOk q) (k0 : 0 ≤ c) (k1 : c < 16) (hl : (q.flow c).l = p :: r) : (p :: allL (q.dropHead c).1.fl).Perm (allL q.fl) := by
  rw [dropHead_cons k0 k1 hl]
  have := perm_count.1 (setF_all (g := (q.flow c).setL r) hq k0 k1)
  refine perm_count.2 fun x => ?_
  have := this x
  rw [hl] at this
  simp only [List.count_append, List.count_cons, setL_l] at this ⊢
  omega
theorem put_all (hq : QOk q) : (allL (q.put p).fl).Perm (p :: allL q.fl) := by
  obtain ⟨k0, k1⟩ := bucketZ_bd p.flow q.seed
  have key : ∀ g : Fl, g.l = (q.flow (bucketZ p.flow q.seed)).l ++ [p] → (allL (q.setF (bucketZ p.flow q.seed) g).fl).Perm (p :: allL q.fl) := by
    intro g hg
    have := perm_count.1 (setF_all (g := g) hq k0 k1)
    refine perm_count.2 fun x => ?_
    have := this x
    rw [hg] at this
    simp only [List.count_append, List.count_cons, List.count_nil] at this ⊢
    omega
  by_cases h : bucketZ p.flow q.seed ∈ q.fresh ∨ bucketZ p.flow q.seed ∈ q.elder
  · rw [put_in h]; exact key _ rfl
  · rw [put_out h]; exact key _ rfl
-- the pool shrinks
theorem shrink_spec (hP : PoOk P) (h : 0 < P.len) : ∃ k p, k < 128 ∧ P.fat = (some k, (P.qu k).fattest.1, (P.qu k).fattest.2) ∧ P.shrink = (P.set k ((P.qu k).dropHead (P.qu k).fattest.1).1, p) ∧ ((P.qu k).dropHead (P.qu k).fattest.1).2 = some p ∧
    PoOk P.shrink.1 ∧ Alike P P.shrink.1 ∧ (p :: P.shrink.1.all).Perm P.all ∧ P.shrink.1.len + 1 = P.len ∧ P.shrink.1.byt + p.body.length = P.byt := by
  obtain ⟨k, hk, hc, hf⟩ := Po.fat_some hP h
  obtain ⟨e, w⟩ := hP.qu hk
  obtain ⟨k0, k1, hne, _⟩ := fattest_flow w.ok hc
  obtain ⟨p, r, hl⟩ : ∃ p r, ((P.qu k).flow (P.qu k).fattest.1).l = p :: r := by
    cases hx : ((P.qu k).flow (P.qu k).fattest.1).l with
    | nil => exact absurd hx hne
    | cons p r => exact ⟨p, r, rfl⟩
  have hd := dropHead_cons k0 k1 hl
  have hd2 : ((P.qu k).dropHead (P.qu k).fattest.1).2 = some p := by rw [hd]
  have hs : P.shrink = (P.set k ((P.qu k).dropHead (P.qu k).fattest.1).1, p) := by unfold Po.shrink; rw [hf]; dsimp only; rw [hd2]; rfl
  have hp : (p :: P.shrink.1.all).Perm P.all := by
    have h1 := perm_count.1 (all_set (q := ((P.qu k).dropHead (P.qu k).fattest.1).1) hP hk)
    have h2 := perm_count.1 (dropHead_all w.ok k0 k1 hl)
    rw [hs]
    refine perm_count.2 fun x => ?_
    have h1 := h1 x
    have h2 := h2 x
    simp only [List.count_append, List.count_cons] at h1 h2 ⊢
    omega
  refine ⟨k, p, hk, hf, hs, hd2, ?_, ?_, hp, ?_, ?_⟩
  · rw [hs]; exact hP.set w.dropHead.1
  · rw [hs]; exact set_alike
  · have := hp.length_eq
    rw [Po.len_all, Po.len_all]
    simpa using this
  · have := bytP_perm hp
    rw [Po.byt_all, Po.byt_all]
    simp only [bytP] at this
    omega
theorem more_pos (hP : PoOk P) (h : P.mp < P.len ∨ P.mb < P.byt) : 0 < P.len := by
  have h1 := hP.p0
  have h2 := hP.b0
  have h3 := hP.byt_le
  rcases h with h | h
  · omega
  · rcases Nat.eq_zero_or_pos P.len with e | e
    · rw [e] at h3; omega
    · exact e
theorem shrN_spec : ∀ (n : Nat) {P : Po} {d : List Pk}, PoOk P → P.len ≤ n → ∃ e, (shrN n P d).2 = d ++ e ∧ PoOk (shrN n P d).1 ∧ Alike P (shrN n P d).1 ∧ (e ++ (shrN n P d).1.all).Perm P.all ∧ (shrN n P d).1.len ≤ P.mp ∧ (shrN n P d).1.byt ≤ P.mb
  | 0, P, d, hP, h => by
    refine ⟨[], by simp [shrN], hP, Alike.refl _, .refl _, ?_, ?_⟩
    · have := hP.p0; simp only [shrN]; omega
    · have := hP.b0; have := hP.byt_le; simp only [shrN]; omega
  | n + 1, P, d, hP, h => by
    by_cases hc : P.mp < P.len ∨ P.mb < P.byt
    · obtain ⟨k, p, hk, _, hs, _, hok, hal, hp, hl, _⟩ := shrink_spec hP (more_pos hP hc)
      have e0 : shrN (n + 1) P d = shrN n P.shrink.1 (d ++ [P.shrink.2]) := by simp only [shrN]; rw [if_pos hc]
      have e1 : P.shrink.2 = p := by rw [hs]
      rw [e0, e1]
      obtain ⟨e, h1, h2, h3, h4, h5, h6⟩ := shrN_spec n (P := P.shrink.1) (d := d ++ [p]) hok (by omega)
      refine ⟨p :: e, by rw [h1]; simp, h2, hal.trans h3, ?_, by rw [hal.mp] at h5; exact h5, by rw [hal.mb] at h6; exact h6⟩
      rw [List.cons_append]
      exact (h4.cons p).trans hp
    · have e0 : shrN (n + 1) P d = (P, d) := by simp only [shrN]; rw [if_neg hc]
      rw [e0]
      exact ⟨[], by simp, hP, Alike.refl _, .refl _, by dsimp only; omega, by dsimp only; omega⟩
theorem shrN_more {n : Nat} {d : List Pk} (h : P.mp < P.len ∨ P.mb < P.byt) : shrN (n + 1) P d = shrN n P.shrink.1 (d ++ [P.shrink.2]) := by simp only [shrN]; rw [if_pos h]
theorem shrN_done {n : Nat} {d : List Pk} (h : ¬ (P.mp < P.len ∨ P.mb < P.byt)) : shrN n P d = (P, d) := by
  cases n with
  | zero => rfl
  | succ n => simp only [shrN]; rw [if_neg h]
theorem put1_spec (hP : PoOk P) (hk : k < 128) (h0 : 0 ≤ p.at_) (h1 : p.at_ ≤ 1125899906842624) (hl : p.body.length ≤ 1048576) (hc : P.len < 1048576) :
    PoOk (P.put1 k p) ∧ Alike P (P.put1 k p) ∧ (P.put1 k p).all.Perm (p :: P.all) ∧ (P.put1 k p).len = P.len + 1 := by
  obtain ⟨e, w⟩ := hP.qu hk
  have hcn := hP.cnt hk
  obtain ⟨w', _⟩ := w.put (p := p) h0 h1 hl (by omega)
  have hp : (P.put1 k p).all.Perm (p :: P.all) := by
    have h1 := perm_count.1 (all_set (q := (P.qu k).put p) hP hk)
    have h2 := perm_count.1 (put_all (p := p) w.ok)
    refine perm_count.2 fun x => ?_
    have h1 := h1 x
    have h2 := h2 x
    simp only [List.count_append, List.count_cons, Po.put1] at h1 h2 ⊢
    omega
  refine ⟨hP.set w', set_alike, hp, ?_⟩
  have := hp.length_eq
  rw [Po.len_all, Po.len_all]
  simpa using this
/-- What a put makes of a pool: what is told to be dropped, what is left. -/
theorem put_spec (hP : PoOk P) (hk : k < 128) (h0 : 0 ≤ p.at_) (h1 : p.at_ ≤ 1125899906842624) (hl : p.body.length ≤ 1048576) (hc : P.len < 1048576) :
    PoOk (P.put k p).1 ∧ Alike P (P.put k p).1 ∧ ((P.put k p).2 ++ (P.put k p).1.all).Perm (p :: P.all) ∧ (P.put k p).1.len ≤ P.mp ∧ (P.put k p).1.byt ≤ P.mb := by
  obtain ⟨a1, a2, a3, a4⟩ := put1_spec hP hk h0 h1 hl hc
  obtain ⟨e, b1, b2, b3, b4, b5, b6⟩ := shrN_spec (P.put1 k p).len (P := P.put1 k p) (d := []) a1 (Nat.le_refl _)
  unfold Po.put
  rw [b1, List.nil_append]
  exact ⟨b2, a2.trans b3, b4.trans a3, by rw [← a2.mp]; exact b5, by rw [← a2.mb]; exact b6⟩
-- a station goes
theorem wipeN_spec (hP : PoOk P) (b : Nat) : ∀ n, b + n ≤ 128 → PoOk (wipeN P b n) ∧ Alike P (wipeN P b n) ∧ (outN P b n ++ (wipeN P b n).all).Perm P.all ∧ ∀ j, (wipeN P b n).qu j = if b ≤ j ∧ j < b + n then P.new else P.qu j
  | 0, _ => ⟨hP, Alike.refl _, .refl _, fun j => by rw [if_neg (by omega)]; rfl⟩
  | n + 1, h => by
    obtain ⟨h1, h2, h3, h4⟩ := wipeN_spec hP b n (by omega)
    refine ⟨h1.set (well0 _ _ _), h2.trans set_alike, ?_, fun j => ?_⟩
    · have e := h4 (b + n)
      rw [if_neg (by omega)] at e
      have k1 := perm_count.1 (all_set (q := P.new) h1 (k := b + n) (by omega))
      have k2 := perm_count.1 h3
      refine perm_count.2 fun x => ?_
      have k1 := k1 x
      have k2 := k2 x
      have e2 : allL P.new.fl = [] := rfl
      rw [e, e2] at k1
      simp only [wipeN, outN, List.count_append, List.append_nil] at k1 k2 ⊢
      omega
    · by_cases hj : j = b + n
      · subst hj
        rw [if_pos (by omega)]
        exact qu_set h1 (by omega)
      · show ((wipeN P b n).set (b + n) P.new).qu j = _
        rw [qu_set_ne hj, h4 j]
        by_cases hc : b ≤ j ∧ j < b + n
        · rw [if_pos hc, if_pos (by omega)]
        · rw [if_neg hc, if_neg (by omega)]
theorem drop_spec (hP : PoOk P) (aid : Int) : PoOk (P.drop aid).1 ∧ Alike P (P.drop aid).1 ∧ ((P.drop aid).2 ++ (P.drop aid).1.all).Perm P.all := by
  unfold Po.drop
  by_cases h : thereZ aid 0 = true
  · rw [if_pos h]
    have := thereZ_iff.1 h
    obtain ⟨h1, h2, h3, _⟩ := wipeN_spec hP ((aid - 1).toNat * 8) 8 (by omega)
    exact ⟨h1, h2, h3⟩
  · rw [if_neg h]
    exact ⟨hP, Alike.refl _, .refl _⟩
theorem take_spec {now : Int} (hP : PoOk P) (hk : k < 128) (n0 : 0 ≤ now) (n1 : now ≤ 1125899906842624) : PoOk (P.take k now).1 ∧ Alike P (P.take k now).1 ∧ (P.take k now).1.len ≤ P.len := by
  obtain ⟨e, w⟩ := hP.qu hk
  have hl := take_law n0 n1 w
  have hc := hl.cnt w.ok
  refine ⟨hP.set hl.w, set_alike, ?_⟩
  have := len_set (q := ((P.qu k).take now).1) hP hk
  show (P.set k ((P.qu k).take now).1).len ≤ _
  omega
end
end Go.Proofs.YtpcilleldanfmaaDoor

/- The conditions for calls of functions of the program, in plain form: written by a program (vcgen) off the elaborated code; each is the reckoner's own, by the kernel. -/
set_option linter.unusedVariables false
set_option maxRecDepth 100000
namespace Go.Proofs.YtpcilleldanfmaaDoor
open Go.Vc
theorem vc_pool_New (seed : Int) (target : Int) (interval : Int) (packets : Int) (bytes : Int) (h0 : Heap) (Post : Value → Heap → Prop) (H :
bcase (decide (packets < (1 : Int))) (
∃ v1 : Value, cell h0 0 0 = some v1 ∧
Post (.tuple #[(.pointer none), v1]) h0) (
bcase (decide ((512 : Int) < packets)) (
∃ v2 : Value, cell h0 0 0 = some v2 ∧
Post (.tuple #[(.pointer none), v2]) h0) (
bcase (decide (bytes < (1 : Int))) (
∃ v3 : Value, cell h0 0 0 = some v3 ∧
Post (.tuple #[(.pointer none), v3]) h0) (
bcase (decide ((1048576 : Int) < bytes)) (
∃ v4 : Value, cell h0 0 0 = some v4 ∧
Post (.tuple #[(.pointer none), v4]) h0) (
∀ (b1 : Nat) (h1 : Heap), b1 = h0.size → h1 = h0.push (.cells ([(.int .u32 seed), (.int .i64 target), (.int .i64 interval), (.int .i64 packets), (.int .i64 bytes), (.pointer none), (.pointer none), (.pointer none), (.pointer none), (.pointer none), (.pointer none), (.pointer none), (.pointer none), (.pointer none), (.pointer none), (.pointer none), (.pointer none), (.pointer none), (.pointer none), (.pointer none), (.pointer none), (.pointer none), (.pointer none), (.pointer none), (.pointer none), (.pointer none), (.pointer none), (.pointer none), (.pointer none), (.pointer none), (.pointer none), (.pointer none), (.pointer none), (.pointer none), (.pointer none), (.pointer none), (.pointer none), (.pointer none), (.pointer none), (.pointer none), (.pointer none), (.pointer none), (.pointer none), (.pointer none), (.pointer none), (.pointer none), (.pointer none), (.pointer none), (.pointer none), (.pointer none), (.pointer none), (.pointer none), (.pointer none), (.pointer none), (.pointer none), (.pointer none), (.pointer none), (.pointer none), (.pointer none), (.pointer none), (.pointer none), (.pointer none), (.pointer none), (.pointer none), (.pointer none), (.pointer none), (.pointer none), (.pointer none), (.pointer none), (.pointer none), (.pointer none), (.pointer none), (.pointer none), (.pointer none), (.pointer none), (.pointer none), (.pointer none), (.pointer none), (.pointer none), (.pointer none), (.pointer none), (.pointer none), (.pointer none), (.pointer none), (.pointer none), (.pointer none), (.pointer none), (.pointer none), (.pointer none), (.pointer none), (.pointer none), (.pointer none), (.pointer none), (.pointer none), (.pointer none), (.pointer none), (.pointer none), (.pointer none), (.pointer none), (.pointer none), (.pointer none), (.pointer none), (.pointer none), (.pointer none), (.pointer none), (.pointer none), (.pointer none), (.pointer none), (.pointer none), (.pointer none), (.pointer none), (.pointer none), (.pointer none), (.pointer none), (.pointer none), (.pointer none), (.pointer none), (.pointer none), (.pointer none), (.pointer none), (.pointer none), (.pointer none), (.pointer none), (.pointer none), (.pointer none), (.pointer none), (.pointer none), (.pointer none), (.pointer none), (.pointer none), (.pointer none), (.pointer none), (.pointer none)] : List Value).toArray 64) →
∃ (I1 : Int → Heap → Prop) (m1 : Int → Heap → Nat), I1 (0 : Int) h1 ∧ ∀ _ : Env,
∀ (x1 : Int) (h2 : Heap), I1 x1 h2 →
bcase (decide (x1 < (16 : Int))) (
Runs Tryd.prog 28 #[(.pointer (some ⟨b1, 0, none⟩)), (.int .i64 x1)] h2 fun r1 h3 =>
fits .i64 (x1 + (1 : Int)) ∧
I1 (x1 + (1 : Int)) h3 ∧ m1 (x1 + (1 : Int)) h3 < m1 x1 h2) (
Post (.tuple #[(.pointer (some ⟨b1, 0, none⟩)), .nilIface]) h2)))))) :
    Runs Tryd.prog 9 #[(.int .u32 seed), (.int .i64 target), (.int .i64 interval), (.int .i64 packets), (.int .i64 bytes)] h0 Post :=
  runs_of (args := [(.int .u32 seed), (.int .i64 target), (.int .i64 interval), (.int .i64 packets), (.int .i64 bytes)]) (fun n => ⟨true, false⟩) (fun n => match n with | 0 => [(36, .int .i64)] | _ => []) (fun _ => none) (fun _ => []) Tryd.func9 rfl (by rw [Tryd.ntmps9]; simp) (Eq.mp (by kernel_rfl) H)

theorem vc_pool_there (aid : Int) (tid : Int) (h0 : Heap) (Post : Value → Heap → Prop) (H :
bcase (decide ((1 : Int) ≤ aid)) (
bcase (decide (aid ≤ (16 : Int))) (
bcase (decide ((0 : Int) ≤ tid)) (
Post (.bool (decide (tid < (8 : Int)))) h0) (
Post (.bool false) h0)) (
Post (.bool false) h0)) (
Post (.bool false) h0)) :
    Runs Tryd.prog 29 #[(.int .i64 aid), (.int .i64 tid)] h0 Post :=
  runs_of (args := [(.int .i64 aid), (.int .i64 tid)]) (fun n => ⟨true, false⟩) (fun _ => []) (fun _ => none) (fun _ => []) Tryd.func29 rfl (by rw [Tryd.ntmps29]; simp) (Eq.mp (by kernel_rfl) H)

theorem vc_pool_Pool_Len_1 (q : Option Addr) (c0 : Option Addr) (h0 : Heap) (Post : Value → Heap → Prop) (H :
onAddr c0 fun b1 o1 =>
∃ n1 : Int, cell h0 b1 o1 = some (.int .i64 n1) ∧
Runs Tryd.prog 33 #[(.pointer q)] h0 fun r1 h1 =>
∃ n2 : Int,
r1 = (.int .i64 n2) ∧
cell h1 b1 o1 = some (.int .i64 n1) ∧
fits .i64 (n1 + n2) ∧
onAddr c0 fun b2 o2 =>
wr h1 b2 o2 ∧ ∀ h2 : Heap, h2 = setc h1 b2 o2 (.int .i64 (n1 + n2)) →
Post (.tuple #[]) h2) :
    Runs Tryd.prog 35 #[(.pointer q), (.pointer c0)] h0 Post :=
  runs_of (args := [(.pointer q), (.pointer c0)]) (fun n => ⟨true, false⟩) (fun _ => []) (fun _ => none) (fun _ => []) Tryd.func35 rfl (by rw [Tryd.ntmps35]; simp) (Eq.mp (by kernel_rfl) H)

theorem vc_pool_Pool_Bytes_1 (q : Option Addr) (c0 : Option Addr) (h0 : Heap) (Post : Value → Heap → Prop) (H :
onAddr c0 fun b1 o1 =>
∃ n1 : Int, cell h0 b1 o1 = some (.int .i64 n1) ∧
Runs Tryd.prog 37 #[(.pointer q)] h0 fun r1 h1 =>
∃ n2 : Int,
r1 = (.int .i64 n2) ∧
cell h1 b1 o1 = some (.int .i64 n1) ∧
fits .i64 (n1 + n2) ∧
onAddr c0 fun b2 o2 =>
wr h1 b2 o2 ∧ ∀ h2 : Heap, h2 = setc h1 b2 o2 (.int .i64 (n1 + n2)) →
Post (.tuple #[]) h2) :
    Runs Tryd.prog 36 #[(.pointer q), (.pointer c0)] h0 Post :=
  runs_of (args := [(.pointer q), (.pointer c0)]) (fun n => ⟨true, false⟩) (fun _ => []) (fun _ => none) (fun _ => []) Tryd.func36 rfl (by rw [Tryd.ntmps36]; simp) (Eq.mp (by kernel_rfl) H)

theorem vc_pool_Pool_shrink_1 (q : Option Addr) (c0 : Option Addr) (c1 : Option Addr) (c2 : Option Addr) (h0 : Heap) (Post : Value → Heap → Prop) (H :
Runs Tryd.prog 58 #[(.pointer q)] h0 fun r1 h1 =>
∃ n1 : Int,
∃ n2 : Int,
r1 = (.tuple #[(.int .i64 n1), (.int .i64 n2)]) ∧
Runs Tryd.prog 33 #[(.pointer q)] h1 fun r2 h2 =>
∃ n3 : Int,
r2 = (.int .i64 n3) ∧
bcase (decide ((0 : Int) < n3)) (
onAddr c0 fun b1 o1 =>
∃ n4 : Int, cell h2 b1 o1 = some (.int .i64 n4) ∧
bcase (decide (n4 < n2)) (
onAddr c1 fun b2 o2 =>
wr h2 b2 o2 ∧ ∀ h3 : Heap, h3 = setc h2 b2 o2 (.pointer q) →
onAddr c2 fun b3 o3 =>
wr h3 b3 o3 ∧ ∀ h4 : Heap, h4 = setc h3 b3 o3 (.int .i64 n1) →
onAddr c0 fun b4 o4 =>
wr h4 b4 o4 ∧ ∀ h5 : Heap, h5 = setc h4 b4 o4 (.int .i64 n2) →
Post (.tuple #[]) h5) (
Post (.tuple #[]) h2)) (
Post (.tuple #[]) h2)) :
    Runs Tryd.prog 57 #[(.pointer q), (.pointer c0), (.pointer c1), (.pointer c2)] h0 Post :=
  runs_of (args := [(.pointer q), (.pointer c0), (.pointer c1), (.pointer c2)]) (fun n => ⟨true, false⟩) (fun _ => []) (fun _ => none) (fun _ => []) Tryd.func57 rfl (by rw [Tryd.ntmps57]; simp) (Eq.mp (by kernel_rfl) H)

theorem vc_pool_Pool_renew (p : Nat) (i : Int) (h0 : Heap) (Post : Value → Heap → Prop) (H :
∃ (I1 : Int → Heap → Prop) (m1 : Int → Heap → Nat), I1 (0 : Int) h0 ∧ ∀ _ : Env,
∀ (x1 : Int) (h1 : Heap), I1 x1 h1 →
bcase (decide (x1 < (8 : Int))) (
∃ n1 : Int, cell h1 p 0 = some (.int .u32 n1) ∧
∃ n2 : Int, cell h1 p 1 = some (.int .i64 n2) ∧
∃ n3 : Int, cell h1 p 2 = some (.int .i64 n3) ∧
(0 ≤ i ∧ i < ((16 : Nat) : Int)) ∧
Runs Tryd.prog 53 #[(.int .u32 n1), (.int .i64 n2), (.int .i64 n3)] h1 fun r1 h2 =>
∃ p1 : Option Addr,
r1 = (.pointer p1) ∧
(0 ≤ x1 ∧ x1 < ((8 : Nat) : Int)) ∧
wr h2 p ((5 + ((i).toNat * 8)) + (x1).toNat) ∧ ∀ h3 : Heap, h3 = setc h2 p ((5 + ((i).toNat * 8)) + (x1).toNat) (.pointer p1) →
fits .i64 (x1 + (1 : Int)) ∧
I1 (x1 + (1 : Int)) h3 ∧ m1 (x1 + (1 : Int)) h3 < m1 x1 h1) (
Post (.tuple #[]) h1)) :
    Runs Tryd.prog 28 #[(.pointer (some ⟨p, 0, none⟩)), (.int .i64 i)] h0 Post :=
  runs_of (args := [(.pointer (some ⟨p, 0, none⟩)), (.int .i64 i)]) (fun n => ⟨true, false⟩) (fun n => match n with | 0 => [(5, .int .i64)] | _ => []) (fun _ => none) (fun _ => []) Tryd.func28 rfl (by rw [Tryd.ntmps28]; simp) (Eq.mp (by kernel_rfl) H)

theorem vc_pool_Pool_each (p : Nat) (f : Value) (h0 : Heap) (Post : Value → Heap → Prop) (H :
∃ (I1 : Int → Heap → Prop) (m1 : Int → Heap → Nat), I1 (0 : Int) h0 ∧ ∀ _ : Env,
∀ (x1 : Int) (h1 : Heap), I1 x1 h1 →
bcase (decide (x1 < (16 : Int))) (
∃ (I2 : Int → Heap → Prop) (m2 : Int → Heap → Nat), I2 (0 : Int) h1 ∧ ∀ _ : Env,
∀ (x2 : Int) (h2 : Heap), I2 x2 h2 →
bcase (decide (x2 < (8 : Int))) (
(0 ≤ x1 ∧ x1 < ((16 : Nat) : Int)) ∧
(0 ≤ x2 ∧ x2 < ((8 : Nat) : Int)) ∧
∃ p1 : Option Addr, cell h2 p ((5 + ((x1).toNat * 8)) + (x2).toNat) = some (.pointer p1) ∧
callv Tryd.prog f [(.pointer p1)] h2 fun r1 h3 =>
fits .i64 (x2 + (1 : Int)) ∧
I2 (x2 + (1 : Int)) h3 ∧ m2 (x2 + (1 : Int)) h3 < m2 x2 h2) (
fits .i64 (x1 + (1 : Int)) ∧
I1 (x1 + (1 : Int)) h2 ∧ m1 (x1 + (1 : Int)) h2 < m1 x1 h1)) (
Post (.tuple #[]) h1)) :
    Runs Tryd.prog 34 #[(.pointer (some ⟨p, 0, none⟩)), f] h0 Post :=
  runs_of (args := [(.pointer (some ⟨p, 0, none⟩)), f]) (fun n => ⟨true, false⟩) (fun n => match n with | 0 => [(6, .int .i64)] | 2 => [(9, .int .i64)] | _ => []) (fun _ => none) (fun _ => []) Tryd.func34 rfl (by rw [Tryd.ntmps34]; simp) (Eq.mp (by kernel_rfl) H)

theorem vc_pool_Pool_Len (p : Nat) (h0 : Heap) (Post : Value → Heap → Prop) (H :
∀ (b1 : Nat) (h1 : Heap), b1 = h0.size → h1 = h0.push (.cells ([(.int .i64 (0 : Int))] : List Value).toArray 3) →
wr h1 b1 0 ∧ ∀ h2 : Heap, h2 = setc h1 b1 0 (.int .i64 (0 : Int)) →
Runs Tryd.prog 34 #[(.pointer (some ⟨p, 0, none⟩)), (.func (.func 35) #[] #[(.pointer (some ⟨b1, 0, none⟩))])] h2 fun r1 h3 =>
∃ n1 : Int, cell h3 b1 0 = some (.int .i64 n1) ∧
Post (.int .i64 n1) h3) :
    Runs Tryd.prog 13 #[(.pointer (some ⟨p, 0, none⟩))] h0 Post :=
  runs_of (args := [(.pointer (some ⟨p, 0, none⟩))]) (fun n => ⟨true, false⟩) (fun _ => []) (fun _ => none) (fun _ => []) Tryd.func13 rfl (by rw [Tryd.ntmps13]; simp) (Eq.mp (by kernel_rfl) H)

theorem vc_pool_Pool_Bytes (p : Nat) (h0 : Heap) (Post : Value → Heap → Prop) (H :
∀ (b1 : Nat) (h1 : Heap), b1 = h0.size → h1 = h0.push (.cells ([(.int .i64 (0 : Int))] : List Value).toArray 3) →
wr h1 b1 0 ∧ ∀ h2 : Heap, h2 = setc h1 b1 0 (.int .i64 (0 : Int)) →
Runs Tryd.prog 34 #[(.pointer (some ⟨p, 0, none⟩)), (.func (.func 36) #[] #[(.pointer (some ⟨b1, 0, none⟩))])] h2 fun r1 h3 =>
∃ n1 : Int, cell h3 b1 0 = some (.int .i64 n1) ∧
Post (.int .i64 n1) h3) :
    Runs Tryd.prog 14 #[(.pointer (some ⟨p, 0, none⟩))] h0 Post :=
  runs_of (args := [(.pointer (some ⟨p, 0, none⟩))]) (fun n => ⟨true, false⟩) (fun _ => []) (fun _ => none) (fun _ => []) Tryd.func14 rfl (by rw [Tryd.ntmps14]; simp) (Eq.mp (by kernel_rfl) H)

theorem vc_pool_Pool_shrink (p : Nat) (h0 : Heap) (Post : Value → Heap → Prop) (H :
∀ (b1 : Nat) (h1 : Heap), b1 = h0.size → h1 = h0.push (.cells ([(.int .i64 (0 : Int)), (.int .u32 (0 : Int)), (.int .i64 (0 : Int)), (.int .i64 (0 : Int)), (.slice none 0 0)] : List Value).toArray 35) →
∀ (b2 : Nat) (h2 : Heap), b2 = h1.size → h2 = h1.push (.cells ([(.pointer none)] : List Value).toArray 60) →
∀ (b3 : Nat) (h3 : Heap), b3 = h2.size → h3 = h2.push (.cells ([(.int .i64 (0 : Int))] : List Value).toArray 3) →
∀ (b4 : Nat) (h4 : Heap), b4 = h3.size → h4 = h3.push (.cells ([(.int .i64 (0 : Int))] : List Value).toArray 3) →
wr h4 b3 0 ∧ ∀ h5 : Heap, h5 = setc h4 b3 0 (.int .i64 (0 : Int)) →
wr h5 b4 0 ∧ ∀ h6 : Heap, h6 = setc h5 b4 0 (.int .i64 (-1 : Int)) →
Runs Tryd.prog 34 #[(.pointer (some ⟨p, 0, none⟩)), (.func (.func 57) #[] #[(.pointer (some ⟨b4, 0, none⟩)), (.pointer (some ⟨b2, 0, none⟩)), (.pointer (some ⟨b3, 0, none⟩))])] h6 fun r1 h7 =>
∃ p1 : Option Addr, cell h7 b2 0 = some (.pointer p1) ∧
bcase (isNilAddr p1) (
((([(.int .i64 (0 : Int)), (.int .u32 (0 : Int)), (.int .i64 (0 : Int)), (.int .i64 (0 : Int)), (.slice none 0 0)] : List Value)).length = 5 ∧ wrs h7 b1 0 5 ∧ ∀ u ∈ (([(.int .i64 (0 : Int)), (.int .u32 (0 : Int)), (.int .i64 (0 : Int)), (.int .i64 (0 : Int)), (.slice none 0 0)] : List Value) : List Value), u.oneCell' = true) ∧ ∀ h8 : Heap, h8 = setr h7 b1 0 ([(.int .i64 (0 : Int)), (.int .u32 (0 : Int)), (.int .i64 (0 : Int)), (.int .i64 (0 : Int)), (.slice none 0 0)] : List Value) →
∃ cs1 : List Value, row h8 b1 0 5 = some cs1 ∧
Post (.agg (cs1).toArray) h8) (
∃ p2 : Option Addr, cell h7 b2 0 = some (.pointer p2) ∧
∃ n1 : Int, cell h7 b3 0 = some (.int .i64 n1) ∧
Runs Tryd.prog 59 #[(.pointer p2), (.int .i64 n1)] h7 fun r2 h9 =>
∃ cs2 : List Value,
∃ t1 : Bool,
r2 = (.tuple #[(.agg (cs2).toArray), (.bool t1)]) ∧
∀ (b5 : Nat) (h10 : Heap), b5 = h9.size → h10 = h9.push (.cells ([(.int .i64 (0 : Int)), (.int .u32 (0 : Int)), (.int .i64 (0 : Int)), (.int .i64 (0 : Int)), (.slice none 0 0)] : List Value).toArray 35) →
(((cs2)).length = 5 ∧ wrs h10 b5 0 5 ∧ ∀ u ∈ ((cs2) : List Value), u.oneCell' = true) ∧ ∀ h11 : Heap, h11 = setr h10 b5 0 (cs2) →
∃ cs3 : List Value, row h11 b5 0 5 = some cs3 ∧
(((cs3)).length = 5 ∧ wrs h11 b1 0 5 ∧ ∀ u ∈ ((cs3) : List Value), u.oneCell' = true) ∧ ∀ h12 : Heap, h12 = setr h11 b1 0 (cs3) →
∃ cs4 : List Value, row h12 b1 0 5 = some cs4 ∧
Post (.agg (cs4).toArray) h12)) :
    Runs Tryd.prog 31 #[(.pointer (some ⟨p, 0, none⟩))] h0 Post :=
  runs_of (args := [(.pointer (some ⟨p, 0, none⟩))]) (fun n => ⟨true, false⟩) (fun _ => []) (fun _ => none) (fun _ => []) Tryd.func31 rfl (by rw [Tryd.ntmps31]; simp) (Eq.mp (by kernel_rfl) H)

theorem vc_pool_Pool_Put (p : Nat) (aid : Int) (x : List Value) (h0 : Heap) (Post : Value → Heap → Prop) (H :
∀ (b1 : Nat) (h1 : Heap), b1 = h0.size → h1 = h0.push (.cells (x).toArray 35) →
∃ n1 : Int, cell h1 b1 2 = some (.int .i64 n1) ∧
Runs Tryd.prog 29 #[(.int .i64 aid), (.int .i64 n1)] h1 fun r1 h2 =>
∃ t1 : Bool,
r1 = (.bool t1) ∧
bcase (!t1) (
∃ v1 : Value, cell h2 0 0 = some v1 ∧
Post (.tuple #[(.slice none 0 0), v1]) h2) (
fits .i64 (aid - (1 : Int)) ∧
∃ n2 : Int, cell h2 b1 2 = some (.int .i64 n2) ∧
(0 ≤ (aid - (1 : Int)) ∧ (aid - (1 : Int)) < ((16 : Nat) : Int)) ∧
(0 ≤ n2 ∧ n2 < ((8 : Nat) : Int)) ∧
∃ p1 : Option Addr, cell h2 p ((5 + (((aid - (1 : Int))).toNat * 8)) + (n2).toNat) = some (.pointer p1) ∧
∃ cs1 : List Value, row h2 b1 0 5 = some cs1 ∧
Runs Tryd.prog 30 #[(.pointer p1), (.agg (cs1).toArray)] h2 fun r2 h3 =>
∃ n3 : Int,
r2 = (.int .i64 n3) ∧
cell h3 b1 2 = some (.int .i64 n2) ∧
∃ (I1 : Option Addr → Nat → Nat → Heap → Prop) (m1 : Option Addr → Nat → Nat → Heap → Nat), I1 none 0 0 h3 ∧ ∀ _ : Env,
∀ (out_1 : Option Addr) (out_1l out_1c : Nat) (h4 : Heap), I1 out_1 out_1l out_1c h4 →
∃ J1 : Heap → Prop, (
∃ n4 : Int, cell h4 p 3 = some (.int .i64 n4) ∧
Runs Tryd.prog 13 #[(.pointer (some ⟨p, 0, none⟩))] h4 fun r3 h5 =>
∃ n5 : Int,
r3 = (.int .i64 n5) ∧
cell h5 p 3 = some (.int .i64 n4) ∧
bcase (decide (n4 < n5)) (
J1 h5) (
∃ n6 : Int, cell h5 p 4 = some (.int .i64 n6) ∧
Runs Tryd.prog 14 #[(.pointer (some ⟨p, 0, none⟩))] h5 fun r4 h6 =>
∃ n7 : Int,
r4 = (.int .i64 n7) ∧
cell h6 p 4 = some (.int .i64 n6) ∧
cell h6 p 3 = some (.int .i64 n4) ∧
bcase (decide (n6 < n7)) (
J1 h6) (
Post (.tuple #[(.slice out_1 out_1l out_1c), .nilIface]) h6))) ∧ ∀ _ : Env,
∀ (h7 : Heap), J1 h7 →
Runs Tryd.prog 31 #[(.pointer (some ⟨p, 0, none⟩))] h7 fun r5 h8 =>
∃ cs2 : List Value,
r5 = (.agg (cs2).toArray) ∧
(cs2).length = 5 ∧
∀ (b2 : Nat) (h9 : Heap), b2 = h8.size → h9 = h8.push (.cells (((cs2) ++ [])).toArray 35) →
∃ news1 : List Value, (row h9 b2 0 5 = some news1 ∧ ∀ u ∈ news1, u.oneCell' = true) ∧
appK h9 out_1 out_1l out_1c 1 5 35 56 news1 fun (a1 : Option Addr) (cap1 : Nat) (h10 : Heap) =>
I1 a1 (out_1l + 1) cap1 h10 ∧ m1 a1 (out_1l + 1) cap1 h10 < m1 out_1 out_1l out_1c h4)) :
    Runs Tryd.prog 10 #[(.pointer (some ⟨p, 0, none⟩)), (.int .i64 aid), (.agg (x).toArray)] h0 Post :=
  runs_of (args := [(.pointer (some ⟨p, 0, none⟩)), (.int .i64 aid), (.agg (x).toArray)]) (fun n => ⟨true, false⟩) (fun n => match n with | 0 => [(8, .slice)] | _ => []) (fun n => match n with | 6 => some [] | _ => none) (fun _ => []) Tryd.func10 rfl (by rw [Tryd.ntmps10]; simp) (Eq.mp (by kernel_rfl) H)

theorem vc_pool_Pool_Take (p : Nat) (aid : Int) (tid : Int) (now : Int) (h0 : Heap) (Post : Value → Heap → Prop) (H :
∀ (b1 : Nat) (h1 : Heap), b1 = h0.size → h1 = h0.push (.cells ([(.int .i64 (0 : Int)), (.int .u32 (0 : Int)), (.int .i64 (0 : Int)), (.int .i64 (0 : Int)), (.slice none 0 0)] : List Value).toArray 35) →
Runs Tryd.prog 29 #[(.int .i64 aid), (.int .i64 tid)] h1 fun r1 h2 =>
∃ t1 : Bool,
r1 = (.bool t1) ∧
bcase (!t1) (
((([(.int .i64 (0 : Int)), (.int .u32 (0 : Int)), (.int .i64 (0 : Int)), (.int .i64 (0 : Int)), (.slice none 0 0)] : List Value)).length = 5 ∧ wrs h2 b1 0 5 ∧ ∀ u ∈ (([(.int .i64 (0 : Int)), (.int .u32 (0 : Int)), (.int .i64 (0 : Int)), (.int .i64 (0 : Int)), (.slice none 0 0)] : List Value) : List Value), u.oneCell' = true) ∧ ∀ h3 : Heap, h3 = setr h2 b1 0 ([(.int .i64 (0 : Int)), (.int .u32 (0 : Int)), (.int .i64 (0 : Int)), (.int .i64 (0 : Int)), (.slice none 0 0)] : List Value) →
∃ cs1 : List Value, row h3 b1 0 5 = some cs1 ∧
Post (.tuple #[(.agg (cs1).toArray), (.slice none 0 0), (.bool false)]) h3) (
fits .i64 (aid - (1 : Int)) ∧
(0 ≤ (aid - (1 : Int)) ∧ (aid - (1 : Int)) < ((16 : Nat) : Int)) ∧
(0 ≤ tid ∧ tid < ((8 : Nat) : Int)) ∧
∃ p1 : Option Addr, cell h2 p ((5 + (((aid - (1 : Int))).toNat * 8)) + (tid).toNat) = some (.pointer p1) ∧
Runs Tryd.prog 39 #[(.pointer p1), (.int .i64 now)] h2 fun r2 h4 =>
∃ cs2 : List Value,
∃ (s1 : Option Addr) (s1l s1c : Nat),
∃ t2 : Bool,
r2 = (.tuple #[(.agg (cs2).toArray), (.slice s1 s1l s1c), (.bool t2)]) ∧
(((cs2)).length = 5 ∧ wrs h4 b1 0 5 ∧ ∀ u ∈ ((cs2) : List Value), u.oneCell' = true) ∧ ∀ h5 : Heap, h5 = setr h4 b1 0 (cs2) →
∃ cs3 : List Value, row h5 b1 0 5 = some cs3 ∧
Post (.tuple #[(.agg (cs3).toArray), (.slice s1 s1l s1c), (.bool t2)]) h5)) :
    Runs Tryd.prog 16 #[(.pointer (some ⟨p, 0, none⟩)), (.int .i64 aid), (.int .i64 tid), (.int .i64 now)] h0 Post :=
  runs_of (args := [(.pointer (some ⟨p, 0, none⟩)), (.int .i64 aid), (.int .i64 tid), (.int .i64 now)]) (fun n => ⟨true, false⟩) (fun _ => []) (fun _ => none) (fun _ => []) Tryd.func16 rfl (by rw [Tryd.ntmps16]; simp) (Eq.mp (by kernel_rfl) H)

theorem vc_pool_Pool_Drop (p : Nat) (aid : Int) (h0 : Heap) (Post : Value → Heap → Prop) (H :
Runs Tryd.prog 29 #[(.int .i64 aid), (.int .i64 (0 : Int))] h0 fun r1 h1 =>
∃ t1 : Bool,
r1 = (.bool t1) ∧
bcase (!t1) (
Post (.slice none 0 0) h1) (
fits .i64 (aid - (1 : Int)) ∧
(0 ≤ (aid - (1 : Int)) ∧ (aid - (1 : Int)) < ((16 : Nat) : Int)) ∧
∃ cs1 : List Value, row h1 p (5 + (((aid - (1 : Int))).toNat * 8)) 8 = some cs1 ∧
∃ (I1 : Option Addr → Nat → Nat → Int → Heap → Prop) (m1 : Option Addr → Nat → Nat → Int → Heap → Nat), I1 none 0 0 (0 : Int) h1 ∧ ∀ _ : Env,
∀ (out_1 : Option Addr) (out_1l out_1c : Nat) (x2 : Int) (h2 : Heap), I1 out_1 out_1l out_1c x2 h2 →
bcase (decide (x2 < (8 : Int))) (
(0 ≤ x2 ∧ x2 < ((8 : Nat) : Int)) ∧
∃ p1 : Option Addr, cs1[(x2).toNat]? = some (.pointer p1) ∧
Runs Tryd.prog 38 #[(.pointer p1)] h2 fun r2 h3 =>
∃ (s1 : Option Addr) (s1l s1c : Nat),
r2 = (.slice s1 s1l s1c) ∧
∃ news1 : List Value, (src h3 s1 (s1l * 5) news1 ∧ ∀ u ∈ news1, u.oneCell' = true) ∧
appK h3 out_1 out_1l out_1c s1l 5 35 56 news1 fun (a1 : Option Addr) (cap1 : Nat) (h4 : Heap) =>
fits .i64 (x2 + (1 : Int)) ∧
I1 a1 (out_1l + s1l) cap1 (x2 + (1 : Int)) h4 ∧ m1 a1 (out_1l + s1l) cap1 (x2 + (1 : Int)) h4 < m1 out_1 out_1l out_1c x2 h2) (
fits .i64 (aid - (1 : Int)) ∧
Runs Tryd.prog 28 #[(.pointer (some ⟨p, 0, none⟩)), (.int .i64 (aid - (1 : Int)))] h2 fun r3 h5 =>
Post (.slice out_1 out_1l out_1c) h5))) :
    Runs Tryd.prog 15 #[(.pointer (some ⟨p, 0, none⟩)), (.int .i64 aid)] h0 Post :=
  runs_of (args := [(.pointer (some ⟨p, 0, none⟩)), (.int .i64 aid)]) (fun n => ⟨true, false⟩) (fun n => match n with | 0 => [(5, .slice), (18, .int .i64)] | _ => []) (fun _ => none) (fun _ => []) Tryd.func15 rfl (by rw [Tryd.ntmps15]; simp) (Eq.mp (by kernel_rfl) H)

theorem vc_pool_Pool_Has (p : Nat) (aid : Int) (tid : Int) (h0 : Heap) (Post : Value → Heap → Prop) (H :
Runs Tryd.prog 29 #[(.int .i64 aid), (.int .i64 tid)] h0 fun r1 h1 =>
∃ t1 : Bool,
r1 = (.bool t1) ∧
bcase t1 (
fits .i64 (aid - (1 : Int)) ∧
(0 ≤ (aid - (1 : Int)) ∧ (aid - (1 : Int)) < ((16 : Nat) : Int)) ∧
(0 ≤ tid ∧ tid < ((8 : Nat) : Int)) ∧
∃ p1 : Option Addr, cell h1 p ((5 + (((aid - (1 : Int))).toNat * 8)) + (tid).toNat) = some (.pointer p1) ∧
Runs Tryd.prog 33 #[(.pointer p1)] h1 fun r2 h2 =>
∃ n1 : Int,
r2 = (.int .i64 n1) ∧
Post (.bool (decide ((0 : Int) < n1))) h2) (
Post (.bool false) h1)) :
    Runs Tryd.prog 12 #[(.pointer (some ⟨p, 0, none⟩)), (.int .i64 aid), (.int .i64 tid)] h0 Post :=
  runs_of (args := [(.pointer (some ⟨p, 0, none⟩)), (.int .i64 aid), (.int .i64 tid)]) (fun n => ⟨true, false⟩) (fun _ => []) (fun _ => none) (fun _ => []) Tryd.func12 rfl (by rw [Tryd.ntmps12]; simp) (Eq.mp (by kernel_rfl) H)

theorem vc_pool_Pool_Clone (p : Nat) (h0 : Heap) (Post : Value → Heap → Prop) (H :
∃ cs1 : List Value, row h0 p 0 133 = some cs1 ∧
∀ (b1 : Nat) (h1 : Heap), b1 = h0.size → h1 = h0.push (.cells ([(.int .u32 (0 : Int)), (.int .i64 (0 : Int)), (.int .i64 (0 : Int)), (.int .i64 (0 : Int)), (.int .i64 (0 : Int)), (.pointer none), (.pointer none), (.pointer none), (.pointer none), (.pointer none), (.pointer none), (.pointer none), (.pointer none), (.pointer none), (.pointer none), (.pointer none), (.pointer none), (.pointer none), (.pointer none), (.pointer none), (.pointer none), (.pointer none), (.pointer none), (.pointer none), (.pointer none), (.pointer none), (.pointer none), (.pointer none), (.pointer none), (.pointer none), (.pointer none), (.pointer none), (.pointer none), (.pointer none), (.pointer none), (.pointer none), (.pointer none), (.pointer none), (.pointer none), (.pointer none), (.pointer none), (.pointer none), (.pointer none), (.pointer none), (.pointer none), (.pointer none), (.pointer none), (.pointer none), (.pointer none), (.pointer none), (.pointer none), (.pointer none), (.pointer none), (.pointer none), (.pointer none), (.pointer none), (.pointer none), (.pointer none), (.pointer none), (.pointer none), (.pointer none), (.pointer none), (.pointer none), (.pointer none), (.pointer none), (.pointer none), (.pointer none), (.pointer none), (.pointer none), (.pointer none), (.pointer none), (.pointer none), (.pointer none), (.pointer none), (.pointer none), (.pointer none), (.pointer none), (.pointer none), (.pointer none), (.pointer none), (.pointer none), (.pointer none), (.pointer none), (.pointer none), (.pointer none), (.pointer none), (.pointer none), (.pointer none), (.pointer none), (.pointer none), (.pointer none), (.pointer none), (.pointer none), (.pointer none), (.pointer none), (.pointer none), (.pointer none), (.pointer none), (.pointer none), (.pointer none), (.pointer none), (.pointer none), (.pointer none), (.pointer none), (.pointer none), (.pointer none), (.pointer none), (.pointer none), (.pointer none), (.pointer none), (.pointer none), (.pointer none), (.pointer none), (.pointer none), (.pointer none), (.pointer none), (.pointer none), (.pointer none), (.pointer none), (.pointer none), (.pointer none), (.pointer none), (.pointer none), (.pointer none), (.pointer none), (.pointer none), (.pointer none), (.pointer none), (.pointer none), (.pointer none), (.pointer none), (.pointer none), (.pointer none)] : List Value).toArray 64) →
(((cs1)).length = 133 ∧ wrs h1 b1 0 133 ∧ ∀ u ∈ ((cs1) : List Value), u.oneCell' = true) ∧ ∀ h2 : Heap, h2 = setr h1 b1 0 (cs1) →
∃ (I1 : Int → Heap → Prop) (m1 : Int → Heap → Nat), I1 (0 : Int) h2 ∧ ∀ _ : Env,
∀ (x1 : Int) (h3 : Heap), I1 x1 h3 →
bcase (decide (x1 < (16 : Int))) (
∃ (I2 : Int → Heap → Prop) (m2 : Int → Heap → Nat), I2 (0 : Int) h3 ∧ ∀ _ : Env,
∀ (x2 : Int) (h4 : Heap), I2 x2 h4 →
bcase (decide (x2 < (8 : Int))) (
(0 ≤ x1 ∧ x1 < ((16 : Nat) : Int)) ∧
(0 ≤ x2 ∧ x2 < ((8 : Nat) : Int)) ∧
∃ p1 : Option Addr, cell h4 p ((5 + ((x1).toNat * 8)) + (x2).toNat) = some (.pointer p1) ∧
(0 ≤ x1 ∧ x1 < ((16 : Nat) : Int)) ∧
Runs Tryd.prog 43 #[(.pointer p1)] h4 fun r1 h5 =>
∃ p2 : Option Addr,
r1 = (.pointer p2) ∧
(0 ≤ x2 ∧ x2 < ((8 : Nat) : Int)) ∧
wr h5 b1 ((5 + ((x1).toNat * 8)) + (x2).toNat) ∧ ∀ h6 : Heap, h6 = setc h5 b1 ((5 + ((x1).toNat * 8)) + (x2).toNat) (.pointer p2) →
fits .i64 (x2 + (1 : Int)) ∧
I2 (x2 + (1 : Int)) h6 ∧ m2 (x2 + (1 : Int)) h6 < m2 x2 h4) (
fits .i64 (x1 + (1 : Int)) ∧
I1 (x1 + (1 : Int)) h4 ∧ m1 (x1 + (1 : Int)) h4 < m1 x1 h3)) (
Post (.pointer (some ⟨b1, 0, none⟩)) h3)) :
    Runs Tryd.prog 19 #[(.pointer (some ⟨p, 0, none⟩))] h0 Post :=
  runs_of (args := [(.pointer (some ⟨p, 0, none⟩))]) (fun n => ⟨true, false⟩) (fun n => match n with | 0 => [(9, .int .i64)] | 2 => [(12, .int .i64)] | _ => []) (fun _ => none) (fun _ => []) Tryd.func19 rfl (by rw [Tryd.ntmps19]; simp) (Eq.mp (by kernel_rfl) H)

theorem vc_muezzinref8_NewPool (seed : Int) (target : Int) (interval : Int) (packets : Int) (bytes : Int) (h0 : Heap) (Post : Value → Heap → Prop) (H :
∀ (b1 : Nat) (h1 : Heap), b1 = h0.size → h1 = h0.push (.cells ([(.int .u32 seed), (.int .i64 target), (.int .i64 interval), (.int .i64 packets), (.int .i64 bytes), (.pointer none), (.pointer none), (.pointer none), (.pointer none), (.pointer none), (.pointer none), (.pointer none), (.pointer none), (.pointer none), (.pointer none), (.pointer none), (.pointer none), (.pointer none), (.pointer none), (.pointer none), (.pointer none), (.pointer none), (.pointer none), (.pointer none), (.pointer none), (.pointer none), (.pointer none), (.pointer none), (.pointer none), (.pointer none), (.pointer none), (.pointer none), (.pointer none), (.pointer none), (.pointer none), (.pointer none), (.pointer none), (.pointer none), (.pointer none), (.pointer none), (.pointer none), (.pointer none), (.pointer none), (.pointer none), (.pointer none), (.pointer none), (.pointer none), (.pointer none), (.pointer none), (.pointer none), (.pointer none), (.pointer none), (.pointer none), (.pointer none), (.pointer none), (.pointer none), (.pointer none), (.pointer none), (.pointer none), (.pointer none), (.pointer none), (.pointer none), (.pointer none), (.pointer none), (.pointer none), (.pointer none), (.pointer none), (.pointer none), (.pointer none), (.pointer none), (.pointer none), (.pointer none), (.pointer none), (.pointer none), (.pointer none), (.pointer none), (.pointer none), (.pointer none), (.pointer none), (.pointer none), (.pointer none), (.pointer none), (.pointer none), (.pointer none), (.pointer none), (.pointer none), (.pointer none), (.pointer none), (.pointer none), (.pointer none), (.pointer none), (.pointer none), (.pointer none), (.pointer none), (.pointer none), (.pointer none), (.pointer none), (.pointer none), (.pointer none), (.pointer none), (.pointer none), (.pointer none), (.pointer none), (.pointer none), (.pointer none), (.pointer none), (.pointer none), (.pointer none), (.pointer none), (.pointer none), (.pointer none), (.pointer none), (.pointer none), (.pointer none), (.pointer none), (.pointer none), (.pointer none), (.pointer none), (.pointer none), (.pointer none), (.pointer none), (.pointer none), (.pointer none), (.pointer none), (.pointer none), (.pointer none), (.pointer none), (.pointer none), (.pointer none), (.pointer none), (.pointer none), (.pointer none), (.pointer none), (.pointer none), (.pointer none), (.pointer none), (.pointer none), (.pointer none), (.pointer none), (.pointer none), (.pointer none)] : List Value).toArray 81) →
∃ (I1 : Int → Heap → Prop) (m1 : Int → Heap → Nat), I1 (0 : Int) h1 ∧ ∀ _ : Env,
∀ (a_1 : Int) (h2 : Heap), I1 a_1 h2 →
bcase (decide (a_1 ≤ (16 : Int))) (
∃ (I2 : Int → Heap → Prop) (m2 : Int → Heap → Nat), I2 (0 : Int) h2 ∧ ∀ _ : Env,
∀ (t_1 : Int) (h3 : Heap), I2 t_1 h3 →
bcase (decide (t_1 < (8 : Int))) (
(0 ≤ a_1 ∧ a_1 < ((17 : Nat) : Int)) ∧
Runs Tryd.prog 42 #[(.int .u32 seed), (.int .i64 target), (.int .i64 interval)] h3 fun r1 h4 =>
∃ p1 : Option Addr,
r1 = (.pointer p1) ∧
(0 ≤ t_1 ∧ t_1 < ((8 : Nat) : Int)) ∧
wr h4 b1 ((5 + ((a_1).toNat * 8)) + (t_1).toNat) ∧ ∀ h5 : Heap, h5 = setc h4 b1 ((5 + ((a_1).toNat * 8)) + (t_1).toNat) (.pointer p1) →
fits .i64 (t_1 + (1 : Int)) ∧
I2 (t_1 + (1 : Int)) h5 ∧ m2 (t_1 + (1 : Int)) h5 < m2 t_1 h3) (
fits .i64 (a_1 + (1 : Int)) ∧
I1 (a_1 + (1 : Int)) h3 ∧ m1 (a_1 + (1 : Int)) h3 < m1 a_1 h2)) (
Post (.pointer (some ⟨b1, 0, none⟩)) h2)) :
    Runs Tryd.prog 18 #[(.int .u32 seed), (.int .i64 target), (.int .i64 interval), (.int .i64 packets), (.int .i64 bytes)] h0 Post :=
  runs_of (args := [(.int .u32 seed), (.int .i64 target), (.int .i64 interval), (.int .i64 packets), (.int .i64 bytes)]) (fun n => ⟨true, false⟩) (fun n => match n with | 0 => [(12, .int .i64)] | 2 => [(13, .int .i64)] | _ => []) (fun _ => none) (fun _ => []) Tryd.func18 rfl (by rw [Tryd.ntmps18]; simp) (Eq.mp (by kernel_rfl) H)

theorem vc_muezzinref8_there (aid : Int) (tid : Int) (h0 : Heap) (Post : Value → Heap → Prop) (H :
bcase (decide ((1 : Int) ≤ aid)) (
bcase (decide (aid ≤ (16 : Int))) (
bcase (decide ((0 : Int) ≤ tid)) (
Post (.bool (decide (tid < (8 : Int)))) h0) (
Post (.bool false) h0)) (
Post (.bool false) h0)) (
Post (.bool false) h0)) :
    Runs Tryd.prog 44 #[(.int .i64 aid), (.int .i64 tid)] h0 Post :=
  runs_of (args := [(.int .i64 aid), (.int .i64 tid)]) (fun n => ⟨true, false⟩) (fun _ => []) (fun _ => none) (fun _ => []) Tryd.func44 rfl (by rw [Tryd.ntmps44]; simp) (Eq.mp (by kernel_rfl) H)

theorem vc_muezzinref8_Pool_Len (p : Nat) (h0 : Heap) (Post : Value → Heap → Prop) (H :
∃ (I1 : Int → Int → Heap → Prop) (m1 : Int → Int → Heap → Nat), I1 (0 : Int) (1 : Int) h0 ∧ ∀ _ : Env,
∀ (n_1 : Int) (a_1 : Int) (h1 : Heap), I1 n_1 a_1 h1 →
bcase (decide (a_1 ≤ (16 : Int))) (
∃ (I2 : Int → Int → Heap → Prop) (m2 : Int → Int → Heap → Nat), I2 n_1 (0 : Int) h1 ∧ ∀ _ : Env,
∀ (n_2 : Int) (t_1 : Int) (h2 : Heap), I2 n_2 t_1 h2 →
bcase (decide (t_1 < (8 : Int))) (
(0 ≤ a_1 ∧ a_1 < ((17 : Nat) : Int)) ∧
(0 ≤ t_1 ∧ t_1 < ((8 : Nat) : Int)) ∧
∃ p1 : Option Addr, cell h2 p ((5 + ((a_1).toNat * 8)) + (t_1).toNat) = some (.pointer p1) ∧
Runs Tryd.prog 47 #[(.pointer p1)] h2 fun r1 h3 =>
∃ n1 : Int,
r1 = (.int .i64 n1) ∧
fits .i64 (n_2 + n1) ∧
fits .i64 (t_1 + (1 : Int)) ∧
I2 (n_2 + n1) (t_1 + (1 : Int)) h3 ∧ m2 (n_2 + n1) (t_1 + (1 : Int)) h3 < m2 n_2 t_1 h2) (
fits .i64 (a_1 + (1 : Int)) ∧
I1 n_2 (a_1 + (1 : Int)) h2 ∧ m1 n_2 (a_1 + (1 : Int)) h2 < m1 n_1 a_1 h1)) (
Post (.int .i64 n_1) h1)) :
    Runs Tryd.prog 25 #[(.pointer (some ⟨p, 0, none⟩))] h0 Post :=
  runs_of (args := [(.pointer (some ⟨p, 0, none⟩))]) (fun n => ⟨true, false⟩) (fun n => match n with | 0 => [(3, .int .i64), (4, .int .i64)] | 2 => [(3, .int .i64), (5, .int .i64)] | _ => []) (fun _ => none) (fun _ => []) Tryd.func25 rfl (by rw [Tryd.ntmps25]; simp) (Eq.mp (by kernel_rfl) H)

theorem vc_muezzinref8_Pool_Bytes (p : Nat) (h0 : Heap) (Post : Value → Heap → Prop) (H :
∃ (I1 : Int → Int → Heap → Prop) (m1 : Int → Int → Heap → Nat), I1 (0 : Int) (1 : Int) h0 ∧ ∀ _ : Env,
∀ (n_1 : Int) (a_1 : Int) (h1 : Heap), I1 n_1 a_1 h1 →
bcase (decide (a_1 ≤ (16 : Int))) (
∃ (I2 : Int → Int → Heap → Prop) (m2 : Int → Int → Heap → Nat), I2 n_1 (0 : Int) h1 ∧ ∀ _ : Env,
∀ (n_2 : Int) (t_1 : Int) (h2 : Heap), I2 n_2 t_1 h2 →
bcase (decide (t_1 < (8 : Int))) (
(0 ≤ a_1 ∧ a_1 < ((17 : Nat) : Int)) ∧
(0 ≤ t_1 ∧ t_1 < ((8 : Nat) : Int)) ∧
∃ p1 : Option Addr, cell h2 p ((5 + ((a_1).toNat * 8)) + (t_1).toNat) = some (.pointer p1) ∧
Runs Tryd.prog 52 #[(.pointer p1)] h2 fun r1 h3 =>
∃ n1 : Int,
r1 = (.int .i64 n1) ∧
fits .i64 (n_2 + n1) ∧
fits .i64 (t_1 + (1 : Int)) ∧
I2 (n_2 + n1) (t_1 + (1 : Int)) h3 ∧ m2 (n_2 + n1) (t_1 + (1 : Int)) h3 < m2 n_2 t_1 h2) (
fits .i64 (a_1 + (1 : Int)) ∧
I1 n_2 (a_1 + (1 : Int)) h2 ∧ m1 n_2 (a_1 + (1 : Int)) h2 < m1 n_1 a_1 h1)) (
Post (.int .i64 n_1) h1)) :
    Runs Tryd.prog 26 #[(.pointer (some ⟨p, 0, none⟩))] h0 Post :=
  runs_of (args := [(.pointer (some ⟨p, 0, none⟩))]) (fun n => ⟨true, false⟩) (fun n => match n with | 0 => [(3, .int .i64), (4, .int .i64)] | 2 => [(3, .int .i64), (5, .int .i64)] | _ => []) (fun _ => none) (fun _ => []) Tryd.func26 rfl (by rw [Tryd.ntmps26]; simp) (Eq.mp (by kernel_rfl) H)

theorem vc_muezzinref8_Pool_Put (p : Nat) (aid : Int) (x : List Value) (h0 : Heap) (Post : Value → Heap → Prop) (H :
∀ (b1 : Nat) (h1 : Heap), b1 = h0.size → h1 = h0.push (.cells (x).toArray 35) →
∃ n1 : Int, cell h1 b1 2 = some (.int .i64 n1) ∧
Runs Tryd.prog 44 #[(.int .i64 aid), (.int .i64 n1)] h1 fun r1 h2 =>
∃ t1 : Bool,
r1 = (.bool t1) ∧
bcase (!t1) (
Post (.tuple #[(.slice none 0 0), (.int .i64 (103 : Int))]) h2) (
∃ n2 : Int, cell h2 b1 2 = some (.int .i64 n2) ∧
(0 ≤ aid ∧ aid < ((17 : Nat) : Int)) ∧
(0 ≤ n2 ∧ n2 < ((8 : Nat) : Int)) ∧
∃ p1 : Option Addr, cell h2 p ((5 + ((aid).toNat * 8)) + (n2).toNat) = some (.pointer p1) ∧
∃ cs1 : List Value, row h2 b1 0 5 = some cs1 ∧
Runs Tryd.prog 45 #[(.pointer p1), (.agg (cs1).toArray)] h2 fun r2 h3 =>
∃ n3 : Int,
r2 = (.int .i64 n3) ∧
cell h3 b1 2 = some (.int .i64 n2) ∧
∃ (I1 : Option Addr → Nat → Nat → Heap → Prop) (m1 : Option Addr → Nat → Nat → Heap → Nat), I1 none 0 0 h3 ∧ ∀ _ : Env,
∀ (out_1 : Option Addr) (out_1l out_1c : Nat) (h4 : Heap), I1 out_1 out_1l out_1c h4 →
∃ J1 : Heap → Prop, (
∃ n4 : Int, cell h4 p 3 = some (.int .i64 n4) ∧
Runs Tryd.prog 25 #[(.pointer (some ⟨p, 0, none⟩))] h4 fun r3 h5 =>
∃ n5 : Int,
r3 = (.int .i64 n5) ∧
cell h5 p 3 = some (.int .i64 n4) ∧
bcase (decide (n4 < n5)) (
J1 h5) (
∃ n6 : Int, cell h5 p 4 = some (.int .i64 n6) ∧
Runs Tryd.prog 26 #[(.pointer (some ⟨p, 0, none⟩))] h5 fun r4 h6 =>
∃ n7 : Int,
r4 = (.int .i64 n7) ∧
cell h6 p 4 = some (.int .i64 n6) ∧
cell h6 p 3 = some (.int .i64 n4) ∧
bcase (decide (n6 < n7)) (
J1 h6) (
Post (.tuple #[(.slice out_1 out_1l out_1c), (.int .i64 (0 : Int))]) h6))) ∧ ∀ _ : Env,
∀ (h7 : Heap), J1 h7 →
∃ (I2 : Int → Int → Int → Int → Int → Heap → Prop) (m2 : Int → Int → Int → Int → Int → Heap → Nat), I2 (-1 : Int) (0 : Int) (0 : Int) (0 : Int) (1 : Int) h7 ∧ ∀ _ : Env,
∀ (most_1 : Int) (ba_1 : Int) (bt_1 : Int) (bb_1 : Int) (a_1 : Int) (h8 : Heap), I2 most_1 ba_1 bt_1 bb_1 a_1 h8 →
bcase (decide (a_1 ≤ (16 : Int))) (
∃ (I3 : Int → Int → Int → Int → Int → Heap → Prop) (m3 : Int → Int → Int → Int → Int → Heap → Nat), I3 most_1 ba_1 bt_1 bb_1 (0 : Int) h8 ∧ ∀ _ : Env,
∀ (most_2 : Int) (ba_2 : Int) (bt_2 : Int) (bb_2 : Int) (t_1 : Int) (h9 : Heap), I3 most_2 ba_2 bt_2 bb_2 t_1 h9 →
bcase (decide (t_1 < (8 : Int))) (
∃ J2 : Int → Int → Int → Int → Heap → Prop, (
(0 ≤ a_1 ∧ a_1 < ((17 : Nat) : Int)) ∧
(0 ≤ t_1 ∧ t_1 < ((8 : Nat) : Int)) ∧
∃ p2 : Option Addr, cell h9 p ((5 + ((a_1).toNat * 8)) + (t_1).toNat) = some (.pointer p2) ∧
Runs Tryd.prog 46 #[(.pointer p2)] h9 fun r5 h10 =>
∃ n8 : Int,
∃ n9 : Int,
r5 = (.tuple #[(.int .i64 n8), (.int .i64 n9)]) ∧
(0 ≤ a_1 ∧ a_1 < ((17 : Nat) : Int)) ∧
(0 ≤ t_1 ∧ t_1 < ((8 : Nat) : Int)) ∧
∃ p3 : Option Addr, cell h10 p ((5 + ((a_1).toNat * 8)) + (t_1).toNat) = some (.pointer p3) ∧
Runs Tryd.prog 47 #[(.pointer p3)] h10 fun r6 h11 =>
∃ n10 : Int,
r6 = (.int .i64 n10) ∧
bcase (decide ((0 : Int) < n10)) (
bcase (decide (most_2 < n9)) (
J2 n9 a_1 t_1 n8 h11) (
J2 most_2 ba_2 bt_2 bb_2 h11)) (
J2 most_2 ba_2 bt_2 bb_2 h11)) ∧ ∀ _ : Env,
∀ (most_3 : Int) (ba_3 : Int) (bt_3 : Int) (bb_3 : Int) (h12 : Heap), J2 most_3 ba_3 bt_3 bb_3 h12 →
fits .i64 (t_1 + (1 : Int)) ∧
I3 most_3 ba_3 bt_3 bb_3 (t_1 + (1 : Int)) h12 ∧ m3 most_3 ba_3 bt_3 bb_3 (t_1 + (1 : Int)) h12 < m3 most_2 ba_2 bt_2 bb_2 t_1 h9) (
fits .i64 (a_1 + (1 : Int)) ∧
I2 most_2 ba_2 bt_2 bb_2 (a_1 + (1 : Int)) h9 ∧ m2 most_2 ba_2 bt_2 bb_2 (a_1 + (1 : Int)) h9 < m2 most_1 ba_1 bt_1 bb_1 a_1 h8)) (
(0 ≤ ba_1 ∧ ba_1 < ((17 : Nat) : Int)) ∧
(0 ≤ bt_1 ∧ bt_1 < ((8 : Nat) : Int)) ∧
∃ p4 : Option Addr, cell h8 p ((5 + ((ba_1).toNat * 8)) + (bt_1).toNat) = some (.pointer p4) ∧
Runs Tryd.prog 48 #[(.pointer p4), (.int .i64 bb_1)] h8 fun r7 h13 =>
∃ cs2 : List Value,
∃ t2 : Bool,
r7 = (.tuple #[(.agg (cs2).toArray), (.bool t2)]) ∧
∀ (b2 : Nat) (h14 : Heap), b2 = h13.size → h14 = h13.push (.cells ([(.int .i64 (0 : Int)), (.int .u32 (0 : Int)), (.int .i64 (0 : Int)), (.int .i64 (0 : Int)), (.slice none 0 0)] : List Value).toArray 35) →
(((cs2)).length = 5 ∧ wrs h14 b2 0 5 ∧ ∀ u ∈ ((cs2) : List Value), u.oneCell' = true) ∧ ∀ h15 : Heap, h15 = setr h14 b2 0 (cs2) →
∃ cs3 : List Value, row h15 b2 0 5 = some cs3 ∧
(cs3).length = 5 ∧
∀ (b3 : Nat) (h16 : Heap), b3 = h15.size → h16 = h15.push (.cells (((cs3) ++ [])).toArray 35) →
∃ news1 : List Value, (row h16 b3 0 5 = some news1 ∧ ∀ u ∈ news1, u.oneCell' = true) ∧
appK h16 out_1 out_1l out_1c 1 5 35 56 news1 fun (a1 : Option Addr) (cap1 : Nat) (h17 : Heap) =>
I1 a1 (out_1l + 1) cap1 h17 ∧ m1 a1 (out_1l + 1) cap1 h17 < m1 out_1 out_1l out_1c h4))) :
    Runs Tryd.prog 20 #[(.pointer (some ⟨p, 0, none⟩)), (.int .i64 aid), (.agg (x).toArray)] h0 Post :=
  runs_of (args := [(.pointer (some ⟨p, 0, none⟩)), (.int .i64 aid), (.agg (x).toArray)]) (fun n => ⟨true, false⟩) (fun n => match n with | 0 => [(8, .slice)] | 2 => [(9, .int .i64), (10, .int .i64), (11, .int .i64), (12, .int .i64), (13, .int .i64)] | 4 => [(9, .int .i64), (10, .int .i64), (11, .int .i64), (12, .int .i64), (14, .int .i64)] | _ => []) (fun n => match n with | 6 => some [] | 15 => some [(9, .int .i64), (10, .int .i64), (11, .int .i64), (12, .int .i64)] | _ => none) (fun _ => []) Tryd.func20 rfl (by rw [Tryd.ntmps20]; simp) (Eq.mp (by kernel_rfl) H)

theorem vc_muezzinref8_Pool_Take (p : Nat) (aid : Int) (tid : Int) (now : Int) (h0 : Heap) (Post : Value → Heap → Prop) (H :
∀ (b1 : Nat) (h1 : Heap), b1 = h0.size → h1 = h0.push (.cells ([(.int .i64 (0 : Int)), (.int .u32 (0 : Int)), (.int .i64 (0 : Int)), (.int .i64 (0 : Int)), (.slice none 0 0)] : List Value).toArray 35) →
Runs Tryd.prog 44 #[(.int .i64 aid), (.int .i64 tid)] h1 fun r1 h2 =>
∃ t1 : Bool,
r1 = (.bool t1) ∧
bcase (!t1) (
((([(.int .i64 (0 : Int)), (.int .u32 (0 : Int)), (.int .i64 (0 : Int)), (.int .i64 (0 : Int)), (.slice none 0 0)] : List Value)).length = 5 ∧ wrs h2 b1 0 5 ∧ ∀ u ∈ (([(.int .i64 (0 : Int)), (.int .u32 (0 : Int)), (.int .i64 (0 : Int)), (.int .i64 (0 : Int)), (.slice none 0 0)] : List Value) : List Value), u.oneCell' = true) ∧ ∀ h3 : Heap, h3 = setr h2 b1 0 ([(.int .i64 (0 : Int)), (.int .u32 (0 : Int)), (.int .i64 (0 : Int)), (.int .i64 (0 : Int)), (.slice none 0 0)] : List Value) →
∃ cs1 : List Value, row h3 b1 0 5 = some cs1 ∧
Post (.tuple #[(.agg (cs1).toArray), (.slice none 0 0), (.bool false)]) h3) (
(0 ≤ aid ∧ aid < ((17 : Nat) : Int)) ∧
(0 ≤ tid ∧ tid < ((8 : Nat) : Int)) ∧
∃ p1 : Option Addr, cell h2 p ((5 + ((aid).toNat * 8)) + (tid).toNat) = some (.pointer p1) ∧
Runs Tryd.prog 49 #[(.pointer p1), (.int .i64 now)] h2 fun r2 h4 =>
∃ cs2 : List Value,
∃ (s1 : Option Addr) (s1l s1c : Nat),
∃ t2 : Bool,
r2 = (.tuple #[(.agg (cs2).toArray), (.slice s1 s1l s1c), (.bool t2)]) ∧
(((cs2)).length = 5 ∧ wrs h4 b1 0 5 ∧ ∀ u ∈ ((cs2) : List Value), u.oneCell' = true) ∧ ∀ h5 : Heap, h5 = setr h4 b1 0 (cs2) →
∃ cs3 : List Value, row h5 b1 0 5 = some cs3 ∧
Post (.tuple #[(.agg (cs3).toArray), (.slice s1 s1l s1c), (.bool t2)]) h5)) :
    Runs Tryd.prog 22 #[(.pointer (some ⟨p, 0, none⟩)), (.int .i64 aid), (.int .i64 tid), (.int .i64 now)] h0 Post :=
  runs_of (args := [(.pointer (some ⟨p, 0, none⟩)), (.int .i64 aid), (.int .i64 tid), (.int .i64 now)]) (fun n => ⟨true, false⟩) (fun _ => []) (fun _ => none) (fun _ => []) Tryd.func22 rfl (by rw [Tryd.ntmps22]; simp) (Eq.mp (by kernel_rfl) H)

theorem vc_muezzinref8_Pool_Drop (p : Nat) (aid : Int) (h0 : Heap) (Post : Value → Heap → Prop) (H :
∃ (I1 : Option Addr → Nat → Nat → Int → Heap → Prop) (m1 : Option Addr → Nat → Nat → Int → Heap → Nat), I1 none 0 0 (0 : Int) h0 ∧ ∀ _ : Env,
∀ (out_1 : Option Addr) (out_1l out_1c : Nat) (t_1 : Int) (h1 : Heap), I1 out_1 out_1l out_1c t_1 h1 →
bcase (decide (t_1 < (8 : Int))) (
Runs Tryd.prog 44 #[(.int .i64 aid), (.int .i64 t_1)] h1 fun r1 h2 =>
∃ t1 : Bool,
r1 = (.bool t1) ∧
bcase t1 (
(0 ≤ aid ∧ aid < ((17 : Nat) : Int)) ∧
(0 ≤ t_1 ∧ t_1 < ((8 : Nat) : Int)) ∧
∃ p1 : Option Addr, cell h2 p ((5 + ((aid).toNat * 8)) + (t_1).toNat) = some (.pointer p1) ∧
Runs Tryd.prog 51 #[(.pointer p1)] h2 fun r2 h3 =>
∃ (s1 : Option Addr) (s1l s1c : Nat),
r2 = (.slice s1 s1l s1c) ∧
∃ news1 : List Value, (src h3 s1 (s1l * 5) news1 ∧ ∀ u ∈ news1, u.oneCell' = true) ∧
appK h3 out_1 out_1l out_1c s1l 5 35 56 news1 fun (a1 : Option Addr) (cap1 : Nat) (h4 : Heap) =>
∃ n1 : Int, cell h4 p 0 = some (.int .u32 n1) ∧
∃ n2 : Int, cell h4 p 1 = some (.int .i64 n2) ∧
∃ n3 : Int, cell h4 p 2 = some (.int .i64 n3) ∧
(0 ≤ aid ∧ aid < ((17 : Nat) : Int)) ∧
Runs Tryd.prog 42 #[(.int .u32 n1), (.int .i64 n2), (.int .i64 n3)] h4 fun r3 h5 =>
∃ p2 : Option Addr,
r3 = (.pointer p2) ∧
(0 ≤ t_1 ∧ t_1 < ((8 : Nat) : Int)) ∧
wr h5 p ((5 + ((aid).toNat * 8)) + (t_1).toNat) ∧ ∀ h6 : Heap, h6 = setc h5 p ((5 + ((aid).toNat * 8)) + (t_1).toNat) (.pointer p2) →
fits .i64 (t_1 + (1 : Int)) ∧
I1 a1 (out_1l + s1l) cap1 (t_1 + (1 : Int)) h6 ∧ m1 a1 (out_1l + s1l) cap1 (t_1 + (1 : Int)) h6 < m1 out_1 out_1l out_1c t_1 h1) (
Post (.slice out_1 out_1l out_1c) h2)) (
Post (.slice out_1 out_1l out_1c) h1)) :
    Runs Tryd.prog 24 #[(.pointer (some ⟨p, 0, none⟩)), (.int .i64 aid)] h0 Post :=
  runs_of (args := [(.pointer (some ⟨p, 0, none⟩)), (.int .i64 aid)]) (fun n => ⟨true, false⟩) (fun n => match n with | 0 => [(5, .slice), (6, .int .i64)] | _ => []) (fun _ => none) (fun _ => []) Tryd.func24 rfl (by rw [Tryd.ntmps24]; simp) (Eq.mp (by kernel_rfl) H)

theorem vc_muezzinref8_Pool_Has (p : Nat) (aid : Int) (tid : Int) (h0 : Heap) (Post : Value → Heap → Prop) (H :
Runs Tryd.prog 44 #[(.int .i64 aid), (.int .i64 tid)] h0 fun r1 h1 =>
∃ t1 : Bool,
r1 = (.bool t1) ∧
bcase t1 (
(0 ≤ aid ∧ aid < ((17 : Nat) : Int)) ∧
(0 ≤ tid ∧ tid < ((8 : Nat) : Int)) ∧
∃ p1 : Option Addr, cell h1 p ((5 + ((aid).toNat * 8)) + (tid).toNat) = some (.pointer p1) ∧
Runs Tryd.prog 47 #[(.pointer p1)] h1 fun r2 h2 =>
∃ n1 : Int,
r2 = (.int .i64 n1) ∧
Post (.bool (decide ((0 : Int) < n1))) h2) (
Post (.bool false) h1)) :
    Runs Tryd.prog 27 #[(.pointer (some ⟨p, 0, none⟩)), (.int .i64 aid), (.int .i64 tid)] h0 Post :=
  runs_of (args := [(.pointer (some ⟨p, 0, none⟩)), (.int .i64 aid), (.int .i64 tid)]) (fun n => ⟨true, false⟩) (fun _ => []) (fun _ => none) (fun _ => []) Tryd.func27 rfl (by rw [Tryd.ntmps27]; simp) (Eq.mp (by kernel_rfl) H)
end Go.Proofs.YtpcilleldanfmaaDoor

/- Cells of a struct that holds a row of structs of one size: reading and writing one of them. No program is named here. -/
set_option linter.unusedVariables false
set_option linter.unusedSimpArgs false
namespace Go.Vc
/-- The least number of which something holds (0 where there is none): for loops whose measure stands in no slot. -/
theorem exists_least {P : Nat → Prop} (h : ∃ n, P n) : ∃ n, P n ∧ ∀ k, P k → n ≤ k := by
  obtain ⟨n, hn⟩ := h
  induction n using Nat.strongRecOn with
  | _ n ih =>
    by_cases hx : ∃ k, k < n ∧ P k
    · obtain ⟨k, hk, hp⟩ := hx; exact ih k hk hp
    · exact ⟨n, hn, fun k hp => Nat.le_of_not_lt fun hk => hx ⟨k, hk, hp⟩⟩
open Classical in
noncomputable def lea (P : Nat → Prop) : Nat := if h : ∃ n, P n then Classical.choose (exists_least h) else 0
theorem lea_spec {P : Nat → Prop} (h : ∃ n, P n) : ∃ n, P n ∧ lea P = n := by
  unfold lea
  rw [dif_pos h]
  exact ⟨_, (Classical.choose_spec (exists_least h)).1, rfl⟩
theorem lea_lt {P : Nat → Prop} {n k : Nat} (hp : P k) (hk : k < n) : (∃ n, P n) ∧ lea P < n := by
  refine ⟨⟨k, hp⟩, Nat.lt_of_le_of_lt ?_ hk⟩
  unfold lea
  rw [dif_pos ⟨k, hp⟩]
  exact (Classical.choose_spec (exists_least ⟨k, hp⟩)).2 k hp
theorem lea_next {P P' : Nat → Prop} {n k : Nat} (hn : lea P = n) (hp : P' k) (hk : k < n) : (∃ n, P' n) ∧ lea P' < lea P := hn ▸ lea_lt hp hk
def ck (pre : List Value) (css : List (List Value)) (post : List Value) : List Value := pre ++ (css.flatten ++ post)
section
variable {pre post cs us : List Value} {css : List (List Value)} {n k j o m : Nat} {v : Value}
theorem flat_len (hn : ∀ c ∈ css, c.length = n) : css.flatten.length = css.length * n := by
  induction css with
  | nil => simp
  | cons c r ih => simp [hn c (by simp), ih fun x hx => hn x (by simp [hx]), Nat.add_mul, Nat.add_comm]
theorem flat_drop : ∀ {css : List (List Value)} {k : Nat} {cs : List Value}, (∀ c ∈ css, c.length = n) → css[k]? = some cs → css.flatten.drop (k * n) = cs ++ (css.drop (k + 1)).flatten
  | [], k, cs, _, h => by simp at h
  | c :: r, 0, cs, hn, h => by simp at h; subst h; simp
  | c :: r, k + 1, cs, hn, h => by
    have ih := flat_drop (css := r) (k := k) (cs := cs) (fun x hx => hn x (by simp [hx])) (by simpa using h)
    rw [show (k + 1) * n = c.length + k * n by rw [hn c (by simp), Nat.add_mul]; omega, List.flatten_cons, ← List.drop_drop, List.drop_left, ih]
    simp
theorem ck_len (hn : ∀ c ∈ css, c.length = n) : (ck pre css post).length = pre.length + css.length * n + post.length := by
  simp [ck, flat_len hn]; omega
theorem flat_bound (hk : css[k]? = some cs) : k * n + n ≤ css.length * n := by
  have := (List.getElem?_eq_some_iff.1 hk).1
  rw [← Nat.succ_mul]; exact Nat.mul_le_mul_right _ this
theorem ck_drop (hn : ∀ c ∈ css, c.length = n) (hk : css[k]? = some cs) (ho : o = pre.length + k * n + j) (hj : j ≤ n) : (ck pre css post).drop o = cs.drop j ++ ((css.drop (k + 1)).flatten ++ post) := by
  have hc := hn cs (List.mem_of_getElem? hk)
  have hb := flat_bound (n := n) hk
  have hf := flat_len hn
  subst ho
  unfold ck
  rw [Nat.add_assoc, ← List.drop_drop, List.drop_left, List.drop_append_of_le_length (by omega), ← List.drop_drop, flat_drop hn hk, List.drop_append_of_le_length (by omega)]
  simp
theorem ck_row (hn : ∀ c ∈ css, c.length = n) (hk : css[k]? = some cs) (ho : o = pre.length + k * n + j) (hj : j + m ≤ n) (hu : (cs.drop j).take m = us) : ((ck pre css post).drop o).take m = us := by
  have hc := hn cs (List.mem_of_getElem? hk)
  rw [ck_drop hn hk ho (by omega), List.take_append_of_le_length (by simp; omega), hu]
theorem ck_get (hn : ∀ c ∈ css, c.length = n) (hk : css[k]? = some cs) (ho : o = pre.length + k * n + j) (hv : cs[j]? = some v) : (ck pre css post)[o]? = some v := by
  have hc := hn cs (List.mem_of_getElem? hk)
  have hj := (List.getElem?_eq_some_iff.1 hv).1
  have h1 := ck_drop (post := post) hn hk ho (by omega)
  have h2 : ((ck pre css post).drop o)[0]? = some v := by
    rw [h1, List.getElem?_append_left (by simp; omega), List.getElem?_drop]; simpa using hv
  rw [List.getElem?_drop] at h2
  simpa using h2
theorem flat_set_at : ∀ {css : List (List Value)} {k j : Nat} {cs : List Value}, (∀ c ∈ css, c.length = n) → css[k]? = some cs → j < n → css.flatten.set (k * n + j) v = (css.set k (cs.set j v)).flatten
  | [], k, j, cs, _, h, _ => by simp at h
  | c :: r, 0, j, cs, hn, h, hj => by
    simp at h; subst h
    have := hn c (by simp)
    rw [Nat.zero_mul, Nat.zero_add, List.flatten_cons, List.set_append_left _ _ (by omega)]; simp
  | c :: r, k + 1, j, cs, hn, h, hj => by
    have ih := flat_set_at (css := r) (k := k) (j := j) (cs := cs) (fun x hx => hn x (by simp [hx])) (by simpa using h) hj
    have := hn c (by simp)
    rw [show (k + 1) * n + j = c.length + (k * n + j) by rw [this, Nat.add_mul]; omega, List.flatten_cons, List.set_append_right _ _ (by omega), Nat.add_sub_cancel_left, ih]
    simp
theorem ck_set (hn : ∀ c ∈ css, c.length = n) (hk : css[k]? = some cs) (ho : o = pre.length + k * n + j) (hj : j < n) : (ck pre css post).set o v = ck pre (css.set k (cs.set j v)) post := by
  have hb := flat_bound (n := n) hk
  have hf := flat_len hn
  subst ho
  unfold ck
  rw [Nat.add_assoc, List.set_append_right _ _ (by omega), Nat.add_sub_cancel_left, List.set_append_left _ _ (by omega), flat_set_at hn hk hj]
theorem ck_setL : ∀ {us : List Value} {cs : List Value} {css : List (List Value)} {o j : Nat}, (∀ c ∈ css, c.length = n) → css[k]? = some cs → o = pre.length + k * n + j → j + us.length ≤ n →
    setL (ck pre css post) o us = ck pre (css.set k (setL cs j us)) post
  | [], cs, css, o, j, hn, hk, ho, hj => by
    simp only [setL]
    congr 1
    apply List.ext_getElem?
    intro i
    rw [List.getElem?_set]
    split
    · rename_i e; subst e
      have := (List.getElem?_eq_some_iff.1 hk).1
      simp [this, hk]
      exact (List.getElem?_eq_some_iff.1 hk).2
    · rfl
  | u :: us, cs, css, o, j, hn, hk, ho, hj => by
    simp only [setL]
    simp only [List.length_cons] at hj
    have hc := hn cs (List.mem_of_getElem? hk)
    have hkl := (List.getElem?_eq_some_iff.1 hk).1
    rw [ck_set hn hk ho (by omega)]
    rw [ck_setL (us := us) (cs := cs.set j u) (css := css.set k (cs.set j u)) (o := o + 1) (j := j + 1) (fun c hc' => ?_) (by simp [hkl]) (by omega) (by omega)]
    · rw [List.set_set]
    · rcases List.mem_or_eq_of_mem_set hc' with h | rfl
      · exact hn c h
      · simp [hc]
theorem ck_post (hn : ∀ c ∈ css, c.length = n) (ho : o = pre.length + css.length * n + j) : (ck pre css post)[o]? = post[j]? := by
  have hf := flat_len hn
  subst ho
  unfold ck
  rw [Nat.add_assoc, List.getElem?_append_right (by omega), Nat.add_sub_cancel_left, List.getElem?_append_right (by omega), hf, Nat.add_sub_cancel_left]
theorem ck_post_set (hn : ∀ c ∈ css, c.length = n) (ho : o = pre.length + css.length * n + j) : (ck pre css post).set o v = ck pre css (post.set j v) := by
  have hf := flat_len hn
  subst ho
  unfold ck
  rw [Nat.add_assoc, List.set_append_right _ _ (by omega), Nat.add_sub_cancel_left, List.set_append_right _ _ (by omega), hf, Nat.add_sub_cancel_left]
theorem set_all (hn : ∀ c ∈ css, c.length = n) (hc : cs.length = n) : ∀ c ∈ css.set k cs, c.length = n := fun c hm => by
  rcases List.mem_or_eq_of_mem_set hm with h | rfl
  · exact hn c h
  · exact hc
theorem set_at {α : Type} {l : List α} {k : Nat} {a b : α} (hk : l[k]? = some a) : (l.set k b)[k]? = some b := by
  have := (List.getElem?_eq_some_iff.1 hk).1
  simp [this]
section
variable {W : Wd} {h h' : Heap} {G : List Grp} {b i N : Nat} {T : TypeId}
theorem ckn (hn : ∀ c ∈ css, c.length = n) (hc : cs.length = n) : ∀ c ∈ css.set k cs, c.length = n := set_all hn hc
theorem ckk (hk : k < css.length) : (css.set k cs)[k]? = some cs := by simp [hk]
theorem Me.fget (m : Me W h G) (i : Nat) (hi : G[i]? = some [(b, ck pre (css.set k cs) post, T)]) (hn : ∀ c ∈ css, c.length = n) (hk : k < css.length) (hc : cs.length = n) (j : Nat) (ho : o = pre.length + k * n + j) (hv : cs[j]? = some v) : Go.Vc.cell h b o = some v :=
  m.cell i hi (ck_get (ckn hn hc) (ckk hk) ho hv)
theorem Me.frow {l : Nat} (m : Me W h G) (i : Nat) (hi : G[i]? = some [(b, ck pre (css.set k cs) post, T)]) (hn : ∀ c ∈ css, c.length = n) (hk : k < css.length) (hc : cs.length = n) (j : Nat) (ho : o = pre.length + k * n + j) (hv : (cs.drop j).take l = us) (hj : Nat.ble (j + l) n = true) : Go.Vc.row h b o l = some us := by
  have hj := Nat.le_of_ble_eq_true hj
  refine m.row i hi (ck_row (ckn hn hc) (ckk hk) ho hj hv) ?_
  have h1 := flat_bound (n := n) (ckk (cs := cs) hk)
  rw [ck_len (ckn hn hc)]; omega
theorem Me.fset (m : Me W h G) (i : Nat) (hi : G[i]? = some [(b, ck pre (css.set k cs) post, T)]) (hn : ∀ c ∈ css, c.length = n) (hk : k < css.length) (hc : cs.length = n) (j : Nat) (ho : o = pre.length + k * n + j) (hj : Nat.ble (j + 1) n = true) {Q : Heap → Prop}
    (q : ∀ h1, Me W h1 (G.set i [(b, ck pre (css.set k (cs.set j v)) post, T)]) → Q h1) : Go.Vc.wr h b o ∧ ∀ h1, h1 = Go.Vc.setc h b o v → Q h1 := by
  have hj := Nat.le_of_ble_eq_true hj
  have h1 := flat_bound (n := n) (ckk (cs := cs) hk)
  refine m.store i hi (by rw [ck_len (ckn hn hc)]; omega) fun h1 m' => q h1 ?_
  rw [ck_set (ckn hn hc) (ckk hk) ho (by omega), List.set_set] at m'
  exact m'
theorem Me.fwrs {l : Nat} (m : Me W h G) (i : Nat) (hi : G[i]? = some [(b, ck pre (css.set k cs) post, T)]) (hn : ∀ c ∈ css, c.length = n) (hk : k < css.length) (hc : cs.length = n) (j : Nat) (ho : o = pre.length + k * n + j) (hj : Nat.ble (j + l) n = true) : Go.Vc.wrs h b o l := by
  have hj := Nat.le_of_ble_eq_true hj
  have h1 := flat_bound (n := n) (ckk (cs := cs) hk)
  exact m.wrs i hi (by rw [ck_len (ckn hn hc)]; omega)
theorem Me.fsetr (m : Me W h G) (i : Nat) (hi : G[i]? = some [(b, ck pre (css.set k cs) post, T)]) (hn : ∀ c ∈ css, c.length = n) (hk : k < css.length) (hc : cs.length = n) (j : Nat) (ho : o = pre.length + k * n + j) (hj : j + us.length ≤ n) (e : h' = Go.Vc.setr h b o us) :
    Me W h' (G.set i [(b, ck pre (css.set k (setL cs j us)) post, T)]) := by
  have m' := m.setr i hi e
  rw [ck_setL (ckn hn hc) (ckk hk) ho hj, List.set_set] at m'
  exact m'
theorem Me.pget (m : Me W h G) (i : Nat) (hi : G[i]? = some [(b, ck pre css post, T)]) (hn : ∀ c ∈ css, c.length = n) (hN : css.length = N) (j : Nat) (ho : o = pre.length + N * n + j) (hv : post[j]? = some v) : Go.Vc.cell h b o = some v :=
  m.cell i hi ((ck_post hn (by rw [hN]; exact ho)).trans hv)
theorem Me.pset (m : Me W h G) (i : Nat) (hi : G[i]? = some [(b, ck pre css post, T)]) (hn : ∀ c ∈ css, c.length = n) (hN : css.length = N) (j : Nat) (ho : o = pre.length + N * n + j) (hj : j < post.length) {Q : Heap → Prop}
    (q : ∀ h1, Me W h1 (G.set i [(b, ck pre css (post.set j v), T)]) → Q h1) : Go.Vc.wr h b o ∧ ∀ h1, h1 = Go.Vc.setc h b o v → Q h1 := by
  refine m.store i hi (by rw [ck_len hn, hN]; omega) fun h1 m' => q h1 ?_
  rw [ck_post_set hn (by rw [hN]; exact ho)] at m'
  exact m'
theorem Me.hget (m : Me W h G) (i : Nat) (hi : G[i]? = some [(b, ck pre css post, T)]) (ho : o < pre.length) (hv : pre[o]? = some v) : Go.Vc.cell h b o = some v :=
  m.cell i hi (by unfold ck; rw [List.getElem?_append_left ho]; exact hv)
end
end
end Go.Vc

/- The conditions for calls of functions of the program, in plain form: written by a program (vcgen) off the elaborated code; each is the reckoner's own, by the kernel. -/
set_option linter.unusedVariables false
set_option maxRecDepth 100000
namespace Go.Proofs.YtpcilleldanfmaaDoor
open Go.Vc
theorem vc_fq_New (seed : Int) (target : Int) (interval : Int) (h0 : Heap) (Post : Value → Heap → Prop) (H :
∀ (b1 : Nat) (h1 : Heap), b1 = h0.size → h1 = h0.push (.cells ([(.int .u32 seed), (.int .i64 target), (.int .i64 interval), (.slice none 0 0), (.int .i64 (0 : Int)), (.int .i64 (0 : Int)), (.int .i64 (0 : Int)), (.int .i64 (0 : Int)), (.int .u32 (0 : Int)), (.int .u32 (0 : Int)), (.bool false), (.slice none 0 0), (.int .i64 (0 : Int)), (.int .i64 (0 : Int)), (.int .i64 (0 : Int)), (.int .i64 (0 : Int)), (.int .u32 (0 : Int)), (.int .u32 (0 : Int)), (.bool false), (.slice none 0 0), (.int .i64 (0 : Int)), (.int .i64 (0 : Int)), (.int .i64 (0 : Int)), (.int .i64 (0 : Int)), (.int .u32 (0 : Int)), (.int .u32 (0 : Int)), (.bool false), (.slice none 0 0), (.int .i64 (0 : Int)), (.int .i64 (0 : Int)), (.int .i64 (0 : Int)), (.int .i64 (0 : Int)), (.int .u32 (0 : Int)), (.int .u32 (0 : Int)), (.bool false), (.slice none 0 0), (.int .i64 (0 : Int)), (.int .i64 (0 : Int)), (.int .i64 (0 : Int)), (.int .i64 (0 : Int)), (.int .u32 (0 : Int)), (.int .u32 (0 : Int)), (.bool false), (.slice none 0 0), (.int .i64 (0 : Int)), (.int .i64 (0 : Int)), (.int .i64 (0 : Int)), (.int .i64 (0 : Int)), (.int .u32 (0 : Int)), (.int .u32 (0 : Int)), (.bool false), (.slice none 0 0), (.int .i64 (0 : Int)), (.int .i64 (0 : Int)), (.int .i64 (0 : Int)), (.int .i64 (0 : Int)), (.int .u32 (0 : Int)), (.int .u32 (0 : Int)), (.bool false), (.slice none 0 0), (.int .i64 (0 : Int)), (.int .i64 (0 : Int)), (.int .i64 (0 : Int)), (.int .i64 (0 : Int)), (.int .u32 (0 : Int)), (.int .u32 (0 : Int)), (.bool false), (.slice none 0 0), (.int .i64 (0 : Int)), (.int .i64 (0 : Int)), (.int .i64 (0 : Int)), (.int .i64 (0 : Int)), (.int .u32 (0 : Int)), (.int .u32 (0 : Int)), (.bool false), (.slice none 0 0), (.int .i64 (0 : Int)), (.int .i64 (0 : Int)), (.int .i64 (0 : Int)), (.int .i64 (0 : Int)), (.int .u32 (0 : Int)), (.int .u32 (0 : Int)), (.bool false), (.slice none 0 0), (.int .i64 (0 : Int)), (.int .i64 (0 : Int)), (.int .i64 (0 : Int)), (.int .i64 (0 : Int)), (.int .u32 (0 : Int)), (.int .u32 (0 : Int)), (.bool false), (.slice none 0 0), (.int .i64 (0 : Int)), (.int .i64 (0 : Int)), (.int .i64 (0 : Int)), (.int .i64 (0 : Int)), (.int .u32 (0 : Int)), (.int .u32 (0 : Int)), (.bool false), (.slice none 0 0), (.int .i64 (0 : Int)), (.int .i64 (0 : Int)), (.int .i64 (0 : Int)), (.int .i64 (0 : Int)), (.int .u32 (0 : Int)), (.int .u32 (0 : Int)), (.bool false), (.slice none 0 0), (.int .i64 (0 : Int)), (.int .i64 (0 : Int)), (.int .i64 (0 : Int)), (.int .i64 (0 : Int)), (.int .u32 (0 : Int)), (.int .u32 (0 : Int)), (.bool false), (.slice none 0 0), (.int .i64 (0 : Int)), (.int .i64 (0 : Int)), (.int .i64 (0 : Int)), (.int .i64 (0 : Int)), (.int .u32 (0 : Int)), (.int .u32 (0 : Int)), (.bool false), (.slice none 0 0), (.int .i64 (0 : Int)), (.int .i64 (0 : Int)), (.int .i64 (0 : Int)), (.int .i64 (0 : Int)), (.int .u32 (0 : Int)), (.int .u32 (0 : Int)), (.bool false), (.slice none 0 0), (.slice none 0 0), (.int .i64 (0 : Int)), (.int .i64 (0 : Int))] : List Value).toArray 97) →
Post (.pointer (some ⟨b1, 0, none⟩)) h1) :
    Runs Tryd.prog 53 #[(.int .u32 seed), (.int .i64 target), (.int .i64 interval)] h0 Post :=
  runs_of (args := [(.int .u32 seed), (.int .i64 target), (.int .i64 interval)]) (fun n => ⟨true, false⟩) (fun _ => []) (fun _ => none) (fun _ => []) Tryd.func53 rfl (by rw [Tryd.ntmps53]; simp) (Eq.mp (by kernel_rfl) H)

theorem vc_fq_Queue_Put (q : Nat) (p : List Value) (h0 : Heap) (Post : Value → Heap → Prop) (H :
∀ (b1 : Nat) (h1 : Heap), b1 = h0.size → h1 = h0.push (.cells (p).toArray 35) →
∃ n1 : Int, cell h1 b1 1 = some (.int .u32 n1) ∧
∃ n2 : Int, cell h1 q 0 = some (.int .u32 n2) ∧
Runs Tryd.prog 54 #[(.int .u32 n1), (.int .u32 n2)] h1 fun r1 h2 =>
∃ n3 : Int,
r1 = (.int .i64 n3) ∧
(0 ≤ n3 ∧ n3 < ((16 : Nat) : Int)) ∧
∃ (s1 : Option Addr) (s1l s1c : Nat), cell h2 b1 4 = some (.slice s1 s1l s1c) ∧
Runs Tryd.prog 55 #[(.slice s1 s1l s1c)] h2 fun r2 h3 =>
∃ (s2 : Option Addr) (s2l s2c : Nat),
r2 = (.slice s2 s2l s2c) ∧
wr h3 b1 4 ∧ ∀ h4 : Heap, h4 = setc h3 b1 4 (.slice s2 s2l s2c) →
∃ (s3 : Option Addr) (s3l s3c : Nat), cell h4 q (3 + ((n3).toNat * 8)) = some (.slice s3 s3l s3c) ∧
∃ cs1 : List Value, row h4 b1 0 5 = some cs1 ∧
(cs1).length = 5 ∧
∀ (b2 : Nat) (h5 : Heap), b2 = h4.size → h5 = h4.push (.cells (((cs1) ++ [])).toArray 35) →
∃ news1 : List Value, (row h5 b2 0 5 = some news1 ∧ ∀ u ∈ news1, u.oneCell' = true) ∧
appK h5 s3 s3l s3c 1 5 35 56 news1 fun (a1 : Option Addr) (cap1 : Nat) (h6 : Heap) =>
wr h6 q (3 + ((n3).toNat * 8)) ∧ ∀ h7 : Heap, h7 = setc h6 q (3 + ((n3).toNat * 8)) (.slice a1 (s3l + 1) cap1) →
∃ n4 : Int, cell h7 q ((3 + ((n3).toNat * 8)) + 1) = some (.int .i64 n4) ∧
∃ (s4 : Option Addr) (s4l s4c : Nat), cell h7 b1 4 = some (.slice s4 s4l s4c) ∧
fits .i64 (n4 + ((s4l : Nat) : Int)) ∧
wr h7 q ((3 + ((n3).toNat * 8)) + 1) ∧ ∀ h8 : Heap, h8 = setc h7 q ((3 + ((n3).toNat * 8)) + 1) (.int .i64 (n4 + ((s4l : Nat) : Int))) →
∃ n5 : Int, cell h8 q 133 = some (.int .i64 n5) ∧
fits .i64 (n5 + (1 : Int)) ∧
wr h8 q 133 ∧ ∀ h9 : Heap, h9 = setc h8 q 133 (.int .i64 (n5 + (1 : Int))) →
∃ n6 : Int, cell h9 q 134 = some (.int .i64 n6) ∧
∃ (s5 : Option Addr) (s5l s5c : Nat), cell h9 b1 4 = some (.slice s5 s5l s5c) ∧
fits .i64 (n6 + ((s5l : Nat) : Int)) ∧
wr h9 q 134 ∧ ∀ h10 : Heap, h10 = setc h9 q 134 (.int .i64 (n6 + ((s5l : Nat) : Int))) →
∃ (s6 : Option Addr) (s6l s6c : Nat), cell h10 q 131 = some (.slice s6 s6l s6c) ∧
Runs Tryd.prog 56 #[(.slice s6 s6l s6c), (.int .i64 n3)] h10 fun r3 h11 =>
∃ t1 : Bool,
r3 = (.bool t1) ∧
bcase (!t1) (
∃ (s7 : Option Addr) (s7l s7c : Nat), cell h11 q 132 = some (.slice s7 s7l s7c) ∧
Runs Tryd.prog 56 #[(.slice s7 s7l s7c), (.int .i64 n3)] h11 fun r4 h12 =>
∃ t2 : Bool,
r4 = (.bool t2) ∧
bcase (!t2) (
wr h12 q ((3 + ((n3).toNat * 8)) + 2) ∧ ∀ h13 : Heap, h13 = setc h12 q ((3 + ((n3).toNat * 8)) + 2) (.int .i64 (300 : Int)) →
∃ (s8 : Option Addr) (s8l s8c : Nat), cell h13 q 131 = some (.slice s8 s8l s8c) ∧
∀ (b3 : Nat) (h14 : Heap), b3 = h13.size → h14 = h13.push (.cells ([(.int .i64 n3)] : List Value).toArray 3) →
∃ news2 : List Value, (row h14 b3 0 1 = some news2 ∧ ∀ u ∈ news2, u.oneCell' = true) ∧
appK h14 s8 s8l s8c 1 1 3 8 news2 fun (a2 : Option Addr) (cap2 : Nat) (h15 : Heap) =>
wr h15 q 131 ∧ ∀ h16 : Heap, h16 = setc h15 q 131 (.slice a2 (s8l + 1) cap2) →
Post (.int .i64 n3) h16) (
Post (.int .i64 n3) h12)) (
Post (.int .i64 n3) h11)) :
    Runs Tryd.prog 30 #[(.pointer (some ⟨q, 0, none⟩)), (.agg (p).toArray)] h0 Post :=
  runs_of (args := [(.pointer (some ⟨q, 0, none⟩)), (.agg (p).toArray)]) (fun n => ⟨true, false⟩) (fun _ => []) (fun _ => none) (fun _ => []) Tryd.func30 rfl (by rw [Tryd.ntmps30]; simp) (Eq.mp (by kernel_rfl) H)

theorem vc_fq_Queue_shift (q : Nat) (k : Int) (h0 : Heap) (Post : Value → Heap → Prop) (H :
∀ (b1 : Nat) (h1 : Heap), b1 = h0.size → h1 = h0.push (.cells ([(.int .i64 (0 : Int)), (.int .u32 (0 : Int)), (.int .i64 (0 : Int)), (.int .i64 (0 : Int)), (.slice none 0 0)] : List Value).toArray 35) →
(0 ≤ k ∧ k < ((16 : Nat) : Int)) ∧
∃ (s1 : Option Addr) (s1l s1c : Nat), cell h1 q (3 + ((k).toNat * 8)) = some (.slice s1 s1l s1c) ∧
(0 ≤ (0 : Int) ∧ (0 : Int) < ((s1l : Nat) : Int)) ∧
onAddr s1 fun b2 o1 =>
∃ cs1 : List Value, row h1 b2 o1 5 = some cs1 ∧
∀ (b3 : Nat) (h2 : Heap), b3 = h1.size → h2 = h1.push (.cells ([(.int .i64 (0 : Int)), (.int .u32 (0 : Int)), (.int .i64 (0 : Int)), (.int .i64 (0 : Int)), (.slice none 0 0)] : List Value).toArray 35) →
(((cs1)).length = 5 ∧ wrs h2 b3 0 5 ∧ ∀ u ∈ ((cs1) : List Value), u.oneCell' = true) ∧ ∀ h3 : Heap, h3 = setr h2 b3 0 (cs1) →
∃ (s2 : Option Addr) (s2l s2c : Nat), cell h3 q (3 + ((k).toNat * 8)) = some (.slice s2 s2l s2c) ∧
(0 ≤ (1 : Int) ∧ (1 : Int) ≤ ((s2l : Nat) : Int)) ∧
Runs Tryd.prog 78 #[(.slice (slcAddr s2 1 s2c 5) (s2l - 1) (s2c - 1))] h3 fun r1 h4 =>
∃ (s3 : Option Addr) (s3l s3c : Nat),
r1 = (.slice s3 s3l s3c) ∧
wr h4 q (3 + ((k).toNat * 8)) ∧ ∀ h5 : Heap, h5 = setc h4 q (3 + ((k).toNat * 8)) (.slice s3 s3l s3c) →
∃ n1 : Int, cell h5 q ((3 + ((k).toNat * 8)) + 1) = some (.int .i64 n1) ∧
∃ (s4 : Option Addr) (s4l s4c : Nat), cell h5 b3 4 = some (.slice s4 s4l s4c) ∧
fits .i64 (n1 - ((s4l : Nat) : Int)) ∧
wr h5 q ((3 + ((k).toNat * 8)) + 1) ∧ ∀ h6 : Heap, h6 = setc h5 q ((3 + ((k).toNat * 8)) + 1) (.int .i64 (n1 - ((s4l : Nat) : Int))) →
∃ n2 : Int, cell h6 q 133 = some (.int .i64 n2) ∧
fits .i64 (n2 - (1 : Int)) ∧
wr h6 q 133 ∧ ∀ h7 : Heap, h7 = setc h6 q 133 (.int .i64 (n2 - (1 : Int))) →
∃ n3 : Int, cell h7 q 134 = some (.int .i64 n3) ∧
∃ (s5 : Option Addr) (s5l s5c : Nat), cell h7 b3 4 = some (.slice s5 s5l s5c) ∧
fits .i64 (n3 - ((s5l : Nat) : Int)) ∧
wr h7 q 134 ∧ ∀ h8 : Heap, h8 = setc h7 q 134 (.int .i64 (n3 - ((s5l : Nat) : Int))) →
∃ cs2 : List Value, row h8 b3 0 5 = some cs2 ∧
(((cs2)).length = 5 ∧ wrs h8 b1 0 5 ∧ ∀ u ∈ ((cs2) : List Value), u.oneCell' = true) ∧ ∀ h9 : Heap, h9 = setr h8 b1 0 (cs2) →
∃ cs3 : List Value, row h9 b1 0 5 = some cs3 ∧
Post (.agg (cs3).toArray) h9) :
    Runs Tryd.prog 62 #[(.pointer (some ⟨q, 0, none⟩)), (.int .i64 k)] h0 Post :=
  runs_of (args := [(.pointer (some ⟨q, 0, none⟩)), (.int .i64 k)]) (fun n => ⟨true, false⟩) (fun _ => []) (fun _ => none) (fun _ => []) Tryd.func62 rfl (by rw [Tryd.ntmps62]; simp) (Eq.mp (by kernel_rfl) H)

theorem vc_fq_Queue_pull (q : Nat) (k : Int) (now : Int) (h0 : Heap) (Post : Value → Heap → Prop) (H :
(0 ≤ k ∧ k < ((16 : Nat) : Int)) ∧
∃ (s1 : Option Addr) (s1l s1c : Nat), cell h0 q (3 + ((k).toNat * 8)) = some (.slice s1 s1l s1c) ∧
∃ (I1 : Option Addr → Nat → Nat → Int → Heap → Prop) (m1 : Option Addr → Nat → Nat → Int → Heap → Nat), I1 none 0 0 (0 : Int) h0 ∧ ∀ _ : Env,
∀ (items_1 : Option Addr) (items_1l items_1c : Nat) (x2 : Int) (h1 : Heap), I1 items_1 items_1l items_1c x2 h1 →
bcase (decide (x2 < ((s1l : Nat) : Int))) (
(0 ≤ x2 ∧ x2 < ((s1l : Nat) : Int)) ∧
onAddr s1 fun b1 o1 =>
∃ cs1 : List Value, row h1 b1 (o1 + ((x2).toNat * 5)) 5 = some cs1 ∧
∀ (b2 : Nat) (h2 : Heap), b2 = h1.size → h2 = h1.push (.cells ([(.int .i64 (0 : Int)), (.int .u32 (0 : Int)), (.int .i64 (0 : Int)), (.int .i64 (0 : Int)), (.slice none 0 0)] : List Value).toArray 35) →
(((cs1)).length = 5 ∧ wrs h2 b2 0 5 ∧ ∀ u ∈ ((cs1) : List Value), u.oneCell' = true) ∧ ∀ h3 : Heap, h3 = setr h2 b2 0 (cs1) →
∃ n1 : Int, cell h3 b2 3 = some (.int .i64 n1) ∧
∃ (s2 : Option Addr) (s2l s2c : Nat), cell h3 b2 4 = some (.slice s2 s2l s2c) ∧
([(.int .i64 n1), (.int .i64 ((s2l : Nat) : Int))] : List Value).length = 2 ∧
∀ (b3 : Nat) (h4 : Heap), b3 = h3.size → h4 = h3.push (.cells ([(.int .i64 n1), (.int .i64 ((s2l : Nat) : Int))] : List Value).toArray 125) →
∃ news1 : List Value, (row h4 b3 0 2 = some news1 ∧ ∀ u ∈ news1, u.oneCell' = true) ∧
appK h4 items_1 items_1l items_1c 1 2 125 16 news1 fun (a1 : Option Addr) (cap1 : Nat) (h5 : Heap) =>
fits .i64 (x2 + (1 : Int)) ∧
I1 a1 (items_1l + 1) cap1 (x2 + (1 : Int)) h5 ∧ m1 a1 (items_1l + 1) cap1 (x2 + (1 : Int)) h5 < m1 items_1 items_1l items_1c x2 h1) (
∃ J1 : Option Addr → Int → Bool → Heap → Prop, (
∃ cs2 : List Value, row h1 q ((3 + ((k).toNat * 8)) + 3) 5 = some cs2 ∧
∃ n2 : Int, cell h1 q 1 = some (.int .i64 n2) ∧
∃ n3 : Int, cell h1 q 2 = some (.int .i64 n3) ∧
∃ n4 : Int, cell h1 q ((3 + ((k).toNat * 8)) + 1) = some (.int .i64 n4) ∧
(
Runs Tryd.prog 77 #[(.agg (cs2).toArray), (.int .i64 now), (.int .i64 n2), (.int .i64 n3), (.int .i64 n4), (.slice items_1 items_1l items_1c)] h1 fun r1 h6 =>
∃ cs3 : List Value,
∃ n5 : Int,
∃ t1 : Bool,
r1 = (.tuple #[(.agg (cs3).toArray), (.int .i64 n5), (.bool t1)]) ∧
∀ (b4 : Nat) (h7 : Heap), b4 = h6.size → h7 = h6.push (.cells ([(.int .i64 (0 : Int)), (.int .i64 (0 : Int)), (.int .u32 (0 : Int)), (.int .u32 (0 : Int)), (.bool false)] : List Value).toArray 91) →
(((cs3)).length = 5 ∧ wrs h7 b4 0 5 ∧ ∀ u ∈ ((cs3) : List Value), u.oneCell' = true) ∧ ∀ h8 : Heap, h8 = setr h7 b4 0 (cs3) →
J1 (some ⟨b4, 0, none⟩) n5 t1 h8) ∧
(
∀ (b5 : Nat) (h9 : Heap), b5 = h1.size → h9 = h1.push (.cells ([(.int .i64 (0 : Int)), (.int .i64 (0 : Int)), (.int .u32 (0 : Int)), (.int .u32 (0 : Int)), (.bool false)] : List Value).toArray 91) →
Runs Tryd.prog 77 #[(.agg (cs2).toArray), (.int .i64 now), (.int .i64 n2), (.int .i64 n3), (.int .i64 n4), (.slice items_1 items_1l items_1c)] h9 fun r2 h10 =>
∃ cs4 : List Value,
∃ n6 : Int,
∃ t2 : Bool,
r2 = (.tuple #[(.agg (cs4).toArray), (.int .i64 n6), (.bool t2)]) ∧
(((cs4)).length = 5 ∧ wrs h10 b5 0 5 ∧ ∀ u ∈ ((cs4) : List Value), u.oneCell' = true) ∧ ∀ h11 : Heap, h11 = setr h10 b5 0 (cs4) →
J1 (some ⟨b5, 0, none⟩) n6 t2 h11)) ∧ ∀ _ : Env,
∀ (c_1 : Option Addr) (n_1 : Int) (is_1 : Bool) (h12 : Heap), J1 c_1 n_1 is_1 h12 →
onAddr c_1 fun b6 o2 =>
∃ cs5 : List Value, row h12 b6 o2 5 = some cs5 ∧
(((cs5)).length = 5 ∧ wrs h12 q ((3 + ((k).toNat * 8)) + 3) 5 ∧ ∀ u ∈ ((cs5) : List Value), u.oneCell' = true) ∧ ∀ h13 : Heap, h13 = setr h12 q ((3 + ((k).toNat * 8)) + 3) (cs5) →
∃ (I2 : Option Addr → Nat → Nat → Int → Heap → Prop) (m2 : Option Addr → Nat → Nat → Int → Heap → Nat), I2 none 0 0 (0 : Int) h13 ∧ ∀ _ : Env,
∀ (out_1 : Option Addr) (out_1l out_1c : Nat) (x7 : Int) (h14 : Heap), I2 out_1 out_1l out_1c x7 h14 →
bcase (decide (x7 < n_1)) (
Runs Tryd.prog 62 #[(.pointer (some ⟨q, 0, none⟩)), (.int .i64 k)] h14 fun r3 h15 =>
∃ cs6 : List Value,
r3 = (.agg (cs6).toArray) ∧
(cs6).length = 5 ∧
∀ (b7 : Nat) (h16 : Heap), b7 = h15.size → h16 = h15.push (.cells (((cs6) ++ [])).toArray 35) →
∃ news2 : List Value, (row h16 b7 0 5 = some news2 ∧ ∀ u ∈ news2, u.oneCell' = true) ∧
appK h16 out_1 out_1l out_1c 1 5 35 56 news2 fun (a2 : Option Addr) (cap2 : Nat) (h17 : Heap) =>
fits .i64 (x7 + (1 : Int)) ∧
I2 a2 (out_1l + 1) cap2 (x7 + (1 : Int)) h17 ∧ m2 a2 (out_1l + 1) cap2 (x7 + (1 : Int)) h17 < m2 out_1 out_1l out_1c x7 h14) (
Post (.tuple #[(.slice out_1 out_1l out_1c), (.bool is_1)]) h14))) :
    Runs Tryd.prog 61 #[(.pointer (some ⟨q, 0, none⟩)), (.int .i64 k), (.int .i64 now)] h0 Post :=
  runs_of (args := [(.pointer (some ⟨q, 0, none⟩)), (.int .i64 k), (.int .i64 now)]) (fun n => ⟨true, false⟩) (fun n => match n with | 0 => [(9, .slice), (26, .int .i64)] | 2 => [(15, .slice), (68, .int .i64)] | _ => []) (fun n => match n with | 9 => some [(12, .ptr), (13, .int .i64), (14, .bool)] | _ => none) (fun _ => []) Tryd.func61 rfl (by rw [Tryd.ntmps61]; simp) (Eq.mp (by kernel_rfl) H)

theorem vc_fq_Queue_Take (q : Nat) (now : Int) (h0 : Heap) (Post : Value → Heap → Prop) (H :
∀ (b1 : Nat) (h1 : Heap), b1 = h0.size → h1 = h0.push (.cells ([(.int .i64 (0 : Int)), (.int .u32 (0 : Int)), (.int .i64 (0 : Int)), (.int .i64 (0 : Int)), (.slice none 0 0)] : List Value).toArray 35) →
∃ (I1 : Option Addr → Nat → Nat → Heap → Prop) (m1 : Option Addr → Nat → Nat → Heap → Nat), I1 none 0 0 h1 ∧ ∀ _ : Env,
∀ (dropped_1 : Option Addr) (dropped_1l dropped_1c : Nat) (h2 : Heap), I1 dropped_1 dropped_1l dropped_1c h2 →
∃ (s1 : Option Addr) (s1l s1c : Nat), cell h2 q 131 = some (.slice s1 s1l s1c) ∧
bcase (decide (((s1l : Nat) : Int) = (0 : Int))) (
∃ (s2 : Option Addr) (s2l s2c : Nat), cell h2 q 132 = some (.slice s2 s2l s2c) ∧
bcase (decide (((s2l : Nat) : Int) = (0 : Int))) (
((([(.int .i64 (0 : Int)), (.int .u32 (0 : Int)), (.int .i64 (0 : Int)), (.int .i64 (0 : Int)), (.slice none 0 0)] : List Value)).length = 5 ∧ wrs h2 b1 0 5 ∧ ∀ u ∈ (([(.int .i64 (0 : Int)), (.int .u32 (0 : Int)), (.int .i64 (0 : Int)), (.int .i64 (0 : Int)), (.slice none 0 0)] : List Value) : List Value), u.oneCell' = true) ∧ ∀ h3 : Heap, h3 = setr h2 b1 0 ([(.int .i64 (0 : Int)), (.int .u32 (0 : Int)), (.int .i64 (0 : Int)), (.int .i64 (0 : Int)), (.slice none 0 0)] : List Value) →
∃ cs1 : List Value, row h3 b1 0 5 = some cs1 ∧
Post (.tuple #[(.agg (cs1).toArray), (.slice dropped_1 dropped_1l dropped_1c), (.bool false)]) h3) (
∃ (s3 : Option Addr) (s3l s3c : Nat), cell h2 q 132 = some (.slice s3 s3l s3c) ∧
(0 ≤ (0 : Int) ∧ (0 : Int) < ((s3l : Nat) : Int)) ∧
onAddr s3 fun b2 o1 =>
∃ n1 : Int, cell h2 b2 o1 = some (.int .i64 n1) ∧
(0 ≤ n1 ∧ n1 < ((16 : Nat) : Int)) ∧
∃ n2 : Int, cell h2 q ((3 + ((n1).toNat * 8)) + 2) = some (.int .i64 n2) ∧
bcase (decide (n2 ≤ (0 : Int))) (
∃ n3 : Int, cell h2 q ((3 + ((n1).toNat * 8)) + 2) = some (.int .i64 n3) ∧
fits .i64 (n3 + (300 : Int)) ∧
wr h2 q ((3 + ((n1).toNat * 8)) + 2) ∧ ∀ h4 : Heap, h4 = setc h2 q ((3 + ((n1).toNat * 8)) + 2) (.int .i64 (n3 + (300 : Int))) →
∃ (s4 : Option Addr) (s4l s4c : Nat), cell h4 q 132 = some (.slice s4 s4l s4c) ∧
(0 ≤ (1 : Int) ∧ (1 : Int) ≤ ((s4l : Nat) : Int)) ∧
wr h4 q 132 ∧ ∀ h5 : Heap, h5 = setc h4 q 132 (.slice (slcAddr s4 1 s4c 1) (s4l - 1) (s4c - 1)) →
∃ (s5 : Option Addr) (s5l s5c : Nat), cell h5 q 132 = some (.slice s5 s5l s5c) ∧
∀ (b3 : Nat) (h6 : Heap), b3 = h5.size → h6 = h5.push (.cells ([(.int .i64 n1)] : List Value).toArray 3) →
∃ news1 : List Value, (row h6 b3 0 1 = some news1 ∧ ∀ u ∈ news1, u.oneCell' = true) ∧
appK h6 s5 s5l s5c 1 1 3 8 news1 fun (a1 : Option Addr) (cap1 : Nat) (h7 : Heap) =>
wr h7 q 132 ∧ ∀ h8 : Heap, h8 = setc h7 q 132 (.slice a1 (s5l + 1) cap1) →
I1 dropped_1 dropped_1l dropped_1c h8 ∧ m1 dropped_1 dropped_1l dropped_1c h8 < m1 dropped_1 dropped_1l dropped_1c h2) (
Runs Tryd.prog 61 #[(.pointer (some ⟨q, 0, none⟩)), (.int .i64 n1), (.int .i64 now)] h2 fun r1 h9 =>
∃ (s6 : Option Addr) (s6l s6c : Nat),
∃ t1 : Bool,
r1 = (.tuple #[(.slice s6 s6l s6c), (.bool t1)]) ∧
∃ news2 : List Value, (src h9 s6 (s6l * 5) news2 ∧ ∀ u ∈ news2, u.oneCell' = true) ∧
appK h9 dropped_1 dropped_1l dropped_1c s6l 5 35 56 news2 fun (a2 : Option Addr) (cap2 : Nat) (h10 : Heap) =>
bcase t1 (
Runs Tryd.prog 62 #[(.pointer (some ⟨q, 0, none⟩)), (.int .i64 n1)] h10 fun r2 h11 =>
∃ cs2 : List Value,
r2 = (.agg (cs2).toArray) ∧
∀ (b4 : Nat) (h12 : Heap), b4 = h11.size → h12 = h11.push (.cells ([(.int .i64 (0 : Int)), (.int .u32 (0 : Int)), (.int .i64 (0 : Int)), (.int .i64 (0 : Int)), (.slice none 0 0)] : List Value).toArray 35) →
(((cs2)).length = 5 ∧ wrs h12 b4 0 5 ∧ ∀ u ∈ ((cs2) : List Value), u.oneCell' = true) ∧ ∀ h13 : Heap, h13 = setr h12 b4 0 (cs2) →
∃ n4 : Int, cell h13 q ((3 + ((n1).toNat * 8)) + 2) = some (.int .i64 n4) ∧
∃ (s7 : Option Addr) (s7l s7c : Nat), cell h13 b4 4 = some (.slice s7 s7l s7c) ∧
fits .i64 (n4 - ((s7l : Nat) : Int)) ∧
wr h13 q ((3 + ((n1).toNat * 8)) + 2) ∧ ∀ h14 : Heap, h14 = setc h13 q ((3 + ((n1).toNat * 8)) + 2) (.int .i64 (n4 - ((s7l : Nat) : Int))) →
∃ cs3 : List Value, row h14 b4 0 5 = some cs3 ∧
(((cs3)).length = 5 ∧ wrs h14 b1 0 5 ∧ ∀ u ∈ ((cs3) : List Value), u.oneCell' = true) ∧ ∀ h15 : Heap, h15 = setr h14 b1 0 (cs3) →
∃ cs4 : List Value, row h15 b1 0 5 = some cs4 ∧
Post (.tuple #[(.agg (cs4).toArray), (.slice a2 (dropped_1l + s6l) cap2), (.bool true)]) h15) (
∃ (s8 : Option Addr) (s8l s8c : Nat), cell h10 q 132 = some (.slice s8 s8l s8c) ∧
(0 ≤ (1 : Int) ∧ (1 : Int) ≤ ((s8l : Nat) : Int)) ∧
wr h10 q 132 ∧ ∀ h16 : Heap, h16 = setc h10 q 132 (.slice (slcAddr s8 1 s8c 1) (s8l - 1) (s8c - 1)) →
I1 a2 (dropped_1l + s6l) cap2 h16 ∧ m1 a2 (dropped_1l + s6l) cap2 h16 < m1 dropped_1 dropped_1l dropped_1c h2)))) (
∃ (s9 : Option Addr) (s9l s9c : Nat), cell h2 q 131 = some (.slice s9 s9l s9c) ∧
bcase (decide (((s9l : Nat) : Int) = (0 : Int))) (
((([(.int .i64 (0 : Int)), (.int .u32 (0 : Int)), (.int .i64 (0 : Int)), (.int .i64 (0 : Int)), (.slice none 0 0)] : List Value)).length = 5 ∧ wrs h2 b1 0 5 ∧ ∀ u ∈ (([(.int .i64 (0 : Int)), (.int .u32 (0 : Int)), (.int .i64 (0 : Int)), (.int .i64 (0 : Int)), (.slice none 0 0)] : List Value) : List Value), u.oneCell' = true) ∧ ∀ h17 : Heap, h17 = setr h2 b1 0 ([(.int .i64 (0 : Int)), (.int .u32 (0 : Int)), (.int .i64 (0 : Int)), (.int .i64 (0 : Int)), (.slice none 0 0)] : List Value) →
∃ cs5 : List Value, row h17 b1 0 5 = some cs5 ∧
Post (.tuple #[(.agg (cs5).toArray), (.slice dropped_1 dropped_1l dropped_1c), (.bool false)]) h17) (
∃ (s10 : Option Addr) (s10l s10c : Nat), cell h2 q 131 = some (.slice s10 s10l s10c) ∧
(0 ≤ (0 : Int) ∧ (0 : Int) < ((s10l : Nat) : Int)) ∧
onAddr s10 fun b5 o2 =>
∃ n5 : Int, cell h2 b5 o2 = some (.int .i64 n5) ∧
(0 ≤ n5 ∧ n5 < ((16 : Nat) : Int)) ∧
∃ n6 : Int, cell h2 q ((3 + ((n5).toNat * 8)) + 2) = some (.int .i64 n6) ∧
bcase (decide (n6 ≤ (0 : Int))) (
∃ n7 : Int, cell h2 q ((3 + ((n5).toNat * 8)) + 2) = some (.int .i64 n7) ∧
fits .i64 (n7 + (300 : Int)) ∧
wr h2 q ((3 + ((n5).toNat * 8)) + 2) ∧ ∀ h18 : Heap, h18 = setc h2 q ((3 + ((n5).toNat * 8)) + 2) (.int .i64 (n7 + (300 : Int))) →
∃ (s11 : Option Addr) (s11l s11c : Nat), cell h18 q 131 = some (.slice s11 s11l s11c) ∧
(0 ≤ (1 : Int) ∧ (1 : Int) ≤ ((s11l : Nat) : Int)) ∧
wr h18 q 131 ∧ ∀ h19 : Heap, h19 = setc h18 q 131 (.slice (slcAddr s11 1 s11c 1) (s11l - 1) (s11c - 1)) →
∃ (s12 : Option Addr) (s12l s12c : Nat), cell h19 q 132 = some (.slice s12 s12l s12c) ∧
∀ (b6 : Nat) (h20 : Heap), b6 = h19.size → h20 = h19.push (.cells ([(.int .i64 n5)] : List Value).toArray 3) →
∃ news3 : List Value, (row h20 b6 0 1 = some news3 ∧ ∀ u ∈ news3, u.oneCell' = true) ∧
appK h20 s12 s12l s12c 1 1 3 8 news3 fun (a3 : Option Addr) (cap3 : Nat) (h21 : Heap) =>
wr h21 q 132 ∧ ∀ h22 : Heap, h22 = setc h21 q 132 (.slice a3 (s12l + 1) cap3) →
I1 dropped_1 dropped_1l dropped_1c h22 ∧ m1 dropped_1 dropped_1l dropped_1c h22 < m1 dropped_1 dropped_1l dropped_1c h2) (
Runs Tryd.prog 61 #[(.pointer (some ⟨q, 0, none⟩)), (.int .i64 n5), (.int .i64 now)] h2 fun r3 h23 =>
∃ (s13 : Option Addr) (s13l s13c : Nat),
∃ t2 : Bool,
r3 = (.tuple #[(.slice s13 s13l s13c), (.bool t2)]) ∧
∃ news4 : List Value, (src h23 s13 (s13l * 5) news4 ∧ ∀ u ∈ news4, u.oneCell' = true) ∧
appK h23 dropped_1 dropped_1l dropped_1c s13l 5 35 56 news4 fun (a4 : Option Addr) (cap4 : Nat) (h24 : Heap) =>
bcase t2 (
Runs Tryd.prog 62 #[(.pointer (some ⟨q, 0, none⟩)), (.int .i64 n5)] h24 fun r4 h25 =>
∃ cs6 : List Value,
r4 = (.agg (cs6).toArray) ∧
∀ (b7 : Nat) (h26 : Heap), b7 = h25.size → h26 = h25.push (.cells ([(.int .i64 (0 : Int)), (.int .u32 (0 : Int)), (.int .i64 (0 : Int)), (.int .i64 (0 : Int)), (.slice none 0 0)] : List Value).toArray 35) →
(((cs6)).length = 5 ∧ wrs h26 b7 0 5 ∧ ∀ u ∈ ((cs6) : List Value), u.oneCell' = true) ∧ ∀ h27 : Heap, h27 = setr h26 b7 0 (cs6) →
∃ n8 : Int, cell h27 q ((3 + ((n5).toNat * 8)) + 2) = some (.int .i64 n8) ∧
∃ (s14 : Option Addr) (s14l s14c : Nat), cell h27 b7 4 = some (.slice s14 s14l s14c) ∧
fits .i64 (n8 - ((s14l : Nat) : Int)) ∧
wr h27 q ((3 + ((n5).toNat * 8)) + 2) ∧ ∀ h28 : Heap, h28 = setc h27 q ((3 + ((n5).toNat * 8)) + 2) (.int .i64 (n8 - ((s14l : Nat) : Int))) →
∃ cs7 : List Value, row h28 b7 0 5 = some cs7 ∧
(((cs7)).length = 5 ∧ wrs h28 b1 0 5 ∧ ∀ u ∈ ((cs7) : List Value), u.oneCell' = true) ∧ ∀ h29 : Heap, h29 = setr h28 b1 0 (cs7) →
∃ cs8 : List Value, row h29 b1 0 5 = some cs8 ∧
Post (.tuple #[(.agg (cs8).toArray), (.slice a4 (dropped_1l + s13l) cap4), (.bool true)]) h29) (
∃ (s15 : Option Addr) (s15l s15c : Nat), cell h24 q 131 = some (.slice s15 s15l s15c) ∧
(0 ≤ (1 : Int) ∧ (1 : Int) ≤ ((s15l : Nat) : Int)) ∧
wr h24 q 131 ∧ ∀ h30 : Heap, h30 = setc h24 q 131 (.slice (slcAddr s15 1 s15c 1) (s15l - 1) (s15c - 1)) →
∃ (s16 : Option Addr) (s16l s16c : Nat), cell h30 q 132 = some (.slice s16 s16l s16c) ∧
bcase (decide ((0 : Int) < ((s16l : Nat) : Int))) (
∃ (s17 : Option Addr) (s17l s17c : Nat), cell h30 q 132 = some (.slice s17 s17l s17c) ∧
∀ (b8 : Nat) (h31 : Heap), b8 = h30.size → h31 = h30.push (.cells ([(.int .i64 n5)] : List Value).toArray 3) →
∃ news5 : List Value, (row h31 b8 0 1 = some news5 ∧ ∀ u ∈ news5, u.oneCell' = true) ∧
appK h31 s17 s17l s17c 1 1 3 8 news5 fun (a5 : Option Addr) (cap5 : Nat) (h32 : Heap) =>
wr h32 q 132 ∧ ∀ h33 : Heap, h33 = setc h32 q 132 (.slice a5 (s17l + 1) cap5) →
I1 a4 (dropped_1l + s13l) cap4 h33 ∧ m1 a4 (dropped_1l + s13l) cap4 h33 < m1 dropped_1 dropped_1l dropped_1c h2) (
I1 a4 (dropped_1l + s13l) cap4 h30 ∧ m1 a4 (dropped_1l + s13l) cap4 h30 < m1 dropped_1 dropped_1l dropped_1c h2)))))) :
    Runs Tryd.prog 39 #[(.pointer (some ⟨q, 0, none⟩)), (.int .i64 now)] h0 Post :=
  runs_of (args := [(.pointer (some ⟨q, 0, none⟩)), (.int .i64 now)]) (fun n => ⟨true, false⟩) (fun n => match n with | 0 => [(7, .slice)] | _ => []) (fun _ => none) (fun _ => []) Tryd.func39 rfl (by rw [Tryd.ntmps39]; simp) (Eq.mp (by kernel_rfl) H)

theorem vc_fq_Queue_Head (q : Nat) (bucket : Int) (h0 : Heap) (Post : Value → Heap → Prop) (H :
∀ (b1 : Nat) (h1 : Heap), b1 = h0.size → h1 = h0.push (.cells ([(.int .i64 (0 : Int)), (.int .u32 (0 : Int)), (.int .i64 (0 : Int)), (.int .i64 (0 : Int)), (.slice none 0 0)] : List Value).toArray 35) →
bcase (decide (bucket < (0 : Int))) (
((([(.int .i64 (0 : Int)), (.int .u32 (0 : Int)), (.int .i64 (0 : Int)), (.int .i64 (0 : Int)), (.slice none 0 0)] : List Value)).length = 5 ∧ wrs h1 b1 0 5 ∧ ∀ u ∈ (([(.int .i64 (0 : Int)), (.int .u32 (0 : Int)), (.int .i64 (0 : Int)), (.int .i64 (0 : Int)), (.slice none 0 0)] : List Value) : List Value), u.oneCell' = true) ∧ ∀ h2 : Heap, h2 = setr h1 b1 0 ([(.int .i64 (0 : Int)), (.int .u32 (0 : Int)), (.int .i64 (0 : Int)), (.int .i64 (0 : Int)), (.slice none 0 0)] : List Value) →
∃ cs1 : List Value, row h2 b1 0 5 = some cs1 ∧
Post (.tuple #[(.agg (cs1).toArray), (.bool false)]) h2) (
bcase (decide ((16 : Int) ≤ bucket)) (
((([(.int .i64 (0 : Int)), (.int .u32 (0 : Int)), (.int .i64 (0 : Int)), (.int .i64 (0 : Int)), (.slice none 0 0)] : List Value)).length = 5 ∧ wrs h1 b1 0 5 ∧ ∀ u ∈ (([(.int .i64 (0 : Int)), (.int .u32 (0 : Int)), (.int .i64 (0 : Int)), (.int .i64 (0 : Int)), (.slice none 0 0)] : List Value) : List Value), u.oneCell' = true) ∧ ∀ h3 : Heap, h3 = setr h1 b1 0 ([(.int .i64 (0 : Int)), (.int .u32 (0 : Int)), (.int .i64 (0 : Int)), (.int .i64 (0 : Int)), (.slice none 0 0)] : List Value) →
∃ cs2 : List Value, row h3 b1 0 5 = some cs2 ∧
Post (.tuple #[(.agg (cs2).toArray), (.bool false)]) h3) (
(0 ≤ bucket ∧ bucket < ((16 : Nat) : Int)) ∧
∃ (s1 : Option Addr) (s1l s1c : Nat), cell h1 q (3 + ((bucket).toNat * 8)) = some (.slice s1 s1l s1c) ∧
bcase (decide (((s1l : Nat) : Int) = (0 : Int))) (
((([(.int .i64 (0 : Int)), (.int .u32 (0 : Int)), (.int .i64 (0 : Int)), (.int .i64 (0 : Int)), (.slice none 0 0)] : List Value)).length = 5 ∧ wrs h1 b1 0 5 ∧ ∀ u ∈ (([(.int .i64 (0 : Int)), (.int .u32 (0 : Int)), (.int .i64 (0 : Int)), (.int .i64 (0 : Int)), (.slice none 0 0)] : List Value) : List Value), u.oneCell' = true) ∧ ∀ h4 : Heap, h4 = setr h1 b1 0 ([(.int .i64 (0 : Int)), (.int .u32 (0 : Int)), (.int .i64 (0 : Int)), (.int .i64 (0 : Int)), (.slice none 0 0)] : List Value) →
∃ cs3 : List Value, row h4 b1 0 5 = some cs3 ∧
Post (.tuple #[(.agg (cs3).toArray), (.bool false)]) h4) (
(0 ≤ bucket ∧ bucket < ((16 : Nat) : Int)) ∧
∃ (s2 : Option Addr) (s2l s2c : Nat), cell h1 q (3 + ((bucket).toNat * 8)) = some (.slice s2 s2l s2c) ∧
(0 ≤ (0 : Int) ∧ (0 : Int) < ((s2l : Nat) : Int)) ∧
onAddr s2 fun b2 o1 =>
∃ cs4 : List Value, row h1 b2 o1 5 = some cs4 ∧
Runs Tryd.prog 60 #[(.agg (cs4).toArray)] h1 fun r1 h5 =>
∃ cs5 : List Value,
r1 = (.agg (cs5).toArray) ∧
(((cs5)).length = 5 ∧ wrs h5 b1 0 5 ∧ ∀ u ∈ ((cs5) : List Value), u.oneCell' = true) ∧ ∀ h6 : Heap, h6 = setr h5 b1 0 (cs5) →
∃ cs6 : List Value, row h6 b1 0 5 = some cs6 ∧
Post (.tuple #[(.agg (cs6).toArray), (.bool true)]) h6)))) :
    Runs Tryd.prog 76 #[(.pointer (some ⟨q, 0, none⟩)), (.int .i64 bucket)] h0 Post :=
  runs_of (args := [(.pointer (some ⟨q, 0, none⟩)), (.int .i64 bucket)]) (fun n => ⟨true, false⟩) (fun _ => []) (fun _ => none) (fun _ => []) Tryd.func76 rfl (by rw [Tryd.ntmps76]; simp) (Eq.mp (by kernel_rfl) H)

theorem vc_fq_own (p : List Value) (h0 : Heap) (Post : Value → Heap → Prop) (H :
∀ (b1 : Nat) (h1 : Heap), b1 = h0.size → h1 = h0.push (.cells (p).toArray 35) →
∀ (b2 : Nat) (h2 : Heap), b2 = h1.size → h2 = h1.push (.cells ([(.int .i64 (0 : Int)), (.int .u32 (0 : Int)), (.int .i64 (0 : Int)), (.int .i64 (0 : Int)), (.slice none 0 0)] : List Value).toArray 35) →
∃ (s1 : Option Addr) (s1l s1c : Nat), cell h2 b1 4 = some (.slice s1 s1l s1c) ∧
Runs Tryd.prog 55 #[(.slice s1 s1l s1c)] h2 fun r1 h3 =>
∃ (s2 : Option Addr) (s2l s2c : Nat),
r1 = (.slice s2 s2l s2c) ∧
wr h3 b1 4 ∧ ∀ h4 : Heap, h4 = setc h3 b1 4 (.slice s2 s2l s2c) →
∃ cs1 : List Value, row h4 b1 0 5 = some cs1 ∧
(((cs1)).length = 5 ∧ wrs h4 b2 0 5 ∧ ∀ u ∈ ((cs1) : List Value), u.oneCell' = true) ∧ ∀ h5 : Heap, h5 = setr h4 b2 0 (cs1) →
∃ cs2 : List Value, row h5 b2 0 5 = some cs2 ∧
Post (.agg (cs2).toArray) h5) :
    Runs Tryd.prog 60 #[(.agg (p).toArray)] h0 Post :=
  runs_of (args := [(.agg (p).toArray)]) (fun n => ⟨true, false⟩) (fun _ => []) (fun _ => none) (fun _ => []) Tryd.func60 rfl (by rw [Tryd.ntmps60]; simp) (Eq.mp (by kernel_rfl) H)

theorem vc_fq_Queue_DropHead (q : Nat) (bucket : Int) (h0 : Heap) (Post : Value → Heap → Prop) (H :
∀ (b1 : Nat) (h1 : Heap), b1 = h0.size → h1 = h0.push (.cells ([(.int .i64 (0 : Int)), (.int .u32 (0 : Int)), (.int .i64 (0 : Int)), (.int .i64 (0 : Int)), (.slice none 0 0)] : List Value).toArray 35) →
Runs Tryd.prog 76 #[(.pointer (some ⟨q, 0, none⟩)), (.int .i64 bucket)] h1 fun r1 h2 =>
∃ cs1 : List Value,
∃ t1 : Bool,
r1 = (.tuple #[(.agg (cs1).toArray), (.bool t1)]) ∧
∀ (b2 : Nat) (h3 : Heap), b2 = h2.size → h3 = h2.push (.cells ([(.int .i64 (0 : Int)), (.int .u32 (0 : Int)), (.int .i64 (0 : Int)), (.int .i64 (0 : Int)), (.slice none 0 0)] : List Value).toArray 35) →
(((cs1)).length = 5 ∧ wrs h3 b2 0 5 ∧ ∀ u ∈ ((cs1) : List Value), u.oneCell' = true) ∧ ∀ h4 : Heap, h4 = setr h3 b2 0 (cs1) →
bcase (!t1) (
((([(.int .i64 (0 : Int)), (.int .u32 (0 : Int)), (.int .i64 (0 : Int)), (.int .i64 (0 : Int)), (.slice none 0 0)] : List Value)).length = 5 ∧ wrs h4 b1 0 5 ∧ ∀ u ∈ (([(.int .i64 (0 : Int)), (.int .u32 (0 : Int)), (.int .i64 (0 : Int)), (.int .i64 (0 : Int)), (.slice none 0 0)] : List Value) : List Value), u.oneCell' = true) ∧ ∀ h5 : Heap, h5 = setr h4 b1 0 ([(.int .i64 (0 : Int)), (.int .u32 (0 : Int)), (.int .i64 (0 : Int)), (.int .i64 (0 : Int)), (.slice none 0 0)] : List Value) →
∃ cs2 : List Value, row h5 b1 0 5 = some cs2 ∧
Post (.tuple #[(.agg (cs2).toArray), (.bool false)]) h5) (
Runs Tryd.prog 62 #[(.pointer (some ⟨q, 0, none⟩)), (.int .i64 bucket)] h4 fun r2 h6 =>
∃ cs3 : List Value,
r2 = (.agg (cs3).toArray) ∧
(((cs3)).length = 5 ∧ wrs h6 b1 0 5 ∧ ∀ u ∈ ((cs3) : List Value), u.oneCell' = true) ∧ ∀ h7 : Heap, h7 = setr h6 b1 0 (cs3) →
∃ cs4 : List Value, row h7 b1 0 5 = some cs4 ∧
Post (.tuple #[(.agg (cs4).toArray), (.bool true)]) h7)) :
    Runs Tryd.prog 59 #[(.pointer (some ⟨q, 0, none⟩)), (.int .i64 bucket)] h0 Post :=
  runs_of (args := [(.pointer (some ⟨q, 0, none⟩)), (.int .i64 bucket)]) (fun n => ⟨true, false⟩) (fun _ => []) (fun _ => none) (fun _ => []) Tryd.func59 rfl (by rw [Tryd.ntmps59]; simp) (Eq.mp (by kernel_rfl) H)

theorem vc_fq_Queue_Fattest (q : Nat) (h0 : Heap) (Post : Value → Heap → Prop) (H :
∃ (I1 : Int → Int → Int → Heap → Prop) (m1 : Int → Int → Int → Heap → Nat), I1 (0 : Int) (-1 : Int) (0 : Int) h0 ∧ ∀ _ : Env,
∀ (best_1 : Int) (most_1 : Int) (x3 : Int) (h1 : Heap), I1 best_1 most_1 x3 h1 →
bcase (decide (x3 < (16 : Int))) (
(0 ≤ x3 ∧ x3 < ((16 : Nat) : Int)) ∧
∃ (s1 : Option Addr) (s1l s1c : Nat), cell h1 q (3 + ((x3).toNat * 8)) = some (.slice s1 s1l s1c) ∧
bcase (decide ((0 : Int) < ((s1l : Nat) : Int))) (
∃ n1 : Int, cell h1 q ((3 + ((x3).toNat * 8)) + 1) = some (.int .i64 n1) ∧
bcase (decide (most_1 < n1)) (
∃ n2 : Int, cell h1 q ((3 + ((x3).toNat * 8)) + 1) = some (.int .i64 n2) ∧
fits .i64 (x3 + (1 : Int)) ∧
I1 x3 n2 (x3 + (1 : Int)) h1 ∧ m1 x3 n2 (x3 + (1 : Int)) h1 < m1 best_1 most_1 x3 h1) (
fits .i64 (x3 + (1 : Int)) ∧
I1 best_1 most_1 (x3 + (1 : Int)) h1 ∧ m1 best_1 most_1 (x3 + (1 : Int)) h1 < m1 best_1 most_1 x3 h1)) (
fits .i64 (x3 + (1 : Int)) ∧
I1 best_1 most_1 (x3 + (1 : Int)) h1 ∧ m1 best_1 most_1 (x3 + (1 : Int)) h1 < m1 best_1 most_1 x3 h1)) (
Post (.tuple #[(.int .i64 best_1), (.int .i64 (max most_1 (0 : Int)))]) h1)) :
    Runs Tryd.prog 58 #[(.pointer (some ⟨q, 0, none⟩))] h0 Post :=
  runs_of (args := [(.pointer (some ⟨q, 0, none⟩))]) (fun n => ⟨true, false⟩) (fun n => match n with | 0 => [(4, .int .i64), (5, .int .i64), (8, .int .i64)] | _ => []) (fun _ => none) (fun _ => []) Tryd.func58 rfl (by rw [Tryd.ntmps58]; simp) (Eq.mp (by kernel_rfl) H)

theorem vc_fq_Queue_Len (q : Nat) (h0 : Heap) (Post : Value → Heap → Prop) (H :
∃ n1 : Int, cell h0 q 133 = some (.int .i64 n1) ∧
Post (.int .i64 n1) h0) :
    Runs Tryd.prog 33 #[(.pointer (some ⟨q, 0, none⟩))] h0 Post :=
  runs_of (args := [(.pointer (some ⟨q, 0, none⟩))]) (fun n => ⟨true, false⟩) (fun _ => []) (fun _ => none) (fun _ => []) Tryd.func33 rfl (by rw [Tryd.ntmps33]; simp) (Eq.mp (by kernel_rfl) H)

theorem vc_fq_Queue_Bytes (q : Nat) (h0 : Heap) (Post : Value → Heap → Prop) (H :
∃ n1 : Int, cell h0 q 134 = some (.int .i64 n1) ∧
Post (.int .i64 n1) h0) :
    Runs Tryd.prog 37 #[(.pointer (some ⟨q, 0, none⟩))] h0 Post :=
  runs_of (args := [(.pointer (some ⟨q, 0, none⟩))]) (fun n => ⟨true, false⟩) (fun _ => []) (fun _ => none) (fun _ => []) Tryd.func37 rfl (by rw [Tryd.ntmps37]; simp) (Eq.mp (by kernel_rfl) H)

theorem vc_fq_Queue_All (q : Nat) (h0 : Heap) (Post : Value → Heap → Prop) (H :
∃ (I1 : Option Addr → Nat → Nat → Int → Heap → Prop) (m1 : Option Addr → Nat → Nat → Int → Heap → Nat), I1 none 0 0 (0 : Int) h0 ∧ ∀ _ : Env,
∀ (out_1 : Option Addr) (out_1l out_1c : Nat) (x2 : Int) (h1 : Heap), I1 out_1 out_1l out_1c x2 h1 →
bcase (decide (x2 < (16 : Int))) (
(0 ≤ x2 ∧ x2 < ((16 : Nat) : Int)) ∧
∃ (s1 : Option Addr) (s1l s1c : Nat), cell h1 q (3 + ((x2).toNat * 8)) = some (.slice s1 s1l s1c) ∧
∃ (I2 : Option Addr → Nat → Nat → Int → Heap → Prop) (m2 : Option Addr → Nat → Nat → Int → Heap → Nat), I2 out_1 out_1l out_1c (0 : Int) h1 ∧ ∀ _ : Env,
∀ (out_2 : Option Addr) (out_2l out_2c : Nat) (x4 : Int) (h2 : Heap), I2 out_2 out_2l out_2c x4 h2 →
bcase (decide (x4 < ((s1l : Nat) : Int))) (
(0 ≤ x4 ∧ x4 < ((s1l : Nat) : Int)) ∧
onAddr s1 fun b1 o1 =>
∃ cs1 : List Value, row h2 b1 (o1 + ((x4).toNat * 5)) 5 = some cs1 ∧
∀ (b2 : Nat) (h3 : Heap), b2 = h2.size → h3 = h2.push (.cells ([(.int .i64 (0 : Int)), (.int .u32 (0 : Int)), (.int .i64 (0 : Int)), (.int .i64 (0 : Int)), (.slice none 0 0)] : List Value).toArray 35) →
(((cs1)).length = 5 ∧ wrs h3 b2 0 5 ∧ ∀ u ∈ ((cs1) : List Value), u.oneCell' = true) ∧ ∀ h4 : Heap, h4 = setr h3 b2 0 (cs1) →
∃ cs2 : List Value, row h4 b2 0 5 = some cs2 ∧
Runs Tryd.prog 60 #[(.agg (cs2).toArray)] h4 fun r1 h5 =>
∃ cs3 : List Value,
r1 = (.agg (cs3).toArray) ∧
(cs3).length = 5 ∧
∀ (b3 : Nat) (h6 : Heap), b3 = h5.size → h6 = h5.push (.cells (((cs3) ++ [])).toArray 35) →
∃ news1 : List Value, (row h6 b3 0 5 = some news1 ∧ ∀ u ∈ news1, u.oneCell' = true) ∧
appK h6 out_2 out_2l out_2c 1 5 35 56 news1 fun (a1 : Option Addr) (cap1 : Nat) (h7 : Heap) =>
fits .i64 (x4 + (1 : Int)) ∧
I2 a1 (out_2l + 1) cap1 (x4 + (1 : Int)) h7 ∧ m2 a1 (out_2l + 1) cap1 (x4 + (1 : Int)) h7 < m2 out_2 out_2l out_2c x4 h2) (
fits .i64 (x2 + (1 : Int)) ∧
I1 out_2 out_2l out_2c (x2 + (1 : Int)) h2 ∧ m1 out_2 out_2l out_2c (x2 + (1 : Int)) h2 < m1 out_1 out_1l out_1c x2 h1)) (
Post (.slice out_1 out_1l out_1c) h1)) :
    Runs Tryd.prog 38 #[(.pointer (some ⟨q, 0, none⟩))] h0 Post :=
  runs_of (args := [(.pointer (some ⟨q, 0, none⟩))]) (fun n => ⟨true, false⟩) (fun n => match n with | 0 => [(3, .slice), (7, .int .i64)] | 2 => [(3, .slice), (18, .int .i64)] | _ => []) (fun _ => none) (fun _ => []) Tryd.func38 rfl (by rw [Tryd.ntmps38]; simp) (Eq.mp (by kernel_rfl) H)

theorem vc_fq_Queue_Clone (q : Nat) (h0 : Heap) (Post : Value → Heap → Prop) (H :
∃ cs1 : List Value, row h0 q 0 135 = some cs1 ∧
∀ (b1 : Nat) (h1 : Heap), b1 = h0.size → h1 = h0.push (.cells ([(.int .u32 (0 : Int)), (.int .i64 (0 : Int)), (.int .i64 (0 : Int)), (.slice none 0 0), (.int .i64 (0 : Int)), (.int .i64 (0 : Int)), (.int .i64 (0 : Int)), (.int .i64 (0 : Int)), (.int .u32 (0 : Int)), (.int .u32 (0 : Int)), (.bool false), (.slice none 0 0), (.int .i64 (0 : Int)), (.int .i64 (0 : Int)), (.int .i64 (0 : Int)), (.int .i64 (0 : Int)), (.int .u32 (0 : Int)), (.int .u32 (0 : Int)), (.bool false), (.slice none 0 0), (.int .i64 (0 : Int)), (.int .i64 (0 : Int)), (.int .i64 (0 : Int)), (.int .i64 (0 : Int)), (.int .u32 (0 : Int)), (.int .u32 (0 : Int)), (.bool false), (.slice none 0 0), (.int .i64 (0 : Int)), (.int .i64 (0 : Int)), (.int .i64 (0 : Int)), (.int .i64 (0 : Int)), (.int .u32 (0 : Int)), (.int .u32 (0 : Int)), (.bool false), (.slice none 0 0), (.int .i64 (0 : Int)), (.int .i64 (0 : Int)), (.int .i64 (0 : Int)), (.int .i64 (0 : Int)), (.int .u32 (0 : Int)), (.int .u32 (0 : Int)), (.bool false), (.slice none 0 0), (.int .i64 (0 : Int)), (.int .i64 (0 : Int)), (.int .i64 (0 : Int)), (.int .i64 (0 : Int)), (.int .u32 (0 : Int)), (.int .u32 (0 : Int)), (.bool false), (.slice none 0 0), (.int .i64 (0 : Int)), (.int .i64 (0 : Int)), (.int .i64 (0 : Int)), (.int .i64 (0 : Int)), (.int .u32 (0 : Int)), (.int .u32 (0 : Int)), (.bool false), (.slice none 0 0), (.int .i64 (0 : Int)), (.int .i64 (0 : Int)), (.int .i64 (0 : Int)), (.int .i64 (0 : Int)), (.int .u32 (0 : Int)), (.int .u32 (0 : Int)), (.bool false), (.slice none 0 0), (.int .i64 (0 : Int)), (.int .i64 (0 : Int)), (.int .i64 (0 : Int)), (.int .i64 (0 : Int)), (.int .u32 (0 : Int)), (.int .u32 (0 : Int)), (.bool false), (.slice none 0 0), (.int .i64 (0 : Int)), (.int .i64 (0 : Int)), (.int .i64 (0 : Int)), (.int .i64 (0 : Int)), (.int .u32 (0 : Int)), (.int .u32 (0 : Int)), (.bool false), (.slice none 0 0), (.int .i64 (0 : Int)), (.int .i64 (0 : Int)), (.int .i64 (0 : Int)), (.int .i64 (0 : Int)), (.int .u32 (0 : Int)), (.int .u32 (0 : Int)), (.bool false), (.slice none 0 0), (.int .i64 (0 : Int)), (.int .i64 (0 : Int)), (.int .i64 (0 : Int)), (.int .i64 (0 : Int)), (.int .u32 (0 : Int)), (.int .u32 (0 : Int)), (.bool false), (.slice none 0 0), (.int .i64 (0 : Int)), (.int .i64 (0 : Int)), (.int .i64 (0 : Int)), (.int .i64 (0 : Int)), (.int .u32 (0 : Int)), (.int .u32 (0 : Int)), (.bool false), (.slice none 0 0), (.int .i64 (0 : Int)), (.int .i64 (0 : Int)), (.int .i64 (0 : Int)), (.int .i64 (0 : Int)), (.int .u32 (0 : Int)), (.int .u32 (0 : Int)), (.bool false), (.slice none 0 0), (.int .i64 (0 : Int)), (.int .i64 (0 : Int)), (.int .i64 (0 : Int)), (.int .i64 (0 : Int)), (.int .u32 (0 : Int)), (.int .u32 (0 : Int)), (.bool false), (.slice none 0 0), (.int .i64 (0 : Int)), (.int .i64 (0 : Int)), (.int .i64 (0 : Int)), (.int .i64 (0 : Int)), (.int .u32 (0 : Int)), (.int .u32 (0 : Int)), (.bool false), (.slice none 0 0), (.slice none 0 0), (.int .i64 (0 : Int)), (.int .i64 (0 : Int))] : List Value).toArray 97) →
(((cs1)).length = 135 ∧ wrs h1 b1 0 135 ∧ ∀ u ∈ ((cs1) : List Value), u.oneCell' = true) ∧ ∀ h2 : Heap, h2 = setr h1 b1 0 (cs1) →
∃ (s1 : Option Addr) (s1l s1c : Nat), cell h2 q 131 = some (.slice s1 s1l s1c) ∧
∃ (s2 : Option Addr) (s2l s2c : Nat), cell h2 q 132 = some (.slice s2 s2l s2c) ∧
Runs Tryd.prog 65 #[(.slice s1 s1l s1c)] h2 fun r1 h3 =>
∃ (s3 : Option Addr) (s3l s3c : Nat),
r1 = (.slice s3 s3l s3c) ∧
cell h3 q 132 = some (.slice s2 s2l s2c) ∧
Runs Tryd.prog 65 #[(.slice s2 s2l s2c)] h3 fun r2 h4 =>
∃ (s4 : Option Addr) (s4l s4c : Nat),
r2 = (.slice s4 s4l s4c) ∧
wr h4 b1 131 ∧ ∀ h5 : Heap, h5 = setc h4 b1 131 (.slice s3 s3l s3c) →
wr h5 b1 132 ∧ ∀ h6 : Heap, h6 = setc h5 b1 132 (.slice s4 s4l s4c) →
∃ (I1 : Int → Heap → Prop) (m1 : Int → Heap → Nat), I1 (0 : Int) h6 ∧ ∀ _ : Env,
∀ (x1 : Int) (h7 : Heap), I1 x1 h7 →
bcase (decide (x1 < (16 : Int))) (
(0 ≤ x1 ∧ x1 < ((16 : Nat) : Int)) ∧
∃ (s5 : Option Addr) (s5l s5c : Nat), cell h7 b1 (3 + ((x1).toNat * 8)) = some (.slice s5 s5l s5c) ∧
(0 ≤ x1 ∧ x1 < ((16 : Nat) : Int)) ∧
wr h7 b1 (3 + ((x1).toNat * 8)) ∧ ∀ h8 : Heap, h8 = setc h7 b1 (3 + ((x1).toNat * 8)) (.slice none 0 0) →
∃ (I2 : Int → Heap → Prop) (m2 : Int → Heap → Nat), I2 (0 : Int) h8 ∧ ∀ _ : Env,
∀ (x2 : Int) (h9 : Heap), I2 x2 h9 →
bcase (decide (x2 < ((s5l : Nat) : Int))) (
(0 ≤ x2 ∧ x2 < ((s5l : Nat) : Int)) ∧
onAddr s5 fun b2 o1 =>
∃ cs2 : List Value, row h9 b2 (o1 + ((x2).toNat * 5)) 5 = some cs2 ∧
∀ (b3 : Nat) (h10 : Heap), b3 = h9.size → h10 = h9.push (.cells ([(.int .i64 (0 : Int)), (.int .u32 (0 : Int)), (.int .i64 (0 : Int)), (.int .i64 (0 : Int)), (.slice none 0 0)] : List Value).toArray 35) →
(((cs2)).length = 5 ∧ wrs h10 b3 0 5 ∧ ∀ u ∈ ((cs2) : List Value), u.oneCell' = true) ∧ ∀ h11 : Heap, h11 = setr h10 b3 0 (cs2) →
(0 ≤ x1 ∧ x1 < ((16 : Nat) : Int)) ∧
∃ (s6 : Option Addr) (s6l s6c : Nat), cell h11 b1 (3 + ((x1).toNat * 8)) = some (.slice s6 s6l s6c) ∧
∃ cs3 : List Value, row h11 b3 0 5 = some cs3 ∧
Runs Tryd.prog 60 #[(.agg (cs3).toArray)] h11 fun r3 h12 =>
∃ cs4 : List Value,
r3 = (.agg (cs4).toArray) ∧
cell h12 b1 (3 + ((x1).toNat * 8)) = some (.slice s6 s6l s6c) ∧
(cs4).length = 5 ∧
∀ (b4 : Nat) (h13 : Heap), b4 = h12.size → h13 = h12.push (.cells (((cs4) ++ [])).toArray 35) →
∃ news1 : List Value, (row h13 b4 0 5 = some news1 ∧ ∀ u ∈ news1, u.oneCell' = true) ∧
appK h13 s6 s6l s6c 1 5 35 56 news1 fun (a1 : Option Addr) (cap1 : Nat) (h14 : Heap) =>
(0 ≤ x1 ∧ x1 < ((16 : Nat) : Int)) ∧
wr h14 b1 (3 + ((x1).toNat * 8)) ∧ ∀ h15 : Heap, h15 = setc h14 b1 (3 + ((x1).toNat * 8)) (.slice a1 (s6l + 1) cap1) →
fits .i64 (x2 + (1 : Int)) ∧
I2 (x2 + (1 : Int)) h15 ∧ m2 (x2 + (1 : Int)) h15 < m2 x2 h9) (
fits .i64 (x1 + (1 : Int)) ∧
I1 (x1 + (1 : Int)) h9 ∧ m1 (x1 + (1 : Int)) h9 < m1 x1 h7)) (
Post (.pointer (some ⟨b1, 0, none⟩)) h7)) :
    Runs Tryd.prog 43 #[(.pointer (some ⟨q, 0, none⟩))] h0 Post :=
  runs_of (args := [(.pointer (some ⟨q, 0, none⟩))]) (fun n => ⟨true, false⟩) (fun n => match n with | 0 => [(23, .int .i64)] | 2 => [(37, .int .i64)] | _ => []) (fun _ => none) (fun _ => []) Tryd.func43 rfl (by rw [Tryd.ntmps43]; simp) (Eq.mp (by kernel_rfl) H)
end Go.Proofs.YtpcilleldanfmaaDoor

/- The program's queue of flows: how it lies in memory; the contracts of its functions. -/
set_option linter.unusedVariables false
set_option linter.unusedSimpArgs false
namespace Go.Proofs.YtpcilleldanfmaaDoor
open Go.Vc

/-- A flow's cells. -/
def FlV (W : Wd) (f : Fl) (cs : List Value) (E : Grp) : Prop :=
  ∃ a c vs, cs = .slice a f.l.length c :: .int .i64 (bytP f.l) :: .int .i64 f.deficit :: cV f.c ∧ Ow a f.l.length c 5 vs E ∧ Sq (PkV W) f.l vs
structure QuC (W : Wd) (q : Qu) (css : List (List Value)) (Es : List Grp) : Prop where
  n1 : css.length = 16
  n2 : Es.length = 16
  f : ∀ (k : Nat) (f : Fl), q.fl[k]? = some f → ∃ (cs : List Value) (E : Grp), css[k]? = some cs ∧ Es[k]? = some E ∧ FlV W f cs E
  n8 : ∀ c ∈ css, c.length = 8
def q3 (q : Qu) : List Value := [.int .u32 q.seed, .int .i64 q.tg, .int .i64 q.iv]
def q4 (q : Qu) (fa : Option Addr) (fc : Nat) (ea : Option Addr) (ec : Nat) : List Value := [.slice fa q.fresh.length fc, .slice ea q.elder.length ec, .int .i64 q.cnt, .int .i64 q.byt]
def QuV (W : Wd) (b : Nat) (q : Qu) (L : Grp) : Prop :=
  ∃ (css : List (List Value)) (Es : List Grp) (fa : Option Addr) (fc : Nat) (ea : Option Addr) (ec : Nat) (Ef Ee : Grp) (T : TypeId), QuC W q css Es ∧ Ow fa q.fresh.length fc 1 (ints .i64 q.fresh) Ef ∧ Ow ea q.elder.length ec 1 (ints .i64 q.elder) Ee ∧
    L = [(b, ck (q3 q) css (q4 q fa fc ea ec), T)] ++ (Ef ++ (Ee ++ Es.flatten))
section
variable {W W' : Wd} {h h' : Heap} {G R : List Grp} {L E E0 Ef Ee : Grp} {B : Grp} {Es : List Grp} {css : List (List Value)} {q : Qu} {f g : Fl} {k : Int} {b n : Nat} {cs : List Value} {p : Pk} {r : List Pk}
theorem FlV.le (hl : W.le W') (hf : FlV W f cs E) : FlV W' f cs E := by
  obtain ⟨a, c, vs, h1, h2, h3⟩ := hf; exact ⟨a, c, vs, h1, h2, h3.mono fun _ _ h => h.le hl⟩
theorem QuC.le (hl : W.le W') (hc : QuC W q css Es) : QuC W' q css Es :=
  ⟨hc.n1, hc.n2, fun k f h => by obtain ⟨cs, E, h1, h2, h3⟩ := hc.f k f h; exact ⟨cs, E, h1, h2, h3.le hl⟩, hc.n8⟩
theorem QuV.le (hl : W.le W') (hv : QuV W b q L) : QuV W' b q L := by
  obtain ⟨css, Es, fa, fc, ea, ec, Ef, Ee, T, hc, of, oe, e⟩ := hv
  exact ⟨css, Es, fa, fc, ea, ec, Ef, Ee, T, hc.le hl, of, oe, e⟩
theorem QuC.opn (hc : QuC W q css Es) (hq : QOk q) (k0 : 0 ≤ k) (k1 : k < 16) :
    ∃ a c vs E, Es[k.toNat]? = some E ∧ css = css.set k.toNat (.slice a (q.flow k).l.length c :: .int .i64 (bytP (q.flow k).l) :: .int .i64 (q.flow k).deficit :: cV (q.flow k).c) ∧
      Ow a (q.flow k).l.length c 5 vs E ∧ Sq (PkV W) (q.flow k).l vs ∧ k.toNat < css.length := by
  obtain ⟨cs, E, h1, h2, a, c, vs, rfl, h3, h4⟩ := hc.f _ _ (hq.flow k0 k1).1
  have hlt := (List.getElem?_eq_some_iff.1 h1).1
  refine ⟨a, c, vs, E, h2, ?_, h3, h4, hlt⟩
  apply List.ext_getElem?
  intro i
  rw [List.getElem?_set]
  split
  · rename_i e; subst e; exact h1
  · rfl
theorem QuC.cls (hc : QuC W q css Es) (hq : QOk q) (hk : k.toNat < css.length) (hg : FlV W g cs E) (hl : cs.length = 8) : QuC W (q.setF k g) (css.set k.toNat cs) (Es.set k.toNat E) := by
  have h1 := hc.n1
  have h2 := hc.n2
  refine ⟨by simp [h1], by simp [h2], fun j f hj => ?_, ckn hc.n8 hl⟩
  simp only [Qu.setF] at hj
  rw [List.getElem?_set] at hj
  rw [List.getElem?_set, List.getElem?_set]
  by_cases e : k.toNat = j
  · subst e
    rw [if_pos rfl, if_pos (by rw [hq.len]; omega)] at hj
    cases hj
    rw [if_pos rfl, if_pos rfl, if_pos hk, if_pos (by omega)]
    exact ⟨cs, E, rfl, rfl, hg⟩
  · rw [if_neg e] at hj
    rw [if_neg e, if_neg e]
    exact hc.f j f hj
theorem _root_.Go.Vc.Me.openQ (m : Me W h ((B ++ (Ef ++ (Ee ++ Es.flatten))) :: R)) (hk : Es[n]? = some E) : Me W h (B :: E :: Ef :: Ee :: (Es.eraseIdx n).flatten :: R) :=
  m.perm (by
    simp only [List.flatten_cons, List.append_assoc]
    refine List.Perm.append_left _ ?_
    have h1 := List.perm_append_comm_assoc (Ef ++ Ee) E ((Es.eraseIdx n).flatten ++ R.flatten)
    simp only [List.append_assoc] at h1
    refine List.Perm.trans ?_ h1
    have h2 := (((flat_set hk).append_right R.flatten).append_left Ee).append_left Ef
    simpa only [List.append_assoc] using h2)
theorem _root_.Go.Vc.Me.closeQ (m : Me W h (B :: E :: Ef :: Ee :: (Es.eraseIdx n).flatten :: R)) (hk : Es[n]? = some E0) : Me W h ((B ++ (Ef ++ (Ee ++ (Es.set n E).flatten))) :: R) :=
  m.perm (by
    simp only [List.flatten_cons, List.append_assoc]
    refine List.Perm.append_left _ ?_
    have h1 := List.perm_append_comm_assoc E (Ef ++ Ee) ((Es.eraseIdx n).flatten ++ R.flatten)
    simp only [List.append_assoc] at h1
    refine h1.trans ?_
    have h2 := (((flat_put (B := E) hk).append_right R.flatten).append_left Ee).append_left Ef
    simpa only [List.append_assoc] using h2)
theorem QOk.bd (hq : QOk q) : q.byt ≤ 1152921504606846976 ∧ 0 ≤ q.byt := by
  have h1 : ∀ l : List Fl, (∀ f ∈ l, FOk f) → bytL l ≤ 1048576 * cntL l := fun l => by
    induction l with
    | nil => simp [bytL, cntL]
    | cons f r ih =>
      intro hf
      have h1 := ih fun f h => hf f (by simp [h])
      have h2 := bytP_le (N := 1048576) fun p hp => ((hf f (by simp)).p p hp).2.2
      simp only [bytL, cntL]; omega
  have h2 := h1 _ hq.f
  have h3 := hq.cnt
  unfold Qu.byt Qu.cnt at *
  exact ⟨by omega, bytL_nn _⟩
theorem len_c (m : Me W h (L :: R)) (hv : QuV W b q L) : Runs Tryd.prog 33 #[.pointer (some ⟨b, 0, none⟩)] h fun v h' => v = .int .i64 q.cnt ∧ h' = h := by
  obtain ⟨css, Es, fa, fc, ea, ec, Ef, Ee, T, hc, of, oe, rfl⟩ := hv
  replace m := m.split
  exact vc_fq_Queue_Len _ _ _ ⟨_, m.pget 0 rfl hc.n8 hc.n1 2 rfl rfl, rfl, rfl⟩
theorem bytesq_c (m : Me W h (L :: R)) (hv : QuV W b q L) : Runs Tryd.prog 37 #[.pointer (some ⟨b, 0, none⟩)] h fun v h' => v = .int .i64 q.byt ∧ h' = h := by
  obtain ⟨css, Es, fa, fc, ea, ec, Ef, Ee, T, hc, of, oe, rfl⟩ := hv
  replace m := m.split
  exact vc_fq_Queue_Bytes _ _ _ ⟨_, m.pget 0 rfl hc.n8 hc.n1 3 rfl rfl, rfl, rfl⟩
theorem q4_is {l : List Value} {q' : Qu} {fa ea : Option Addr} {fc ec n n2 : Nat} {x y : Int} (h : l = [.slice fa n fc, .slice ea n2 ec, .int .i64 x, .int .i64 y]) (h1 : n = q'.fresh.length) (h2 : n2 = q'.elder.length) (h3 : x = q'.cnt) (h4 : y = q'.byt) : l = q4 q' fa fc ea ec := by
  subst h1 h2 h3 h4 h; rfl
theorem setF_cnt (q : Qu) (k : Int) (g : Fl) : (q.setF k g).cnt = cntL (q.fl.set k.toNat g) := rfl
theorem setF_byt (q : Qu) (k : Int) (g : Fl) : (q.setF k g).byt = bytL (q.fl.set k.toNat g) := rfl
/-- A queue put together again. -/
theorem shutQ {q' : Qu} {fa ea : Option Addr} {fc ec : Nat} {post : List Value} {T : TypeId} (hc : QuC W q css Es) (hq : QOk q) (hk : k.toNat < css.length) (hE : Es[k.toNat]? = some E0) (hg : FlV W g cs E) (hl : cs.length = 8)
    (of : Ow fa q'.fresh.length fc 1 (ints .i64 q'.fresh) Ef) (oe : Ow ea q'.elder.length ec 1 (ints .i64 q'.elder) Ee) (h3 : q3 q' = q3 q) (hfl : q'.fl = q.fl.set k.toNat g)
    (m : Me W h ([(b, ck (q3 q) (css.set k.toNat cs) post, T)] :: E :: Ef :: Ee :: (Es.eraseIdx k.toNat).flatten :: R)) (hpost : post = q4 q' fa fc ea ec) : ∃ L', QuV W b q' L' ∧ Me W h (L' :: R) := by
  have h1 := hc.cls hq hk hg hl
  have h2 : QuC W q' (css.set k.toNat cs) (Es.set k.toNat E) := ⟨h1.n1, h1.n2, by rw [hfl]; exact h1.f, h1.n8⟩
  refine ⟨_, ⟨_, _, fa, fc, ea, ec, Ef, Ee, T, h2, of, oe, rfl⟩, ?_⟩
  have := m.closeQ hE
  rw [hpost] at this
  rw [h3]; exact this
theorem shift_c (m : Me W h (L :: R)) (hv : QuV W b q L) (hq : QOk q) (k0 : 0 ≤ k) (k1 : k < 16) (hp : (q.flow k).l = p :: r) :
    Runs Tryd.prog 62 #[.pointer (some ⟨b, 0, none⟩), .int .i64 k] h fun v h' => ∃ cs L', v = .agg cs.toArray ∧ PkV W p cs ∧ QuV W b (q.setF k ((q.flow k).setL r)) L' ∧ Me W h' (L' :: R) := by
  obtain ⟨css, Es, fa, fc, ea, ec, Ef, Ee, T, hc, of, oe, rfl⟩ := hv
  obtain ⟨a, c, vs, E, hE, hcs, o, hs, hk⟩ := hc.opn hq k0 k1
  have hn := hc.n8
  have hN := hc.n1
  have hcnt := hq.cnt
  obtain ⟨hb1, hb0⟩ := hq.bd
  have ecn : q.cnt = cntL q.fl := rfl
  have ebn : q.byt = bytL q.fl := rfl
  have hfb := bytL_ge (hq.flow k0 k1).1
  have hfc := cntL_ge (hq.flow k0 k1).1
  have hle := ((hq.flow k0 k1).2.p p (by rw [hp]; simp)).2.2
  have e1 := cntL_set (g := (q.flow k).setL r) (hq.flow k0 k1).1
  have e2 := bytL_set (g := (q.flow k).setL r) (hq.flow k0 k1).1
  have b0 := bytP_nn r
  rw [hp] at o hs hcs hfb hfc e1 e2
  simp only [List.length_cons, bytP, setL_l] at o hcs hfb hfc e1 e2
  replace m := m.openQ hE
  rw [hcs] at m
  obtain ⟨cs, hcv, hrow, hrl⟩ := hs.get (fun _ _ => PkV.len) (i := 0) (x := p) rfl
  obtain ⟨pa, pc, rfl, hbt⟩ := hcv
  rw [Nat.zero_mul] at hrow
  refine vc_fq_Queue_shift _ _ _ _ ?_
  (intro bN hN1 eN1 eN2; replace m := m.push eN2 eN1; clear eN1 eN2)
  refine ⟨⟨k0, by omega⟩, ?_⟩
  refine ⟨_, _, _, m.fget 1 rfl hn hk rfl 0 rfl rfl, ?_⟩
  refine ⟨⟨by omega, by omega⟩, ?_⟩
  obtain ⟨sb, so, rfl, hr⟩ := src_part (k := 0) (n := 5) (o.src m 2 rfl) (by omega) (by decide) hrow
  refine ⟨_, hr, ?_⟩
  (intro bN hN1 eN1 eN2; replace m := m.push eN2 eN1; clear eN1 eN2)
  refine ⟨⟨rfl, m.wrsb 0 rfl rfl, by simp [Value.oneCell']⟩, ?_⟩
  intro h3 e3
  replace m := m.setr 0 rfl e3
  clear e3
  simp only [List.set_cons_zero, List.set_cons_succ, setL] at m
  refine ⟨_, _, _, m.fget 2 rfl hn hk rfl 0 rfl rfl, ?_⟩
  refine ⟨⟨by omega, by omega⟩, ?_⟩
  have ot := o.tail 1 (by omega)
  have hst := hs.drop (fun _ _ => PkV.len) 1
  simp only [List.drop_succ_cons, List.drop_zero] at hst
  refine (clone_packet_c (ot.src m 3 rfl) ot.len (hst.all fun _ _ => PkV.one) (by omega)).mono ?_
  rintro _ h4 ⟨a', c', E', rfl, mk, o'⟩
  replace m := m.beside mk
  refine ⟨_, _, _, rfl, ?_⟩
  simp only [List.cons_append, List.nil_append] at m
  (refine m.fset 3 rfl hn hk rfl 0 rfl rfl ?_; clear m; intro _ m; simp only [List.set_cons_zero, List.set_cons_succ] at m)
  refine ⟨_, m.fget 3 rfl hn hk rfl 1 rfl rfl, ?_⟩
  refine ⟨_, _, _, m.cell 1 rfl rfl, ?_⟩
  refine ⟨by simp only [fits]; omega, ?_⟩
  (refine m.fset 3 rfl hn hk rfl 1 rfl rfl ?_; clear m; intro _ m; simp only [List.set_cons_zero, List.set_cons_succ] at m)
  refine ⟨_, m.pget 3 rfl (ckn hn rfl) (List.length_set.trans hN) 2 rfl rfl, ?_⟩
  refine ⟨by simp only [fits]; omega, ?_⟩
  (refine m.pset 3 rfl (ckn hn rfl) (List.length_set.trans hN) 2 rfl (Nat.le_of_ble_eq_true rfl) ?_; clear m; intro _ m; simp only [List.set_cons_zero, List.set_cons_succ] at m)
  refine ⟨_, m.pget 3 rfl (ckn hn rfl) (List.length_set.trans hN) 3 rfl rfl, ?_⟩
  refine ⟨_, _, _, m.cell 1 rfl rfl, ?_⟩
  refine ⟨by simp only [fits]; omega, ?_⟩
  (refine m.pset 3 rfl (ckn hn rfl) (List.length_set.trans hN) 3 rfl (Nat.le_of_ble_eq_true rfl) ?_; clear m; intro _ m; simp only [List.set_cons_zero, List.set_cons_succ] at m)
  refine ⟨_, m.rowb 1 rfl rfl rfl, ?_⟩
  refine ⟨⟨rfl, m.wrsb 2 rfl rfl, by simp [Value.oneCell']⟩, ?_⟩
  intro h9 e3
  replace m := m.setr 2 rfl e3
  refine ⟨_, m.rowb 2 rfl rfl rfl, ?_⟩
  clear e3
  have m2 := ((((m.free 4 rfl).free 1 rfl).free 1 rfl).focus 1 rfl)
  rw [show p.body.length + bytP r - p.body.length = bytP r by omega] at m2
  have c1 := setF_cnt q k ((q.flow k).setL r)
  have c2 := setF_byt q k ((q.flow k).setL r)
  obtain ⟨L', hv', m'⟩ := shutQ (q' := q.setF k ((q.flow k).setL r)) (g := (q.flow k).setL r) hc hq hk hE (E := E') ⟨a', c', _, rfl, by simpa using o', by simpa using hst⟩ rfl of oe rfl rfl m2 (q4_is rfl rfl rfl (by omega) (by omega))
  exact ⟨_, L', rfl, ⟨pa, pc, rfl, hbt⟩, hv', m'⟩
theorem put_o (m : Me W h (L :: R)) (hv : QuV W b q L) (hq : QOk q) (hp : PkV (Wd.of h) p cs) (hlen : p.body.length ≤ 1048576) (hroom : q.cnt < 1048576) :
    Runs Tryd.prog 30 #[.pointer (some ⟨b, 0, none⟩), .agg cs.toArray] h fun v h' => v = .int .i64 (bucketZ p.flow q.seed) ∧ ∃ W' L', W.le W' ∧ QuV W' b (q.put p) L' ∧ Me W' h' (L' :: R) := by
  obtain ⟨k0, k1⟩ := bucketZ_bd p.flow q.seed
  obtain ⟨k, hk9⟩ : ∃ k, k = bucketZ p.flow q.seed := ⟨_, rfl⟩
  rw [← hk9] at k0 k1
  (obtain ⟨css, Es, fa, fc, ea, ec, Ef, Ee, T, hc, of, oe, rfl⟩ := hv; obtain ⟨a, c, vs, E, hE, hcs, o, hs, hk⟩ := hc.opn hq k0 k1; have hn := hc.n8; have hN := hc.n1; have hcnt := hq.cnt; obtain ⟨hb1, hb0⟩ := hq.bd; have ecn : q.cnt = cntL q.fl := rfl; have ebn : q.byt = bytL q.fl := rfl; have hfb := bytL_ge (hq.flow k0 k1).1; have hfc := cntL_ge (hq.flow k0 k1).1; have hfn := bytP_nn (q.flow k).l; replace m := m.openQ hE; rw [hcs] at m)
  have e1 := cntL_set (g := (q.flow k).setL ((q.flow k).l ++ [p])) (hq.flow k0 k1).1
  have e2 := bytL_set (g := (q.flow k).setL ((q.flow k).l ++ [p])) (hq.flow k0 k1).1
  have e3 := cntL_set (g := ((q.flow k).setL ((q.flow k).l ++ [p])).setD 300) (hq.flow k0 k1).1
  have e4 := bytL_set (g := ((q.flow k).setL ((q.flow k).l ++ [p])).setD 300) (hq.flow k0 k1).1
  have e5 := bytP_app (q.flow k).l [p]
  simp only [setL_l, setD_l, List.length_append, List.length_cons, List.length_nil, bytP] at e1 e2 e3 e4 e5
  obtain ⟨pa, pc, rfl, hbt⟩ := hp
  refine vc_fq_Queue_Put _ _ _ _ ?_
  intro bN hN1 eN1 eN2
  have kk := ((Me.start h).push eN2 eN1).kept (Wd.le.refl _)
  replace m := m.push eN2 eN1
  clear eN1 eN2
  refine ⟨_, m.cell 0 rfl rfl, ?_⟩
  refine ⟨_, m.hget 1 rfl (Nat.le_of_ble_eq_true rfl) rfl, ?_⟩
  refine (bucket_c _ _ _).ret ⟨_, rfl, ?_⟩
  rw [← hk9]
  refine ⟨⟨k0, by omega⟩, ?_⟩
  refine ⟨_, _, _, m.cell 0 rfl rfl, ?_⟩
  obtain ⟨hb2, hb3⟩ := (hbt.le kk.le).src
  refine (clone_byte_c hb2 (by simp [ints]) ints_one (by omega)).mono ?_
  rintro _ h3 ⟨a', c', E', rfl, mk, o'⟩
  replace m := m.beside mk
  refine ⟨_, _, _, rfl, ?_⟩
  simp only [List.cons_append, List.nil_append] at m
  obtain ⟨W', hle, hgE, m'⟩ := m.give
  have hbt' := o'.bts rfl hgE
  clear m mk
  have m := m'
  clear m'
  (refine m.store 0 rfl (Nat.le_of_ble_eq_true rfl) ?_; clear m; intro _ m; simp only [List.set_cons_zero, List.set_cons_succ] at m)
  refine ⟨_, _, _, m.fget 1 rfl hn hk rfl 0 rfl rfl, ?_⟩
  refine ⟨_, m.rowb 0 rfl rfl rfl, ?_⟩
  refine ⟨rfl, ?_⟩
  refine o.app1 m 2 rfl rfl (by simp [Value.oneCell']) (by omega) (by decide) fun a2 c2 E2 h6 m' o2 => ?_
  clear m
  have m := m'
  clear m'
  simp only [List.set_cons_zero, List.set_cons_succ] at m
  (refine m.fset 1 rfl hn hk rfl 0 rfl rfl ?_; clear m; intro _ m; simp only [List.set_cons_zero, List.set_cons_succ] at m)
  refine ⟨_, m.fget 1 rfl hn hk rfl 1 rfl rfl, ?_⟩
  refine ⟨_, _, _, m.cell 0 rfl rfl, ?_⟩
  refine ⟨by simp only [fits]; omega, ?_⟩
  (refine m.fset 1 rfl hn hk rfl 1 rfl rfl ?_; clear m; intro _ m; simp only [List.set_cons_zero, List.set_cons_succ] at m)
  refine ⟨_, m.pget 1 rfl (ckn hn rfl) (List.length_set.trans hN) 2 rfl rfl, ?_⟩
  refine ⟨by simp only [fits]; omega, ?_⟩
  (refine m.pset 1 rfl (ckn hn rfl) (List.length_set.trans hN) 2 rfl (Nat.le_of_ble_eq_true rfl) ?_; clear m; intro _ m; simp only [List.set_cons_zero, List.set_cons_succ] at m)
  refine ⟨_, m.pget 1 rfl (ckn hn rfl) (List.length_set.trans hN) 3 rfl rfl, ?_⟩
  refine ⟨_, _, _, m.cell 0 rfl rfl, ?_⟩
  refine ⟨by simp only [fits]; omega, ?_⟩
  (refine m.pset 1 rfl (ckn hn rfl) (List.length_set.trans hN) 3 rfl (Nat.le_of_ble_eq_true rfl) ?_; clear m; intro _ m; simp only [List.set_cons_zero, List.set_cons_succ] at m)
  rename_i h10
  refine ⟨_, _, _, m.pget 1 rfl (ckn hn rfl) (List.length_set.trans hN) 0 rfl rfl, ?_⟩
  have hls := hq.lens
  refine (contains_int_c (of.src1 m 3 rfl) rfl (by omega)).ret ⟨_, rfl, ?_⟩
  have hcx := hc.le hle
  have hs2 : Sq (PkV W') ((q.flow k).l ++ [p]) (vs ++ [.int .i64 p.id, .int .u32 p.flow, .int .i64 p.tid, .int .i64 p.at_, .slice a' p.body.length c']) := (hs.mono fun _ _ h => h.le hle).snoc ⟨a', c', rfl, hbt'⟩
  have e6 : ((q.flow k).l ++ [p]).length = (q.flow k).l.length + 1 := by simp
  rw [show bytP (q.flow k).l + p.body.length = bytP ((q.flow k).l ++ [p]) by omega, ← e6] at m
  rw [← e6] at o2
  have fin : (k ∈ q.fresh ∨ k ∈ q.elder) → ∃ W' L', W.le W' ∧ QuV W' b (q.put p) L' ∧ Me W' h10 (L' :: R) := fun hin => by
    have eput : q.put p = q.setF k ((q.flow k).setL ((q.flow k).l ++ [p])) := by unfold Qu.put; rw [← hk9]; exact if_pos hin
    have c1 := setF_cnt q k ((q.flow k).setL ((q.flow k).l ++ [p]))
    have c2' := setF_byt q k ((q.flow k).setL ((q.flow k).l ++ [p]))
    rw [eput]
    obtain ⟨L', h1, h2⟩ := shutQ (q' := q.setF k ((q.flow k).setL ((q.flow k).l ++ [p]))) hcx hq hk hE (E := E2) ⟨a2, c2, _, rfl, o2, hs2⟩ rfl of oe rfl rfl m.drop1 (q4_is rfl rfl rfl (by omega) (by omega))
    exact ⟨W', L', hle, h1, h2⟩
  refine bcase_intro (fun q1 => ?_) (fun q1 => ⟨rfl, fin (.inl (by simpa using q1))⟩)
  refine ⟨_, _, _, m.pget 1 rfl (ckn hn rfl) (List.length_set.trans hN) 1 rfl rfl, ?_⟩
  refine (contains_int_c (oe.src1 m 4 rfl) rfl (by omega)).ret ⟨_, rfl, ?_⟩
  refine bcase_intro (fun q2 => ?_) (fun q2 => ⟨rfl, fin (.inr (by simpa using q2))⟩)
  clear fin
  (refine m.fset 1 rfl hn hk rfl 2 rfl rfl ?_; clear m; intro _ m; simp only [List.set_cons_zero, List.set_cons_succ] at m)
  refine ⟨_, _, _, m.pget 1 rfl (ckn hn rfl) (List.length_set.trans hN) 0 rfl rfl, ?_⟩
  refine of.app1 m 3 rfl rfl (by simp [Value.oneCell']) (by omega) (by decide) fun a3 c3 E3 h15 m' o3 => ?_
  clear m
  have m := m'
  clear m'
  simp only [List.set_cons_zero, List.set_cons_succ] at m
  (refine m.pset 1 rfl (ckn hn rfl) (List.length_set.trans hN) 0 rfl (Nat.le_of_ble_eq_true rfl) ?_; clear m; intro _ m; simp only [List.set_cons_zero, List.set_cons_succ] at m)
  refine ⟨rfl, ?_⟩
  have eput : q.put p = (q.setF k (((q.flow k).setL ((q.flow k).l ++ [p])).setD 300)).addF k := by
    unfold Qu.put; rw [← hk9]; exact if_neg (by rintro (h | h); exact absurd h (by simpa using q1); exact absurd h (by simpa using q2))
  have c1 := setF_cnt q k (((q.flow k).setL ((q.flow k).l ++ [p])).setD 300)
  have c2' := setF_byt q k (((q.flow k).setL ((q.flow k).l ++ [p])).setD 300)
  rw [eput]
  have o4 : Ow a3 (q.fresh ++ [k]).length c3 1 (ints .i64 (q.fresh ++ [k])) E3 := by rw [ints_app]; show Ow a3 _ c3 1 (ints .i64 q.fresh ++ [.int .i64 k]) E3; simpa using o3
  obtain ⟨L', h1, h2⟩ := shutQ (q' := (q.setF k (((q.flow k).setL ((q.flow k).l ++ [p])).setD 300)).addF k) hcx hq hk hE (E := E2) ⟨a2, c2, _, rfl, o2, hs2⟩ rfl o4 oe rfl rfl m.drop1
    (q4_is rfl (by show _ = (q.fresh ++ [k]).length; simp) rfl (by show _ = ((q.setF k (((q.flow k).setL ((q.flow k).l ++ [p])).setD 300)).cnt : Int); omega) (by show _ = (q.setF k (((q.flow k).setL ((q.flow k).l ++ [p])).setD 300)).byt; omega))
  exact ⟨W', L', hle, h1, h2⟩
theorem put_c (m : Me W h (L :: R)) (hv : QuV W b q L) (hq : QOk q) (hp : PkV W p cs) (hlen : p.body.length ≤ 1048576) (hroom : q.cnt < 1048576) :
    Runs Tryd.prog 30 #[.pointer (some ⟨b, 0, none⟩), .agg cs.toArray] h fun v h' => v = .int .i64 (bucketZ p.flow q.seed) ∧ ∃ W' L', W.le W' ∧ QuV W' b (q.put p) L' ∧ Me W' h' (L' :: R) := put_o m hv hq (hp.le m.leOf) hlen hroom
/-- The queue's own block, one flow in front of us. -/
def BQ (b : Nat) (q : Qu) (k : Int) (css : List (List Value)) (a : Option Addr) (c : Nat) (fa : Option Addr) (fc : Nat) (ea : Option Addr) (ec : Nat) (T : TypeId) : Grp :=
  [(b, ck (q3 q) (css.set k.toNat (.slice a (q.flow k).l.length c :: .int .i64 (bytP (q.flow k).l) :: .int .i64 (q.flow k).deficit :: cV (q.flow k).c)) (q4 q fa fc ea ec), T)]
theorem fqpull_c {now : Int} (m : Me W h (L :: R)) (hv : QuV W b q L) (hq : QOk q) (k0 : 0 ≤ k) (k1 : k < 16) (n0 : 0 ≤ now) (n1 : now ≤ 1125899906842624) :
    Runs Tryd.prog 61 #[.pointer (some ⟨b, 0, none⟩), .int .i64 k, .int .i64 now] h fun v h' => ∃ a c vs E L', v = .tuple #[.slice a (dropF q.tg q.iv now (q.flow k)).length c, .bool (isF q.tg q.iv now (q.flow k))] ∧
      Ow a (dropF q.tg q.iv now (q.flow k)).length c 5 vs E ∧ Sq (PkV W) (dropF q.tg q.iv now (q.flow k)) vs ∧ QuV W b (q.setF k (pullF q.tg q.iv now (q.flow k))) L' ∧ Me W h' (E :: L' :: R) := by
  (obtain ⟨css, Es, fa, fc, ea, ec, Ef, Ee, T, hc, of, oe, rfl⟩ := hv; obtain ⟨a, c, vs, E, hE, hcs, o, hs, hk⟩ := hc.opn hq k0 k1; have hn := hc.n8; have hN := hc.n1; have hcnt := hq.cnt; obtain ⟨hb1, hb0⟩ := hq.bd; have ecn : q.cnt = cntL q.fl := rfl; have ebn : q.byt = bytL q.fl := rfl; have hfb := bytL_ge (hq.flow k0 k1).1; have hfc := cntL_ge (hq.flow k0 k1).1; have hfn := bytP_nn (q.flow k).l; replace m := m.openQ hE; rw [hcs] at m)
  obtain ⟨hE5, hI, hbd, hpos, his⟩ := pull_facts (tg := q.tg) (iv := q.iv) (hq.flow k0 k1).2 (by omega) n0 n1
  have hfo := (hq.flow k0 k1).2
  refine vc_fq_Queue_pull _ _ _ _ _ ⟨⟨k0, by omega⟩, ?_⟩
  refine ⟨_, _, _, m.fget 0 rfl hn hk rfl 0 rfl rfl, ?_⟩
  have hil : (itemsP (q.flow k).l).length = (q.flow k).l.length := by simp [itemsP]
  replace m : Me W h (BQ b q k css a c fa fc ea ec T :: E :: Ef :: Ee :: (Es.eraseIdx k.toNat).flatten :: R) := m
  refine ⟨fun ia il ic x h' => ∃ (j : Nat) (Ei : Grp), x = j ∧ j ≤ (q.flow k).l.length ∧ il = j ∧ Ow ia il ic 2 (flatI (itemsP ((q.flow k).l.take j))) Ei ∧ Me W h' (Ei :: BQ b q k css a c fa fc ea ec T :: E :: Ef :: Ee :: (Es.eraseIdx k.toNat).flatten :: R), fun _ _ _ x _ => (((q.flow k).l.length : Int) - x).toNat,
    ⟨0, [], rfl, by omega, rfl, Ow.nil, m.nilI⟩, fun _ => ?_⟩
  clear m
  rintro ia il ic _ h1 ⟨j, Ei, rfl, hj, hil2, oi, m⟩
  subst il
  refine dcase_intro (fun q1 => ?_) fun q1 => ?_
  · obtain ⟨x, hx⟩ : ∃ x, (q.flow k).l[j]? = some x := ⟨_, List.getElem?_eq_getElem (by omega)⟩
    obtain ⟨cs, hcv, hrow, hrl⟩ := hs.get (fun _ _ => PkV.len) hx
    obtain ⟨pa, pc, rfl, hbt⟩ := hcv
    obtain ⟨sb, so, rfl, hr⟩ := src_part (k := j * 5) (n := 5) (o.src m 2 rfl) hrl (by decide) hrow
    refine ⟨⟨by omega, by omega⟩, _, hr, ?_⟩
    (intro bN hN1 eN1 eN2; replace m := m.push eN2 eN1; clear eN1 eN2)
    refine ⟨⟨rfl, m.wrsb 0 rfl rfl, by simp [Value.oneCell']⟩, ?_⟩
    intro h3 e3
    replace m := m.setr 0 rfl e3
    clear e3
    simp only [List.set_cons_zero, List.set_cons_succ, setL] at m
    refine ⟨_, m.cell 0 rfl rfl, ?_⟩
    refine ⟨_, _, _, m.cell 0 rfl rfl, ?_⟩
    refine ⟨rfl, ?_⟩
    refine oi.app1 m 1 rfl rfl (by simp [Value.oneCell']) (by omega) (by decide) fun a2 c2 E2 h6 m' o2 => ?_
    clear m
    simp only [List.set_cons_zero, List.set_cons_succ] at m'
    refine ⟨by simp only [fits]; omega, ⟨j + 1, E2, by omega, by omega, rfl, ?_, m'.drop1⟩, by dsimp only; omega⟩
    rw [← take_snoc hx]
    simp only [itemsP, List.map_append, flatI_append] at o2 ⊢
    exact o2
  · obtain rfl : j = (q.flow k).l.length := by omega
    rw [List.take_length] at oi
    clear q1 hj
    refine ⟨fun x n is h' => ∃ (bc : Nat) (Tc : TypeId), x = some ⟨bc, 0, none⟩ ∧ n = ((runP q.tg q.iv now (q.flow k)).1.pos : Nat) ∧ is = (runP q.tg q.iv now (q.flow k)).2 ∧
      Me W h' ([(bc, cV (runP q.tg q.iv now (q.flow k)).1, Tc)] :: BQ b q k css a c fa fc ea ec T :: E :: Ef :: Ee :: (Es.eraseIdx k.toNat).flatten :: R), ?_, fun _ => ?_⟩
    · refine ⟨_, m.frow 1 rfl hn hk rfl 3 rfl rfl rfl, ?_⟩
      refine ⟨_, m.hget 1 rfl (Nat.le_of_ble_eq_true rfl) rfl, ?_⟩
      refine ⟨_, m.hget 1 rfl (Nat.le_of_ble_eq_true rfl) rfl, ?_⟩
      refine ⟨_, m.fget 1 rfl hn hk rfl 1 rfl rfl, ?_⟩
      have p1 := fun (h1 : Heap) (hi : Itm h1 ia (itemsP (q.flow k).l)) => pull_c (cap := ic) (c := (q.flow k).c) hE5 hi hI
      rw [hil] at p1
      refine ⟨?_, ?_⟩
      · refine (p1 _ (itm_of (oi.src m 0 rfl))).mono ?_
        rintro _ h6 ⟨rfl, kk⟩
        replace m := m.on kk
        refine ⟨_, _, _, rfl, ?_⟩
        (intro bN hN1 eN1 eN2; replace m := m.push eN2 eN1; clear eN1 eN2)
        refine ⟨⟨rfl, m.wrsb 0 rfl rfl, by simp [cV, Value.oneCell']⟩, ?_⟩
        intro h8 e3
        replace m := m.setr 0 rfl e3
        exact ⟨_, _, rfl, rfl, rfl, m.free 1 rfl⟩
      · (intro bN hN1 eN1 eN2; replace m := m.push eN2 eN1; clear eN1 eN2)
        refine (p1 _ (itm_of (oi.src m 1 rfl))).mono ?_
        rintro _ h6 ⟨rfl, kk⟩
        replace m := m.on kk
        refine ⟨_, _, _, rfl, ?_⟩
        refine ⟨⟨rfl, m.wrsb 0 rfl rfl, by simp [cV, Value.oneCell']⟩, ?_⟩
        intro h8 e3
        replace m := m.setr 0 rfl e3
        exact ⟨_, _, rfl, rfl, rfl, m.free 1 rfl⟩
    · clear m
      rintro _ _ _ h12 ⟨bc, Tc, rfl, rfl, rfl, m⟩
      refine ⟨_, m.rowb 0 rfl rfl rfl, ?_⟩
      refine ⟨⟨rfl, m.fwrs 1 rfl hn hk rfl 3 rfl rfl, by simp [cV, Value.oneCell']⟩, ?_⟩
      intro h13 e3
      replace m := m.fsetr 1 rfl hn hk rfl 3 rfl (Nat.le_of_ble_eq_true rfl) e3
      clear e3
      simp only [List.set_cons_zero, List.set_cons_succ] at m
      have c1 := setF_cnt q k ⟨(q.flow k).l, (q.flow k).deficit, (runP q.tg q.iv now (q.flow k)).1.rest⟩
      have c2 := setF_byt q k ⟨(q.flow k).l, (q.flow k).deficit, (runP q.tg q.iv now (q.flow k)).1.rest⟩
      have c3 := cntL_set (g := ⟨(q.flow k).l, (q.flow k).deficit, (runP q.tg q.iv now (q.flow k)).1.rest⟩) (hq.flow k0 k1).1
      have c4 := bytL_set (g := ⟨(q.flow k).l, (q.flow k).deficit, (runP q.tg q.iv now (q.flow k)).1.rest⟩) (hq.flow k0 k1).1
      dsimp only at c3 c4
      obtain ⟨L1, hv1, m1⟩ := shutQ (q' := q.setF k ⟨(q.flow k).l, (q.flow k).deficit, (runP q.tg q.iv now (q.flow k)).1.rest⟩) (g := ⟨(q.flow k).l, (q.flow k).deficit, (runP q.tg q.iv now (q.flow k)).1.rest⟩) hc hq hk hE (E := E) ⟨a, c, _, rfl, o, hs⟩ rfl of oe rfl rfl m.drop1 (q4_is (x := q.cnt) (y := q.byt) rfl rfl rfl (by omega) (by omega))
      clear m c1 c2 c3 c4 hcs hE5 hI
      have hrf : dropF q.tg q.iv now (q.flow k) = (q.flow k).l.take (runP q.tg q.iv now (q.flow k)).1.pos := rfl
      have hpf : pullF q.tg q.iv now (q.flow k) = ⟨(q.flow k).l.drop (runP q.tg q.iv now (q.flow k)).1.pos, (q.flow k).deficit, (runP q.tg q.iv now (q.flow k)).1.rest⟩ := rfl
      have hif : isF q.tg q.iv now (q.flow k) = (runP q.tg q.iv now (q.flow k)).2 := rfl
      rw [hrf, hpf, hif]
      generalize runP q.tg q.iv now (q.flow k) = ρ at *
      obtain ⟨t, is⟩ := ρ
      dsimp only at *
      have hok : ∀ j, QOk (q.setF k ⟨(q.flow k).l.drop j, (q.flow k).deficit, t.rest⟩) := fun j =>
        hq.setF k0 k1 ⟨rest_bd hbd, fun p hp => hfo.p p (List.mem_of_mem_drop hp), hfo.d0, hfo.d1⟩ (by simp)
      have hfl : ∀ j, (q.setF k ⟨(q.flow k).l.drop j, (q.flow k).deficit, t.rest⟩).flow k = ⟨(q.flow k).l.drop j, (q.flow k).deficit, t.rest⟩ := fun j => flow_setF hq k0 k1
      refine ⟨fun oa ol oc x h' => ∃ (j : Nat) (vs : List Value) (E L' : Grp), x = j ∧ j ≤ t.pos ∧ ol = j ∧ Ow oa j oc 5 vs E ∧ Sq (PkV W) ((q.flow k).l.take j) vs ∧ QuV W b (q.setF k ⟨(q.flow k).l.drop j, (q.flow k).deficit, t.rest⟩) L' ∧ Me W h' (E :: L' :: R),
        fun _ _ _ x _ => ((t.pos : Int) - x).toNat, ⟨0, [], [], L1, rfl, by omega, rfl, Ow.nil, rfl, hv1, m1.nilI⟩, fun _ => ?_⟩
      clear hv1 m1 hs o
      rintro oa ol oc _ h14 ⟨j, vs, E, L', rfl, hj, hol, o, hs, hv, m⟩
      subst ol
      refine dcase_intro (fun q1 => ?_) fun q1 => ?_
      · obtain ⟨x, hx⟩ : ∃ x, (q.flow k).l[j]? = some x := ⟨_, List.getElem?_eq_getElem (by omega)⟩
        have hd : (q.flow k).l.drop j = x :: (q.flow k).l.drop (j + 1) := by
          rw [List.drop_eq_getElem_cons (List.getElem?_eq_some_iff.1 hx).1, (List.getElem?_eq_some_iff.1 hx).2]
        refine (shift_c (m.focus 1 rfl) hv (hok j) k0 k1 (p := x) (r := (q.flow k).l.drop (j + 1)) (by rw [hfl]; exact hd)).mono ?_
        rintro _ h15 ⟨cs, L2, rfl, hcv, hv2, m2⟩
        rw [hfl, setF_setF] at hv2
        refine ⟨_, rfl, hcv.len, ?_⟩
        refine o.app1 m2 1 rfl (by simp [hcv.len]) (by simpa using hcv.one) (by omega) (by decide) fun a2 c2 E2 h6 m' o2 => ?_
        rw [List.append_nil] at o2
        refine ⟨by simp only [fits]; omega, ⟨j + 1, _, E2, L2, by omega, by omega, rfl, o2, ?_, hv2, m'.focus 1 rfl⟩, by dsimp only; omega⟩
        rw [← take_snoc hx]
        exact hs.snoc hcv
      · obtain rfl : j = t.pos := by omega
        have e : ((q.flow k).l.take t.pos).length = t.pos := by simp; omega
        exact ⟨oa, oc, vs, E, L', by rw [e], by rw [e]; exact o, hs, hv, m⟩
end
/-! The queue's parts, one by one. -/
section
variable {W W' : Wd} {h h' h1 : Heap} {G R : List Grp} {L E E0 Ef Ee : Grp} {B : Grp} {Es : List Grp} {css : List (List Value)} {q : Qu} {f g : Fl} {k d : Int} {b n : Nat} {cs : List Value} {p : Pk} {r : List Pk}
theorem shutQ0 {q' : Qu} {fa ea : Option Addr} {fc ec : Nat} {post : List Value} {T : TypeId} (hc : QuC W q css Es) (of : Ow fa q'.fresh.length fc 1 (ints .i64 q'.fresh) Ef) (oe : Ow ea q'.elder.length ec 1 (ints .i64 q'.elder) Ee) (h3 : q3 q' = q3 q) (hfl : q'.fl = q.fl)
    (m : Me W h ([(b, ck (q3 q) css post, T)] :: Ef :: Ee :: Es.flatten :: R)) (hpost : post = q4 q' fa fc ea ec) : ∃ L', QuV W b q' L' ∧ Me W h (L' :: R) := by
  have h2 : QuC W q' css Es := ⟨hc.n1, hc.n2, by rw [hfl]; exact hc.f, hc.n8⟩
  refine ⟨_, ⟨_, _, fa, fc, ea, ec, Ef, Ee, T, h2, of, oe, rfl⟩, ?_⟩
  rw [hpost] at m
  rw [h3]
  exact m.perm (by simp)
theorem QuV.elim (hv : QuV W b q L) (m : Me W h (L :: R)) : ∃ (css : List (List Value)) (Es : List Grp) (fa : Option Addr) (fc : Nat) (ea : Option Addr) (ec : Nat) (Ef Ee : Grp) (T : TypeId), QuC W q css Es ∧ Ow fa q.fresh.length fc 1 (ints .i64 q.fresh) Ef ∧ Ow ea q.elder.length ec 1 (ints .i64 q.elder) Ee ∧
    Me W h ([(b, ck (q3 q) css (q4 q fa fc ea ec), T)] :: Ef :: Ee :: Es.flatten :: R) := by
  obtain ⟨css, Es, fa, fc, ea, ec, Ef, Ee, T, hc, of, oe, rfl⟩ := hv
  exact ⟨css, Es, fa, fc, ea, ec, Ef, Ee, T, hc, of, oe, m.perm (by simp)⟩
theorem QuV.deficit (hv : QuV W b q L) (m : Me W h (L :: R)) (hq : QOk q) (k0 : 0 ≤ k) (k1 : k < 16) : cell h b (3 + k.toNat * 8 + 2) = some (.int .i64 (q.flow k).deficit) := by
  (obtain ⟨css, Es, fa, fc, ea, ec, Ef, Ee, T, hc, of, oe, rfl⟩ := hv; obtain ⟨a, c, vs, E, hE, hcs, o, hs, hk⟩ := hc.opn hq k0 k1; have hn := hc.n8; have hN := hc.n1; have hcnt := hq.cnt; obtain ⟨hb1, hb0⟩ := hq.bd; have ecn : q.cnt = cntL q.fl := rfl; have ebn : q.byt = bytL q.fl := rfl; have hfb := bytL_ge (hq.flow k0 k1).1; have hfc := cntL_ge (hq.flow k0 k1).1; have hfn := bytP_nn (q.flow k).l; replace m := m.openQ hE; rw [hcs] at m)
  exact m.fget 0 rfl hn hk rfl 2 rfl rfl
theorem QuV.flowL (hv : QuV W b q L) (m : Me W h (L :: R)) (hq : QOk q) (k0 : 0 ≤ k) (k1 : k < 16) : ∃ a c vs, cell h b (3 + k.toNat * 8) = some (.slice a (q.flow k).l.length c) ∧ src h a ((q.flow k).l.length * 5) vs ∧ Sq (PkV W) (q.flow k).l vs := by
  (obtain ⟨css, Es, fa, fc, ea, ec, Ef, Ee, T, hc, of, oe, rfl⟩ := hv; obtain ⟨a, c, vs, E, hE, hcs, o, hs, hk⟩ := hc.opn hq k0 k1; have hn := hc.n8; have hN := hc.n1; have hcnt := hq.cnt; obtain ⟨hb1, hb0⟩ := hq.bd; have ecn : q.cnt = cntL q.fl := rfl; have ebn : q.byt = bytL q.fl := rfl; have hfb := bytL_ge (hq.flow k0 k1).1; have hfc := cntL_ge (hq.flow k0 k1).1; have hfn := bytP_nn (q.flow k).l; replace m := m.openQ hE; rw [hcs] at m)
  exact ⟨a, c, vs, m.fget 0 rfl hn hk rfl 0 rfl rfl, o.src m 1 rfl, hs⟩
/-- A flow's packets lie there as long as the queue is let alone. -/
theorem QuV.flowK (hv : QuV W b q L) (hq : QOk q) (k0 : 0 ≤ k) (k1 : k < 16) : ∃ a c vs, Sq (PkV W) (q.flow k).l vs ∧ ∀ {W1 : Wd} {h1 : Heap} {R1 : List Grp}, Me W1 h1 (L :: R1) →
    cell h1 b (3 + k.toNat * 8) = some (.slice a (q.flow k).l.length c) ∧ src h1 a ((q.flow k).l.length * 5) vs := by
  obtain ⟨css, Es, fa, fc, ea, ec, Ef, Ee, T, hc, of, oe, rfl⟩ := hv
  obtain ⟨a, c, vs, E, hE, hcs, o, hs, hk⟩ := hc.opn hq k0 k1
  have hn := hc.n8
  refine ⟨a, c, vs, hs, fun m => ?_⟩
  replace m := m.openQ hE
  rw [hcs] at m
  exact ⟨m.fget 0 rfl hn hk rfl 0 rfl rfl, o.src m 1 rfl⟩
theorem QuV.flowB (hv : QuV W b q L) (m : Me W h (L :: R)) (hq : QOk q) (k0 : 0 ≤ k) (k1 : k < 16) : cell h b (3 + k.toNat * 8 + 1) = some (.int .i64 (bytP (q.flow k).l)) := by
  (obtain ⟨css, Es, fa, fc, ea, ec, Ef, Ee, T, hc, of, oe, rfl⟩ := hv; obtain ⟨a, c, vs, E, hE, hcs, o, hs, hk⟩ := hc.opn hq k0 k1; have hn := hc.n8; have hN := hc.n1; have hcnt := hq.cnt; obtain ⟨hb1, hb0⟩ := hq.bd; have ecn : q.cnt = cntL q.fl := rfl; have ebn : q.byt = bytL q.fl := rfl; have hfb := bytL_ge (hq.flow k0 k1).1; have hfc := cntL_ge (hq.flow k0 k1).1; have hfn := bytP_nn (q.flow k).l; replace m := m.openQ hE; rw [hcs] at m)
  exact m.fget 0 rfl hn hk rfl 1 rfl rfl
theorem QuV.setD (hv : QuV W b q L) (m : Me W h (L :: R)) (hq : QOk q) (k0 : 0 ≤ k) (k1 : k < 16) {Q : Heap → Prop} (x : ∀ h1 L', QuV W b (q.setF k ((q.flow k).setD d)) L' → Me W h1 (L' :: R) → Q h1) :
    wr h b (3 + k.toNat * 8 + 2) ∧ ∀ h1, h1 = setc h b (3 + k.toNat * 8 + 2) (.int .i64 d) → Q h1 := by
  (obtain ⟨css, Es, fa, fc, ea, ec, Ef, Ee, T, hc, of, oe, rfl⟩ := hv; obtain ⟨a, c, vs, E, hE, hcs, o, hs, hk⟩ := hc.opn hq k0 k1; have hn := hc.n8; have hN := hc.n1; have hcnt := hq.cnt; obtain ⟨hb1, hb0⟩ := hq.bd; have ecn : q.cnt = cntL q.fl := rfl; have ebn : q.byt = bytL q.fl := rfl; have hfb := bytL_ge (hq.flow k0 k1).1; have hfc := cntL_ge (hq.flow k0 k1).1; have hfn := bytP_nn (q.flow k).l; replace m := m.openQ hE; rw [hcs] at m)
  refine m.fset 0 rfl hn hk rfl 2 rfl rfl fun h1 m' => ?_
  have c1 := setF_cnt q k ((q.flow k).setD d)
  have c2 := setF_byt q k ((q.flow k).setD d)
  have c3 := cntL_set (g := (q.flow k).setD d) (hq.flow k0 k1).1
  have c4 := bytL_set (g := (q.flow k).setD d) (hq.flow k0 k1).1
  simp only [setD_l] at c3 c4
  obtain ⟨L', hv', m2⟩ := shutQ (q' := q.setF k ((q.flow k).setD d)) (g := (q.flow k).setD d) hc hq hk hE (E := E) ⟨a, c, vs, rfl, o, hs⟩ rfl of oe rfl rfl m' (q4_is (x := q.cnt) (y := q.byt) rfl rfl rfl (by omega) (by omega))
  exact x _ _ hv' m2
theorem QuV.fresh (hv : QuV W b q L) (m : Me W h (L :: R)) : ∃ a c, cell h b 131 = some (.slice a q.fresh.length c) ∧ src h a q.fresh.length (ints .i64 q.fresh) := by
  obtain ⟨css, Es, fa, fc, ea, ec, Ef, Ee, T, hc, of, oe, m⟩ := hv.elim m
  exact ⟨fa, fc, m.pget 0 rfl hc.n8 hc.n1 0 rfl rfl, of.src1 m 1 rfl⟩
theorem QuV.elder (hv : QuV W b q L) (m : Me W h (L :: R)) : ∃ a c, cell h b 132 = some (.slice a q.elder.length c) ∧ src h a q.elder.length (ints .i64 q.elder) := by
  obtain ⟨css, Es, fa, fc, ea, ec, Ef, Ee, T, hc, of, oe, m⟩ := hv.elim m
  exact ⟨ea, ec, m.pget 0 rfl hc.n8 hc.n1 1 rfl rfl, oe.src1 m 2 rfl⟩
theorem popF_is (hf : q.fresh ≠ []) : q.popT = { q with fresh := q.fresh.tail } := if_neg hf
theorem popE_is (hf : q.fresh = []) : q.popT = { q with elder := q.elder.tail } := if_pos hf
theorem ints_tail {k : IntKind} {l : List Int} : (ints k l).drop (1 * 1) = ints k l.tail := by cases l <;> simp [ints]
theorem QuV.popF (hv : QuV W b q L) (m : Me W h (L :: R)) (hf : q.fresh ≠ []) {Q : Heap → Prop} (x : ∀ h1 L', QuV W b q.popT L' → Me W h1 (L' :: R) → Q h1) :
    ∃ (s : Option Addr) (sl sc : Nat), cell h b 131 = some (.slice s sl sc) ∧ (0 ≤ (1 : Int) ∧ (1 : Int) ≤ ((sl : Nat) : Int)) ∧ wr h b 131 ∧ ∀ h1 : Heap, h1 = setc h b 131 (.slice (slcAddr s 1 sc 1) (sl - 1) (sc - 1)) → Q h1 := by
  obtain ⟨css, Es, fa, fc, ea, ec, Ef, Ee, T, hc, of, oe, m⟩ := hv.elim m
  have hl : 0 < q.fresh.length := List.length_pos_iff.2 hf
  refine ⟨_, _, _, m.pget 0 rfl hc.n8 hc.n1 0 rfl rfl, ⟨by omega, by omega⟩, m.pset 0 rfl hc.n8 hc.n1 0 rfl (Nat.le_of_ble_eq_true rfl) fun h1 m' => ?_⟩
  have ot := of.tail 1 hl
  rw [ints_tail] at ot
  rw [popF_is hf] at x
  obtain ⟨L', hv', m2⟩ := shutQ0 (q' := { q with fresh := q.fresh.tail }) hc (by simpa using ot) oe rfl rfl m' (q4_is rfl (by simp) rfl rfl rfl)
  exact x _ _ hv' m2
theorem QuV.popE (hv : QuV W b q L) (m : Me W h (L :: R)) (hf : q.fresh = []) (he : q.elder ≠ []) {Q : Heap → Prop} (x : ∀ h1 L', QuV W b q.popT L' → Me W h1 (L' :: R) → Q h1) :
    ∃ (s : Option Addr) (sl sc : Nat), cell h b 132 = some (.slice s sl sc) ∧ (0 ≤ (1 : Int) ∧ (1 : Int) ≤ ((sl : Nat) : Int)) ∧ wr h b 132 ∧ ∀ h1 : Heap, h1 = setc h b 132 (.slice (slcAddr s 1 sc 1) (sl - 1) (sc - 1)) → Q h1 := by
  obtain ⟨css, Es, fa, fc, ea, ec, Ef, Ee, T, hc, of, oe, m⟩ := hv.elim m
  have hl : 0 < q.elder.length := List.length_pos_iff.2 he
  refine ⟨_, _, _, m.pget 0 rfl hc.n8 hc.n1 1 rfl rfl, ⟨by omega, by omega⟩, m.pset 0 rfl hc.n8 hc.n1 1 rfl (Nat.le_of_ble_eq_true rfl) fun h1 m' => ?_⟩
  have ot := oe.tail 1 hl
  rw [ints_tail] at ot
  rw [popE_is hf] at x
  obtain ⟨L', hv', m2⟩ := shutQ0 (q' := { q with elder := q.elder.tail }) hc of (by simpa using ot) rfl rfl m' (q4_is rfl rfl (by simp) rfl rfl)
  exact x _ _ hv' m2
theorem QuV.pushE (hv : QuV W b q L) (m : Me W h (L :: R)) (hl : q.elder.length ≤ 1048576) {Q : Heap → Prop} (x : ∀ h1 L', QuV W b (q.addE k) L' → Me W h1 (L' :: R) → Q h1) {e : TypeId} :
    ∃ (s : Option Addr) (sl sc : Nat), cell h b 132 = some (.slice s sl sc) ∧ ∀ (b3 : Nat) (h6 : Heap), b3 = h.size → h6 = h.push (.cells ([(.int .i64 k)] : List Value).toArray e) →
      ∃ news1 : List Value, (row h6 b3 0 1 = some news1 ∧ ∀ u ∈ news1, u.oneCell' = true) ∧ appK h6 s sl sc 1 1 e 8 news1 fun (a1 : Option Addr) (cap1 : Nat) (h7 : Heap) => wr h7 b 132 ∧ ∀ h8 : Heap, h8 = setc h7 b 132 (.slice a1 (sl + 1) cap1) → Q h8 := by
  obtain ⟨css, Es, fa, fc, ea, ec, Ef, Ee, T, hc, of, oe, m⟩ := hv.elim m
  refine ⟨_, _, _, m.pget 0 rfl hc.n8 hc.n1 1 rfl rfl, ?_⟩
  refine oe.app1 m 2 rfl rfl (by simp [Value.oneCell']) (by omega) (by decide) fun a' c' E' h' m' o' => ?_
  refine m'.pset 0 rfl hc.n8 hc.n1 1 rfl (Nat.le_of_ble_eq_true rfl) fun h1 m2 => ?_
  have o2 : Ow a' (q.elder ++ [k]).length c' 1 (ints .i64 (q.elder ++ [k])) E' := by rw [ints_app]; show Ow a' _ c' 1 (ints .i64 q.elder ++ [.int .i64 k]) E'; simpa using o'
  obtain ⟨L', hv', m3⟩ := shutQ0 (q' := q.addE k) hc of o2 rfl rfl m2 (q4_is rfl rfl (by simp [Qu.addE]) rfl rfl)
  exact x _ _ hv' m3
def TakeJ (W : Wd) (R : List Grp) (b b1 : Nat) (now : Int) (res : Qu × List Pk × Option Pk) (n : Nat) (da : Option Addr) (dl dc : Nat) (h' : Heap) : Prop :=
  ∃ (q : Qu) (d : List Pk) (vs : List Value) (E L : Grp) (T : TypeId), takeN now n q d = res ∧ q.meas < n ∧ QOk q ∧ dl = d.length ∧ d.length + q.cnt ≤ 1048576 ∧ Ow da dl dc 5 vs E ∧ Sq (PkV W) d vs ∧ QuV W b q L ∧
    Me W h' (L :: [(b1, [.int .i64 0, .int .u32 0, .int .i64 0, .int .i64 0, .slice none 0 0], T)] :: E :: R)
/-- Behind a pull that yields one: it is taken. -/
theorem take_c {now : Int} {q0 : Qu} (m : Me W h (L :: R)) (hv : QuV W b q0 L) (hq : QOk q0) (n0 : 0 ≤ now) (n1 : now ≤ 1125899906842624) :
    Runs Tryd.prog 39 #[.pointer (some ⟨b, 0, none⟩), .int .i64 now] h fun v h' => ∃ a c vs E L' cs, v = .tuple #[.agg cs.toArray, .slice a (q0.take now).2.1.length c, .bool (q0.take now).2.2.isSome] ∧
      PkV W ((q0.take now).2.2.getD pk0) cs ∧ Ow a (q0.take now).2.1.length c 5 vs E ∧ Sq (PkV W) (q0.take now).2.1 vs ∧ QuV W b (q0.take now).1 L' ∧ Me W h' (E :: L' :: R) := by
  refine vc_fq_Queue_Take _ _ _ _ ?_
  (intro bN hN1 eN1 eN2; replace m := m.push eN2 eN1; clear eN1 eN2)
  have hJ0 : TakeJ W R b bN now (q0.take now) (q0.meas + 1) none 0 0 hN1 := ⟨q0, [], [], [], L, _, rfl, by omega, hq, rfl, by simpa using hq.cnt, Ow.nil, rfl, hv, (m.nilI.focus 1 rfl).focus 2 rfl⟩
  generalize q0.take now = res at *
  refine ⟨fun da dl dc h' => ∃ n, TakeJ W R b bN now res n da dl dc h', fun da dl dc h' => lea fun n => TakeJ W R b bN now res n da dl dc h', ⟨_, hJ0⟩, fun _ => ?_⟩
  clear m hv hq hJ0
  intro da dl dc h2 hJ
  obtain ⟨n, ⟨q, d, vsd, Ed, L, T, htk, hms, hq, hdl, hsum, od, hsd, hv, m⟩, hn⟩ := lea_spec hJ
  subst dl
  obtain ⟨n, rfl⟩ : ∃ k, n = k + 1 := ⟨n - 1, by omega⟩
  clear hJ
  have hls := hq.lens
  obtain ⟨fa, fc, hfr, hfs⟩ := hv.fresh m
  obtain ⟨ea, ec, hel, hes⟩ := hv.elder m
  refine ⟨_, _, _, hfr, ?_⟩
  by_cases hf : q.fresh = []
  · refine dcase_pos (by rw [hf]; rfl) ⟨_, _, _, hel, ?_⟩
    by_cases he : q.elder = []
    · refine dcase_pos (by rw [he]; rfl) ⟨⟨rfl, m.wrsb 1 rfl rfl, by simp [Value.oneCell']⟩, ?_⟩
      intro h3 e3
      replace m := m.setr 1 rfl e3
      refine ⟨_, m.rowb 1 rfl rfl rfl, ?_⟩
      rw [takeN_none (by unfold Qu.turn; rw [hf, he]; rfl)] at htk
      rw [← htk]
      exact ⟨_, _, _, Ed, L, _, rfl, PkV.zero, od, hsd, hv, (m.free 1 rfl).focus 1 rfl⟩
    · obtain ⟨k, re, hke⟩ := List.exists_cons_of_ne_nil he
      have ht : q.turn = some k := by unfold Qu.turn; rw [hf, hke]; rfl
      obtain ⟨k0, k1⟩ := hq.b k (turn_mem ht)
      have hfo := (hq.flow k0 k1).2
      have hl : 0 < q.elder.length := List.length_pos_iff.2 he
      refine dcase_neg (by omega) ⟨_, _, _, hel, ⟨by omega, by omega⟩, ?_⟩
      obtain ⟨sb, so, rfl, hr⟩ := src_cell (k := 0) (v := .int .i64 k) hes (by rw [hke]; rfl)
      refine ⟨_, hr, ⟨k0, by omega⟩, _, hv.deficit m hq k0 k1, ?_⟩
      by_cases hd : (q.flow k).deficit ≤ 0
      · refine dcase_pos hd ⟨_, hv.deficit m hq k0 k1, ?_⟩
        have hd0 := hfo.d0
        refine ⟨by simp only [fits]; omega, hv.setD m hq k0 k1 fun h4 L1 hv1 m1 => ?_⟩
        have hok1 := hq.setF k0 k1 (setD_ok hfo (d := (q.flow k).deficit + 300) (by omega) (by omega)) (by simp)
        refine hv1.popE m1 hf he fun h5 L2 hv2 m2 => ?_
        refine hv2.pushE m2 ?_ fun h8 L3 hv3 m3 => ?_
        · have := (hok1.popT).lens; omega
        rw [takeN_turn ht hd] at htk
        have hnot := popT_not hok1 (k := k) ht
        exact lea_next hn (k := n) ⟨_, d, vsd, Ed, L3, T, htk, by have := meas_turn hq ht hd; omega, (hok1.popT).addE hnot k0 k1, rfl, by rw [addE_cnt, popT_cnt, setD_cnt hq k0 k1]; exact hsum, od, hsd, hv3, m3⟩ (by omega)
      · refine dcase_neg hd ?_
        refine (fqpull_c m hv hq k0 k1 n0 n1).mono ?_
        rintro _ h9 ⟨a', c', vs', E', L2, rfl, o', hs', hv2, m2⟩
        clear m hv
        have hfo := (hq.flow k0 k1).2
        have hfc := hq.fcnt k0 k1
        have hok2 := hq.setF k0 k1 (pullF_ok (tg := q.tg) (iv := q.iv) hfo hfc n0 n1) (by simp [pullF])
        have hisd := isF_drop (tg := q.tg) (iv := q.iv) hfo hfc n0 n1
        have hcnt2 : (dropF q.tg q.iv now (q.flow k)).length + (q.setF k (pullF q.tg q.iv now (q.flow k))).cnt ≤ q.cnt := by
          have c3 := cntL_set (g := pullF q.tg q.iv now (q.flow k)) (hq.flow k0 k1).1
          have c1 := setF_cnt q k (pullF q.tg q.iv now (q.flow k))
          have e : q.cnt = cntL q.fl := rfl
          simp only [pullF, List.length_drop] at c3
          simp only [dropF, List.length_take]
          have := (pull_facts (tg := q.tg) (iv := q.iv) hfo hfc n0 n1).2.2.2.1
          simp only [pullF] at c1
          simp only [pullF]
          omega
        have hgd : (pullF q.tg q.iv now (q.flow k)).deficit = (q.flow k).deficit := rfl
        refine ⟨_, _, _, _, rfl, vs', ⟨o'.src m2 0 rfl, hs'.all fun _ _ => PkV.one⟩, ?_⟩
        refine od.app m2 3 rfl o'.len (by omega) (by decide) fun a2 c2 E2 h10 m' od2 => ?_
        clear m2
        simp only [List.set_cons_zero, List.set_cons_succ] at m'
        have m := m'.drop1
        clear m'
        have hsd2 := hsd.app hs'
        rw [← List.length_append] at od2 ⊢
        refine bcase_intro (fun his => ?_) fun his => ?_
        · obtain ⟨p, r, hp⟩ := hisd.1 his
          have hfl2 := flow_setF (g := pullF q.tg q.iv now (q.flow k)) hq k0 k1
          refine (shift_c m hv2 hok2 k0 k1 (p := p) (r := r) (by rw [hfl2]; exact hp)).mono ?_
          rintro _ h11 ⟨cs, L3, rfl, hcv, hv3, m⟩
          rw [hfl2, setF_setF] at hv3
          have hple : p.body.length ≤ 1048576 := (hfo.p p (List.mem_of_mem_drop (by unfold pullF at hp; dsimp only at hp; rw [hp]; simp))).2.2
          have hok3 : QOk (q.setF k ((pullF q.tg q.iv now (q.flow k)).setL r)) := hq.setF k0 k1 ⟨(pullF_ok (tg := q.tg) (iv := q.iv) hfo hfc n0 n1).c, fun x hx => (pullF_ok (tg := q.tg) (iv := q.iv) hfo hfc n0 n1).p x (by rw [hp]; simp at hx; simp [hx]), hfo.d0, hfo.d1⟩ (by
            have : (pullF q.tg q.iv now (q.flow k)).l.length ≤ (q.flow k).l.length := by simp [pullF]
            rw [hp] at this; simp at this ⊢; omega)
          refine ⟨_, rfl, ?_⟩
          (intro bN hN1 eN1 eN2; replace m := m.push eN2 eN1; clear eN1 eN2)
          rename_i bp hp12
          obtain ⟨pa, pc, rfl, hbt⟩ := hcv
          refine ⟨⟨rfl, m.wrsb 0 rfl rfl, by simp [Value.oneCell']⟩, ?_⟩
          intro h13 e3
          replace m := m.setr 0 rfl e3
          clear e3
          simp only [List.set_cons_zero, List.set_cons_succ, setL] at m
          replace m := m.focus 1 rfl
          simp only [List.eraseIdx_cons_zero, List.eraseIdx_cons_succ] at m
          have hfl3 := flow_setF (g := (pullF q.tg q.iv now (q.flow k)).setL r) hq k0 k1
          have hdf := hv3.deficit m hok3 k0 k1
          rw [hfl3] at hdf
          refine ⟨_, hdf, ?_⟩
          refine ⟨_, _, _, m.cell 1 rfl rfl, ?_⟩
          have hd0 := hfo.d0
          have hd1 := hfo.d1
          refine ⟨by simp only [fits, setL_d]; omega, ?_⟩
          refine hv3.setD m hok3 k0 k1 fun h14 L4 hv4 m => ?_
          rw [hfl3, setF_setF] at hv4
          refine ⟨_, m.rowb 1 rfl rfl rfl, ⟨rfl, m.wrsb 2 rfl rfl, by simp [Value.oneCell']⟩, ?_⟩
          intro h15 e3
          replace m := m.setr 2 rfl e3
          refine ⟨_, m.rowb 2 rfl rfl rfl, ?_⟩
          rw [takeN_some ht hd his hp] at htk
          rw [← htk]
          exact ⟨_, _, _, E2, L4, _, rfl, ⟨pa, pc, rfl, hbt⟩, od2, hsd2, hv4, (((m.free 1 rfl).free 1 rfl).focus 1 rfl)⟩
        · have hmv := meas_empty hq ht hd hgd
          refine hv2.popE m hf he fun h16 L3 hv3 m3 => ?_
          rw [takeN_gone ht hd his (fun hc => hc.1 hf)] at htk
          exact lea_next hn (k := n) ⟨_, _, _, E2, L3, T, htk, by have := hmv.1; omega, hok2.popT, rfl, by rw [popT_cnt, List.length_append]; omega, od2, hsd2, hv3, m3⟩ (by omega)
  · obtain ⟨k, re, hke⟩ := List.exists_cons_of_ne_nil hf
    have ht : q.turn = some k := by unfold Qu.turn; rw [hke]
    obtain ⟨k0, k1⟩ := hq.b k (turn_mem ht)
    have hfo := (hq.flow k0 k1).2
    have hl : 0 < q.fresh.length := List.length_pos_iff.2 hf
    refine dcase_neg (by omega) ⟨_, _, _, hfr, dcase_neg (by omega) ⟨_, _, _, hfr, ⟨by omega, by omega⟩, ?_⟩⟩
    obtain ⟨sb, so, rfl, hr⟩ := src_cell (k := 0) (v := .int .i64 k) hfs (by rw [hke]; rfl)
    refine ⟨_, hr, ⟨k0, by omega⟩, _, hv.deficit m hq k0 k1, ?_⟩
    by_cases hd : (q.flow k).deficit ≤ 0
    · refine dcase_pos hd ⟨_, hv.deficit m hq k0 k1, ?_⟩
      have hd0 := hfo.d0
      refine ⟨by simp only [fits]; omega, hv.setD m hq k0 k1 fun h4 L1 hv1 m1 => ?_⟩
      have hok1 := hq.setF k0 k1 (setD_ok hfo (d := (q.flow k).deficit + 300) (by omega) (by omega)) (by simp)
      refine hv1.popF m1 hf fun h5 L2 hv2 m2 => ?_
      refine hv2.pushE m2 ?_ fun h8 L3 hv3 m3 => ?_
      · have := (hok1.popT).lens; omega
      rw [takeN_turn ht hd] at htk
      have hnot := popT_not hok1 (k := k) ht
      exact lea_next hn (k := n) ⟨_, d, vsd, Ed, L3, T, htk, by have := meas_turn hq ht hd; omega, (hok1.popT).addE hnot k0 k1, rfl, by rw [addE_cnt, popT_cnt, setD_cnt hq k0 k1]; exact hsum, od, hsd, hv3, m3⟩ (by omega)
    · refine dcase_neg hd ?_
      refine (fqpull_c m hv hq k0 k1 n0 n1).mono ?_
      rintro _ h9 ⟨a', c', vs', E', L2, rfl, o', hs', hv2, m2⟩
      clear m hv
      have hfo := (hq.flow k0 k1).2
      have hfc := hq.fcnt k0 k1
      have hok2 := hq.setF k0 k1 (pullF_ok (tg := q.tg) (iv := q.iv) hfo hfc n0 n1) (by simp [pullF])
      have hisd := isF_drop (tg := q.tg) (iv := q.iv) hfo hfc n0 n1
      have hcnt2 : (dropF q.tg q.iv now (q.flow k)).length + (q.setF k (pullF q.tg q.iv now (q.flow k))).cnt ≤ q.cnt := by
        have c3 := cntL_set (g := pullF q.tg q.iv now (q.flow k)) (hq.flow k0 k1).1
        have c1 := setF_cnt q k (pullF q.tg q.iv now (q.flow k))
        have e : q.cnt = cntL q.fl := rfl
        simp only [pullF, List.length_drop] at c3
        simp only [dropF, List.length_take]
        have := (pull_facts (tg := q.tg) (iv := q.iv) hfo hfc n0 n1).2.2.2.1
        simp only [pullF] at c1
        simp only [pullF]
        omega
      have hgd : (pullF q.tg q.iv now (q.flow k)).deficit = (q.flow k).deficit := rfl
      refine ⟨_, _, _, _, rfl, vs', ⟨o'.src m2 0 rfl, hs'.all fun _ _ => PkV.one⟩, ?_⟩
      refine od.app m2 3 rfl o'.len (by omega) (by decide) fun a2 c2 E2 h10 m' od2 => ?_
      clear m2
      simp only [List.set_cons_zero, List.set_cons_succ] at m'
      have m := m'.drop1
      clear m'
      have hsd2 := hsd.app hs'
      rw [← List.length_append] at od2 ⊢
      refine bcase_intro (fun his => ?_) fun his => ?_
      · obtain ⟨p, r, hp⟩ := hisd.1 his
        have hfl2 := flow_setF (g := pullF q.tg q.iv now (q.flow k)) hq k0 k1
        refine (shift_c m hv2 hok2 k0 k1 (p := p) (r := r) (by rw [hfl2]; exact hp)).mono ?_
        rintro _ h11 ⟨cs, L3, rfl, hcv, hv3, m⟩
        rw [hfl2, setF_setF] at hv3
        have hple : p.body.length ≤ 1048576 := (hfo.p p (List.mem_of_mem_drop (by unfold pullF at hp; dsimp only at hp; rw [hp]; simp))).2.2
        have hok3 : QOk (q.setF k ((pullF q.tg q.iv now (q.flow k)).setL r)) := hq.setF k0 k1 ⟨(pullF_ok (tg := q.tg) (iv := q.iv) hfo hfc n0 n1).c, fun x hx => (pullF_ok (tg := q.tg) (iv := q.iv) hfo hfc n0 n1).p x (by rw [hp]; simp at hx; simp [hx]), hfo.d0, hfo.d1⟩ (by
          have : (pullF q.tg q.iv now (q.flow k)).l.length ≤ (q.flow k).l.length := by simp [pullF]
          rw [hp] at this; simp at this ⊢; omega)
        refine ⟨_, rfl, ?_⟩
        (intro bN hN1 eN1 eN2; replace m := m.push eN2 eN1; clear eN1 eN2)
        rename_i bp hp12
        obtain ⟨pa, pc, rfl, hbt⟩ := hcv
        refine ⟨⟨rfl, m.wrsb 0 rfl rfl, by simp [Value.oneCell']⟩, ?_⟩
        intro h13 e3
        replace m := m.setr 0 rfl e3
        clear e3
        simp only [List.set_cons_zero, List.set_cons_succ, setL] at m
        replace m := m.focus 1 rfl
        simp only [List.eraseIdx_cons_zero, List.eraseIdx_cons_succ] at m
        have hfl3 := flow_setF (g := (pullF q.tg q.iv now (q.flow k)).setL r) hq k0 k1
        have hdf := hv3.deficit m hok3 k0 k1
        rw [hfl3] at hdf
        refine ⟨_, hdf, ?_⟩
        refine ⟨_, _, _, m.cell 1 rfl rfl, ?_⟩
        have hd0 := hfo.d0
        have hd1 := hfo.d1
        refine ⟨by simp only [fits, setL_d]; omega, ?_⟩
        refine hv3.setD m hok3 k0 k1 fun h14 L4 hv4 m => ?_
        rw [hfl3, setF_setF] at hv4
        refine ⟨_, m.rowb 1 rfl rfl rfl, ⟨rfl, m.wrsb 2 rfl rfl, by simp [Value.oneCell']⟩, ?_⟩
        intro h15 e3
        replace m := m.setr 2 rfl e3
        refine ⟨_, m.rowb 2 rfl rfl rfl, ?_⟩
        rw [takeN_some ht hd his hp] at htk
        rw [← htk]
        exact ⟨_, _, _, E2, L4, _, rfl, ⟨pa, pc, rfl, hbt⟩, od2, hsd2, hv4, (((m.free 1 rfl).free 1 rfl).focus 1 rfl)⟩
      · have hmv := meas_empty hq ht hd hgd
        refine hv2.popF m hf fun h16 L3 hv3 m3 => ?_
        obtain ⟨ea3, ec3, hel3, hes3⟩ := hv3.elder m3
        have hpe : ((q.setF k (pullF q.tg q.iv now (q.flow k))).popT).elder = q.elder := by rw [popF_is (q := q.setF k (pullF q.tg q.iv now (q.flow k))) hf]; rfl
        rw [hpe] at hel3
        refine ⟨_, _, _, hel3, ?_⟩
        by_cases he : q.elder = []
        · refine dcase_neg (by rw [he]; simp) ?_
          rw [takeN_gone ht hd his (fun hc => hc.2 he)] at htk
          exact lea_next hn (k := n) ⟨_, _, _, E2, L3, T, htk, by have := hmv.1; omega, hok2.popT, rfl, by rw [popT_cnt, List.length_append]; omega, od2, hsd2, hv3, m3⟩ (by omega)
        · have hle : 0 < q.elder.length := List.length_pos_iff.2 he
          refine dcase_pos (by omega) ?_
          refine hv3.pushE m3 (by rw [hpe]; omega) fun h33 L4 hv4 m4 => ?_
          rw [takeN_move ht hd his ⟨hf, he⟩] at htk
          have hnot := popT_not hok2 (k := k) ht
          exact lea_next hn (k := n) ⟨_, _, _, E2, L4, T, htk, by have := hmv.2 hf; omega, (hok2.popT).addE hnot k0 k1, rfl, by rw [addE_cnt, popT_cnt, List.length_append]; omega, od2, hsd2, hv4, m4⟩ (by omega)
end
end Go.Proofs.YtpcilleldanfmaaDoor

/- The program's queue of flows: New, Head, DropHead, Fattest, All. -/
set_option linter.unusedVariables false
set_option linter.unusedSimpArgs false
namespace Go.Proofs.YtpcilleldanfmaaDoor
open Go.Vc
section
variable {W W' : Wd} {h h' h1 : Heap} {G R : List Grp} {L E E0 Ef Ee : Grp} {B : Grp} {Es : List Grp} {css : List (List Value)} {q : Qu} {f g : Fl} {k d : Int} {b n : Nat} {cs : List Value} {p : Pk} {r : List Pk}
theorem new_c (m : Me W h R) (seed tg iv : Int) : Runs Tryd.prog 53 #[.int .u32 seed, .int .i64 tg, .int .i64 iv] h fun v h' => ∃ b L, v = .pointer (some ⟨b, 0, none⟩) ∧ QuV W b (qu0 seed tg iv) L ∧ Me W h' (L :: R) := by
  refine vc_fq_New _ _ _ _ _ ?_
  intro b h1 e1 e2
  replace m := m.push e2 e1
  have hc : QuC W (qu0 seed tg iv) (List.replicate 16 (.slice none 0 0 :: .int .i64 0 :: .int .i64 0 :: cV cs0)) (List.replicate 16 []) := by
    refine ⟨rfl, rfl, fun k f hf => ?_, fun c hc => by rw [List.mem_replicate] at hc; rw [hc.2]; rfl⟩
    simp only [qu0, List.getElem?_replicate] at hf ⊢
    split at hf
    · rename_i hk; cases hf
      rw [if_pos hk]
      exact ⟨_, _, rfl, by rw [if_pos hk], none, 0, [], rfl, Ow.nil, rfl⟩
    · cases hf
  exact ⟨b, _, rfl, ⟨_, _, none, 0, none, 0, [], [], _, hc, Ow.nil, Ow.nil, rfl⟩, m⟩
theorem own_c (hp : PkV (Wd.of h) p cs) (hl : p.body.length ≤ 1099511627776) :
    Runs Tryd.prog 60 #[.agg cs.toArray] h fun v h' => ∃ a c E, v = .agg #[.int .i64 p.id, .int .u32 p.flow, .int .i64 p.tid, .int .i64 p.at_, .slice a p.body.length c] ∧ Me (Wd.of h) h' [E] ∧ Ow a p.body.length c 1 (ints .u8 p.body) E := by
  obtain ⟨a, c, rfl, hbp⟩ := hp
  refine vc_fq_own _ _ _ ?_
  intro b1 h1 e1 e2 b2 h2 e3 e4
  have m := ((Me.start h).push e2 e1).push e4 e3
  clear e1 e2 e3 e4
  have k := m.kept (Wd.le.refl _)
  obtain ⟨ha, hla⟩ := (hbp.le k.le).src
  refine ⟨_, _, _, m.cell 1 rfl rfl, (clone_byte_c ha (by simp [ints]) ints_one (by omega)).mono ?_⟩
  rintro _ h3 ⟨a', c', E, rfl, mk, o⟩
  replace m := m.beside mk
  refine ⟨_, _, _, rfl, m.wrb 2 rfl rfl, ?_⟩
  intro h4 e1
  replace m := m.setc 2 rfl e1
  refine ⟨_, m.rowb 2 rfl rfl rfl, ⟨rfl, m.wrsb 1 rfl rfl, by simp [Value.oneCell']⟩, ?_⟩
  intro h5 e2
  replace m := m.setr 1 rfl e2
  exact ⟨_, m.rowb 1 rfl rfl rfl, a', c', E, rfl, (m.free 1 rfl).free 1 rfl, o⟩
/-- A copy of a packet, whose bytes from then on stay. -/
theorem own_m (m : Me W h G) (hp : PkV W p cs) (hl : p.body.length ≤ 1099511627776) :
    Runs Tryd.prog 60 #[.agg cs.toArray] h fun v h' => ∃ W' ds, W.le W' ∧ v = .agg ds.toArray ∧ PkV W' p ds ∧ Me W' h' G := by
  refine (own_c (hp.le m.leOf) hl).mono ?_
  rintro _ h1 ⟨a, c, E, rfl, mk, o⟩
  obtain ⟨W', hle, hE, m'⟩ := (m.beside mk).give
  exact ⟨W', _, hle, rfl, ⟨a, c, rfl, o.bts rfl hE⟩, m'⟩
theorem head_c (m : Me W h (L :: R)) (hv : QuV W b q L) (hq : QOk q) : Runs Tryd.prog 76 #[.pointer (some ⟨b, 0, none⟩), .int .i64 k] h fun v h' =>
    ∃ W' cs, W.le W' ∧ v = .tuple #[.agg cs.toArray, .bool (q.head k).isSome] ∧ PkV W' ((q.head k).getD pk0) cs ∧ Me W' h' (L :: R) := by
  refine vc_fq_Queue_Head _ _ _ _ ?_
  (intro bN hN1 eN1 eN2; replace m := m.push eN2 eN1; clear eN1 eN2)
  have none : q.head k = none → ∀ {h : Heap} {G : List Grp} {T : TypeId}, Me W h ([(bN, [.int .i64 0, .int .u32 0, .int .i64 0, .int .i64 0, .slice none 0 0], T)] :: L :: R) →
      ((([(.int .i64 (0 : Int)), (.int .u32 (0 : Int)), (.int .i64 (0 : Int)), (.int .i64 (0 : Int)), (.slice none 0 0)] : List Value)).length = 5 ∧ wrs h bN 0 5 ∧ ∀ u ∈ (([(.int .i64 (0 : Int)), (.int .u32 (0 : Int)), (.int .i64 (0 : Int)), (.int .i64 (0 : Int)), (.slice none 0 0)] : List Value) : List Value), u.oneCell' = true) ∧
      ∀ h3 : Heap, h3 = setr h bN 0 ([(.int .i64 (0 : Int)), (.int .u32 (0 : Int)), (.int .i64 (0 : Int)), (.int .i64 (0 : Int)), (.slice none 0 0)] : List Value) → ∃ cs2 : List Value, row h3 bN 0 5 = some cs2 ∧
      ∃ W' cs, W.le W' ∧ Value.tuple #[(.agg (cs2).toArray), (.bool false)] = .tuple #[.agg cs.toArray, .bool (q.head k).isSome] ∧ PkV W' ((q.head k).getD pk0) cs ∧ Me W' h3 (L :: R) := fun e {h G T} m => by
    refine ⟨⟨rfl, m.wrsb 0 rfl rfl, by simp [Value.oneCell']⟩, fun h3 e3 => ?_⟩
    replace m := m.setr 0 rfl e3
    rw [e]
    exact ⟨_, m.rowb 0 rfl rfl rfl, W, _, Wd.le.refl _, rfl, PkV.zero, m.drop1⟩
  refine dcase_intro (fun q1 => none (by unfold Qu.head; rw [if_neg (by omega)]) (G := []) m) fun q1 => dcase_intro (fun q2 => none (by unfold Qu.head; rw [if_neg (by omega)]) (G := []) m) fun q2 => ?_
  have k0 : 0 ≤ k := by omega
  have k1 : k < 16 := by omega
  have hh : q.head k = (q.flow k).l.head? := by unfold Qu.head; rw [if_pos ⟨k0, k1⟩]
  have mq := m.focus 1 rfl
  obtain ⟨a, c, vs, hcl, hsrc, hs⟩ := hv.flowL mq hq k0 k1
  refine ⟨⟨by omega, by omega⟩, _, _, _, hcl, ?_⟩
  refine dcase_intro (fun q3 => none (by rw [hh, List.eq_nil_of_length_eq_zero (l := (q.flow k).l) (by omega)]; rfl) (G := []) m) fun q3 => ?_
  clear none
  obtain ⟨p, r, hp⟩ := List.exists_cons_of_ne_nil (l := (q.flow k).l) (by rintro e; rw [e] at q3; simp at q3)
  obtain ⟨cs, hcv, hrow, hrl⟩ := hs.get (fun _ _ => PkV.len) (i := 0) (x := p) (by rw [hp]; rfl)
  rw [Nat.zero_mul] at hrow hrl
  obtain ⟨sb, so, rfl, hr⟩ := src_part (k := 0) (n := 5) hsrc (by omega) (by decide) hrow
  have hle := ((hq.flow k0 k1).2.p p (by rw [hp]; simp)).2.2
  refine ⟨⟨by omega, by omega⟩, _, _, _, hcl, ⟨by omega, by rw [hp]; simp⟩, _, hr, (own_m m hcv (by omega)).mono ?_⟩
  rintro _ h5 ⟨W', ds, hle, rfl, hds, m⟩
  obtain ⟨pa, pc, rfl, hbt⟩ := hds
  refine ⟨_, rfl, ⟨rfl, m.wrsb 0 rfl rfl, by simp [Value.oneCell']⟩, ?_⟩
  intro h6 e3
  replace m := m.setr 0 rfl e3
  rw [hh, hp]
  exact ⟨_, m.rowb 0 rfl rfl rfl, W', _, hle, rfl, ⟨pa, pc, rfl, hbt⟩, m.drop1⟩
theorem dropHead_c (m : Me W h (L :: R)) (hv : QuV W b q L) (hq : QOk q) : Runs Tryd.prog 59 #[.pointer (some ⟨b, 0, none⟩), .int .i64 k] h fun v h' =>
    ∃ W' cs L', W.le W' ∧ v = .tuple #[.agg cs.toArray, .bool (q.dropHead k).2.isSome] ∧ PkV W' ((q.dropHead k).2.getD pk0) cs ∧ QuV W' b (q.dropHead k).1 L' ∧ Me W' h' (L' :: R) := by
  refine vc_fq_Queue_DropHead _ _ _ _ ?_
  (intro bN hN1 eN1 eN2; replace m := m.push eN2 eN1; clear eN1 eN2)
  refine (head_c (m.focus 1 rfl) hv hq).mono ?_
  rintro _ h2 ⟨W', cs, hle, rfl, hcv, m⟩
  refine ⟨_, _, rfl, ?_⟩
  intro b2 h3 e1 e2
  replace m := m.push e2 e1
  clear e1 e2
  obtain ⟨pa, pc, rfl, hbt⟩ := hcv
  refine ⟨⟨rfl, m.wrsb 0 rfl rfl, by simp [Value.oneCell']⟩, ?_⟩
  intro h4 e3
  replace m := m.setr 0 rfl e3
  replace m := m.drop1
  clear e3
  simp only [List.eraseIdx_cons_zero, List.eraseIdx_cons_succ] at m
  cases hh : q.head k with
  | none =>
    have e : q.dropHead k = (q, none) := by unfold Qu.dropHead; rw [hh]
    rw [e]
    refine bcase_true rfl ⟨⟨rfl, m.wrsb 1 rfl rfl, by simp [Value.oneCell']⟩, fun h5 e3 => ?_⟩
    replace m := m.setr 1 rfl e3
    exact ⟨_, m.rowb 1 rfl rfl rfl, W', _, L, hle, rfl, PkV.zero, hv.le hle, m.free 1 rfl⟩
  | some p =>
    have hk : 0 ≤ k ∧ k < 16 := by
      unfold Qu.head at hh
      by_cases hk : 0 ≤ k ∧ k < 16
      · exact hk
      · rw [if_neg hk] at hh; cases hh
    obtain ⟨k0, k1⟩ := hk
    have hp : (q.flow k).l = p :: (q.flow k).l.tail := by
      unfold Qu.head at hh
      rw [if_pos ⟨k0, k1⟩] at hh
      cases he : (q.flow k).l with
      | nil => rw [he] at hh; cases hh
      | cons x r => rw [he] at hh; simp at hh; subst hh; rfl
    have e : q.dropHead k = (q.setF k ((q.flow k).setL (q.flow k).l.tail), some p) := by unfold Qu.dropHead; rw [hh]
    rw [e]
    refine bcase_false rfl ((shift_c m (hv.le hle) hq k0 k1 hp).mono ?_)
    rintro _ h6 ⟨cs, L', rfl, hcv, hv', m⟩
    obtain ⟨pa, pc, rfl, hbt⟩ := hcv
    refine ⟨_, rfl, ⟨rfl, m.wrsb 1 rfl rfl, by simp [Value.oneCell']⟩, fun h5 e3 => ?_⟩
    replace m := m.setr 1 rfl e3
    exact ⟨_, m.rowb 1 rfl rfl rfl, W', _, L', hle, rfl, ⟨pa, pc, rfl, hbt⟩, hv', m.free 1 rfl⟩
theorem fattest_c (m : Me W h (L :: R)) (hv : QuV W b q L) (hq : QOk q) : Runs Tryd.prog 58 #[.pointer (some ⟨b, 0, none⟩)] h fun v h' => v = .tuple #[.int .i64 q.fattest.1, .int .i64 q.fattest.2] ∧ h' = h := by
  refine vc_fq_Queue_Fattest _ _ _ ?_
  refine ⟨fun best most x h' => h' = h ∧ ∃ k : Nat, x = k ∧ k ≤ 16 ∧ fatN (q.fl.drop k) k (best, most) = fatN q.fl 0 (0, -1), fun _ _ x _ => (16 - x).toNat, ⟨rfl, 0, rfl, by omega, rfl⟩, fun _ => ?_⟩
  rintro best most _ h1 ⟨rfl, k, rfl, hk, hf⟩
  refine dcase_intro (fun q1 => ?_) fun q1 => ?_
  · have hk1 : k < 16 := by omega
    have hfl := flow_at hq hk1
    rw [fatN_cons hfl] at hf
    obtain ⟨a, c, vs, hcl, hsrc, hs⟩ := hv.flowL m hq (k := (k : Int)) (by omega) (by omega)
    have hb := hv.flowB m hq (k := (k : Int)) (by omega) (by omega)
    have next : ∀ s, s = (if (q.flow (k : Int)).l ≠ [] ∧ most < bytP (q.flow (k : Int)).l then ((k : Int), bytP (q.flow (k : Int)).l) else (best, most)) → fatN (q.fl.drop (k + 1)) ((k : Int) + 1) s = fatN q.fl 0 (0, -1) := fun s e => by rw [e]; exact hf
    refine ⟨⟨by omega, by omega⟩, _, _, _, hcl, dcase_intro (fun q2 => ⟨_, hb, dcase_intro (fun q3 => ⟨_, hb, ?_⟩) fun q3 => ?_⟩) fun q2 => ?_⟩
    · refine ⟨by simp only [fits]; omega, ⟨rfl, k + 1, by omega, by omega, next _ ?_⟩, by dsimp only; omega⟩
      rw [if_pos ⟨fun e => by rw [e] at q2; simp at q2, q3⟩]
    · refine ⟨by simp only [fits]; omega, ⟨rfl, k + 1, by omega, by omega, next _ ?_⟩, by dsimp only; omega⟩
      rw [if_neg (fun hc => q3 hc.2)]
    · refine ⟨by simp only [fits]; omega, ⟨rfl, k + 1, by omega, by omega, next _ ?_⟩, by dsimp only; omega⟩
      rw [if_neg (fun hc => q2 (by have := List.length_pos_iff.2 hc.1; omega))]
  · obtain rfl : k = 16 := by omega
    rw [List.drop_of_length_le (by rw [hq.len]; omega)] at hf
    refine ⟨?_, rfl⟩
    unfold Qu.fattest
    rw [← hf]
    rfl
/-- Packets whose bytes are ours: a group each. -/
def PksO : List Pk → List Value → List Grp → Prop
  | [], vs, Fs => vs = [] ∧ Fs = []
  | p :: ps, vs, Fs => ∃ a c F r Gs, vs = [.int .i64 p.id, .int .u32 p.flow, .int .i64 p.tid, .int .i64 p.at_, .slice a p.body.length c] ++ r ∧ Fs = F :: Gs ∧ Ow a p.body.length c 1 (ints .u8 p.body) F ∧ PksO ps r Gs
theorem PksO.snoc {p : Pk} {a : Option Addr} {c : Nat} {F : Grp} (ho : Ow a p.body.length c 1 (ints .u8 p.body) F) : ∀ {ps : List Pk} {vs : List Value} {Fs : List Grp}, PksO ps vs Fs → PksO (ps ++ [p]) (vs ++ [.int .i64 p.id, .int .u32 p.flow, .int .i64 p.tid, .int .i64 p.at_, .slice a p.body.length c]) (Fs ++ [F])
  | [], _, _, ⟨h1, h2⟩ => by subst h1 h2; exact ⟨a, c, F, [], [], by simp, rfl, ho, rfl, rfl⟩
  | x :: ps, _, _, ⟨a1, c1, F1, r, Gs, h1, h2, h3, h4⟩ => by subst h1 h2; exact ⟨a1, c1, F1, _, _, by simp, by simp, h3, h4.snoc ho⟩
theorem PksO.len : ∀ {ps : List Pk} {vs : List Value} {Fs : List Grp}, PksO ps vs Fs → Fs.length = ps.length
  | [], _, _, ⟨h1, h2⟩ => by subst h2; rfl
  | x :: ps, _, _, ⟨a1, c1, F1, r, Gs, h1, h2, h3, h4⟩ => by subst h2; simp [h4.len]
theorem PksO.get : ∀ {ps : List Pk} {vs : List Value} {Fs : List Grp} {i : Nat} {p : Pk}, PksO ps vs Fs → ps[i]? = some p → ∃ a c F, Fs[i]? = some F ∧ Ow a p.body.length c 1 (ints .u8 p.body) F ∧
    (vs.drop (i * 5)).take 5 = [.int .i64 p.id, .int .u32 p.flow, .int .i64 p.tid, .int .i64 p.at_, .slice a p.body.length c] ∧ i * 5 + 5 ≤ vs.length
  | [], _, _, _, _, _, h => by simp at h
  | x :: ps, _, _, 0, p, ⟨a1, c1, F1, r, Gs, h1, h2, h3, h4⟩, h => by
    simp at h; subst h h1 h2
    exact ⟨a1, c1, F1, rfl, h3, by simp, by simp⟩
  | x :: ps, _, _, i + 1, p, ⟨a1, c1, F1, r, Gs, h1, h2, h3, h4⟩, h => by
    subst h1 h2
    obtain ⟨a, c, F, g1, g2, g3, g4⟩ := h4.get (i := i) (p := p) (by simpa using h)
    refine ⟨a, c, F, by simpa using g1, g2, ?_, by simp; omega⟩
    rw [show (i + 1) * 5 = 5 + i * 5 by omega, ← List.drop_drop]
    exact g3
theorem PksO.upd : ∀ {ps : List Pk} {vs : List Value} {Fs : List Grp} {i : Nat} {p : Pk}, PksO ps vs Fs → ps[i]? = some p → ∃ a c F, Fs[i]? = some F ∧ Ow a p.body.length c 1 (ints .u8 p.body) F ∧
    (vs.drop (i * 5)).take 5 = [.int .i64 p.id, .int .u32 p.flow, .int .i64 p.tid, .int .i64 p.at_, .slice a p.body.length c] ∧ i * 5 + 5 ≤ vs.length ∧
    ∀ (xs : List Int) (F' : Grp), xs.length = p.body.length → Ow a p.body.length c 1 (ints .u8 xs) F' → PksO (ps.set i ⟨p.id, p.flow, p.tid, p.at_, xs⟩) vs (Fs.set i F')
  | [], _, _, _, _, _, h => by simp at h
  | x :: ps, _, _, 0, p, ⟨a1, c1, F1, r, Gs, h1, h2, h3, h4⟩, h => by
    simp at h; subst h h1 h2
    exact ⟨a1, c1, F1, rfl, h3, by simp, by simp, fun xs F' hl ho => ⟨a1, c1, F', r, Gs, by rw [← hl], rfl, by rw [← hl] at ho; exact ho, h4⟩⟩
  | x :: ps, _, _, i + 1, p, ⟨a1, c1, F1, r, Gs, h1, h2, h3, h4⟩, h => by
    subst h1 h2
    obtain ⟨a, c, F, g1, g2, g3, g4, g5⟩ := h4.upd (i := i) (p := p) (by simpa using h)
    refine ⟨a, c, F, by simpa using g1, g2, ?_, by simp; omega, fun xs F' hl ho => ⟨a1, c1, F1, r, _, rfl, rfl, h3, g5 xs F' hl ho⟩⟩
    rw [show (i + 1) * 5 = 5 + i * 5 by omega, ← List.drop_drop]
    exact g3
theorem PksO.sq {W : Wd} : ∀ {ps : List Pk} {vs : List Value} {Fs : List Grp}, PksO ps vs Fs → (∀ x ∈ Fs.flatten, W x.1 = some (.cells x.2.1.toArray x.2.2)) → Sq (PkV W) ps vs
  | [], _, _, ⟨h1, h2⟩, _ => h1
  | x :: ps, _, _, ⟨a1, c1, F1, r, Gs, h1, h2, h3, h4⟩, hW => by
    subst h1 h2
    exact ⟨_, r, rfl, ⟨a1, c1, rfl, h3.bts rfl fun y hy => hW y (by simp [hy])⟩, h4.sq fun y hy => hW y (by simp only [List.flatten_cons, List.mem_append]; exact .inr hy)⟩
theorem all_o (m : Me W h (L :: R)) (hv : QuV W b q L) (hq : QOk q) : Runs Tryd.prog 38 #[.pointer (some ⟨b, 0, none⟩)] h fun v h' =>
    ∃ a c vs E Fs, v = .slice a (allL q.fl).length c ∧ Ow a (allL q.fl).length c 5 vs E ∧ PksO (allL q.fl) vs Fs ∧ Me W h' (E :: Fs.flatten :: L :: R) := by
  have hcnt := hq.cnt
  have ecn : q.cnt = cntL q.fl := rfl
  refine vc_fq_Queue_All _ _ _ ?_
  refine ⟨fun oa ol oc x h' => ∃ (j : Nat) (vs : List Value) (E : Grp) (Fs : List Grp), x = j ∧ j ≤ 16 ∧ ol = (allL (q.fl.take j)).length ∧ Ow oa ol oc 5 vs E ∧ PksO (allL (q.fl.take j)) vs Fs ∧ Me W h' (E :: Fs.flatten :: L :: R), fun _ _ _ x _ => (16 - x).toNat,
    ⟨0, [], [], [], rfl, by omega, rfl, Ow.nil, ⟨rfl, rfl⟩, m.nilI.nilI⟩, fun _ => ?_⟩
  clear m
  rintro oa ol oc _ h1 ⟨j, vs, E, Fs, rfl, hj, hol, o, hs, m⟩
  subst ol
  refine dcase_intro (fun q1 => ?_) fun q1 => ?_
  · have hj1 : j < 16 := by omega
    have hfl := flow_at hq hj1
    have hbd := allL_bd hfl
    obtain ⟨a, c, vf, hsf, hfk⟩ := hv.flowK hq (k := (j : Int)) (by omega) (by omega)
    refine ⟨⟨by omega, by omega⟩, _, _, _, (hfk (m.focus 2 rfl)).1, ?_⟩
    refine ⟨fun oa ol oc x h' => ∃ (i : Nat) (vs : List Value) (E : Grp) (Fs : List Grp), x = i ∧ i ≤ (q.flow (j : Int)).l.length ∧ ol = (allL (q.fl.take j) ++ (q.flow (j : Int)).l.take i).length ∧ Ow oa ol oc 5 vs E ∧ PksO (allL (q.fl.take j) ++ (q.flow (j : Int)).l.take i) vs Fs ∧ Me W h' (E :: Fs.flatten :: L :: R),
      fun _ _ _ x _ => (((q.flow (j : Int)).l.length : Int) - x).toNat, ⟨0, vs, E, Fs, rfl, by omega, by simp, o, by simpa using hs, m⟩, fun _ => ?_⟩
    clear m hs o
    rintro oa2 ol oc2 _ h2 ⟨i, vs, E, Fs, rfl, hi, hol, o, hs, m⟩
    subst ol
    refine dcase_intro (fun q2 => ?_) fun q2 => ?_
    · obtain ⟨x, hx⟩ : ∃ x, (q.flow (j : Int)).l[i]? = some x := ⟨_, List.getElem?_eq_getElem (by omega)⟩
      obtain ⟨cs, hcv, hrow, hrl⟩ := hsf.get (fun _ _ => PkV.len) hx
      obtain ⟨sb, so, rfl, hr⟩ := src_part (k := i * 5) (n := 5) (hfk (m.focus 2 rfl)).2 hrl (by decide) hrow
      refine ⟨⟨by omega, by omega⟩, _, hr, ?_⟩
      (intro bN hN1 eN1 eN2; replace m := m.push eN2 eN1; clear eN1 eN2)
      obtain ⟨pa, pc, rfl, hbt⟩ := hcv
      refine ⟨⟨rfl, m.wrsb 0 rfl rfl, by simp [Value.oneCell']⟩, ?_⟩
      intro h4 e3
      replace m := m.setr 0 rfl e3
      clear e3
      have hle5 := ((hq.flow (k := (j : Int)) (by omega) (by omega)).2.p x (List.mem_of_getElem? hx)).2.2
      refine ⟨_, m.rowb 0 rfl rfl rfl, (own_c (p := x) ⟨pa, pc, rfl, hbt.le m.leOf⟩ (by omega)).mono ?_⟩
      rintro _ h5 ⟨a3, c3, F, rfl, mk, o3⟩
      replace m := (m.drop1).beside mk
      clear mk
      simp only [List.cons_append, List.nil_append] at m
      refine ⟨_, rfl, rfl, ?_⟩
      have hli : (allL (q.fl.take j) ++ (q.flow (j : Int)).l.take i).length = (allL (q.fl.take j)).length + i := by simp; omega
      refine o.app1 m 1 rfl rfl (by simp [Value.oneCell']) (by omega) (by decide) fun a2 c2 E2 h6 m' o2 => ?_
      simp only [List.append_nil, List.set_cons_zero, List.set_cons_succ] at o2 m'
      refine ⟨by simp only [fits]; omega, ⟨i + 1, _, E2, Fs ++ [F], by omega, by omega, ?_, o2, ?_, m'.perm ?_⟩, by dsimp only; omega⟩
      · rw [← take_snoc hx]; simp; omega
      · rw [← take_snoc hx, ← List.append_assoc]
        exact hs.snoc o3
      · simp only [List.flatten_cons, List.flatten_append, List.flatten_nil, List.append_nil, List.append_assoc]
        have h1 := List.perm_append_comm_assoc F E2 (Fs.flatten ++ (L ++ R.flatten))
        refine h1.trans (List.Perm.append_left _ ?_)
        exact List.perm_append_comm_assoc F Fs.flatten (L ++ R.flatten)
    · obtain rfl : i = (q.flow (j : Int)).l.length := by omega
      rw [List.take_length] at hs o
      rw [← allL_take hfl] at hs o
      refine ⟨by simp only [fits]; omega, ⟨j + 1, vs, E, Fs, by omega, by omega, by rw [List.take_length, ← allL_take hfl], ?_, hs, m⟩, by dsimp only; omega⟩
      rw [List.take_length, ← allL_take hfl]
      exact o
  · obtain rfl : j = 16 := by omega
    have e : q.fl.take 16 = q.fl := List.take_of_length_le (by rw [hq.len]; omega)
    rw [e] at o hs ⊢
    exact ⟨oa, oc, vs, E, Fs, rfl, o, hs, m⟩
theorem all_c (m : Me W h (L :: R)) (hv : QuV W b q L) (hq : QOk q) : Runs Tryd.prog 38 #[.pointer (some ⟨b, 0, none⟩)] h fun v h' =>
    ∃ W' a c vs E, W.le W' ∧ v = .slice a (allL q.fl).length c ∧ Ow a (allL q.fl).length c 5 vs E ∧ Sq (PkV W') (allL q.fl) vs ∧ Me W' h' (E :: L :: R) := by
  refine (all_o m hv hq).mono ?_
  rintro _ h1 ⟨a, c, vs, E, Fs, rfl, o, hs, m⟩
  obtain ⟨W', hle, hE, m'⟩ := (m.focus 1 rfl).give
  exact ⟨W', a, c, vs, E, hle, rfl, o, hs.sq hE, m'⟩
end
end Go.Proofs.YtpcilleldanfmaaDoor

/- The program's queue of flows: Clone. -/
set_option linter.unusedVariables false
set_option linter.unusedSimpArgs false
namespace Go.Proofs.YtpcilleldanfmaaDoor
open Go.Vc
section
variable {W W' : Wd} {h h' h1 : Heap} {G R : List Grp} {L E E0 Ef Ee : Grp} {B : Grp} {Es : List Grp} {css : List (List Value)} {q : Qu} {f g : Fl} {k d : Int} {b n : Nat} {cs : List Value} {p : Pk} {r : List Pk}
theorem perm3 {α : Type} (A B C X : List α) : (A ++ (B ++ (C ++ X))).Perm (C ++ (B ++ (A ++ X))) := by
  have h1 := List.perm_append_comm_assoc (A ++ B) C X
  simp only [List.append_assoc] at h1
  exact h1.trans ((List.perm_append_comm_assoc A B X).append_left C)
theorem srcQ {a : Option Addr} {l c : Nat} {vs : List Value} (hE : Es[n]? = some E) (o : Ow a l c 5 vs E) (m : Me W h ((B ++ (Ef ++ (Ee ++ Es.flatten))) :: R)) : src h a (l * 5) vs := o.src (m.openQ hE) 1 rfl
theorem setL_all {vs us : List Value} (h : us.length = vs.length) : setL vs 0 us = us := by
  rw [setL_eq (by omega), List.take_zero, List.nil_append, List.drop_of_length_le (by omega), List.append_nil]
theorem q_one {fa ea : Option Addr} {fc ec : Nat} (hc : QuC W q css Es) (hq : QOk q) : ∀ u ∈ ck (q3 q) css (q4 q fa fc ea ec), u.oneCell' = true := by
  intro u hu
  unfold ck at hu
  rcases List.mem_append.1 hu with hu | hu
  · simp [q3] at hu; rcases hu with rfl | rfl | rfl <;> rfl
  rcases List.mem_append.1 hu with hu | hu
  · obtain ⟨cs, hcs, hu⟩ := List.mem_flatten.1 hu
    obtain ⟨k, hk⟩ := List.mem_iff_getElem?.1 hcs
    have hkl := (List.getElem?_eq_some_iff.1 hk).1
    have h1 := hc.n1
    obtain ⟨cs', E, h2, h3, a, c, vs, rfl, _, _⟩ := hc.f k _ (flow_at hq (by omega))
    rw [hk] at h2; cases h2
    simp [cV] at hu
    rcases hu with rfl | rfl | rfl | rfl | rfl | rfl | rfl | rfl <;> rfl
  · simp [q4] at hu; rcases hu with rfl | rfl | rfl | rfl <;> rfl
/-- A copy under way: so many flows are done. -/
structure Cp (W : Wd) (q : Qu) (css css1 : List (List Value)) (Es1 : List Grp) (j : Nat) : Prop where
  n1 : css1.length = 16
  n2 : Es1.length = 16
  n8 : ∀ c ∈ css1, c.length = 8
  done : ∀ k, k < j → ∀ f, q.fl[k]? = some f → ∃ cs E, css1[k]? = some cs ∧ Es1[k]? = some E ∧ FlV W f cs E
  rest : ∀ k, j ≤ k → k < 16 → css1[k]? = css[k]? ∧ Es1[k]? = some []
theorem Cp.le {css1 : List (List Value)} {Es1 : List Grp} {j : Nat} (hl : W.le W') (hc : Cp W q css css1 Es1 j) : Cp W' q css css1 Es1 j :=
  ⟨hc.n1, hc.n2, hc.n8, fun k hk f hf => by obtain ⟨cs, E, h1, h2, h3⟩ := hc.done k hk f hf; exact ⟨cs, E, h1, h2, h3.le hl⟩, hc.rest⟩
theorem Cp.step {css1 : List (List Value)} {Es1 : List Grp} {j : Nat} (hq : QOk q) (hc : Cp W q css css1 Es1 j) (hj : j < 16) (hf : FlV W (q.flow (j : Int)) cs E) (hl : cs.length = 8) : Cp W q css (css1.set j cs) (Es1.set j E) (j + 1) := by
  have h1 := hc.n1
  have h2 := hc.n2
  refine ⟨by simp [h1], by simp [h2], ckn hc.n8 hl, fun k hk f hf' => ?_, fun k hk hk16 => ?_⟩
  · rw [List.getElem?_set, List.getElem?_set]
    by_cases e : j = k
    · subst e
      rw [flow_at hq hj] at hf'; cases hf'
      rw [if_pos rfl, if_pos rfl, if_pos (by omega), if_pos (by omega)]
      exact ⟨_, _, rfl, rfl, hf⟩
    · rw [if_neg e, if_neg e]
      exact hc.done k (by omega) f hf'
  · rw [List.getElem?_set_ne (by omega), List.getElem?_set_ne (by omega)]
    exact hc.rest k (by omega) hk16
set_option maxRecDepth 10000 in
theorem clone_c (m : Me W h (L :: R)) (hv : QuV W b q L) (hq : QOk q) : Runs Tryd.prog 43 #[.pointer (some ⟨b, 0, none⟩)] h fun v h' =>
    ∃ W' b' L', W.le W' ∧ v = .pointer (some ⟨b', 0, none⟩) ∧ QuV W' b' q L' ∧ Me W' h' (L' :: L :: R) := by
  have hv0 := hv
  have hcnt := hq.cnt
  have hls := hq.lens
  have ecn : q.cnt = cntL q.fl := rfl
  obtain ⟨css, Es, fa, fc, ea, ec, Ef, Ee, T, hc, of, oe, hL⟩ := hv
  have hck : (ck (q3 q) css (q4 q fa fc ea ec)).length = 135 := by rw [ck_len hc.n8, hc.n1]; rfl
  have hrow : row h b 0 135 = some (ck (q3 q) css (q4 q fa fc ea ec)) := by
    have m' := m
    rw [hL] at m'
    exact m'.split.row 0 rfl (by rw [List.drop_zero, List.take_of_length_le (by omega)]) (by omega)
  refine vc_fq_Queue_Clone _ _ _ ⟨_, hrow, ?_⟩
  intro b1 h1 e1 e2
  replace m := m.push e2 e1
  clear e1 e2
  obtain ⟨zs, T1, hz, m⟩ : ∃ (zs : List Value) (T1 : TypeId), zs.length = 135 ∧ Me W h1 ([(b1, zs, T1)] :: L :: R) := ⟨_, _, rfl, m⟩
  refine ⟨⟨hck, m.wrs 0 rfl (by omega), q_one hc hq⟩, ?_⟩
  intro h2 e3
  replace m := m.setr 0 rfl e3
  clear e3
  simp only [List.set_cons_zero] at m
  rw [setL_all (by rw [hck, hz])] at m
  clear hz hrow hck zs
  -- both lists
  have rdF : ∀ {W1 : Wd} {h1 : Heap} {R1 : List Grp}, Me W1 h1 (L :: R1) → cell h1 b 131 = some (.slice fa q.fresh.length fc) ∧ src h1 fa q.fresh.length (ints .i64 q.fresh) ∧ cell h1 b 132 = some (.slice ea q.elder.length ec) ∧ src h1 ea q.elder.length (ints .i64 q.elder) := fun m => by
    rw [hL] at m
    have m2 := m.split
    have m3 := (m2.focus 1 rfl).split
    have m4 := (m3.focus 1 rfl).split
    exact ⟨m2.pget 0 rfl hc.n8 hc.n1 0 rfl rfl, of.src1 m3 0 rfl, m2.pget 0 rfl hc.n8 hc.n1 1 rfl rfl, oe.src1 m4 0 rfl⟩
  obtain ⟨r1, r2, r3, r4⟩ := rdF (m.focus 1 rfl)
  refine ⟨_, _, _, r1, _, _, _, r3, ?_⟩
  refine (clone_int_c r2 (by simp [ints]) ints_one (by omega)).mono ?_
  rintro _ h3 ⟨fa', fc', Ef', rfl, mk, of'⟩
  replace m := m.beside mk
  clear mk r1 r2 r3 r4
  simp only [List.cons_append, List.nil_append] at m
  obtain ⟨r1, r2, r3, r4⟩ := rdF (m.focus 2 rfl)
  refine ⟨_, _, _, rfl, r3, ?_⟩
  refine (clone_int_c r4 (by simp [ints]) ints_one (by omega)).mono ?_
  rintro _ h4 ⟨ea', ec', Ee', rfl, mk, oe'⟩
  replace m := m.beside mk
  clear mk r1 r2 r3 r4 rdF
  simp only [List.cons_append, List.nil_append] at m
  refine ⟨_, _, _, rfl, ?_⟩
  refine m.pset 2 rfl hc.n8 hc.n1 0 rfl (Nat.le_of_ble_eq_true rfl) fun h5 m5 => ?_
  clear m
  refine m5.pset 2 rfl hc.n8 hc.n1 1 rfl (Nat.le_of_ble_eq_true rfl) fun h6 m => ?_
  clear m5
  simp only [List.set_cons_zero, List.set_cons_succ] at m
  have hp4 : ((q4 q fa fc ea ec).set 0 (.slice fa' q.fresh.length fc')).set 1 (.slice ea' q.elder.length ec') = q4 q fa' fc' ea' ec' := rfl
  rw [hp4] at m
  have hnil : (List.replicate 16 ([] : Grp)).flatten = [] := rfl
  have m0 : Me W h6 ([(b1, ck (q3 q) css (q4 q fa' fc' ea' ec'), T1)] :: (List.replicate 16 ([] : Grp)).flatten :: Ee' :: Ef' :: L :: R) := (((m.focus 2 rfl).nilI.perm (G' := _ :: [] :: Ee' :: Ef' :: L :: R) (by simp)))
  clear m
  refine ⟨fun x h' => ∃ (j : Nat) (W1 : Wd) (css1 : List (List Value)) (Es1 : List Grp), x = j ∧ j ≤ 16 ∧ W.le W1 ∧ Cp W1 q css css1 Es1 j ∧ Me W1 h' ([(b1, ck (q3 q) css1 (q4 q fa' fc' ea' ec'), T1)] :: Es1.flatten :: Ee' :: Ef' :: L :: R), fun x _ => (16 - x).toNat,
    ⟨0, W, css, List.replicate 16 [], rfl, by omega, Wd.le.refl _, ⟨hc.n1, rfl, hc.n8, fun k hk => absurd hk (by omega), fun k _ hk => ⟨rfl, by rw [List.getElem?_replicate, if_pos hk]⟩⟩, m0⟩, fun _ => ?_⟩
  clear m0 hnil hp4
  rintro _ h7 ⟨j, W1, css1, Es1, rfl, hj, hle, hcp, m⟩
  refine dcase_intro (fun q1 => ?_) fun q1 => ?_
  · have hj1 : j < 16 := by omega
    have hfl := flow_at hq hj1
    have hfo := (hq.flow (k := (j : Int)) (by omega) (by omega)).2
    have hbd := cntL_ge hfl
    obtain ⟨cs0, E0, hcs0, hE0, a, c, vf, rfl, o0, hsf⟩ := hc.f j _ hfl
    obtain ⟨hr1, hr2⟩ := hcp.rest j (Nat.le_refl _) hj1
    rw [hcs0] at hr1
    have hn := hcp.n8
    have hN := hcp.n1
    have hk : (j : Int).toNat < css1.length := by omega
    have hcs1 : css1 = css1.set (j : Int).toNat (.slice a (q.flow (j : Int)).l.length c :: .int .i64 (bytP (q.flow (j : Int)).l) :: .int .i64 (q.flow (j : Int)).deficit :: cV (q.flow (j : Int)).c) := by
      apply List.ext_getElem?
      intro i
      rw [List.getElem?_set]
      split
      · rename_i e; subst e; exact hr1
      · rfl
    have m1 : Me W1 h7 ([(b1, ck (q3 q) css1 (q4 q fa' fc' ea' ec'), T1)] :: [] :: (Es1.eraseIdx j).flatten :: Ee' :: Ef' :: L :: R) := ((m.focus 1 rfl).pick j hr2).perm (by simp)
    rw [hcs1] at m1
    clear m
    have m := m1
    clear m1
    refine ⟨⟨by omega, by omega⟩, ?_⟩
    refine ⟨_, _, _, m.fget 0 rfl hn hk rfl 0 rfl rfl, ?_⟩
    refine ⟨⟨by omega, by omega⟩, ?_⟩
    (refine m.fset 0 rfl hn hk rfl 0 rfl rfl ?_; clear m; intro _ m; simp only [List.set_cons_zero, List.set_cons_succ] at m)
    refine ⟨fun x h' => ∃ (i : Nat) (W2 : Wd) (a2 : Option Addr) (c2 : Nat) (vs : List Value) (E2 : Grp), x = i ∧ i ≤ (q.flow (j : Int)).l.length ∧ W1.le W2 ∧ Ow a2 i c2 5 vs E2 ∧ Sq (PkV W2) ((q.flow (j : Int)).l.take i) vs ∧
        Me W2 h' ([(b1, ck (q3 q) (css1.set (j : Int).toNat (.slice a2 i c2 :: .int .i64 (bytP (q.flow (j : Int)).l) :: .int .i64 (q.flow (j : Int)).deficit :: cV (q.flow (j : Int)).c)) (q4 q fa' fc' ea' ec'), T1)] :: E2 :: (Es1.eraseIdx j).flatten :: Ee' :: Ef' :: L :: R),
      fun x _ => (((q.flow (j : Int)).l.length : Int) - x).toNat, ⟨0, W1, none, 0, [], [], rfl, by omega, Wd.le.refl _, Ow.nil, rfl, m⟩, fun _ => ?_⟩
    clear m
    rintro _ h9 ⟨i, W2, a2, c2, vs, E2, rfl, hi, hle2, o2, hs2, m⟩
    refine dcase_intro (fun q2 => ?_) fun q2 => ?_
    · obtain ⟨x, hx⟩ : ∃ x, (q.flow (j : Int)).l[i]? = some x := ⟨_, List.getElem?_eq_getElem (by omega)⟩
      obtain ⟨cs, hcv, hrow, hrl⟩ := hsf.get (fun _ _ => PkV.len) hx
      have mL := m.focus 5 rfl
      rw [hL] at mL
      obtain ⟨sb, so, rfl, hr⟩ := src_part (k := i * 5) (n := 5) (srcQ (c := c) hE0 o0 mL) hrl (by decide) hrow
      clear mL
      refine ⟨⟨by omega, by omega⟩, _, hr, ?_⟩
      (intro bN hN1 eN1 eN2; replace m := m.push eN2 eN1; clear eN1 eN2)
      obtain ⟨pa, pc, rfl, hbt⟩ := hcv
      refine ⟨⟨rfl, m.wrsb 0 rfl rfl, by simp [Value.oneCell']⟩, ?_⟩
      intro h11 e3
      replace m := m.setr 0 rfl e3
      clear e3
      simp only [List.set_cons_zero, List.set_cons_succ, setL] at m
      refine ⟨⟨by omega, by omega⟩, ?_⟩
      refine ⟨_, _, _, m.fget 1 rfl hn hk rfl 0 rfl rfl, ?_⟩
      have hle5 := (hfo.p x (List.mem_of_getElem? hx)).2.2
      refine ⟨_, m.rowb 0 rfl rfl rfl, (own_m m.drop1 (p := x) ⟨pa, pc, rfl, hbt.le (hle.trans hle2)⟩ (by omega)).mono ?_⟩
      rintro _ h12 ⟨W3, ds, hle4, rfl, hds, m5⟩
      clear m
      have m := m5
      clear m5
      refine ⟨_, rfl, m.fget 0 rfl hn hk rfl 0 rfl rfl, hds.len, ?_⟩
      refine o2.app1 m 1 rfl (by simp [hds.len]) (by simpa using hds.one) (by omega) (by decide) fun a3 c3 E3 h14 m' o3 => ?_
      clear m
      have m := m'
      clear m'
      rw [List.append_nil] at o3
      simp only [List.set_cons_zero, List.set_cons_succ] at m
      refine ⟨⟨by omega, by omega⟩, ?_⟩
      (refine m.fset 0 rfl hn hk rfl 0 rfl rfl ?_; clear m; intro _ m; simp only [List.set_cons_zero, List.set_cons_succ] at m)
      refine ⟨by simp only [fits]; omega, ⟨i + 1, W3, a3, c3, _, E3, by omega, by omega, hle2.trans hle4, o3, ?_, m⟩, by dsimp only; omega⟩
      rw [← take_snoc hx]
      exact (hs2.mono fun _ _ h => h.le hle4).snoc hds
    · obtain rfl : i = (q.flow (j : Int)).l.length := by omega
      rw [List.take_length] at hs2
      refine ⟨by simp only [fits]; omega, ⟨j + 1, W2, _, _, by omega, by omega, hle.trans hle2, (hcp.le hle2).step hq hj1 (cs := _) (E := E2) ⟨a2, c2, vs, rfl, o2, hs2⟩ rfl, ?_⟩, by dsimp only; omega⟩
      exact (Me.unpick j hr2 ((m.focus 2 rfl).focus 2 rfl)).focus 1 rfl
  · obtain rfl : j = 16 := by omega
    have hc2 : QuC W1 q css1 Es1 := ⟨hcp.n1, hcp.n2, fun k f hf => hcp.done k (by have := (List.getElem?_eq_some_iff.1 hf).1; rw [hq.len] at this; exact this) f hf, hcp.n8⟩
    refine ⟨W1, b1, _, hle, rfl, ⟨css1, Es1, fa', fc', ea', ec', Ef', Ee', T1, hc2, of', oe', rfl⟩, m.perm ?_⟩
    simp only [List.flatten_cons, List.append_assoc]
    exact (perm3 _ _ _ _).append_left _
end
end Go.Proofs.YtpcilleldanfmaaDoor

/- The program's pool of queues: where it lies; New, Len, Bytes, Has, Put, Take, Drop, Clone. -/
set_option linter.unusedVariables false
set_option linter.unusedSimpArgs false
set_option maxRecDepth 8000
namespace Go.Proofs.YtpcilleldanfmaaDoor
open Go.Vc
/-- Queues, each in a group of its own. -/
structure Qs (V : Wd → Nat → Qu → Grp → Prop) (W : Wd) (qs : List Qu) (bs : List Nat) (Ls : List Grp) : Prop where
  n1 : bs.length = qs.length
  n2 : Ls.length = qs.length
  v : ∀ (k : Nat) (q : Qu), qs[k]? = some q → ∃ b L, bs[k]? = some b ∧ Ls[k]? = some L ∧ V W b q L
def prs (bs : List Nat) : List Value := bs.map fun b => .pointer (some ⟨b, 0, none⟩)
def poH (P : Po) : List Value := [.int .u32 P.seed, .int .i64 P.tg, .int .i64 P.iv, .int .i64 P.mp, .int .i64 P.mb]
def PoV (W : Wd) (b : Nat) (P : Po) (L : Grp) : Prop := ∃ (bs : List Nat) (Ls : List Grp) (T : TypeId), Qs QuV W P.q bs Ls ∧ L = Ls.flatten ++ [(b, poH P ++ prs bs, T)]
section
variable {V : Wd → Nat → Qu → Grp → Prop} {W W' : Wd} {h h' h1 : Heap} {G R : List Grp} {L L' E : Grp} {P P' : Po} {q q' : Qu} {qs qs2 : List Qu} {bs bs2 : List Nat} {Ls Ls2 : List Grp} {b b' k n i : Nat} {p : Pk} {cs : List Value} {T : TypeId} {v : Value}
theorem Qs.le (hV : ∀ b q L, V W b q L → V W' b q L) (hq : Qs V W qs bs Ls) : Qs V W' qs bs Ls :=
  ⟨hq.n1, hq.n2, fun k q hk => by obtain ⟨b, L, h1, h2, h3⟩ := hq.v k q hk; exact ⟨b, L, h1, h2, hV _ _ _ h3⟩⟩
theorem Qs.set (hq : Qs V W qs bs Ls) (hv : V W b' q' L') (k : Nat) : Qs V W (qs.set k q') (bs.set k b') (Ls.set k L') := by
  have e1 := hq.n1
  have e2 := hq.n2
  refine ⟨by simp [e1], by simp [e2], fun j q hj => ?_⟩
  have hlt := (List.getElem?_eq_some_iff.1 hj).1
  rw [List.length_set] at hlt
  rw [List.getElem?_set] at hj ⊢
  rw [List.getElem?_set]
  by_cases e : k = j
  · rw [if_pos e, if_pos (by omega)] at hj
    rw [if_pos e, if_pos (by omega), if_pos e, if_pos (by omega)]
    cases hj
    exact ⟨_, _, rfl, rfl, hv⟩
  · rw [if_neg e] at hj
    rw [if_neg e, if_neg e]
    exact hq.v j q hj
theorem Qs.nil : Qs V W [] [] [] := ⟨rfl, rfl, fun k q hk => by simp at hk⟩
theorem Qs.one (hv : V W b q L) : Qs V W [q] [b] [L] := ⟨rfl, rfl, fun k q' hk => by
  cases k with
  | zero => simp at hk; subst hk; exact ⟨_, _, rfl, rfl, hv⟩
  | succ k => simp at hk⟩
theorem Qs.app (h1 : Qs V W qs bs Ls) (h2 : Qs V W qs2 bs2 Ls2) : Qs V W (qs ++ qs2) (bs ++ bs2) (Ls ++ Ls2) := by
  have a1 := h1.n1
  have a2 := h1.n2
  refine ⟨by simp [h1.n1, h2.n1], by simp [h1.n2, h2.n2], fun k q hk => ?_⟩
  by_cases hl : k < qs.length
  · rw [List.getElem?_append_left hl] at hk
    rw [List.getElem?_append_left (by omega), List.getElem?_append_left (by omega)]
    exact h1.v k q hk
  · rw [List.getElem?_append_right (by omega)] at hk
    rw [List.getElem?_append_right (by omega), List.getElem?_append_right (by omega), a1, a2]
    exact h2.v _ q hk
theorem Qs.take (hq : Qs V W qs bs Ls) (n : Nat) : Qs V W (qs.take n) (bs.take n) (Ls.take n) := by
  refine ⟨by simp [hq.n1], by simp [hq.n2], fun k q hk => ?_⟩
  rw [List.getElem?_take] at hk ⊢
  rw [List.getElem?_take]
  by_cases e : k < n
  · rw [if_pos e] at hk ⊢
    rw [if_pos e]
    exact hq.v k q hk
  · rw [if_neg e] at hk; cases hk
theorem Qs.drop (hq : Qs V W qs bs Ls) (n : Nat) : Qs V W (qs.drop n) (bs.drop n) (Ls.drop n) := by
  refine ⟨by simp [hq.n1], by simp [hq.n2], fun k q hk => ?_⟩
  rw [List.getElem?_drop] at hk ⊢
  rw [List.getElem?_drop]
  exact hq.v _ q hk
theorem prs_get (hb : bs[k]? = some b) : (prs bs)[k]? = some (.pointer (some ⟨b, 0, none⟩)) := by simp [prs, hb]
theorem prs_len : (prs bs).length = bs.length := by simp [prs]
theorem prs_set : (prs bs).set k (.pointer (some ⟨b, 0, none⟩)) = prs (bs.set k b) := by simp [prs, List.map_set]
theorem prs_app : prs (bs ++ bs2) = prs bs ++ prs bs2 := by simp [prs]
theorem poH_get {xs : List Value} : (poH P ++ xs)[5 + k]? = xs[k]? := by
  rw [List.getElem?_append_right (by simp [poH])]
  congr 1
  simp [poH]
theorem poH_set {xs : List Value} : (poH P ++ xs).set (5 + k) v = poH P ++ xs.set k v := by
  rw [List.set_append_right _ _ (by simp [poH])]
  congr 2
  simp [poH]
theorem PoV.opn (hv : PoV W b P L) (m : Me W h (L :: R)) : ∃ (bs : List Nat) (Ls : List Grp) (T : TypeId), Qs QuV W P.q bs Ls ∧ L = Ls.flatten ++ [(b, poH P ++ prs bs, T)] ∧ Me W h (Ls.flatten :: [(b, poH P ++ prs bs, T)] :: R) := by
  obtain ⟨bs, Ls, T, hq, rfl⟩ := hv
  exact ⟨bs, Ls, T, hq, rfl, m.split⟩
theorem PoV.shut (hq : Qs QuV W P.q bs Ls) (m : Me W h (Ls.flatten :: [(b, poH P ++ prs bs, T)] :: R)) : ∃ L, PoV W b P L ∧ Me W h (L :: R) := ⟨_, ⟨bs, Ls, T, hq, rfl⟩, m.join⟩
theorem PoV.le (hl : W.le W') (hv : PoV W b P L) : PoV W' b P L := by
  obtain ⟨bs, Ls, T, hq, rfl⟩ := hv
  exact ⟨bs, Ls, T, hq.le fun _ _ _ => QuV.le hl, rfl⟩
theorem callv_of {P : Program} {g : FuncId} {first captured : Array Value} {args : List Value} {K : Value → Heap → Prop} (hb : bodied P g = true) (hr : Runs P g (first.toList ++ (args ++ captured.toList)).toArray h K) :
    callv P (.func (.func g) first captured) args h K := by
  unfold callv; simp only [hb]; exact hr
theorem callv_mono {P : Program} {f : Value} {args : List Value} {K K' : Value → Heap → Prop} (hk : ∀ r h, K r h → K' r h) : callv P f args h K → callv P f args h K' := by
  unfold callv
  split
  · split
    · exact fun hc => hc.mono hk
    · exact False.elim
  · exact False.elim
theorem poolThere_c (aid tid : Int) : Runs Tryd.prog 29 #[.int .i64 aid, .int .i64 tid] h fun v h' => v = .bool (thereZ aid tid) ∧ h' = h := by
  have no : ¬ (1 ≤ aid ∧ aid ≤ 16 ∧ 0 ≤ tid ∧ tid < 8) → Value.bool false = .bool (thereZ aid tid) := fun h => by
    have : thereZ aid tid = false := by simpa [thereZ] using h
    rw [this]
  refine vc_pool_there _ _ _ _ (dcase_intro (fun q1 => dcase_intro (fun q2 => dcase_intro (fun q3 => ⟨?_, rfl⟩) fun q => ⟨no fun h => q h.2.2.1, rfl⟩) fun q => ⟨no fun h => q h.2.1, rfl⟩) fun q => ⟨no fun h => q h.1, rfl⟩)
  have : thereZ aid tid = decide (tid < 8) := by simp [thereZ, q1, q2, q3]
  rw [this]
/-- A call for each queue, in order. -/
theorem each_c {f : Value} (J : Nat → Heap → Prop) (h0 : J 0 h) (hc : ∀ (k : Nat) (h1 : Heap), k < 128 → J k h1 → ∃ p, cell h1 b (5 + k) = some (.pointer p) ∧ callv Tryd.prog f [.pointer p] h1 fun _ h2 => J (k + 1) h2) :
    Runs Tryd.prog 34 #[.pointer (some ⟨b, 0, none⟩), f] h fun v h' => v = .tuple #[] ∧ J 128 h' := by
  refine vc_pool_Pool_each _ _ _ _ ⟨fun x h' => ∃ i : Nat, x = i ∧ i ≤ 16 ∧ J (i * 8) h', fun x _ => (16 - x).toNat, ⟨0, rfl, by omega, h0⟩, fun _ => ?_⟩
  rintro _ h1 ⟨i, rfl, hi, hj⟩
  refine dcase_intro (fun q => ?_) fun q => ?_
  · refine ⟨fun x h' => ∃ t : Nat, x = t ∧ t ≤ 8 ∧ J (i * 8 + t) h', fun x _ => (8 - x).toNat, ⟨0, rfl, by omega, hj⟩, fun _ => ?_⟩
    rintro _ h2 ⟨t, rfl, ht, hj⟩
    refine dcase_intro (fun q2 => ?_) fun q2 => ?_
    · obtain ⟨p, hp, hcv⟩ := hc (i * 8 + t) h2 (by omega) hj
      refine ⟨⟨by omega, by omega⟩, ⟨by omega, by omega⟩, p, ?_, ?_⟩
      · rw [show 5 + (i : Int).toNat * 8 + (t : Int).toNat = 5 + (i * 8 + t) by omega]; exact hp
      · refine callv_mono (fun r h3 hj3 => ?_) hcv
        exact ⟨by simp only [fits]; omega, ⟨t + 1, by omega, by omega, hj3⟩, by (try dsimp only); omega⟩
    · obtain rfl : t = 8 := by omega
      exact ⟨by simp only [fits]; omega, ⟨i + 1, by omega, by omega, by rw [show (i + 1) * 8 = i * 8 + 8 by omega]; exact hj⟩, by (try dsimp only); omega⟩
  · obtain rfl : i = 16 := by omega
    exact ⟨rfl, hj⟩
theorem Qs.cellAt {j : Nat} (hq : Qs V W P.q bs Ls) (hk : P.q[k]? = some q) (m : Me W h G) (hj : G[j]? = some [(b, poH P ++ prs bs, T)]) : ∃ bk Lk, bs[k]? = some bk ∧ Ls[k]? = some Lk ∧ V W bk q Lk ∧ cell h b (5 + k) = some (.pointer (some ⟨bk, 0, none⟩)) := by
  obtain ⟨bk, Lk, h1, h2, h3⟩ := hq.v k q hk
  exact ⟨bk, Lk, h1, h2, h3, m.cell j hj (by rw [poH_get]; exact prs_get h1)⟩
theorem poLen_c (m : Me W h (L :: R)) (hv : PoV W b P L) (hP : PoOk P) (hl : P.len ≤ 1048576) : Runs Tryd.prog 13 #[.pointer (some ⟨b, 0, none⟩)] h fun v h' => v = .int .i64 (P.len : Int) ∧ Me W h' (L :: R) := by
  (obtain ⟨bs, Ls, T, hq, rfl, mNew⟩ := hv.opn m; replace m := mNew; clear mNew)
  refine vc_pool_Pool_Len _ _ _ ?_
  (intro bN hN1 eN1 eN2; replace m := m.push eN2 eN1; clear eN1 eN2)
  (refine m.store 0 rfl (Nat.le_of_ble_eq_true rfl) ?_; clear m; intro _ m; simp only [List.set_cons_zero, List.set_cons_succ] at m)
  refine (each_c (fun k h' => Me W h' ([(bN, [.int .i64 (cntQ (P.q.take k) : Int)], 3)] :: Ls.flatten :: [(b, poH P ++ prs bs, T)] :: R)) (by simpa [cntQ] using m) ?_).mono ?_
  · clear m
    intro k h1 hk m
    obtain ⟨bk, Lk, e1, e2, hvk, hc⟩ := hq.cellAt (hP.qu hk).1 m (j := 2) rfl
    refine ⟨_, hc, callv_of (by kernel_rfl) ?_⟩
    have hm := (m.focus 1 rfl).pick k e2
    have hle := cntQ_take_le P.q (k + 1)
    have hst := cntQ_take (hP.qu hk).1
    have hlen : P.len = cntQ P.q := rfl
    refine vc_pool_Pool_Len_1 _ _ _ _ ?_
    refine ⟨_, m.cell 0 rfl rfl, (len_c hm hvk).mono ?_⟩
    rintro _ h2 ⟨rfl, rfl⟩
    refine ⟨_, rfl, m.cell 0 rfl rfl, by simp only [fits]; omega, ?_⟩
    (refine m.store 0 rfl (Nat.le_of_ble_eq_true rfl) ?_; clear m; intro _ m; simp only [List.set_cons_zero, List.set_cons_succ] at m)
    rw [hst]
    simpa using m
  · rintro _ h1 ⟨rfl, m⟩
    refine ⟨_, m.cell 0 rfl rfl, ?_, m.drop1.join⟩
    rw [List.take_of_length_le (by rw [hP.n]; omega)]
    rfl
theorem poBytes_c (m : Me W h (L :: R)) (hv : PoV W b P L) (hP : PoOk P) (hl : P.len ≤ 1048576) : Runs Tryd.prog 14 #[.pointer (some ⟨b, 0, none⟩)] h fun v h' => v = .int .i64 P.byt ∧ Me W h' (L :: R) := by
  (obtain ⟨bs, Ls, T, hq, rfl, mNew⟩ := hv.opn m; replace m := mNew; clear mNew)
  have hbl := hP.byt_le
  refine vc_pool_Pool_Bytes _ _ _ ?_
  (intro bN hN1 eN1 eN2; replace m := m.push eN2 eN1; clear eN1 eN2)
  (refine m.store 0 rfl (Nat.le_of_ble_eq_true rfl) ?_; clear m; intro _ m; simp only [List.set_cons_zero, List.set_cons_succ] at m)
  refine (each_c (fun k h' => Me W h' ([(bN, [.int .i64 (bytQ (P.q.take k))], 3)] :: Ls.flatten :: [(b, poH P ++ prs bs, T)] :: R)) (by simpa [bytQ] using m) ?_).mono ?_
  · clear m
    intro k h1 hk m
    obtain ⟨bk, Lk, e1, e2, hvk, hc⟩ := hq.cellAt (hP.qu hk).1 m (j := 2) rfl
    refine ⟨_, hc, callv_of (by kernel_rfl) ?_⟩
    have hm := (m.focus 1 rfl).pick k e2
    have hle := bytQ_take_le P.q (k + 1)
    have hnn := bytQ_nn (P.q.take (k + 1))
    have hst := bytQ_take (hP.qu hk).1
    have hlen : P.byt = bytQ P.q := rfl
    refine vc_pool_Pool_Bytes_1 _ _ _ _ ?_
    refine ⟨_, m.cell 0 rfl rfl, (bytesq_c hm hvk).mono ?_⟩
    rintro _ h2 ⟨rfl, rfl⟩
    refine ⟨_, rfl, m.cell 0 rfl rfl, by simp only [fits]; omega, ?_⟩
    (refine m.store 0 rfl (Nat.le_of_ble_eq_true rfl) ?_; clear m; intro _ m; simp only [List.set_cons_zero, List.set_cons_succ] at m)
    rw [hst]
    exact m
  · rintro _ h1 ⟨rfl, m⟩
    refine ⟨_, m.cell 0 rfl rfl, ?_, m.drop1.join⟩
    rw [List.take_of_length_le (by rw [hP.n]; omega)]
    rfl
theorem poHas_c (m : Me W h (L :: R)) (hv : PoV W b P L) (hP : PoOk P) (aid tid : Int) : Runs Tryd.prog 12 #[.pointer (some ⟨b, 0, none⟩), .int .i64 aid, .int .i64 tid] h fun v h' =>
    v = .bool (thereZ aid tid && decide (0 < (P.qu (pix aid tid)).cnt)) ∧ h' = h := by
  (obtain ⟨bs, Ls, T, hq, rfl, mNew⟩ := hv.opn m; replace m := mNew; clear mNew)
  refine vc_pool_Pool_Has _ _ _ _ _ ((poolThere_c aid tid).mono ?_)
  rintro _ h1 ⟨rfl, rfl⟩
  refine ⟨_, rfl, bcase_intro (fun ht => ?_) fun ht => ⟨by rw [ht]; rfl, rfl⟩⟩
  have hz := thereZ_iff.1 ht
  obtain ⟨bk, Lk, e1, e2, hvk, hc⟩ := hq.cellAt (hP.qu (pix_lt ht)).1 m (j := 1) rfl
  refine ⟨by simp only [fits]; omega, ⟨by omega, by omega⟩, ⟨by omega, by omega⟩, _, ?_, (len_c (m.pick _ e2) hvk).mono ?_⟩
  · rw [show 5 + (aid - 1).toNat * 8 + tid.toNat = 5 + pix aid tid by unfold pix; omega]; exact hc
  · rintro _ h2 ⟨rfl, rfl⟩
    refine ⟨_, rfl, ?_, rfl⟩
    rw [ht]
    simp
end
end Go.Proofs.YtpcilleldanfmaaDoor
