/- A queue of flows (chapter 13), as plain mathematics: both the program's and the document's queue go this way. -/
import Derived.Test.YtpcilleldanfmaaDoorPk
import Derived.Test.YtpcilleldanfmaaDoorCodelBd
import Derived.Test.YtpcilleldanfmaaDoorHash2
set_option linter.unusedVariables false
set_option linter.unusedSimpArgs false
namespace Go.Proofs.YtpcilleldanfmaaDoor
structure Fl where
  l : List Pk
  deficit : Int
  c : CSt
def Fl.setL (f : Fl) (l : List Pk) : Fl := ⟨l, f.deficit, f.c⟩
def Fl.setD (f : Fl) (d : Int) : Fl := ⟨f.l, d, f.c⟩
@[simp] theorem setL_l (f : Fl) (l : List Pk) : (f.setL l).l = l := rfl
@[simp] theorem setL_d (f : Fl) (l : List Pk) : (f.setL l).deficit = f.deficit := rfl
@[simp] theorem setL_c (f : Fl) (l : List Pk) : (f.setL l).c = f.c := rfl
@[simp] theorem setD_l (f : Fl) (d : Int) : (f.setD d).l = f.l := rfl
@[simp] theorem setD_d (f : Fl) (d : Int) : (f.setD d).deficit = d := rfl
@[simp] theorem setD_c (f : Fl) (d : Int) : (f.setD d).c = f.c := rfl
def cs0 : CSt := ⟨0, 0, 0, 0, false, 0, 0⟩
def fl0 : Fl := ⟨[], 0, cs0⟩
structure Qu where
  seed : Int
  tg : Int
  iv : Int
  fl : List Fl
  fresh : List Int
  elder : List Int
def qu0 (seed tg iv : Int) : Qu := ⟨seed, tg, iv, List.replicate 16 fl0, [], []⟩
/-- The bytes of packets. -/
def bytP : List Pk → Int
  | [] => 0
  | p :: r => p.body.length + bytP r
theorem bytP_app : ∀ (a b : List Pk), bytP (a ++ b) = bytP a + bytP b
  | [], b => by simp [bytP]
  | p :: a, b => by simp only [List.cons_append, bytP, bytP_app a b]; omega
theorem bytP_nn : ∀ (a : List Pk), 0 ≤ bytP a
  | [] => by simp [bytP]
  | p :: a => by have := bytP_nn a; simp only [bytP]; omega
def cntL : List Fl → Nat
  | [] => 0
  | f :: r => f.l.length + cntL r
def bytL : List Fl → Int
  | [] => 0
  | f :: r => bytP f.l + bytL r
/-- How many packets, how many bytes there are. -/
def Qu.cnt (q : Qu) : Nat := cntL q.fl
def Qu.byt (q : Qu) : Int := bytL q.fl
theorem cntL_set : ∀ {l : List Fl} {k : Nat} {f g : Fl}, l[k]? = some f → cntL (l.set k g) + f.l.length = cntL l + g.l.length
  | [], k, f, g, h => by simp at h
  | x :: l, 0, f, g, h => by simp at h; subst h; simp [cntL]; omega
  | x :: l, k + 1, f, g, h => by have := cntL_set (l := l) (k := k) (g := g) (by simpa using h); simp [cntL]; omega
theorem bytL_set : ∀ {l : List Fl} {k : Nat} {f g : Fl}, l[k]? = some f → bytL (l.set k g) + bytP f.l = bytL l + bytP g.l
  | [], k, f, g, h => by simp at h
  | x :: l, 0, f, g, h => by simp at h; subst h; simp [bytL]; omega
  | x :: l, k + 1, f, g, h => by have := bytL_set (l := l) (k := k) (g := g) (by simpa using h); simp [bytL]; omega
theorem cntL_ge : ∀ {l : List Fl} {k : Nat} {f : Fl}, l[k]? = some f → f.l.length ≤ cntL l
  | [], k, f, h => by simp at h
  | x :: l, 0, f, h => by simp at h; subst h; simp [cntL]
  | x :: l, k + 1, f, h => by have := cntL_ge (l := l) (k := k) (by simpa using h); simp [cntL]; omega
theorem bytL_ge : ∀ {l : List Fl} {k : Nat} {f : Fl}, l[k]? = some f → bytP f.l ≤ bytL l
  | [], k, f, h => by simp at h
  | x :: l, 0, f, h => by
    have : ∀ l : List Fl, 0 ≤ bytL l := fun l => by induction l with | nil => simp [bytL] | cons y r ih => have := bytP_nn y.l; simp only [bytL]; omega
    simp at h; subst h; have := this l; simp only [bytL]; omega
  | x :: l, k + 1, f, h => by have := bytL_ge (l := l) (k := k) (by simpa using h); have := bytP_nn x.l; simp only [bytL]; omega
theorem bytL_nn : ∀ l : List Fl, 0 ≤ bytL l := fun l => by induction l with | nil => simp [bytL] | cons y r ih => have := bytP_nn y.l; simp only [bytL]; omega
/-- The state of a pull between two pulls. -/
def CSt.rest (s : CSt) : CSt := { s with bytes := 0, pos := 0 }
def itemsP (l : List Pk) : List (Int × Int) := l.map fun p => (p.at_, (p.body.length : Int))
def clampI (n : Int) : Int := clampZ n 1073741824
def runP (tg iv now : Int) (f : Fl) : CSt × Bool := runZ now (clampI tg) (clampI iv) (itemsP f.l) { f.c with bytes := bytP f.l, pos := 0 }
/-- A flow behind a pull. -/
def pullF (tg iv now : Int) (f : Fl) : Fl := ⟨f.l.drop (runP tg iv now f).1.pos, f.deficit, (runP tg iv now f).1.rest⟩
def dropF (tg iv now : Int) (f : Fl) : List Pk := f.l.take (runP tg iv now f).1.pos
def isF (tg iv now : Int) (f : Fl) : Bool := (runP tg iv now f).2
/-- Whose turn it is. -/
def Qu.turn (q : Qu) : Option Int := match q.fresh with | k :: _ => some k | [] => q.elder.head?
def Qu.flow (q : Qu) (k : Int) : Fl := (q.fl[k.toNat]?).getD fl0
def Qu.setF (q : Qu) (k : Int) (f : Fl) : Qu := { q with fl := q.fl.set k.toNat f }
/-- The lists without the one whose turn it is. -/
def Qu.popT (q : Qu) : Qu := if q.fresh = [] then { q with elder := q.elder.tail } else { q with fresh := q.fresh.tail }
def Qu.addE (q : Qu) (k : Int) : Qu := { q with elder := q.elder ++ [k] }
def Qu.addF (q : Qu) (k : Int) : Qu := { q with fresh := q.fresh ++ [k] }
def takeN (now : Int) : Nat → Qu → List Pk → Qu × List Pk × Option Pk
  | 0, q, d => (q, d, none)
  | n + 1, q, d =>
    match q.turn with
    | none => (q, d, none)
    | some k =>
      if (q.flow k).deficit ≤ 0 then takeN now n (((q.setF k ((q.flow k).setD ((q.flow k).deficit + 300))).popT).addE k) d
      else if isF q.tg q.iv now (q.flow k) = true then
        match (pullF q.tg q.iv now (q.flow k)).l with
        | [] => (q, d, none)
        | p :: r => (q.setF k (((pullF q.tg q.iv now (q.flow k)).setL r).setD ((q.flow k).deficit - p.body.length)), d ++ dropF q.tg q.iv now (q.flow k), some p)
      else if q.fresh ≠ [] ∧ q.elder ≠ [] then takeN now n (((q.setF k (pullF q.tg q.iv now (q.flow k))).popT).addE k) (d ++ dropF q.tg q.iv now (q.flow k))
      else takeN now n ((q.setF k (pullF q.tg q.iv now (q.flow k))).popT) (d ++ dropF q.tg q.iv now (q.flow k))
/-- How many turns a flow must wait. -/
def reflD (d : Int) : Nat := if d ≤ 0 then ((-d) / 300).toNat + 1 else 0
theorem reflD_up {d : Int} (h : d ≤ 0) : reflD (d + 300) + 1 ≤ reflD d := by
  unfold reflD
  rw [if_pos h]
  split <;> omega
def refl (f : Fl) : Nat := reflD f.deficit
def sumR (q : Qu) : List Int → Nat
  | [] => 0
  | k :: r => refl (q.flow k) + sumR q r
def Qu.meas (q : Qu) : Nat := sumR q q.fresh + sumR q q.elder + 2 * q.fresh.length + q.elder.length
def Qu.take (q : Qu) (now : Int) : Qu × List Pk × Option Pk := takeN now (q.meas + 1) q []
def Qu.put (q : Qu) (p : Pk) : Qu :=
  let k := bucketZ p.flow q.seed
  if k ∈ q.fresh ∨ k ∈ q.elder then q.setF k ((q.flow k).setL ((q.flow k).l ++ [p]))
  else (q.setF k (((q.flow k).setL ((q.flow k).l ++ [p])).setD 300)).addF k
def Qu.all (q : Qu) : List Pk := (q.fl.map (·.l)).flatten
def Qu.head (q : Qu) (k : Int) : Option Pk := if 0 ≤ k ∧ k < 16 then (q.flow k).l.head? else none
def Qu.dropHead (q : Qu) (k : Int) : Qu × Option Pk := match q.head k with
  | none => (q, none)
  | some p => (q.setF k ((q.flow k).setL (q.flow k).l.tail), some p)
/-- The fattest flow among those from k on, against the best so far. -/
def fatN : List Fl → Int → Int × Int → Int × Int
  | [], _, s => s
  | f :: r, k, s => fatN r (k + 1) (if f.l ≠ [] ∧ s.2 < bytP f.l then (k, bytP f.l) else s)
def Qu.fattest (q : Qu) : Int × Int := let s := fatN q.fl 0 (0, -1); (s.1, max s.2 0)

structure FOk (f : Fl) : Prop where
  c : CBd f.c
  p : ∀ p ∈ f.l, 0 ≤ p.at_ ∧ p.at_ ≤ 1125899906842624 ∧ p.body.length ≤ 1048576
  d0 : -1048576 ≤ f.deficit
  d1 : f.deficit ≤ 300
structure QOk (q : Qu) : Prop where
  len : q.fl.length = 16
  f : ∀ f ∈ q.fl, FOk f
  nd : (q.fresh ++ q.elder).Nodup
  b : ∀ k ∈ q.fresh ++ q.elder, 0 ≤ k ∧ k < 16
  cnt : q.cnt ≤ 1048576
section
variable {q : Qu} {f g : Fl} {k d : Int} {p : Pk} {r : List Pk} {tg iv now : Int}
theorem nodup_len : ∀ (N : Nat) (l : List Int), l.Nodup → (∀ x ∈ l, 0 ≤ x ∧ x < N) → l.length ≤ N
  | 0, l, _, h => by
    cases l with
    | nil => simp
    | cons x r => have := h x (by simp); omega
  | N + 1, l, hn, h => by
    by_cases hm : (N : Int) ∈ l
    · have h1 := nodup_len N (l.erase N) (hn.erase _) (fun x hx => by
        have hx' := (List.Nodup.mem_erase_iff hn).1 hx
        have h2 := h x hx'.2
        have h3 : x ≠ N := hx'.1
        omega)
      rw [List.length_erase_of_mem hm] at h1; omega
    · have h1 := nodup_len N l hn (fun x hx => by
        have h2 := h x hx
        have h3 : x ≠ N := fun e => hm (e ▸ hx)
        omega)
      omega
theorem QOk.lens (hq : QOk q) : q.fresh.length + q.elder.length ≤ 16 := by
  have := nodup_len 16 _ hq.nd hq.b
  simpa using this
theorem fok0 : FOk fl0 := ⟨by constructor <;> decide, by simp [fl0], by decide, by decide⟩
theorem qok0 (seed tg iv : Int) : QOk (qu0 seed tg iv) := by
  refine ⟨rfl, fun f hf => ?_, by simp [qu0], by simp [qu0], ?_⟩
  · simp [qu0] at hf; subst hf; exact fok0
  · show cntL (List.replicate 16 fl0) ≤ _; decide
theorem bytP_le {N : Nat} : ∀ {l : List Pk}, (∀ p ∈ l, p.body.length ≤ N) → bytP l ≤ N * l.length
  | [], _ => by simp [bytP]
  | p :: r, h => by
    have h1 := bytP_le (l := r) fun p hp => h p (by simp [hp])
    have h2 := h p (by simp)
    simp only [bytP, List.length_cons]
    have e : ((N : Int)) * ((r.length + 1 : Nat) : Int) = N * r.length + N := by rw [show ((r.length + 1 : Nat) : Int) = (r.length : Int) + 1 by omega, Int.mul_add]; omega
    omega
theorem QOk.flow (hq : QOk q) (k0 : 0 ≤ k) (k1 : k < 16) : q.fl[k.toNat]? = some (q.flow k) ∧ FOk (q.flow k) := by
  have hlt : k.toNat < q.fl.length := by rw [hq.len]; omega
  have e : q.fl[k.toNat]? = some (q.flow k) := by unfold Qu.flow; rw [List.getElem?_eq_getElem hlt]; rfl
  exact ⟨e, hq.f _ (List.mem_of_getElem? e)⟩
theorem QOk.setF (hq : QOk q) (hk0 : 0 ≤ k) (hk1 : k < 16) (hg : FOk g) (hc : g.l.length ≤ (q.flow k).l.length) : QOk (q.setF k g) := by
  refine ⟨by simp [Qu.setF, hq.len], fun f hf => ?_, hq.nd, hq.b, ?_⟩
  · rcases List.mem_or_eq_of_mem_set hf with hf | rfl
    · exact hq.f f hf
    · exact hg
  · have h1 := cntL_set (g := g) (hq.flow hk0 hk1).1
    have h2 := hq.cnt
    show cntL (q.fl.set k.toNat g) ≤ _
    unfold Qu.cnt at h2
    omega
theorem flow_setF (hq : QOk q) (k0 : 0 ≤ k) (k1 : k < 16) : (q.setF k g).flow k = g := by
  have hlt : k.toNat < q.fl.length := by rw [hq.len]; omega
  simp [Qu.flow, Qu.setF, hlt]
theorem flow_setF_ne {j : Int} (k0 : 0 ≤ k) (j0 : 0 ≤ j) (h : j ≠ k) : (q.setF k g).flow j = q.flow j := by
  unfold Qu.flow Qu.setF
  dsimp only
  rw [List.getElem?_set_ne (by omega)]
theorem turn_mem (ht : q.turn = some k) : k ∈ q.fresh ++ q.elder := by
  unfold Qu.turn at ht
  split at ht
  · rename_i e; cases ht; rw [e]; simp
  · rename_i e; rw [e]; simp; exact List.mem_of_mem_head? ht
theorem QOk.popT (hq : QOk q) : QOk q.popT := by
  unfold Qu.popT
  split
  · rename_i e
    refine ⟨hq.len, hq.f, ?_, ?_, hq.cnt⟩
    · have := hq.nd; rw [e] at *; simp at *; exact this.sublist (List.tail_sublist _)
    · intro k hk; refine hq.b k ?_; rw [e] at *; simp at *; exact List.mem_of_mem_tail hk
  · refine ⟨hq.len, hq.f, ?_, ?_, hq.cnt⟩
    · exact hq.nd.sublist ((List.tail_sublist _).append_right _)
    · intro k hk; refine hq.b k ?_; simp at *; rcases hk with hk | hk; exact .inl (List.mem_of_mem_tail hk); exact .inr hk
theorem popT_not (hq : QOk q) (ht : q.turn = some k) : k ∉ q.popT.fresh ++ q.popT.elder := by
  have hn := hq.nd
  unfold Qu.turn at ht
  unfold Qu.popT
  split at ht
  · rename_i k' r e; cases ht
    rw [if_neg (by rw [e]; simp)]
    show k ∉ q.fresh.tail ++ q.elder
    rw [e, List.cons_append, List.nodup_cons] at hn
    rw [e]; exact hn.1
  · rename_i e
    rw [if_pos e]
    show k ∉ q.fresh ++ q.elder.tail
    cases he : q.elder with
    | nil => simp [he] at ht
    | cons x r =>
      simp [he] at ht; subst ht
      rw [e, he, List.nil_append, List.nodup_cons] at hn
      rw [e]; exact hn.1
theorem QOk.addE (hq : QOk q) (hn : k ∉ q.fresh ++ q.elder) (k0 : 0 ≤ k) (k1 : k < 16) : QOk (q.addE k) := by
  refine ⟨hq.len, hq.f, ?_, ?_, hq.cnt⟩
  · show (q.fresh ++ (q.elder ++ [k])).Nodup
    rw [← List.append_assoc]
    refine List.nodup_append.2 ⟨hq.nd, by simp, fun a ha b hb => ?_⟩
    simp at hb; subst hb
    rintro rfl; exact hn ha
  · intro j hj
    have hj : j ∈ q.fresh ++ (q.elder ++ [k]) := hj
    rw [← List.append_assoc] at hj
    rcases List.mem_append.1 hj with hj | hj
    · exact hq.b j hj
    · simp at hj; subst hj; exact ⟨k0, k1⟩
theorem setF_setF (g g2 : Fl) : (q.setF k g).setF k g2 = q.setF k g2 := by simp [Qu.setF]
theorem setF_turn : (q.setF k g).turn = q.turn := rfl
theorem setF_fresh : (q.setF k g).fresh = q.fresh := rfl
theorem setF_elder : (q.setF k g).elder = q.elder := rfl
theorem sumR_congr {q q' : Qu} : ∀ {l : List Int}, (∀ k ∈ l, q'.flow k = q.flow k) → sumR q' l = sumR q l
  | [], _ => rfl
  | k :: l, h => by simp only [sumR]; rw [h k (by simp), sumR_congr fun k hk => h k (by simp [hk])]
theorem sumR_app {q : Qu} : ∀ {l r : List Int}, sumR q (l ++ r) = sumR q l + sumR q r
  | [], r => by simp [sumR]
  | k :: l, r => by simp only [List.cons_append, sumR, sumR_app (l := l)]; omega
theorem sumR_lists (f e l : List Int) : sumR (Qu.mk q.seed q.tg q.iv q.fl f e) l = sumR q l := sumR_congr fun _ _ => rfl
theorem turn_sum (ht : q.turn = some k) : q.meas = refl (q.flow k) + q.popT.meas + (if q.fresh = [] then 1 else 2) := by
  unfold Qu.turn at ht
  unfold Qu.popT
  split at ht
  · rename_i k' r e; cases ht
    rw [if_neg (by rw [e]; simp), if_neg (by rw [e]; simp)]
    simp only [Qu.meas, sumR_lists, e, sumR, List.length_cons, List.tail_cons]
    omega
  · rename_i e; rw [if_pos e, if_pos e]
    cases he : q.elder with
    | nil => simp [he] at ht
    | cons x r =>
      simp [he] at ht; subst ht
      simp only [Qu.meas, sumR_lists, e, he, sumR, List.length_cons, List.tail_cons]
      omega
/-- A set flow that is in no list does not count. -/
theorem meas_setF (hq : QOk q) (k0 : 0 ≤ k) (hn : k ∉ q.fresh ++ q.elder) : (q.setF k g).meas = q.meas := by
  have h1 : ∀ l : List Int, (∀ j ∈ l, j ∈ q.fresh ++ q.elder) → sumR (q.setF k g) l = sumR q l := fun l hl => sumR_congr fun j hj =>
    flow_setF_ne k0 (hq.b j (hl j hj)).1 (by rintro rfl; exact hn (hl _ hj))
  simp only [Qu.meas, setF_fresh, setF_elder]
  rw [h1 q.fresh (fun j hj => List.mem_append_left _ hj), h1 q.elder (fun j hj => List.mem_append_right _ hj)]
theorem meas_addE : (q.addE k).meas = q.meas + refl (q.flow k) + 1 := by
  simp only [Qu.meas, Qu.addE, sumR_app, List.length_append, List.length_singleton]
  have e2 : Qu.flow { q with elder := q.elder ++ [k] } k = q.flow k := rfl
  simp only [sumR_lists, sumR, e2]
  omega
theorem setF_popT : (q.setF k g).popT = q.popT.setF k g := by
  unfold Qu.popT
  rw [setF_fresh]
  split <;> rfl
theorem popT_flow (j : Int) : q.popT.flow j = q.flow j := by unfold Qu.popT; split <;> rfl
/-- A turn without a packet brings the end nearer. -/
theorem meas_turn (hq : QOk q) (ht : q.turn = some k) (hd : (q.flow k).deficit ≤ 0) :
    ((((q.setF k ((q.flow k).setD ((q.flow k).deficit + 300))).popT).addE k)).meas < q.meas := by
  obtain ⟨k0, k1⟩ := hq.b k (turn_mem ht)
  rw [setF_popT, meas_addE, meas_setF hq.popT k0 (popT_not hq ht), turn_sum ht, flow_setF hq.popT k0 k1]
  have : refl ((q.flow k).setD ((q.flow k).deficit + 300)) + 1 ≤ refl (q.flow k) := reflD_up hd
  split <;> omega
theorem meas_empty (hq : QOk q) (ht : q.turn = some k) (hd : ¬ (q.flow k).deficit ≤ 0) (hg : g.deficit = (q.flow k).deficit) :
    ((q.setF k g).popT).meas < q.meas ∧ (q.fresh ≠ [] → (((q.setF k g).popT).addE k).meas < q.meas) := by
  obtain ⟨k0, k1⟩ := hq.b k (turn_mem ht)
  rw [setF_popT, meas_addE, meas_setF hq.popT k0 (popT_not hq ht), turn_sum ht, flow_setF hq.popT k0 k1]
  have h1 : refl g = 0 := by unfold refl reflD; rw [hg, if_neg hd]
  have h2 : refl (q.flow k) = 0 := by unfold refl reflD; rw [if_neg hd]
  refine ⟨by split <;> omega, fun hf => ?_⟩
  rw [if_neg hf]; omega
/-- What a pull makes of a state, of numbers. -/
theorem pull_facts (hf : FOk f) (hc : f.l.length ≤ 1048576) (n0 : 0 ≤ now) (n1 : now ≤ 1125899906842624) :
    CEn now (clampI tg) (clampI iv) (itemsP f.l) ∧ CIn { f.c with bytes := bytP f.l, pos := 0 } ∧ CBd (runP tg iv now f).1 ∧ (runP tg iv now f).1.pos ≤ f.l.length ∧ (runP tg iv now f).2 = decide ((runP tg iv now f).1.pos < f.l.length) := by
  obtain ⟨t0, t1⟩ := clampZ_bd tg (show (0 : Int) ≤ 1073741824 by decide)
  obtain ⟨i0, i1⟩ := clampZ_bd iv (show (0 : Int) ≤ 1073741824 by decide)
  have hb := bytP_le (N := 1048576) fun p hp => (hf.p p hp).2.2
  have hE : CEn now (clampI tg) (clampI iv) (itemsP f.l) := ⟨n0, by omega, t0, t1, i0, i1, by simp [itemsP]; omega, fun x hx => by
    simp only [itemsP, List.mem_map] at hx
    obtain ⟨p, hp, rfl⟩ := hx
    have := hf.p p hp
    exact ⟨this.1, by have := this.2.1; dsimp only; omega, by have := this.2.2; dsimp only; omega⟩⟩
  have hI : CIn { f.c with bytes := bytP f.l, pos := 0 } := ⟨hf.c.f0, hf.c.f1, hf.c.d0, hf.c.d1, hf.c.c0, hf.c.c1, hf.c.l0, hf.c.l1, bytP_nn _, by dsimp only; omega, rfl⟩
  have hl : (itemsP f.l).length = f.l.length := by simp [itemsP]
  obtain ⟨h1, h2, _⟩ := runZ_facts (now := now) (tg := clampI tg) (iv := clampI iv) (l := itemsP f.l) (s := { f.c with bytes := bytP f.l, pos := 0 }) rfl rfl
  rw [hl] at h1 h2
  exact ⟨hE, hI, runZ_bd hE hI, h2, h1⟩
theorem rest_bd {s : CSt} (h : CBd s) : CBd s.rest := ⟨h.f0, h.f1, h.d0, h.d1, h.c0, h.c1, h.l0, h.l1⟩
theorem pullF_ok (hf : FOk f) (hc : f.l.length ≤ 1048576) (n0 : 0 ≤ now) (n1 : now ≤ 1125899906842624) : FOk (pullF tg iv now f) := by
  obtain ⟨_, _, h3, _, _⟩ := pull_facts (tg := tg) (iv := iv) hf hc n0 n1
  exact ⟨rest_bd h3, fun p hp => hf.p p (List.mem_of_mem_drop hp), hf.d0, hf.d1⟩
theorem popT_cnt : q.popT.cnt = q.cnt := by unfold Qu.popT; split <;> rfl
theorem addE_cnt : (q.addE k).cnt = q.cnt := rfl
theorem setD_cnt (hq : QOk q) (k0 : 0 ≤ k) (k1 : k < 16) : (q.setF k ((q.flow k).setD d)).cnt = q.cnt := by
  have c3 := cntL_set (g := (q.flow k).setD d) (hq.flow k0 k1).1
  simp only [setD_l] at c3
  show cntL (q.fl.set k.toNat ((q.flow k).setD d)) = cntL q.fl
  omega
theorem isF_drop (hf : FOk f) (hc : f.l.length ≤ 1048576) (n0 : 0 ≤ now) (n1 : now ≤ 1125899906842624) : isF tg iv now f = true ↔ ∃ p r, (pullF tg iv now f).l = p :: r := by
  obtain ⟨_, _, _, h4, h5⟩ := pull_facts (tg := tg) (iv := iv) hf hc n0 n1
  unfold isF pullF
  rw [h5]
  simp only [decide_eq_true_eq]
  constructor
  · intro hlt
    exact ⟨_, _, List.drop_eq_getElem_cons hlt⟩
  · rintro ⟨p, r, e⟩
    have : (f.l.drop (runP tg iv now f).1.pos).length = (p :: r).length := by rw [e]
    simp at this; omega
theorem QOk.fcnt (hq : QOk q) (k0 : 0 ≤ k) (k1 : k < 16) : (q.flow k).l.length ≤ 1048576 := Nat.le_trans (cntL_ge (hq.flow k0 k1).1) hq.cnt
theorem takeN_none {n : Nat} {d : List Pk} (ht : q.turn = none) : takeN now (n + 1) q d = (q, d, none) := by simp only [takeN, ht]
theorem takeN_turn {n : Nat} {d : List Pk} (ht : q.turn = some k) (hd : (q.flow k).deficit ≤ 0) : takeN now (n + 1) q d = takeN now n (((q.setF k ((q.flow k).setD ((q.flow k).deficit + 300))).popT).addE k) d := by
  simp only [takeN, ht]; rw [if_pos hd]
theorem takeN_some {n : Nat} {d : List Pk} (ht : q.turn = some k) (hd : ¬ (q.flow k).deficit ≤ 0) (hi : isF q.tg q.iv now (q.flow k) = true) (hp : (pullF q.tg q.iv now (q.flow k)).l = p :: r) :
    takeN now (n + 1) q d = (q.setF k (((pullF q.tg q.iv now (q.flow k)).setL r).setD ((q.flow k).deficit - p.body.length)), d ++ dropF q.tg q.iv now (q.flow k), some p) := by
  simp only [takeN, ht]; rw [if_neg hd, if_pos hi, hp]
theorem takeN_move {n : Nat} {d : List Pk} (ht : q.turn = some k) (hd : ¬ (q.flow k).deficit ≤ 0) (hi : isF q.tg q.iv now (q.flow k) = false) (hm : q.fresh ≠ [] ∧ q.elder ≠ []) :
    takeN now (n + 1) q d = takeN now n (((q.setF k (pullF q.tg q.iv now (q.flow k))).popT).addE k) (d ++ dropF q.tg q.iv now (q.flow k)) := by
  simp only [takeN, ht]; rw [if_neg hd, if_neg (by simp [hi]), if_pos hm]
theorem takeN_gone {n : Nat} {d : List Pk} (ht : q.turn = some k) (hd : ¬ (q.flow k).deficit ≤ 0) (hi : isF q.tg q.iv now (q.flow k) = false) (hm : ¬ (q.fresh ≠ [] ∧ q.elder ≠ [])) :
    takeN now (n + 1) q d = takeN now n ((q.setF k (pullF q.tg q.iv now (q.flow k))).popT) (d ++ dropF q.tg q.iv now (q.flow k)) := by
  simp only [takeN, ht]; rw [if_neg hd, if_neg (by simp [hi]), if_neg hm]
theorem setD_ok (hf : FOk f) (h0 : -1048576 ≤ d) (h1 : d ≤ 300) : FOk (f.setD d) := ⟨hf.c, hf.p, h0, h1⟩
theorem fatN_cons {l : List Fl} {k : Nat} {f : Fl} {s : Int × Int} (hf : l[k]? = some f) : fatN (l.drop k) k s = fatN (l.drop (k + 1)) ((k : Int) + 1) (if f.l ≠ [] ∧ s.2 < bytP f.l then ((k : Int), bytP f.l) else s) := by
  rw [List.drop_eq_getElem_cons (List.getElem?_eq_some_iff.1 hf).1, (List.getElem?_eq_some_iff.1 hf).2]
  rfl
def allL (l : List Fl) : List Pk := (l.map (·.l)).flatten
theorem allL_len : ∀ (l : List Fl), (allL l).length = cntL l
  | [] => rfl
  | f :: r => by simp [allL, cntL]; have := allL_len r; unfold allL at this; simpa using this
theorem allL_take {l : List Fl} {k : Nat} {f : Fl} (hf : l[k]? = some f) : allL (l.take (k + 1)) = allL (l.take k) ++ f.l := by
  unfold allL
  rw [List.take_add_one, hf]; simp
theorem cntL_app : ∀ (a b : List Fl), cntL (a ++ b) = cntL a + cntL b
  | [], b => by simp [cntL]
  | f :: a, b => by simp [cntL, cntL_app a b]; omega
theorem allL_bd {l : List Fl} {k : Nat} {f : Fl} (hf : l[k]? = some f) : (allL (l.take k)).length + f.l.length ≤ cntL l := by
  rw [allL_len]
  conv => rhs; rw [← List.take_append_drop k l]
  rw [cntL_app, List.drop_eq_getElem_cons (List.getElem?_eq_some_iff.1 hf).1, (List.getElem?_eq_some_iff.1 hf).2]
  simp only [cntL]; omega
theorem flow_at (hq : QOk q) {j : Nat} (hj : j < 16) : q.fl[j]? = some (q.flow (j : Int)) := (hq.flow (k := (j : Int)) (by omega) (by omega)).1
end
end Go.Proofs.YtpcilleldanfmaaDoor
