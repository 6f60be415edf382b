/- An abstract machine: values, memory by paths; how it stands for the real one. No program is named here. -/
import Derived.Test.YtgkpnfnkaplebaaGreatDoorAbT
import Derived.Test.YtgkpnfnkaplebaaGreatDoorAbS
import Derived.Test.YtgkpnfnkaplebaaGreatDoorErr
import Derived.Test.YtgkpnfnkaplebaaGreatDoorChunk
set_option linter.unusedVariables false
set_option linter.unusedSimpArgs false
namespace Go.Ab
open Go.Vc Go.Proofs.YtgkpnfnkaplebaaGreatDoor
/-- The errors' variables that are told of: all but the desk's. -/
def errA : List Nat := errG.take errN
/-- Sentinels in memory: twelve at least. -/
structure Sna (W : Wd) (ads : List Addr) : Prop where
  n : errN ≤ ads.length
  nd : ads.Nodup
  v : ∀ (i : Nat) (a : Addr) (g : Nat), ads[i]? = some a → errG[i]? = some g → wcell W g 0 = some (ptE a)
  pl : ∀ a ∈ ads, ∃ c t, W a.block = some (.cells c t (0, 0))
theorem Sna.le {W W' : Wd} {ads : List Addr} (hl : W.le W') (s : Sna W ads) : Sna W' ads :=
  ⟨s.n, s.nd, fun i a g h1 h2 => wcell_le hl (s.v i a g h1 h2), fun a ha => by obtain ⟨c, t, h⟩ := s.pl a ha; exact ⟨c, t, hl _ _ h⟩⟩
theorem Sna.inj {W : Wd} {ads : List Addr} {a : Addr} {i j : Nat} (s : Sna W ads) (hi : ads[i]? = some a) (hj : ads[j]? = some a) : i = j := by
  obtain ⟨h1, e1⟩ := List.getElem?_eq_some_iff.1 hi
  obtain ⟨h2, e2⟩ := List.getElem?_eq_some_iff.1 hj
  have hp := List.pairwise_iff_getElem.1 s.nd
  rcases Nat.lt_trichotomy i j with h | h | h
  · exact absurd (e1.trans e2.symm) (hp i j h1 h2 h)
  · exact h
  · exact absurd (e2.trans e1.symm) (hp j i h2 h1 h)
inductive AP where
  | nil | at (p : P4) (o : Nat) | gl (g : Nat)
inductive AS where
  | nil | sl (p : P4) (o l c : Nat) | su (p : P4) (o e l b : Nat) | se (p : P4) (o e l n : Nat)
inductive AV where
  | x | i (k : IntKind) (n : Int) | b (t : Bool) | p (a : AP) | s (a : AS) | ni | er (i : Nat) | ifc (t : TypeId) (v : AV) | fn (f : Nat) (l : List AP) | nf | g (s : List Int) | y (n : Int) (l : List (Nat × Nat)) | mp (a : AP) | bm (f : Nat) (l : List AP)
/-- What a slot holds: unknown, a value of one cell, a row of cells, a list of things. -/
inductive DV where
  | u | v (a : AV) | a (l : List AV) | n | c (x r : DV)
/-- A map's entry: its key, what it has, when it came. -/
inductive ME where
  | mk (k : Int) (v : DV) (b : Nat)
/-- A block: cells; a map; a look over a map that began. -/
inductive Blk where
  | dead | c (t : T4 AV) (n : Nat) (es : Nat) | m (l : List ME) (c : Nat) | it (q : AP) (f z : Nat)
inductive AH where
  | mk (m : T4 Blk) (nx : P4)
def AH.m : AH → T4 Blk | .mk m _ => m
def AH.nx : AH → P4 | .mk _ n => n
/-- Where a block lies: which, from which cell on, room for how many. -/
structure Loc where
  b : Nat
  δ : Nat
  κ : Nat
abbrev Phi := P4 → Option Loc
def Phi.le (φ φ' : Phi) : Prop := ∀ p l, φ p = some l → φ' p = some l
theorem Phi.le.refl (φ : Phi) : φ.le φ := fun _ _ h => h
theorem Phi.le.trans {φ φ' φ'' : Phi} (h : φ.le φ') (k : φ'.le φ'') : φ.le φ'' := fun p l e => k p l (h p l e)
def RP (φ : Phi) : AP → Option Addr → Prop
  | .nil, a => a = none
  | .at p o, a => ∃ l, φ p = some l ∧ a = some ⟨l.b, l.δ + o, none⟩
  | .gl g, a => a = some ⟨g, 0, none⟩
def RS (φ : Phi) : AS → Option Addr → Nat → Nat → Prop
  | .nil, a, l, c => a = none ∧ l = 0 ∧ c = 0
  | .sl p o n m, a, l, c => ∃ L, φ p = some L ∧ a = some ⟨L.b, L.δ + o, none⟩ ∧ l = n ∧ c = m
  | .su p o e n b, a, l, c => ∃ L, φ p = some L ∧ a = some ⟨L.b, L.δ + o, none⟩ ∧ l = n ∧ c = L.κ - e ∧ e + b ≤ L.κ
  | .se p o e n z, a, l, c => ∃ L, φ p = some L ∧ e + n ≤ L.κ ∧ a = slcAddr (some ⟨L.b, L.δ + o, none⟩) n (L.κ - e) z ∧ l = 0 ∧ c = L.κ - e - n
/-- A map that is told by its block. -/
def RM (φ : Phi) : AP → Option Nat → Prop
  | .nil, m => m = none
  | .at p _, m => ∃ l, φ p = some l ∧ m = some l.b
  | .gl _, _ => False
def RPs (φ : Phi) : List AP → List Value → Prop
  | [], vs => vs = []
  | p :: r, vs => ∃ a vr, vs = .pointer a :: vr ∧ RP φ p a ∧ RPs φ r vr
inductive RV (ads : List Addr) (φ : Phi) : AV → Value → Prop
  | i (k : IntKind) (n : Int) : RV ads φ (.i k n) (.int k n)
  | b (t : Bool) : RV ads φ (.b t) (.bool t)
  | p {p : AP} {a : Option Addr} : RP φ p a → RV ads φ (.p p) (.pointer a)
  | s {s : AS} {a : Option Addr} {l c : Nat} : RS φ s a l c → RV ads φ (.s s) (.slice a l c)
  | ni : RV ads φ .ni .nilIface
  | er {i : Nat} {a : Addr} : ads[i]? = some a → RV ads φ (.er i) (ptE a)
  | ifc {t : TypeId} {v : AV} {w : Value} : RV ads φ v w → RV ads φ (.ifc t v) (.iface t w)
  | fn {f : Nat} {l : List AP} {vs : List Value} : RPs φ l vs → RV ads φ (.fn f l) (.func (.func f) #[] vs.toArray)
  | nf : RV ads φ .nf .nilFunc
  | g {l : List Int} : bytesOk l → RV ads φ (.g l) (.string (strOf l))
  | y {n : Int} {l : List (Nat × Nat)} : (∀ p ∈ l, n % ((p.1 : Nat) : Int) = ((p.2 : Nat) : Int)) → RV ads φ (.y n l) (.int .i64 n)
  | mp {a : AP} {m : Option Nat} : RM φ a m → RV ads φ (.mp a) (.map m)
  | bm {f : Nat} {l : List AP} {vs : List Value} : RPs φ l vs → RV ads φ (.bm f l) (.func (.func f) vs.toArray #[])
def RL (ads : List Addr) (φ : Phi) : List AV → List Value → Prop
  | [], vs => vs = []
  | v :: r, vs => ∃ w wr, vs = w :: wr ∧ RV ads φ v w ∧ RL ads φ r wr
/-- A thing that is no list. -/
def RE (ads : List Addr) (φ : Phi) : DV → Value → Prop
  | .v a, w => RV ads φ a w
  | .a l, w => ∃ ws : List Value, w = .agg ws.toArray ∧ RL ads φ l ws
  | _, _ => False
/-- A map's entries. -/
def RMe (ads : List Addr) (φ : Phi) : List ME → List MapEntry → Prop
  | [], es => es = []
  | .mk k v b :: r, es => ∃ w er, es = { key := .int .i64 k, val := w, born := b } :: er ∧ RE ads φ v w ∧ RMe ads φ r er
def RDs (ads : List Addr) (φ : Phi) : DV → List Value → Prop
  | .n, vs => vs = []
  | .c x r, vs => ∃ w wr, vs = w :: wr ∧ RE ads φ x w ∧ RDs ads φ r wr
  | _, _ => False
def RD (ads : List Addr) (φ : Phi) : DV → Value → Prop
  | .u, _ => True
  | .v a, w => RV ads φ a w
  | .a l, w => ∃ ws : List Value, w = .agg ws.toArray ∧ RL ads φ l ws
  | .n, w => w = .tuple #[]
  | .c x r, w => ∃ vs : List Value, w = .tuple vs.toArray ∧ RDs ads φ (.c x r) vs
def RAs (ads : List Addr) (φ : Phi) : List DV → List Value → Prop
  | [], vs => vs = []
  | v :: r, vs => ∃ w wr, vs = w :: wr ∧ RD ads φ v w ∧ RAs ads φ r wr
section
variable {ads : List Addr} {φ φ' : Phi} {β : Type} {out : β}
theorem RP.mono {p : AP} {a : Option Addr} (hl : φ.le φ') (h : RP φ p a) : RP φ' p a := by
  cases p with
  | nil => exact h
  | «at» p o => obtain ⟨l, h1, h2⟩ := h; exact ⟨l, hl _ _ h1, h2⟩
  | gl g => exact h
theorem RS.mono {s : AS} {a : Option Addr} {l c : Nat} (hl : φ.le φ') (h : RS φ s a l c) : RS φ' s a l c := by
  cases s with
  | nil => exact h
  | sl p o n m => obtain ⟨L, h1, h2⟩ := h; exact ⟨L, hl _ _ h1, h2⟩
  | su p o e n b => obtain ⟨L, h1, h2⟩ := h; exact ⟨L, hl _ _ h1, h2⟩
  | se p o e n z => obtain ⟨L, h1, h2⟩ := h; exact ⟨L, hl _ _ h1, h2⟩
theorem RM.mono {a : AP} {m : Option Nat} (hl : φ.le φ') (h : RM φ a m) : RM φ' a m := by
  cases a with
  | nil => exact h
  | «at» p o => obtain ⟨l, h1, h2⟩ := h; exact ⟨l, hl _ _ h1, h2⟩
  | gl g => exact h
theorem RPs.mono (hl : φ.le φ') : ∀ {l : List AP} {vs : List Value}, RPs φ l vs → RPs φ' l vs
  | [], _, h => h
  | _ :: _, _, ⟨a, vr, h1, h2, h3⟩ => ⟨a, vr, h1, h2.mono hl, h3.mono hl⟩
theorem RV.mono (hl : φ.le φ') {v : AV} {w : Value} (h : RV ads φ v w) : RV ads φ' v w := by
  induction h with
  | i k n => exact .i k n
  | b t => exact .b t
  | p h => exact .p (h.mono hl)
  | s h => exact .s (h.mono hl)
  | ni => exact .ni
  | er h => exact .er h
  | ifc _ ih => exact .ifc ih
  | fn h => exact .fn (h.mono hl)
  | nf => exact .nf
  | g h => exact .g h
  | y h => exact .y h
  | mp h => exact .mp (h.mono hl)
  | bm h => exact .bm (h.mono hl)
theorem RL.mono (hl : φ.le φ') : ∀ {l : List AV} {vs : List Value}, RL ads φ l vs → RL ads φ' l vs
  | [], _, h => h
  | _ :: _, _, ⟨w, wr, h1, h2, h3⟩ => ⟨w, wr, h1, h2.mono hl, h3.mono hl⟩
theorem RE.mono (hl : φ.le φ') {d : DV} {w : Value} (h : RE ads φ d w) : RE ads φ' d w := by
  cases d with
  | v a => exact RV.mono hl h
  | a l => obtain ⟨ws, h1, h2⟩ := h; exact ⟨ws, h1, h2.mono hl⟩
  | u => exact h
  | n => exact h
  | c x r => exact h
theorem RMe.mono (hl : φ.le φ') : ∀ {l : List ME} {es : List MapEntry}, RMe ads φ l es → RMe ads φ' l es
  | [], _, h => h
  | .mk _ _ _ :: _, _, ⟨w, er, h1, h2, h3⟩ => ⟨w, er, h1, h2.mono hl, h3.mono hl⟩
theorem RDs.mono (hl : φ.le φ') : ∀ {d : DV} {vs : List Value}, RDs ads φ d vs → RDs ads φ' d vs
  | .n, _, h => h
  | .c x r, _, ⟨w, wr, h1, h2, h3⟩ => ⟨w, wr, h1, h2.mono hl, h3.mono hl⟩
  | .u, _, h | .v _, _, h | .a _, _, h => h
theorem RD.mono (hl : φ.le φ') {d : DV} {w : Value} (h : RD ads φ d w) : RD ads φ' d w := by
  cases d with
  | u => trivial
  | v a => exact RV.mono hl h
  | a l => obtain ⟨ws, h1, h2⟩ := h; exact ⟨ws, h1, h2.mono hl⟩
  | n => exact h
  | c x r => obtain ⟨ws, h1, h2⟩ := h; exact ⟨ws, h1, h2.mono hl⟩
theorem RAs.mono (hl : φ.le φ') : ∀ {l : List DV} {vs : List Value}, RAs ads φ l vs → RAs ads φ' l vs
  | [], _, h => h
  | _ :: _, _, ⟨w, wr, h1, h2, h3⟩ => ⟨w, wr, h1, h2.mono hl, h3.mono hl⟩
theorem RE.d {d : DV} {w : Value} (h : RE ads φ d w) : RD ads φ d w := by
  cases d <;> first | exact h | exact h.elim
theorem RV.one {v : AV} {w : Value} (h : RV ads φ v w) : w.oneCell' = true := by cases h <;> rfl
theorem RL.nil : RL ads φ [] [] := rfl
theorem RL.cons {v : AV} {w : Value} {r : List AV} {wr : List Value} (h : RV ads φ v w) (k : RL ads φ r wr) : RL ads φ (v :: r) (w :: wr) := ⟨w, wr, rfl, h, k⟩
theorem RL.len : ∀ {l : List AV} {vs : List Value}, RL ads φ l vs → vs.length = l.length
  | [], _, h => by rw [show _ = [] from h]; rfl
  | _ :: _, _, ⟨w, wr, h1, h2, h3⟩ => by rw [h1, List.length_cons, List.length_cons, h3.len]
theorem RL.one : ∀ {l : List AV} {vs : List Value}, RL ads φ l vs → ∀ u ∈ vs, u.oneCell' = true
  | [], _, h, u, hu => by rw [show _ = [] from h] at hu; cases hu
  | _ :: _, _, ⟨w, wr, h1, h2, h3⟩, u, hu => by
    rw [h1] at hu
    rcases List.mem_cons.1 hu with rfl | hu
    · exact h2.one
    · exact h3.one u hu
theorem RL.app : ∀ {l : List AV} {vs : List Value} {m : List AV} {ws : List Value}, RL ads φ l vs → RL ads φ m ws → RL ads φ (l ++ m) (vs ++ ws)
  | [], _, _, _, h, k => by rw [show _ = [] from h]; exact k
  | _ :: _, _, _, _, ⟨w, wr, h1, h2, h3⟩, k => by rw [h1]; exact ⟨w, _, rfl, h2, h3.app k⟩
theorem RL.drop : ∀ {n : Nat} {l : List AV} {vs : List Value}, RL ads φ l vs → RL ads φ (l.drop n) (vs.drop n)
  | 0, _, _, h => h
  | n + 1, [], _, h => by rw [show _ = [] from h]; rfl
  | n + 1, _ :: _, _, ⟨w, wr, h1, h2, h3⟩ => by rw [h1]; exact h3.drop (n := n)
theorem RL.take : ∀ {n : Nat} {l : List AV} {vs : List Value}, RL ads φ l vs → RL ads φ (l.take n) (vs.take n)
  | 0, _, _, _ => rfl
  | n + 1, [], _, h => by rw [show _ = [] from h]; rfl
  | n + 1, _ :: _, _, ⟨w, wr, h1, h2, h3⟩ => by rw [h1]; exact ⟨w, _, rfl, h2, h3.take (n := n)⟩
theorem RL.at : ∀ {n : Nat} {l : List AV} {vs : List Value} {v : AV}, RL ads φ l vs → l[n]? = some v → ∃ w, vs[n]? = some w ∧ RV ads φ v w
  | 0, _ :: _, _, v, ⟨w, wr, h1, h2, h3⟩, e => by cases e; exact ⟨w, by rw [h1]; rfl, h2⟩
  | n + 1, _ :: _, _, v, ⟨w, wr, h1, h2, h3⟩, e => by
    obtain ⟨w', h4, h5⟩ := h3.at (n := n) (v := v) (by simpa using e)
    exact ⟨w', by rw [h1]; simpa using h4, h5⟩
theorem RP.at {p : P4} {o oc : Nat} {l : Loc} (h : φ p = some l) (ho : oc = l.δ + o) : RP φ (.at p o) (some ⟨l.b, oc, none⟩) := ⟨l, h, by rw [ho]⟩
theorem RP.nilp : RP φ .nil none := rfl
theorem RS.nils : RS φ .nil none 0 0 := ⟨rfl, rfl, rfl⟩
theorem RS.sl {p : P4} {o oc l c : Nat} {L : Loc} (h : φ p = some L) (ho : oc = L.δ + o) : RS φ (.sl p o l c) (some ⟨L.b, oc, none⟩) l c := ⟨L, h, by rw [ho], rfl, rfl⟩
theorem RAs.len : ∀ {l : List DV} {vs : List Value}, RAs ads φ l vs → vs.length = l.length
  | [], _, h => by rw [show _ = [] from h]; rfl
  | _ :: _, _, ⟨w, wr, h1, h2, h3⟩ => by rw [h1, List.length_cons, List.length_cons, h3.len]
theorem RAs.app : ∀ {l : List DV} {vs : List Value} {m : List DV} {ws : List Value}, RAs ads φ l vs → RAs ads φ m ws → RAs ads φ (l ++ m) (vs ++ ws)
  | [], _, _, _, h, k => by rw [show _ = [] from h]; exact k
  | _ :: _, _, _, _, ⟨w, wr, h1, h2, h3⟩, k => by rw [h1]; exact ⟨w, _, rfl, h2, h3.app k⟩
end
/-- Maps, and looks over them, stand for the real ones. -/
structure HM (W : Wd) (ads : List Addr) (φ : Phi) (m : T4 Blk) (h : Heap) : Prop where
  mb : ∀ p es c, T4.get .dead p m = .m es c → ∃ (l : Loc) (es' : List MapEntry), φ p = some l ∧ h[l.b]? = some (.map es'.toArray c) ∧ W l.b = none ∧ RMe ads φ es es'
  ib : ∀ p q f z, T4.get .dead p m = .it q f z → ∃ (l : Loc) (r : Option Nat), φ p = some l ∧ h[l.b]? = some (.mapIter r f #[] z) ∧ W l.b = none ∧ l.δ = 0 ∧ f ≤ z ∧ RM φ q r
  mj : ∀ p q es c es' c' l l', p ≠ q → T4.get .dead p m = .m es c → T4.get .dead q m = .m es' c' → φ p = some l → φ q = some l' → l.b ≠ l'.b
def isC (o : Obj) : Bool := match o with | .cells _ _ _ => true | _ => false
theorem HM.keep {W W' : Wd} {ads : List Addr} {φ φ' : Phi} {m m' : T4 Blk} {h h' : Heap} (hm : HM W ads φ m h) (hl : φ.le φ') (hW : ∀ (b : Nat) (o : Obj), h[b]? = some o → W b = none → W' b = none) (g1 : ∀ p es c, T4.get .dead p m' = .m es c → T4.get .dead p m = .m es c)
    (g2 : ∀ p q f z, T4.get .dead p m' = .it q f z → T4.get .dead p m = .it q f z) (hh : ∀ (b : Nat) (o : Obj), h[b]? = some o → isC o = false → h'[b]? = some o) : HM W' ads φ' m' h' := by
  refine ⟨fun p es c hg => ?_, fun p q f z hg => ?_, fun p q es c es' c' l l' hne hg hg' k k' => ?_⟩
  · obtain ⟨l, es', h1, h2, h3, h4⟩ := hm.mb p es c (g1 _ _ _ hg)
    exact ⟨l, es', hl _ _ h1, hh _ _ h2 rfl, hW _ _ h2 h3, h4.mono hl⟩
  · obtain ⟨l, r, h1, h2, h3, h4, h5, h6⟩ := hm.ib p q f z (g2 _ _ _ _ hg)
    exact ⟨l, r, hl _ _ h1, hh _ _ h2 rfl, hW _ _ h2 h3, h4, h5, h6.mono hl⟩
  · obtain ⟨l1, _, h1, _⟩ := hm.mb p es c (g1 _ _ _ hg)
    obtain ⟨l2, _, h2, _⟩ := hm.mb q es' c' (g1 _ _ _ hg')
    have e1 := hl _ _ h1
    have e2 := hl _ _ h2
    rw [e1] at k; rw [e2] at k'
    cases k; cases k'
    exact hm.mj p q es c es' c' _ _ hne (g1 _ _ _ hg) (g1 _ _ _ hg') h1 h2
/-- Another block turns, of cells before and after. -/
theorem HM.turn {W : Wd} {ads : List Addr} {φ : Phi} {m : T4 Blk} {h h' : Heap} {p : P4} {b : Blk} (hm : HM W ads φ m h) (hb : (∀ es c, b ≠ .m es c) ∧ ∀ q f z, b ≠ .it q f z) (hh : ∀ (b : Nat) (o : Obj), h[b]? = some o → isC o = false → h'[b]? = some o) :
    HM W ads φ (T4.set .dead p b m) h' := by
  refine hm.keep (fun _ _ k => k) (fun _ _ _ k => k) (fun q es c hg => ?_) (fun q r f z hg => ?_) hh
  · by_cases hq : q = p
    · subst hq; rw [T4.get_set_same] at hg; exact absurd hg (hb.1 _ _)
    · rwa [T4.get_set_ne _ _ _ _ _ hq] at hg
  · by_cases hq : q = p
    · subst hq; rw [T4.get_set_same] at hg; exact absurd hg (hb.2 _ _ _)
    · rwa [T4.get_set_ne _ _ _ _ _ hq] at hg
/-- The abstract memory stands for the real one; what W says stays. -/
structure HR (W : Wd) (ads : List Addr) (φ : Phi) (H : AH) (h : Heap) : Prop where
  w : ∀ b x, W b = some x → h[b]? = some x
  blk : ∀ p t n es, T4.get .dead p H.m = .c t n es → ∃ (l : Loc) (cs : Array Value) (T : TypeId × (Nat × Nat)), φ p = some l ∧ h[l.b]? = some (.cells cs T.1 T.2) ∧ W l.b = none ∧ l.δ + n ≤ cs.size ∧ ((es ≠ 0 → l.δ + l.κ * es ≤ cs.size) ∧ (T.2 = (0, 0) ∨ es ≠ 0 ∧ cs.size ≤ T.2.1)) ∧
    ∀ q : P4, q.num < n → ∃ v, cs[l.δ + q.num]? = some v ∧ RV ads φ (T4.get .x q t) v
  inj : ∀ p q t n es t' n' es' l l', p ≠ q → T4.get .dead p H.m = .c t n es → T4.get .dead q H.m = .c t' n' es' → φ p = some l → φ q = some l' → l.b ≠ l'.b
  dom : ∀ p l, φ p = some l → p.num < H.nx.num
  mm : HM W ads φ H.m h
noncomputable section
variable {β : Type}
abbrev br (c : Bool) (X Y : Option β) : Option β := Bool.rec (motive := fun _ => Option β) Y X c
/-- A test that must hold. -/
abbrev must (c : Bool) (K : Option β) : Option β := br c K none
def kqR (a b : IntKind) : Bool := IntKind.rec (motive := fun _ => Bool) (IntKind.rec (motive := fun _ => Bool) true false false false false false false false b) (IntKind.rec (motive := fun _ => Bool) false true false false false false false false b)
  (IntKind.rec (motive := fun _ => Bool) false false true false false false false false b) (IntKind.rec (motive := fun _ => Bool) false false false true false false false false b) (IntKind.rec (motive := fun _ => Bool) false false false false true false false false b)
  (IntKind.rec (motive := fun _ => Bool) false false false false false true false false b) (IntKind.rec (motive := fun _ => Bool) false false false false false false true false b) (IntKind.rec (motive := fun _ => Bool) false false false false false false false true b) a
abbrev onA (p : AP) (k : P4 → Nat → Option β) : Option β := AP.rec (motive := fun _ => Option β) none k (fun _ => none) p
def isNilA (p : AP) : Bool := AP.rec (motive := fun _ => Bool) true (fun _ _ => false) (fun _ => false) p
def isNilS (s : AS) : Bool := AS.rec (motive := fun _ => Bool) true (fun _ _ _ _ => false) (fun _ _ _ _ _ => false) (fun _ _ _ _ _ => false) s
abbrev isI (k : IntKind) (v : AV) (K : Int → Option β) : Option β := AV.rec (motive := fun _ => Option β) none (fun k' n => must (kqR k' k) (K n)) (fun _ => none) (fun _ => none) (fun _ => none) none (fun _ => none) (fun _ _ _ => none) (fun _ _ => none) none (fun _ => none) (fun _ _ => none) (fun _ => none) (fun _ _ => none) v
abbrev isB (v : AV) (K : Bool → Option β) : Option β := AV.rec (motive := fun _ => Option β) none (fun _ _ => none) K (fun _ => none) (fun _ => none) none (fun _ => none) (fun _ _ _ => none) (fun _ _ => none) none (fun _ => none) (fun _ _ => none) (fun _ => none) (fun _ _ => none) v
abbrev isP (v : AV) (K : AP → Option β) : Option β := AV.rec (motive := fun _ => Option β) none (fun _ _ => none) (fun _ => none) K (fun _ => none) none (fun _ => none) (fun _ _ _ => none) (fun _ _ => none) none (fun _ => none) (fun _ _ => none) (fun _ => none) (fun _ _ => none) v
abbrev isS (v : AV) (K : AS → Option β) : Option β := AV.rec (motive := fun _ => Option β) none (fun _ _ => none) (fun _ => none) (fun _ => none) K none (fun _ => none) (fun _ _ _ => none) (fun _ _ => none) none (fun _ => none) (fun _ _ => none) (fun _ => none) (fun _ _ => none) v
abbrev isG (v : AV) (K : List Int → Option β) : Option β := AV.rec (motive := fun _ => Option β) none (fun _ _ => none) (fun _ => none) (fun _ => none) (fun _ => none) none (fun _ => none) (fun _ _ _ => none) (fun _ _ => none) none K (fun _ _ => none) (fun _ => none) (fun _ _ => none) v
abbrev isF (v : AV) (K : Nat → List AP → Option β) : Option β := AV.rec (motive := fun _ => Option β) none (fun _ _ => none) (fun _ => none) (fun _ => none) (fun _ => none) none (fun _ => none) (fun _ _ _ => none) K none (fun _ => none) (fun _ _ => none) (fun _ => none) (fun _ _ => none) v
abbrev isM (v : AV) (K : TypeId → AV → Option β) : Option β := AV.rec (motive := fun _ => Option β) none (fun _ _ => none) (fun _ => none) (fun _ => none) (fun _ => none) none (fun _ => none) (fun t v _ => K t v) (fun _ _ => none) none (fun _ => none) (fun _ _ => none) (fun _ => none) (fun _ _ => none) v
/-- A function: what goes ahead of its arguments, what behind. -/
abbrev fnK (v : AV) (K : Nat → List AP → List AP → Option β) : Option β := AV.rec (motive := fun _ => Option β) none (fun _ _ => none) (fun _ => none) (fun _ => none) (fun _ => none) none (fun _ => none) (fun _ _ _ => none) (fun f l => K f [] l) none (fun _ => none) (fun _ _ => none) (fun _ => none) (fun f l => K f l []) v
abbrev isMp (v : AV) (K : AP → Option β) : Option β := AV.rec (motive := fun _ => Option β) none (fun _ _ => none) (fun _ => none) (fun _ => none) (fun _ => none) none (fun _ => none) (fun _ _ _ => none) (fun _ _ => none) none (fun _ => none) (fun _ _ => none) K (fun _ _ => none) v
/-- The value's head is reckoned out. -/
def frcV (v : AV) (K : AV → Option β) : Option β := AV.rec (motive := fun _ => Option β) none (fun k n => K (.i k n)) (fun t => K (.b t)) (fun a => K (.p a)) (fun a => K (.s a)) (K .ni) (fun i => K (.er i)) (fun t v _ => K (.ifc t v)) (fun f l => K (.fn f l)) (K .nf) (fun s => K (.g s)) (fun n l => K (.y n l)) (fun a => K (.mp a)) (fun f l => K (.bm f l)) v
abbrev onV (d : DV) (K : AV → Option β) : Option β := DV.rec (motive := fun _ => Option β) none K (fun _ => none) none (fun _ _ _ _ => none) d
abbrev onL (d : DV) (K : List AV → Option β) : Option β := DV.rec (motive := fun _ => Option β) none (fun _ => none) K none (fun _ _ _ _ => none) d
abbrev onC (d : DV) (K : DV → DV → Option β) : Option β := DV.rec (motive := fun _ => Option β) none (fun _ => none) (fun _ => none) none (fun x r _ _ => K x r) d
abbrev onN (d : DV) (K : Option β) : Option β := DV.rec (motive := fun _ => Option β) none (fun _ => none) (fun _ => none) K (fun _ _ _ _ => none) d
def blkK (H : AH) (p : P4) (k : T4 AV → Nat → Nat → Option β) : Option β := AH.rec (motive := fun _ => Option β) (fun m _ => Blk.rec (motive := fun _ => Option β) none k (fun _ _ => none) (fun _ _ _ => none) (T4.get .dead p m)) H
def rdK (H : AH) (p : P4) (o : Nat) (k : AV → Option β) : Option β := blkK H p fun t n _ => must (Nat.ble (Nat.succ o) n) (frcV (T4.get .x (pth o) t) k)
/-- How long a slice is. -/
def lenA (s : AS) (k : Nat → Option β) : Option β := AS.rec (motive := fun _ => Option β) (k 0) (fun _ _ l _ => k l) (fun _ _ _ l _ => k l) (fun _ _ _ _ _ => k 0) s
def capA (s : AS) (k : Nat → Option β) : Option β := AS.rec (motive := fun _ => Option β) (k 0) (fun _ _ _ c => k c) (fun _ _ _ _ _ => none) (fun _ _ _ _ _ => none) s
/-- A map's entries, its clock. -/
def mesK (H : AH) (a : AP) (K : List ME → Nat → Option β) : Option β :=
  AP.rec (motive := fun _ => Option β) (K [] 0) (fun p _ => AH.rec (motive := fun _ => Option β) (fun m _ => Blk.rec (motive := fun _ => Option β) none (fun _ _ _ => none) (fun l c => K l c) (fun _ _ _ => none) (T4.get .dead p m)) H) (fun _ => none) a
def itK (H : AH) (p : P4) (K : AP → Nat → Nat → Option β) : Option β :=
  AH.rec (motive := fun _ => Option β) (fun m _ => Blk.rec (motive := fun _ => Option β) none (fun _ _ _ => none) (fun _ _ => none) (fun q f z => K q f z) (T4.get .dead p m)) H
def lenM (l : List ME) : Nat := List.rec (motive := fun _ => Nat) 0 (fun _ _ ih => Nat.succ ih) l
def wrM (H : AH) (p : P4) (l : List ME) (c : Nat) (K : AH → Option β) : Option β := AH.rec (motive := fun _ => Option β) (fun m nx => T4.setK .dead p (.m l c) m fun m' => K (.mk m' nx)) H
/-- A new block. -/
def alO (H : AH) (b : Blk) (K : P4 → AH → Option β) : Option β := AH.rec (motive := fun _ => Option β) (fun m nx => T4.setK .dead nx b m fun m' => nx.succK fun nx' => K nx (.mk m' nx')) H
/-- Cells in a row. -/
def rowT (t : T4 AV) (n : Nat) : P4 → (List AV → Option β) → Option β :=
  Nat.rec (motive := fun _ => P4 → (List AV → Option β) → Option β) (fun _ k => k [])
    (fun _ ih q k => frcV (T4.get .x q t) fun v => q.succK fun q' => ih q' fun l => k (v :: l)) n
def rdR (H : AH) (p : P4) (o n : Nat) (k : List AV → Option β) : Option β := blkK H p fun t m _ => must (Nat.ble (Nat.add o n) m) (rowT t n (pth o) k)
def wrK (H : AH) (p : P4) (o : Nat) (v : AV) (k : AH → Option β) : Option β :=
  AH.rec (motive := fun _ => Option β) (fun m nx => Blk.rec (motive := fun _ => Option β) none
    (fun t n es => must (Nat.ble (Nat.succ o) n) (T4.setK .x (pth o) v t fun t' => T4.setK .dead p (.c t' n es) m fun m' => k (.mk m' nx))) (fun _ _ => none) (fun _ _ _ => none) (T4.get .dead p m)) H
def wrT (l : List AV) : P4 → T4 AV → (T4 AV → Option β) → Option β :=
  List.rec (motive := fun _ => P4 → T4 AV → (T4 AV → Option β) → Option β) (fun _ t k => k t)
    (fun v _ ih q t k => T4.setK .x q v t fun t' => q.succK fun q' => ih q' t' k) l
def llen (l : List AV) : Nat := List.rec (motive := fun _ => Nat) 0 (fun _ _ ih => Nat.succ ih) l
def wrL (H : AH) (p : P4) (o : Nat) (l : List AV) (k : AH → Option β) : Option β :=
  AH.rec (motive := fun _ => Option β) (fun m nx => Blk.rec (motive := fun _ => Option β) none
    (fun t n es => must (Nat.ble (Nat.add o (llen l)) n) (wrT l (pth o) t fun t' => T4.setK .dead p (.c t' n es) m fun m' => k (.mk m' nx))) (fun _ _ => none) (fun _ _ _ => none) (T4.get .dead p m)) H
/-- A row of cells as a tree, for the kernel to keep. -/
def treeF (l : List AV) : P4 → T4 AV → T4 AV := List.rec (motive := fun _ => P4 → T4 AV → T4 AV) (fun _ t => t) (fun v _ ih q t => T4.set .x q v (ih q.succ t)) l
def alB (H : AH) (t : T4 AV) (n es : Nat) (k : P4 → AH → Option β) : Option β :=
  AH.rec (motive := fun _ => Option β) (fun m nx => T4.setK .dead nx (.c t n es) m fun m' => nx.succK fun nx' => k nx (.mk m' nx')) H
/-- New memory with these cells. -/
def alK (H : AH) (l : List AV) (k : P4 → AH → Option β) : Option β := wrT l .h .e fun t => alB H t (llen l) 0 k
/-- New memory with these cells, which are the same each time. -/
def alF (H : AH) (l : List AV) (n : Nat) (k : P4 → AH → Option β) : Option β := alB H (treeF l .h .e) n 0 k
end
end Go.Ab
