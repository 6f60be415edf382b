/- Package recv in memory: a station of which one identifier may have a session; a frame that is taken without one; what is answered. -/
import Derived.Test.YthlacliefgliiaaDoorRecvPlain
import Derived.Test.YthlacliefgliiaaDoorChunk
import Derived.Test.YthlacliefgliiaaDoorGenRecv
set_option linter.unusedVariables false
set_option linter.unusedSimpArgs false
set_option maxRecDepth 8000
namespace Go.Proofs.YthlacliefgliiaaDoor
open Go.Vc
/-- What stays grows, but for one map. -/
def _root_.Go.Vc.Wd.gr (W W' : Wd) (r : Option Nat) : Prop := ∀ b x, some b ≠ r → W b = some x → W' b = some x
theorem gr_le {W W' : Wd} {r : Option Nat} (h : W.le W') : W.gr W' r := fun b x _ e => h b x e
theorem gr_trans {A B C : Wd} {r : Option Nat} (h : A.gr B r) (k : B.gr C r) : A.gr C r := fun b x n e => k b x n (h b x n e)
/-- A session's cells. -/
def sesC (x : Ses) (mv : Option Nat) : List Value := [.bool x.on, .int .i64 x.start, .int .i64 x.size, .int .i64 x.fr, .int .u64 x.bits, .map mv, .bool x.came, .int .i64 x.last]
def z8 : List Value := sesC ses0 none
def preC (size : Int) : List Value := ints .u8 meL ++ (ints .u8 bssL ++ [.int .i64 size])
/-- A station's cells: one session's beside the others'. -/
def stC (size : Int) (css : List (List Value)) (t : Nat) (cs : List Value) : List Value := ck (preC size) (css.set t cs) []
def css0 : List (List Value) := List.replicate 8 z8
/-- The entries of a map of frames. -/
def EsV (W : Wd) : List MapEntry → List Fm → Prop
  | [], l => l = []
  | e :: es, l => ∃ f r cs, l = f :: r ∧ e.key = .int .i64 f.sq ∧ e.val = .agg cs.toArray ∧ FmV W f cs ∧ EsV W es r
structure MapV (W : Wd) (r : Nat) (l : List Fm) : Prop where
  v : ∃ es c, W r = some (.map es.toArray c) ∧ EsV W es l ∧ (∀ e ∈ es, e.born < c) ∧ (es.map (·.born)).Nodup
def KeptV (W : Wd) (mv : Option Nat) (l : List Fm) : Prop := match mv with
  | none => l = []
  | some r => MapV W r l
/-- A station at block b. -/
structure St (W : Wd) (h : Heap) (b : Nat) (T : TypeId) (size : Int) (css : List (List Value)) (t : Nat) (cs : List Value) (G : List Grp) : Prop where
  m : Me W h ([(b, stC size css t cs, T)] :: G)
  hn : ∀ c ∈ css, c.length = 8
  hl : css.length = 8
  ht : t < 8
  hc : cs.length = 8
section
variable {W W' : Wd} {h h' : Heap} {b t j n : Nat} {T : TypeId} {size : Int} {css : List (List Value)} {cs us vs : List Value} {G G' : List Grp} {v : Value} {x : Ses} {f : Fm} {mv : Option Nat} {Q : Heap → Prop} {E : Grp}
theorem z8_len : ∀ c ∈ List.replicate 8 z8, c.length = 8 := by intro c hc; rw [List.eq_of_mem_replicate hc]; rfl
theorem St.tl (s : St W h b T size css t cs G) : t < css.length := by rw [s.hl]; exact s.ht
theorem St.get (s : St W h b T size css t cs G) (j : Nat) (hv : cs[j]? = some v) : cell h b (13 + t * 8 + j) = some v :=
  s.m.fget 0 rfl s.hn s.tl s.hc j rfl hv
theorem St.get0 (s : St W h b T size css t cs G) (hv : cs[0]? = some v) : cell h b (13 + t * 8) = some v := s.get 0 hv
theorem St.set (s : St W h b T size css t cs G) (j : Nat) (hj : Nat.ble (j + 1) 8 = true) (q : ∀ h1, St W h1 b T size css t (cs.set j v) G → Q h1) : wr h b (13 + t * 8 + j) ∧ ∀ h1, h1 = setc h b (13 + t * 8 + j) v → Q h1 :=
  s.m.fset 0 rfl s.hn s.tl s.hc j rfl hj fun h1 m => q h1 ⟨m, s.hn, s.hl, s.ht, by rw [List.length_set]; exact s.hc⟩
theorem St.wrs (s : St W h b T size css t cs G) : wrs h b (13 + t * 8) 8 := s.m.fwrs 0 rfl s.hn s.tl s.hc 0 rfl rfl
theorem St.setr (s : St W h b T size css t cs G) (hu : us.length = 8) (e : h' = setr h b (13 + t * 8) us) : St W h' b T size css t us G := by
  have m := s.m.fsetr 0 rfl s.hn s.tl s.hc 0 rfl (by omega) e
  rw [setL_all (by rw [hu, s.hc])] at m
  exact ⟨m, s.hn, s.hl, s.ht, hu⟩
theorem St.mem (s : St W h b T size css t cs G) (m : Me W' h' ([(b, stC size css t cs, T)] :: G')) : St W' h' b T size css t cs G' := ⟨m, s.hn, s.hl, s.ht, s.hc⟩
theorem St.push {b1 : Nat} {T1 : TypeId} (s : St W h b T size css t cs G) (e1 : b1 = h.size) (e2 : h' = h.push (.cells vs.toArray T1)) : St W h' b T size css t cs ([(b1, vs, T1)] :: G) :=
  ⟨me_swap (s.m.push e2 e1), s.hn, s.hl, s.ht, s.hc⟩
theorem St.drop (s : St W h b T size css t cs (E :: G)) : St W h b T size css t cs G := ⟨(me_swap s.m).drop1, s.hn, s.hl, s.ht, s.hc⟩
theorem St.rme (s : St W h b T size css t cs G) : row h b 0 6 = some (ints .u8 meL) := s.m.row 0 rfl rfl (by have := ck_len (pre := preC size) (post := []) (set_all s.hn (n := 8) s.hc (k := t)); show 0 + 6 ≤ (ck _ _ _).length; rw [this]; have : (preC size).length = 13 := rfl; omega)
theorem St.rbss (s : St W h b T size css t cs G) : row h b 6 6 = some (ints .u8 bssL) := s.m.row 0 rfl rfl (by have := ck_len (pre := preC size) (post := []) (set_all s.hn (n := 8) s.hc (k := t)); show 6 + 6 ≤ (ck _ _ _).length; rw [this]; have : (preC size).length = 13 := rfl; omega)
theorem St.rsize (s : St W h b T size css t cs G) : cell h b 12 = some (.int .i64 size) := s.m.hget 0 rfl (by show 12 < 13; decide) rfl
end
/-- What a taken frame yields. -/
def TookV (W : Wd) (b : Nat) (T : TypeId) (size : Int) (css : List (List Value)) (t : Nat) (G : List Grp) (mv : Option Nat) (out : List Fm) (x : Ses) (v : Value) (h' : Heap) : Prop :=
  ∃ W' a c E vs, W.gr W' mv ∧ v = .slice a out.length c ∧ Ow a out.length c 24 vs E ∧ Sq (FmV W') out vs ∧ KeptV W' mv x.kept ∧ St W' h' b T size css t (sesC x mv) (E :: G)
def TakeC (x : Ses) (f : Fm) : Prop := ∀ {W : Wd} {h : Heap} {b t : Nat} {T : TypeId} {size : Int} {css : List (List Value)} {G : List Grp} {mv : Option Nat} {cs : List Value},
  St W h b T size css t (sesC x mv) G → KeptV W mv x.kept → (x.on = true → mv ≠ none) → FmV W f cs → FmOk f → Runs Tryd.prog 34 #[.pointer (some ⟨b, 13 + t * 8, none⟩), .agg cs.toArray] h (TookV W b T size css t G mv (x.take f).1 (x.take f).2)
theorem fmc_cell {f : Fm} {v : Value} (hf : FmOk f) (j : Nat) {u : Value} (hu : [Value.int .i64 f.tid, .int .i64 f.sq, .bool f.rt, .bool f.mo, .bool f.eo, v][j]? = some u) : (fmc f v)[18 + j]? = some u := by
  unfold fmc
  rw [← List.append_assoc, ← List.append_assoc, List.getElem?_append_right (by simp [ints, hf.l1, hf.l2, hf.l3])]
  rw [show (ints .u8 f.to ++ ints .u8 f.bss ++ ints .u8 f.fr).length = 18 by simp [ints, hf.l1, hf.l2, hf.l3], Nat.add_sub_cancel_left]; exact hu
theorem fmc_len {f : Fm} {v : Value} (hf : FmOk f) : (fmc f v).length = 24 := by simp [fmc, ints, hf.l1, hf.l2, hf.l3]
theorem took_one {W : Wd} {h h' : Heap} {b t b2 : Nat} {T : TypeId} {size : Int} {css : List (List Value)} {G : List Grp} {mv : Option Nat} {x : Ses} {f : Fm} {v : Value} {R : Grp} (s : St W h b T size css t (sesC x mv) (R :: G)) (hk : KeptV W mv x.kept) (hf : FmOk f) (hb : Bts W v f.body)
    (e1 : b2 = h.size) (e2 : h' = h.push (.cells (fmc f v ++ []).toArray 55)) : TookV W b T size css t G mv [f] x (.slice (some ⟨b2, 0, none⟩) 1 1) h' := by
  rw [List.append_nil] at e2
  have s2 := s.push e1 e2
  refine ⟨W, _, _, [(b2, fmc f v, 55)], fmc f v, gr_le (Wd.le.refl W), rfl, Ow.fresh0 (l := 1) (sz := 24) (by rw [fmc_len hf]), .one ⟨v, rfl, hb⟩, hk, ?_⟩
  exact ⟨(me_swap (me_swap (s2.m.perm (G' := [(b2, fmc f v, 55)] :: R :: [(b, stC size css t (sesC x mv), T)] :: G) (by
    simp only [List.flatten_cons]
    rw [← List.append_assoc, ← List.append_assoc R]
    refine (List.perm_append_comm (l₁ := [(b, stC size css t (sesC x mv), T)]) (l₂ := [(b2, fmc f v, 55)] ++ (R ++ G.flatten))).trans ?_
    rw [List.append_assoc, List.append_assoc, List.append_assoc]
    exact List.Perm.append_left _ (List.Perm.append_left _ List.perm_append_comm)))).drop1), s.hn, s.hl, s.ht, rfl⟩
theorem take_off {x : Ses} {f : Fm} (hon : x.on = false) : TakeC x f := by
  intro W h b t T size css G mv cs s hk _ hv hf
  obtain ⟨v, rfl, hb⟩ := hv
  have hr : x.take f = x.takeOff f := by unfold Ses.take; rw [hon]; rfl
  rw [hr]
  refine vc_recv_session_take _ _ _ _ ?_
  intro b1 g1 e1 e2
  replace s := s.push e1 e2
  have c20 : cell g1 b1 20 = some (.bool f.rt) := s.m.cell 1 rfl (fmc_cell hf 2 rfl)
  have c19 : cell g1 b1 19 = some (.int .i64 f.sq) := s.m.cell 1 rfl (fmc_cell hf 1 rfl)
  refine ⟨_, s.get0 rfl, bcase_true (by rw [hon]; rfl) ⟨_, c20, bcase_intro (fun q1 => ?_) fun q1 => ?_⟩⟩
  · refine ⟨_, s.get 6 rfl, bcase_intro (fun q2 => ?_) fun q2 => ?_⟩
    · refine ⟨_, s.get 7 rfl, _, c19, _, c19, ?_⟩
      refine s.set 6 rfl fun g2 s2 => ?_
      refine ⟨s2.m.cell 1 rfl (fmc_cell hf 1 rfl), ?_⟩
      refine s2.set 7 rfl fun g3 s3 => ?_
      replace s3 : St W g3 b T size css t (sesC (x.takeOff f).2 mv) ([(b1, fmc f v, 55)] :: G) := s3
      refine dcase_intro (fun q3 => ?_) fun q3 => ?_
      · have e : (x.takeOff f).1 = [] := by simp [Ses.takeOff, q1, q2, q3]
        rw [e]
        exact ⟨W, none, 0, [], [], gr_le (Wd.le.refl W), rfl, Ow.nil, rfl, hk, ⟨me_swap s3.drop.m.nilI, s.hn, s.hl, s.ht, rfl⟩⟩
      · have e : (x.takeOff f).1 = [f] := by simp [Ses.takeOff, q3]
        rw [e]
        refine ⟨_, s3.m.row 1 rfl (by rw [List.drop_zero]; exact List.take_of_length_le (by rw [fmc_len hf]; decide)) (by rw [fmc_len hf]; decide), fmc_len hf, fun b7 g4 e3 e4 => ?_⟩
        exact took_one s3 hk hf hb e3 e4
    · refine ⟨_, c19, ?_⟩
      refine s.set 6 rfl fun g2 s2 => ?_
      refine ⟨s2.m.cell 1 rfl (fmc_cell hf 1 rfl), ?_⟩
      refine s2.set 7 rfl fun g3 s3 => ?_
      replace s3 : St W g3 b T size css t (sesC (x.takeOff f).2 mv) ([(b1, fmc f v, 55)] :: G) := s3
      have e : (x.takeOff f).1 = [f] := by simp [Ses.takeOff, q2]
      rw [e]
      refine ⟨_, s3.m.row 1 rfl (by rw [List.drop_zero]; exact List.take_of_length_le (by rw [fmc_len hf]; decide)) (by rw [fmc_len hf]; decide), fmc_len hf, fun b7 g4 e3 e4 => ?_⟩
      exact took_one s3 hk hf hb e3 e4
  · refine ⟨_, c19, ?_⟩
    refine s.set 6 rfl fun g2 s2 => ?_
    refine ⟨s2.m.cell 1 rfl (fmc_cell hf 1 rfl), ?_⟩
    refine s2.set 7 rfl fun g3 s3 => ?_
    replace s3 : St W g3 b T size css t (sesC (x.takeOff f).2 mv) ([(b1, fmc f v, 55)] :: G) := s3
    have e : (x.takeOff f).1 = [f] := by simp [Ses.takeOff, q1]
    rw [e]
    refine ⟨_, s3.m.row 1 rfl (by rw [List.drop_zero]; exact List.take_of_length_le (by rw [fmc_len hf]; decide)) (by rw [fmc_len hf]; decide), fmc_len hf, fun b7 g4 e3 e4 => ?_⟩
    exact took_one s3 hk hf hb e3 e4
end Go.Proofs.YthlacliefgliiaaDoor
