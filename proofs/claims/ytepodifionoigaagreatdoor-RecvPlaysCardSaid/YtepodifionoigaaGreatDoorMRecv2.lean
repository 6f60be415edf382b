import Derived.Test.YtepodifionoigaaGreatDoorMChunk
import Derived.Test.YtepodifionoigaaGreatDoorGenAll1
import Derived.Test.YtepodifionoigaaGreatDoorMNum
import Derived.Test.YtepodifionoigaaGreatDoorRows
import Derived.LaidMore
import Derived.LaidLaws
set_option linter.unusedVariables false
set_option linter.unusedSimpArgs false
set_option maxRecDepth 8000
namespace Go.Proofs.YtepodifionoigaaGreatDoor
open Go.Vc
def _root_.Go.Vc.Wd.gr (W W' : Wd) (r : Option Nat) : Prop := ∀ b x, some b ≠ r → W b = some x → W' b = some x
theorem gr_le {W W' : Wd} {r : Option Nat} (h : W.le W') : W.gr W' r := fun b x _ e => h b x e
theorem gr_trans {A B C : Wd} {r : Option Nat} (h : A.gr B r) (k : B.gr C r) : A.gr C r := fun b x n e => k b x n (h b x n e)
def sesC (x : Ses) (mv : Option Nat) : List Value := [.bool x.on, .int .i64 x.start, .int .i64 x.size, .int .i64 x.fr, .int .u64 x.bits, .map mv, .bool x.came, .int .i64 x.last]
def z8 : List Value := sesC ses0 none
def preC (size : Int) : List Value := ints .u8 meL ++ (ints .u8 bssL ++ [.int .i64 size])
def stC (size : Int) (css : List (List Value)) (t : Nat) (cs : List Value) : List Value := ck (preC size) (css.set t cs) []
def css0 : List (List Value) := List.replicate 8 z8
def EsV (W : Wd) : List MapEntry → List Fm → Prop
  | [], l => l = []
  | e :: es, l => ∃ f r cs, l = f :: r ∧ e.key = .int .i64 f.sq ∧ e.val = .agg cs.toArray ∧ FmV W f cs ∧ EsV W es r
structure MapV (W : Wd) (r : Nat) (l : List Fm) : Prop where
  v : ∃ es c, W r = some (.map es.toArray c) ∧ EsV W es l ∧ (∀ e ∈ es, e.born < c) ∧ (es.map (·.born)).Nodup
def KeptV (W : Wd) (mv : Option Nat) (l : List Fm) : Prop := match mv with
  | none => l = []
  | some r => MapV W r l
structure St (W : Wd) (h : Heap) (b : Nat) (T : TypeId) (size : Int) (css : List (List Value)) (t : Nat) (cs : List Value) (G : List Grp) : Prop where
  m : Me W h ([(b, stC size css t cs, T)] :: G)
  hn : ∀ c ∈ css, c.length = 8
  hl : css.length = 8
  ht : t < 8
  hc : cs.length = 8
section
variable {W W' : Wd} {h h' : Heap} {b t j n : Nat} {T : TypeId} {size : Int} {css : List (List Value)} {cs us vs : List Value} {G G' : List Grp} {v : Value} {x : Ses} {f : Fm} {mv : Option Nat} {Q : Heap → Prop} {E : Grp}
theorem z8_len : ∀ c ∈ List.replicate 8 z8, c.length = 8 := by intro c hc; rw [List.eq_of_mem_replicate hc]; rfl
theorem St.tl (s : St W h b T size css t cs G) : t < css.length := by rw [s.hl]; exact s.ht
theorem St.get (s : St W h b T size css t cs G) (j : Nat) (hv : cs[j]? = some v) : cell h b (13 + t * 8 + j) = some v :=
  s.m.fget 0 rfl s.hn s.tl s.hc j rfl hv
theorem St.get0 (s : St W h b T size css t cs G) (hv : cs[0]? = some v) : cell h b (13 + t * 8) = some v := s.get 0 hv
theorem St.set (s : St W h b T size css t cs G) (j : Nat) (hj : Nat.ble (j + 1) 8 = true) (q : ∀ h1, St W h1 b T size css t (cs.set j v) G → Q h1) : wr h b (13 + t * 8 + j) ∧ ∀ h1, h1 = setc h b (13 + t * 8 + j) v → Q h1 :=
  s.m.fset 0 rfl s.hn s.tl s.hc j rfl hj fun h1 m => q h1 ⟨m, s.hn, s.hl, s.ht, by rw [List.length_set]; exact s.hc⟩
theorem St.wrs (s : St W h b T size css t cs G) : wrs h b (13 + t * 8) 8 := s.m.fwrs 0 rfl s.hn s.tl s.hc 0 rfl rfl
theorem St.setr (s : St W h b T size css t cs G) (hu : us.length = 8) (e : h' = setr h b (13 + t * 8) us) : St W h' b T size css t us G := by
  have m := s.m.fsetr 0 rfl s.hn s.tl s.hc 0 rfl (by omega) e
  rw [setL_all (by rw [hu, s.hc])] at m
  exact ⟨m, s.hn, s.hl, s.ht, hu⟩
theorem St.mem (s : St W h b T size css t cs G) (m : Me W' h' ([(b, stC size css t cs, T)] :: G')) : St W' h' b T size css t cs G' := ⟨m, s.hn, s.hl, s.ht, s.hc⟩
theorem St.push {b1 : Nat} {T1 : TypeId} (s : St W h b T size css t cs G) (e1 : b1 = h.size) (e2 : h' = h.push (.cells vs.toArray T1)) : St W h' b T size css t cs ([(b1, vs, T1)] :: G) :=
  ⟨me_swap (s.m.push e2 e1), s.hn, s.hl, s.ht, s.hc⟩
theorem St.drop (s : St W h b T size css t cs (E :: G)) : St W h b T size css t cs G := ⟨(me_swap s.m).drop1, s.hn, s.hl, s.ht, s.hc⟩
theorem St.rme (s : St W h b T size css t cs G) : row h b 0 6 = some (ints .u8 meL) := s.m.row 0 rfl rfl (by have := ck_len (pre := preC size) (post := []) (set_all s.hn (n := 8) s.hc (k := t)); show 0 + 6 ≤ (ck _ _ _).length; rw [this]; have : (preC size).length = 13 := rfl; omega)
theorem St.rbss (s : St W h b T size css t cs G) : row h b 6 6 = some (ints .u8 bssL) := s.m.row 0 rfl rfl (by have := ck_len (pre := preC size) (post := []) (set_all s.hn (n := 8) s.hc (k := t)); show 6 + 6 ≤ (ck _ _ _).length; rw [this]; have : (preC size).length = 13 := rfl; omega)
theorem St.rsize (s : St W h b T size css t cs G) : cell h b 12 = some (.int .i64 size) := s.m.hget 0 rfl (by show 12 < 13; decide) rfl
end
def TookV (W : Wd) (b : Nat) (T : TypeId) (size : Int) (css : List (List Value)) (t : Nat) (G : List Grp) (mv : Option Nat) (out : List Fm) (x : Ses) (v : Value) (h' : Heap) : Prop :=
  ∃ W' a c E vs, W.gr W' mv ∧ v = .slice a out.length c ∧ Ow a out.length c 24 vs E ∧ Sq (FmV W') out vs ∧ KeptV W' mv x.kept ∧ St W' h' b T size css t (sesC x mv) (E :: G)
def TakeC (x : Ses) (f : Fm) : Prop := ∀ {W : Wd} {h : Heap} {b t : Nat} {T : TypeId} {size : Int} {css : List (List Value)} {G : List Grp} {mv : Option Nat} {cs : List Value},
  St W h b T size css t (sesC x mv) G → KeptV W mv x.kept → (x.on = true → mv ≠ none) → FmV W f cs → FmOk f → Runs Tryz.prog 38 #[.pointer (some ⟨b, 13 + t * 8, none⟩), .agg cs.toArray] h (TookV W b T size css t G mv (x.take f).1 (x.take f).2)
theorem fmc_cell {f : Fm} {v : Value} (hf : FmOk f) (j : Nat) {u : Value} (hu : [Value.int .i64 f.tid, .int .i64 f.sq, .bool f.rt, .bool f.mo, .bool f.eo, v][j]? = some u) : (fmc f v)[18 + j]? = some u := by
  unfold fmc
  rw [← List.append_assoc, ← List.append_assoc, List.getElem?_append_right (by simp [ints, hf.l1, hf.l2, hf.l3])]
  rw [show (ints .u8 f.to ++ ints .u8 f.bss ++ ints .u8 f.fr).length = 18 by simp [ints, hf.l1, hf.l2, hf.l3], Nat.add_sub_cancel_left]; exact hu
theorem fmc_len {f : Fm} {v : Value} (hf : FmOk f) : (fmc f v).length = 24 := by simp [fmc, ints, hf.l1, hf.l2, hf.l3]
theorem took_one {W : Wd} {h h' : Heap} {b t b2 : Nat} {T : TypeId} {size : Int} {css : List (List Value)} {G : List Grp} {mv : Option Nat} {x : Ses} {f : Fm} {v : Value} {R : Grp} (s : St W h b T size css t (sesC x mv) (R :: G)) (hk : KeptV W mv x.kept) (hf : FmOk f) (hb : Bts W v f.body)
    (e1 : b2 = h.size) (e2 : h' = h.push (.cells (fmc f v ++ []).toArray 67)) : TookV W b T size css t G mv [f] x (.slice (some ⟨b2, 0, none⟩) 1 1) h' := by
  rw [List.append_nil] at e2
  have s2 := s.push e1 e2
  refine ⟨W, _, _, [(b2, fmc f v, 67)], fmc f v, gr_le (Wd.le.refl W), rfl, Ow.fresh0 (l := 1) (sz := 24) (by rw [fmc_len hf]), .one ⟨v, rfl, hb⟩, hk, ?_⟩
  exact ⟨(me_swap (me_swap (s2.m.perm (G' := [(b2, fmc f v, 67)] :: R :: [(b, stC size css t (sesC x mv), T)] :: G) (by
    simp only [List.flatten_cons]
    rw [← List.append_assoc, ← List.append_assoc R]
    refine (List.perm_append_comm (l₁ := [(b, stC size css t (sesC x mv), T)]) (l₂ := [(b2, fmc f v, 67)] ++ (R ++ G.flatten))).trans ?_
    rw [List.append_assoc, List.append_assoc, List.append_assoc]
    exact List.Perm.append_left _ (List.Perm.append_left _ List.perm_append_comm)))).drop1), s.hn, s.hl, s.ht, rfl⟩
theorem take_off {x : Ses} {f : Fm} (hon : x.on = false) : TakeC x f := by
  intro W h b t T size css G mv cs s hk _ hv hf
  obtain ⟨v, rfl, hb⟩ := hv
  have hr : x.take f = x.takeOff f := by unfold Ses.take; rw [hon]; rfl
  rw [hr]
  refine vc_recv_session_take _ _ _ _ ?_
  intro b1 g1 e1 e2
  replace s := s.push e1 e2
  have c20 : cell g1 b1 20 = some (.bool f.rt) := s.m.cell 1 rfl (fmc_cell hf 2 rfl)
  have c19 : cell g1 b1 19 = some (.int .i64 f.sq) := s.m.cell 1 rfl (fmc_cell hf 1 rfl)
  refine ⟨_, s.get0 rfl, bcase_true (by rw [hon]; rfl) ⟨_, c20, bcase_intro (fun q1 => ?_) fun q1 => ?_⟩⟩
  · refine ⟨_, s.get 6 rfl, bcase_intro (fun q2 => ?_) fun q2 => ?_⟩
    · refine ⟨_, s.get 7 rfl, _, c19, _, c19, ?_⟩
      refine s.set 6 rfl fun g2 s2 => ?_
      refine ⟨s2.m.cell 1 rfl (fmc_cell hf 1 rfl), ?_⟩
      refine s2.set 7 rfl fun g3 s3 => ?_
      replace s3 : St W g3 b T size css t (sesC (x.takeOff f).2 mv) ([(b1, fmc f v, 67)] :: G) := s3
      refine dcase_intro (fun q3 => ?_) fun q3 => ?_
      · have e : (x.takeOff f).1 = [] := by simp [Ses.takeOff, q1, q2, q3]
        rw [e]
        exact ⟨W, none, 0, [], [], gr_le (Wd.le.refl W), rfl, Ow.nil, rfl, hk, ⟨me_swap s3.drop.m.nilI, s.hn, s.hl, s.ht, rfl⟩⟩
      · have e : (x.takeOff f).1 = [f] := by simp [Ses.takeOff, q3]
        rw [e]
        refine ⟨_, s3.m.row 1 rfl (by rw [List.drop_zero]; exact List.take_of_length_le (by rw [fmc_len hf]; decide)) (by rw [fmc_len hf]; decide), fmc_len hf, fun b7 g4 e3 e4 => ?_⟩
        exact took_one s3 hk hf hb e3 e4
    · refine ⟨_, c19, ?_⟩
      refine s.set 6 rfl fun g2 s2 => ?_
      refine ⟨s2.m.cell 1 rfl (fmc_cell hf 1 rfl), ?_⟩
      refine s2.set 7 rfl fun g3 s3 => ?_
      replace s3 : St W g3 b T size css t (sesC (x.takeOff f).2 mv) ([(b1, fmc f v, 67)] :: G) := s3
      have e : (x.takeOff f).1 = [f] := by simp [Ses.takeOff, q2]
      rw [e]
      refine ⟨_, s3.m.row 1 rfl (by rw [List.drop_zero]; exact List.take_of_length_le (by rw [fmc_len hf]; decide)) (by rw [fmc_len hf]; decide), fmc_len hf, fun b7 g4 e3 e4 => ?_⟩
      exact took_one s3 hk hf hb e3 e4
  · refine ⟨_, c19, ?_⟩
    refine s.set 6 rfl fun g2 s2 => ?_
    refine ⟨s2.m.cell 1 rfl (fmc_cell hf 1 rfl), ?_⟩
    refine s2.set 7 rfl fun g3 s3 => ?_
    replace s3 : St W g3 b T size css t (sesC (x.takeOff f).2 mv) ([(b1, fmc f v, 67)] :: G) := s3
    have e : (x.takeOff f).1 = [f] := by simp [Ses.takeOff, q1]
    rw [e]
    refine ⟨_, s3.m.row 1 rfl (by rw [List.drop_zero]; exact List.take_of_length_le (by rw [fmc_len hf]; decide)) (by rw [fmc_len hf]; decide), fmc_len hf, fun b7 g4 e3 e4 => ?_⟩
    exact took_one s3 hk hf hb e3 e4
end Go.Proofs.YtepodifionoigaaGreatDoor
set_option linter.unusedVariables false
set_option linter.unusedSimpArgs false
namespace Go.Proofs.YtepodifionoigaaGreatDoor
open Go.Vc
def ptE (a : Addr) : Value := .iface 192 (.pointer (some a))
def errG5 : List Nat := [1, 3, 0, 2, 4]
def Snt5 (W : Wd) : Prop := ∀ g ∈ errG5, ∃ a, wcell W g 0 = some (ptE a)
theorem Snt5.cl {W W' : Wd} (h : Snt5 W) (k : ∀ b o v, wcell W b o = some v → wcell W' b o = some v) : Snt5 W' := fun g hg => by
  obtain ⟨a, e⟩ := h g hg; exact ⟨a, k _ _ _ e⟩
theorem ifeqH_nilR {h : Heap} {c : Bool} {a : Addr} : ifeqH Tryz.prog h c (ptE a) .nilIface = some false := rfl
theorem star_es : "*" ++ "errors.errorString" = "*errors.errorString" := by decide
theorem rowES (u : TypeId) (h : Tryz.prog.typeName? 3 u = some "*errors.errorString") : u = 192 :=
  typeName_ptr_named (nm := "errors.errorString") (by rw [star_es]; kernel_rfl) (by kernel_rfl) (by decide) u (by rw [star_es]; exact h)
noncomputable def mkE (x : String × List UInt8) : String × DataW Unit := (x.1, .iface "*errors.errorString" (.ptr (.agg [.lit (.string x.2)])))
noncomputable def errTied (l : List (String × List UInt8)) : Bool := l.all fun x => ((Tryz.prog.globalNamed x.1).bind fun g => (Tryz.prog.globals[g]?).map (·.type)) == some 26
theorem cellsOf_es : Tryz.prog.cellsOf 209 = 1 := by kernel_rfl
theorem cellsOf_str : Tryz.prog.cellsOf 9 = 1 := by kernel_rfl
set_option maxRecDepth 100000 in
theorem laid_list {W : World} : ∀ (l : List (String × List UInt8)) (ps : List MemPlace), errTied l = true → DataW.LaidVars Tryz.prog W (l.map mkE) ps → ps.Nodup →
    (∀ b off, MemPlace.cell b off ∈ ps → (∃ c t, W.heap[b]? = some (.cells c t (0, 0))) ∧ ∀ u v, W.cell? ⟨b, off, none⟩ = some (.iface u v) → Value.okWide Tryz.prog W .any 0 u v) →
    ∃ ads : List Addr, ads.length = l.length ∧ ads.Nodup ∧ (∀ (i : Nat) (x : String × List UInt8) (a : Addr) (g : Nat), l[i]? = some x → ads[i]? = some a → Tryz.prog.globalNamed x.1 = some g → cell W.heap g 0 = some (ptE a)) ∧
      ∀ a ∈ ads, (∃ c t, W.heap[a.block]? = some (.cells c t (0, 0))) ∧ MemPlace.cell a.block a.off ∈ ps
  | [], ps, _, _, _, _ => ⟨[], rfl, List.nodup_nil, fun i x a g h => by simp at h, fun a h => by cases h⟩
  | x :: l, ps, ht, hL, hnd, hrows => by
    simp only [errTied, List.all_cons, Bool.and_eq_true, beq_iff_eq] at ht
    obtain ⟨g, t, cs, f, p, q, hg, hgt, hv, hd, hq, e⟩ := hL
    have hg' : Tryz.prog.globalNamed x.1 = some g := hg
    have ht1 := ht.1
    rw [hg', Option.bind_some, hgt] at ht1
    obtain rfl := Option.some.inj ht1
    subst e
    obtain ⟨cl⟩ := cs
    have hcell : ∀ v, cl = [v] → W.cell? ⟨g, 0, none⟩ = some v := fun v e => by
      subst e
      have hv' : W.var? Tryz.prog x.1 = some (⟨[v]⟩ : Array Value) := hv
      have h0 := World.var?_cell hg' hv' 0
      exact h0
    have hgm : ∀ v, cl = [v] → MemPlace.cell g 0 ∈ MemPlace.row ⟨g, 0, none⟩ (⟨cl⟩ : Array Value).size ++ p ++ q := fun v e => by
      subst e
      simp [MemPlace.row]
    obtain ⟨a, s, rfl, hc, hs, hz, rfl⟩ := errorString_of_trod Tryz.underlying26 rowES Tryz.underlying192 Tryz.underlying209 rfl rfl Tryz.underlying9 cellsOf_es cellsOf_str hd
      (fun u v e => (hrows g 0 (hgm _ e)).2 u v (hcell _ e))
    have hc0 := hcell _ rfl
    have hnd2 : q.Nodup := (List.nodup_append.1 hnd).2.1
    obtain ⟨ads, h1, h2, h3, h4⟩ := laid_list l q (by simpa [errTied] using ht.2) hq hnd2 (fun b off hm => hrows b off (List.mem_append_right _ hm))
    have ham : MemPlace.cell a.block a.off ∈ MemPlace.row a 1 := by simp [MemPlace.row]
    have hmem : MemPlace.cell a.block a.off ∈ MemPlace.row ⟨g, 0, none⟩ (⟨[.iface 192 (.pointer (some a))]⟩ : Array Value).size ++ MemPlace.row a 1 ++ q := List.mem_append_left _ (List.mem_append_right _ ham)
    have hno : a ∉ ads := fun hc => (List.nodup_append.1 hnd).2.2 _ (List.mem_append_right _ ham) _ (h4 a hc).2 rfl
    refine ⟨a :: ads, by simp [h1], List.nodup_cons.2 ⟨hno, h2⟩, fun i y b g' hi hb hg2 => ?_, fun b hb => ?_⟩
    · cases i with
      | zero =>
        simp at hi hb
        subst hi hb
        rw [hg'] at hg2; cases hg2
        rw [← cell?_eq]; exact hc0
      | succ i => exact h3 i y b g' (by simpa using hi) (by simpa using hb) hg2
    · rcases List.mem_cons.1 hb with rfl | hb
      · exact ⟨(hrows _ _ hmem).1, hmem⟩
      · exact ⟨(h4 b hb).1, List.mem_append_right _ (h4 b hb).2⟩
end Go.Proofs.YtepodifionoigaaGreatDoor
set_option linter.unusedVariables false
set_option linter.unusedSimpArgs false
set_option maxRecDepth 8000
namespace Go.Proofs.YtepodifionoigaaGreatDoor
open Go.Vc
section
variable {W W' : Wd} {h h' : Heap} {b t j n : Nat} {T : TypeId} {size : Int} {css : List (List Value)} {cs us vs : List Value} {G G' : List Grp} {v : Value} {x : Ses} {f : Fm} {mv : Option Nat} {Q : Heap → Prop} {E : Grp}
theorem me_c (m : Me W h G) : Runs Tryz.prog 6 #[] h fun v h' => v = .agg (ints .u8 meL).toArray ∧ Me W h' G := by
  refine vc_muezzinlaw24_me _ _ ?_
  intro b1 h1 e1 e2
  have m1 := m.push e2 e1
  refine ⟨⟨rfl, m1.wrsb 0 rfl rfl, ints_one (k := .u8) (l := meL)⟩, fun h2 e3 => ?_⟩
  have m2 := m1.setr 0 rfl e3
  exact ⟨_, m2.row 0 rfl rfl (Nat.le_of_ble_eq_true rfl), rfl, m2.drop1⟩
theorem bss_c (m : Me W h G) : Runs Tryz.prog 7 #[] h fun v h' => v = .agg (ints .u8 bssL).toArray ∧ Me W h' G := by
  refine vc_muezzinlaw24_bss _ _ ?_
  intro b1 h1 e1 e2
  have m1 := m.push e2 e1
  refine ⟨⟨rfl, m1.wrsb 0 rfl rfl, ints_one (k := .u8) (l := bssL)⟩, fun h2 e3 => ?_⟩
  have m2 := m1.setr 0 rfl e3
  exact ⟨_, m2.row 0 rfl rfl (Nat.le_of_ble_eq_true rfl), rfl, m2.drop1⟩
theorem css0_n : ∀ c ∈ css0, c.length = 8 := z8_len
theorem css0_set (ht : t < 8) : css0.set t z8 = css0 := by
  unfold css0
  have : t = 0 ∨ t = 1 ∨ t = 2 ∨ t = 3 ∨ t = 4 ∨ t = 5 ∨ t = 6 ∨ t = 7 := by omega
  rcases this with rfl | rfl | rfl | rfl | rfl | rfl | rfl | rfl <;> rfl
theorem rnew_c (m : Me W h G) (hs : 1 ≤ size ∧ size ≤ 64) : Runs Tryz.prog 5 #[.agg (ints .u8 meL).toArray, .agg (ints .u8 bssL).toArray, .int .i64 size] h fun v h' => ∃ b T, v = .tuple #[.pointer (some ⟨b, 0, none⟩), .nilIface] ∧ ∀ t, t < 8 → St W h' b T size css0 t (sesC ses0 none) G := by
  refine vc_recv_New _ _ _ _ _ ?_
  intro b1 h1 e1 e2 b2 h2 f1 f2
  have m2 := (m.push e2 e1).push f2 f1
  refine dcase_neg (by omega) (dcase_neg (by omega) ⟨_, m2.row 1 rfl rfl (Nat.le_of_ble_eq_true rfl), _, m2.row 0 rfl rfl (Nat.le_of_ble_eq_true rfl), rfl, rfl, fun b3 h3 e3 e4 => ?_⟩)
  have m3 := m2.push e4 e3
  obtain ⟨T3, m4⟩ : ∃ T3, Me W h3 ([(b3, ck (preC size) css0 [], T3)] :: G) := ⟨_, (me_swap (me_swap m3).drop1).drop1⟩
  refine ⟨b3, T3, rfl, fun t ht => ⟨?_, css0_n, rfl, ht, rfl⟩⟩
  have e : stC size css0 t (sesC ses0 none) = ck (preC size) css0 [] := by unfold stC; rw [show sesC ses0 none = z8 from rfl, css0_set ht]
  rw [e]
  exact m4
end
def dfm (tid sq : Int) (rt : Bool) (body : List Int) : Fm := ⟨meL, bssL, bssL, tid, sq, rt, false, false, body⟩
theorem dfm_ok {tid sq : Int} {rt : Bool} {body : List Int} (ht : 0 ≤ tid ∧ tid ≤ 7) (hs : 0 ≤ sq ∧ sq ≤ 4095) (hb : body.length ≤ 1500) : FmOk (dfm tid sq rt body) := ⟨rfl, rfl, rfl, ht.1, ht.2, hs.1, hs.2, hb⟩
section
variable {W W' : Wd} {h h' : Heap} {b t j n c : Nat} {a : Option Addr} {T : TypeId} {size : Int} {css : List (List Value)} {cs us vs : List Value} {G G' : List Grp} {v : Value} {x : Ses} {f : Fm} {mv : Option Nat} {Q : Heap → Prop} {E : Grp}
def AnsV (W : Wd) (b : Nat) (T : TypeId) (size : Int) (css : List (List Value)) (t : Nat) (G : List Grp) (mv : Option Nat) (x : Ses) (v : Value) (h' : Heap) : Prop :=
  ∃ W' a c, W.le W' ∧ v = .slice a 28 c ∧ Bts W' (.slice a 28 c) (ackB bssL meL t x.ackS x.ackM) ∧ St W' h' b T size css t (sesC x mv) G
theorem answer_c (s : St W h b T size css t (sesC x mv) G) (hx : SesOk x) :
    Runs Tryz.prog 39 #[.pointer (some ⟨b, 0, none⟩), .int .i64 (t : Int)] h (AnsV W b T size css t G mv x) := by
  have ht := s.ht
  refine vc_recv_Station_answer _ _ _ _ ⟨by omega, _, s.rbss, _, s.rme, x.last, s.get 7 rfl, rfl, rfl, ?_⟩
  intro b1 h1 e1 e2
  replace s := s.push e1 e2
  refine ⟨⟨rfl, s.m.wrsb 1 rfl rfl, ackC_one bssL meL t x.last 1⟩, fun h2 e3 => ?_⟩
  have m2 := s.m.setr 1 rfl e3
  replace s : St W h2 b T size css t (sesC x mv) ([(b1, ackC bssL meL t x.last 1, 135)] :: G) := s.mem m2
  refine ⟨_, s.get0 rfl, bcase_intro (fun q => ?_) fun q => ?_⟩
  · refine ⟨_, s.get 3 rfl, _, s.get 4 rfl, ?_⟩
    refine s.m.store 1 rfl (by show 13 < 15; decide) fun h3 m3 => ?_
    have s3 := s.mem m3
    refine ⟨s3.get 4 rfl, ?_⟩
    refine s3.m.store 1 rfl (by show 14 < 15; decide) fun h4 m4 => ?_
    replace m4 : Me W h4 ([(b, stC size css t (sesC x mv), T)] :: [(b1, ackC bssL meL t x.fr x.bits, 135)] :: G) := m4
    refine ⟨ackC bssL meL t x.fr x.bits, m4.row 1 rfl rfl (Nat.le_of_ble_eq_true rfl), ?_⟩
    refine (ackBytes_c m4 rfl rfl (by omega) hx.f).mono ?_
    rintro _ h5 ⟨W', a, c, hle, rfl, m5, hb5⟩
    have e : x.ackS = x.fr ∧ x.ackM = x.bits := by unfold Ses.ackS Ses.ackM; rw [q]; exact ⟨rfl, rfl⟩
    refine ⟨_, _, _, _, rfl, true, rfl, bcase_false rfl ⟨W', a, c, hle, rfl, ?_, (s.mem m5).drop⟩⟩
    rw [e.1, e.2]; exact hb5
  · refine ⟨ackC bssL meL t x.last 1, s.m.row 1 rfl rfl (Nat.le_of_ble_eq_true rfl), ?_⟩
    refine (ackBytes_c s.m rfl rfl (by omega) hx.l).mono ?_
    rintro _ h5 ⟨W', a, c, hle, rfl, m5, hb5⟩
    have e : x.ackS = x.last ∧ x.ackM = 1 := by unfold Ses.ackS Ses.ackM; rw [q]; exact ⟨rfl, rfl⟩
    refine ⟨_, _, _, _, rfl, true, rfl, bcase_false rfl ⟨W', a, c, hle, rfl, ?_, (s.mem m5).drop⟩⟩
    rw [e.1, e.2]; exact hb5
theorem FmV.one' {W : Wd} {f : Fm} {cs : List Value} (hv : FmV W f cs) : ∀ u ∈ cs, u.oneCell' = true := by
  obtain ⟨v, rfl, hb⟩ := hv
  obtain ⟨a, c, rfl, -, -⟩ := hb
  exact fmc_one _ _ _ _
theorem gr_cl {r : Option Nat} (hg : W.gr W' r) (hr : ∀ k, r = some k → ∃ es c, W k = some (.map es c)) : ∀ b o v, wcell W b o = some v → wcell W' b o = some v := by
  intro b o v hv
  unfold wcell at hv ⊢
  split at hv
  · rename_i cc e1 e2 hW
    have hne : some b ≠ r := by
      intro e
      obtain ⟨es, c, h2⟩ := hr b e.symm
      rw [hW] at h2; cases h2
    rw [hg b _ hne hW]; exact hv
  · cases hv
theorem EsV.mono {es : List MapEntry} (hm : ∀ f cs, FmV W f cs → FmV W' f cs) : ∀ {es : List MapEntry} {l : List Fm}, EsV W es l → EsV W' es l
  | [], l, h => h
  | e :: es, l, ⟨f, r, cs, e1, e2, e3, h1, h2⟩ => ⟨f, r, cs, e1, e2, e3, hm f cs h1, EsV.mono (es := es) hm h2⟩
theorem KeptV.le {l : List Fm} (hl : W.le W') (hk : KeptV W mv l) : KeptV W' mv l := by
  unfold KeptV at hk ⊢
  split
  · exact hk
  · rename_i r
    obtain ⟨es, c, h1, h2, h3, h4⟩ := hk.v
    exact ⟨es, c, hl _ _ h1, EsV.mono (es := es) (fun f cs hv => hv.le hl) h2, h3, h4⟩
end
end Go.Proofs.YtepodifionoigaaGreatDoor
