/- The program's queue of flows: how it lies in memory; the contracts of its functions. -/
import Derived.Test.YtpcilleldanfmaaDoorFqPlain
import Derived.Test.YtpcilleldanfmaaDoorChunk
import Derived.Test.YtpcilleldanfmaaDoorCodel
import Derived.Test.YtpcilleldanfmaaDoorGenAll1
set_option linter.unusedVariables false
set_option linter.unusedSimpArgs false
namespace Go.Proofs.YtpcilleldanfmaaDoor
open Go.Vc

/-- A flow's cells. -/
def FlV (W : Wd) (f : Fl) (cs : List Value) (E : Grp) : Prop :=
  ∃ a c vs, cs = .slice a f.l.length c :: .int .i64 (bytP f.l) :: .int .i64 f.deficit :: cV f.c ∧ Ow a f.l.length c 5 vs E ∧ Sq (PkV W) f.l vs
structure QuC (W : Wd) (q : Qu) (css : List (List Value)) (Es : List Grp) : Prop where
  n1 : css.length = 16
  n2 : Es.length = 16
  f : ∀ (k : Nat) (f : Fl), q.fl[k]? = some f → ∃ (cs : List Value) (E : Grp), css[k]? = some cs ∧ Es[k]? = some E ∧ FlV W f cs E
  n8 : ∀ c ∈ css, c.length = 8
def q3 (q : Qu) : List Value := [.int .u32 q.seed, .int .i64 q.tg, .int .i64 q.iv]
def q4 (q : Qu) (fa : Option Addr) (fc : Nat) (ea : Option Addr) (ec : Nat) : List Value := [.slice fa q.fresh.length fc, .slice ea q.elder.length ec, .int .i64 q.cnt, .int .i64 q.byt]
def QuV (W : Wd) (b : Nat) (q : Qu) (L : Grp) : Prop :=
  ∃ (css : List (List Value)) (Es : List Grp) (fa : Option Addr) (fc : Nat) (ea : Option Addr) (ec : Nat) (Ef Ee : Grp) (T : TypeId), QuC W q css Es ∧ Ow fa q.fresh.length fc 1 (ints .i64 q.fresh) Ef ∧ Ow ea q.elder.length ec 1 (ints .i64 q.elder) Ee ∧
    L = [(b, ck (q3 q) css (q4 q fa fc ea ec), T)] ++ (Ef ++ (Ee ++ Es.flatten))
section
variable {W W' : Wd} {h h' : Heap} {G R : List Grp} {L E E0 Ef Ee : Grp} {B : Grp} {Es : List Grp} {css : List (List Value)} {q : Qu} {f g : Fl} {k : Int} {b n : Nat} {cs : List Value} {p : Pk} {r : List Pk}
theorem FlV.le (hl : W.le W') (hf : FlV W f cs E) : FlV W' f cs E := by
  obtain ⟨a, c, vs, h1, h2, h3⟩ := hf; exact ⟨a, c, vs, h1, h2, h3.mono fun _ _ h => h.le hl⟩
theorem QuC.le (hl : W.le W') (hc : QuC W q css Es) : QuC W' q css Es :=
  ⟨hc.n1, hc.n2, fun k f h => by obtain ⟨cs, E, h1, h2, h3⟩ := hc.f k f h; exact ⟨cs, E, h1, h2, h3.le hl⟩, hc.n8⟩
theorem QuV.le (hl : W.le W') (hv : QuV W b q L) : QuV W' b q L := by
  obtain ⟨css, Es, fa, fc, ea, ec, Ef, Ee, T, hc, of, oe, e⟩ := hv
  exact ⟨css, Es, fa, fc, ea, ec, Ef, Ee, T, hc.le hl, of, oe, e⟩
theorem QuC.opn (hc : QuC W q css Es) (hq : QOk q) (k0 : 0 ≤ k) (k1 : k < 16) :
    ∃ a c vs E, Es[k.toNat]? = some E ∧ css = css.set k.toNat (.slice a (q.flow k).l.length c :: .int .i64 (bytP (q.flow k).l) :: .int .i64 (q.flow k).deficit :: cV (q.flow k).c) ∧
      Ow a (q.flow k).l.length c 5 vs E ∧ Sq (PkV W) (q.flow k).l vs ∧ k.toNat < css.length := by
  obtain ⟨cs, E, h1, h2, a, c, vs, rfl, h3, h4⟩ := hc.f _ _ (hq.flow k0 k1).1
  have hlt := (List.getElem?_eq_some_iff.1 h1).1
  refine ⟨a, c, vs, E, h2, ?_, h3, h4, hlt⟩
  apply List.ext_getElem?
  intro i
  rw [List.getElem?_set]
  split
  · rename_i e; subst e; exact h1
  · rfl
theorem QuC.cls (hc : QuC W q css Es) (hq : QOk q) (hk : k.toNat < css.length) (hg : FlV W g cs E) (hl : cs.length = 8) : QuC W (q.setF k g) (css.set k.toNat cs) (Es.set k.toNat E) := by
  have h1 := hc.n1
  have h2 := hc.n2
  refine ⟨by simp [h1], by simp [h2], fun j f hj => ?_, ckn hc.n8 hl⟩
  simp only [Qu.setF] at hj
  rw [List.getElem?_set] at hj
  rw [List.getElem?_set, List.getElem?_set]
  by_cases e : k.toNat = j
  · subst e
    rw [if_pos rfl, if_pos (by rw [hq.len]; omega)] at hj
    cases hj
    rw [if_pos rfl, if_pos rfl, if_pos hk, if_pos (by omega)]
    exact ⟨cs, E, rfl, rfl, hg⟩
  · rw [if_neg e] at hj
    rw [if_neg e, if_neg e]
    exact hc.f j f hj
theorem _root_.Go.Vc.Me.openQ (m : Me W h ((B ++ (Ef ++ (Ee ++ Es.flatten))) :: R)) (hk : Es[n]? = some E) : Me W h (B :: E :: Ef :: Ee :: (Es.eraseIdx n).flatten :: R) :=
  m.perm (by
    simp only [List.flatten_cons, List.append_assoc]
    refine List.Perm.append_left _ ?_
    have h1 := List.perm_append_comm_assoc (Ef ++ Ee) E ((Es.eraseIdx n).flatten ++ R.flatten)
    simp only [List.append_assoc] at h1
    refine List.Perm.trans ?_ h1
    have h2 := (((flat_set hk).append_right R.flatten).append_left Ee).append_left Ef
    simpa only [List.append_assoc] using h2)
theorem _root_.Go.Vc.Me.closeQ (m : Me W h (B :: E :: Ef :: Ee :: (Es.eraseIdx n).flatten :: R)) (hk : Es[n]? = some E0) : Me W h ((B ++ (Ef ++ (Ee ++ (Es.set n E).flatten))) :: R) :=
  m.perm (by
    simp only [List.flatten_cons, List.append_assoc]
    refine List.Perm.append_left _ ?_
    have h1 := List.perm_append_comm_assoc E (Ef ++ Ee) ((Es.eraseIdx n).flatten ++ R.flatten)
    simp only [List.append_assoc] at h1
    refine h1.trans ?_
    have h2 := (((flat_put (B := E) hk).append_right R.flatten).append_left Ee).append_left Ef
    simpa only [List.append_assoc] using h2)
theorem QOk.bd (hq : QOk q) : q.byt ≤ 1152921504606846976 ∧ 0 ≤ q.byt := by
  have h1 : ∀ l : List Fl, (∀ f ∈ l, FOk f) → bytL l ≤ 1048576 * cntL l := fun l => by
    induction l with
    | nil => simp [bytL, cntL]
    | cons f r ih =>
      intro hf
      have h1 := ih fun f h => hf f (by simp [h])
      have h2 := bytP_le (N := 1048576) fun p hp => ((hf f (by simp)).p p hp).2.2
      simp only [bytL, cntL]; omega
  have h2 := h1 _ hq.f
  have h3 := hq.cnt
  unfold Qu.byt Qu.cnt at *
  exact ⟨by omega, bytL_nn _⟩
theorem len_c (m : Me W h (L :: R)) (hv : QuV W b q L) : Runs Tryd.prog 33 #[.pointer (some ⟨b, 0, none⟩)] h fun v h' => v = .int .i64 q.cnt ∧ h' = h := by
  obtain ⟨css, Es, fa, fc, ea, ec, Ef, Ee, T, hc, of, oe, rfl⟩ := hv
  replace m := m.split
  exact vc_fq_Queue_Len _ _ _ ⟨_, m.pget 0 rfl hc.n8 hc.n1 2 rfl rfl, rfl, rfl⟩
theorem bytesq_c (m : Me W h (L :: R)) (hv : QuV W b q L) : Runs Tryd.prog 37 #[.pointer (some ⟨b, 0, none⟩)] h fun v h' => v = .int .i64 q.byt ∧ h' = h := by
  obtain ⟨css, Es, fa, fc, ea, ec, Ef, Ee, T, hc, of, oe, rfl⟩ := hv
  replace m := m.split
  exact vc_fq_Queue_Bytes _ _ _ ⟨_, m.pget 0 rfl hc.n8 hc.n1 3 rfl rfl, rfl, rfl⟩
theorem q4_is {l : List Value} {q' : Qu} {fa ea : Option Addr} {fc ec n n2 : Nat} {x y : Int} (h : l = [.slice fa n fc, .slice ea n2 ec, .int .i64 x, .int .i64 y]) (h1 : n = q'.fresh.length) (h2 : n2 = q'.elder.length) (h3 : x = q'.cnt) (h4 : y = q'.byt) : l = q4 q' fa fc ea ec := by
  subst h1 h2 h3 h4 h; rfl
theorem setF_cnt (q : Qu) (k : Int) (g : Fl) : (q.setF k g).cnt = cntL (q.fl.set k.toNat g) := rfl
theorem setF_byt (q : Qu) (k : Int) (g : Fl) : (q.setF k g).byt = bytL (q.fl.set k.toNat g) := rfl
/-- A queue put together again. -/
theorem shutQ {q' : Qu} {fa ea : Option Addr} {fc ec : Nat} {post : List Value} {T : TypeId} (hc : QuC W q css Es) (hq : QOk q) (hk : k.toNat < css.length) (hE : Es[k.toNat]? = some E0) (hg : FlV W g cs E) (hl : cs.length = 8)
    (of : Ow fa q'.fresh.length fc 1 (ints .i64 q'.fresh) Ef) (oe : Ow ea q'.elder.length ec 1 (ints .i64 q'.elder) Ee) (h3 : q3 q' = q3 q) (hfl : q'.fl = q.fl.set k.toNat g)
    (m : Me W h ([(b, ck (q3 q) (css.set k.toNat cs) post, T)] :: E :: Ef :: Ee :: (Es.eraseIdx k.toNat).flatten :: R)) (hpost : post = q4 q' fa fc ea ec) : ∃ L', QuV W b q' L' ∧ Me W h (L' :: R) := by
  have h1 := hc.cls hq hk hg hl
  have h2 : QuC W q' (css.set k.toNat cs) (Es.set k.toNat E) := ⟨h1.n1, h1.n2, by rw [hfl]; exact h1.f, h1.n8⟩
  refine ⟨_, ⟨_, _, fa, fc, ea, ec, Ef, Ee, T, h2, of, oe, rfl⟩, ?_⟩
  have := m.closeQ hE
  rw [hpost] at this
  rw [h3]; exact this
theorem shift_c (m : Me W h (L :: R)) (hv : QuV W b q L) (hq : QOk q) (k0 : 0 ≤ k) (k1 : k < 16) (hp : (q.flow k).l = p :: r) :
    Runs Tryd.prog 62 #[.pointer (some ⟨b, 0, none⟩), .int .i64 k] h fun v h' => ∃ cs L', v = .agg cs.toArray ∧ PkV W p cs ∧ QuV W b (q.setF k ((q.flow k).setL r)) L' ∧ Me W h' (L' :: R) := by
  obtain ⟨css, Es, fa, fc, ea, ec, Ef, Ee, T, hc, of, oe, rfl⟩ := hv
  obtain ⟨a, c, vs, E, hE, hcs, o, hs, hk⟩ := hc.opn hq k0 k1
  have hn := hc.n8
  have hN := hc.n1
  have hcnt := hq.cnt
  obtain ⟨hb1, hb0⟩ := hq.bd
  have ecn : q.cnt = cntL q.fl := rfl
  have ebn : q.byt = bytL q.fl := rfl
  have hfb := bytL_ge (hq.flow k0 k1).1
  have hfc := cntL_ge (hq.flow k0 k1).1
  have hle := ((hq.flow k0 k1).2.p p (by rw [hp]; simp)).2.2
  have e1 := cntL_set (g := (q.flow k).setL r) (hq.flow k0 k1).1
  have e2 := bytL_set (g := (q.flow k).setL r) (hq.flow k0 k1).1
  have b0 := bytP_nn r
  rw [hp] at o hs hcs hfb hfc e1 e2
  simp only [List.length_cons, bytP, setL_l] at o hcs hfb hfc e1 e2
  replace m := m.openQ hE
  rw [hcs] at m
  obtain ⟨cs, hcv, hrow, hrl⟩ := hs.get (fun _ _ => PkV.len) (i := 0) (x := p) rfl
  obtain ⟨pa, pc, rfl, hbt⟩ := hcv
  rw [Nat.zero_mul] at hrow
  refine vc_fq_Queue_shift _ _ _ _ ?_
  (intro bN hN1 eN1 eN2; replace m := m.push eN2 eN1; clear eN1 eN2)
  refine ⟨⟨k0, by omega⟩, ?_⟩
  refine ⟨_, _, _, m.fget 1 rfl hn hk rfl 0 rfl rfl, ?_⟩
  refine ⟨⟨by omega, by omega⟩, ?_⟩
  obtain ⟨sb, so, rfl, hr⟩ := src_part (k := 0) (n := 5) (o.src m 2 rfl) (by omega) (by decide) hrow
  refine ⟨_, hr, ?_⟩
  (intro bN hN1 eN1 eN2; replace m := m.push eN2 eN1; clear eN1 eN2)
  refine ⟨⟨rfl, m.wrsb 0 rfl rfl, by simp [Value.oneCell']⟩, ?_⟩
  intro h3 e3
  replace m := m.setr 0 rfl e3
  clear e3
  simp only [List.set_cons_zero, List.set_cons_succ, setL] at m
  refine ⟨_, _, _, m.fget 2 rfl hn hk rfl 0 rfl rfl, ?_⟩
  refine ⟨⟨by omega, by omega⟩, ?_⟩
  have ot := o.tail 1 (by omega)
  have hst := hs.drop (fun _ _ => PkV.len) 1
  simp only [List.drop_succ_cons, List.drop_zero] at hst
  refine (clone_packet_c (ot.src m 3 rfl) ot.len (hst.all fun _ _ => PkV.one) (by omega)).mono ?_
  rintro _ h4 ⟨a', c', E', rfl, mk, o'⟩
  replace m := m.beside mk
  refine ⟨_, _, _, rfl, ?_⟩
  simp only [List.cons_append, List.nil_append] at m
  (refine m.fset 3 rfl hn hk rfl 0 rfl rfl ?_; clear m; intro _ m; simp only [List.set_cons_zero, List.set_cons_succ] at m)
  refine ⟨_, m.fget 3 rfl hn hk rfl 1 rfl rfl, ?_⟩
  refine ⟨_, _, _, m.cell 1 rfl rfl, ?_⟩
  refine ⟨by simp only [fits]; omega, ?_⟩
  (refine m.fset 3 rfl hn hk rfl 1 rfl rfl ?_; clear m; intro _ m; simp only [List.set_cons_zero, List.set_cons_succ] at m)
  refine ⟨_, m.pget 3 rfl (ckn hn rfl) (List.length_set.trans hN) 2 rfl rfl, ?_⟩
  refine ⟨by simp only [fits]; omega, ?_⟩
  (refine m.pset 3 rfl (ckn hn rfl) (List.length_set.trans hN) 2 rfl (Nat.le_of_ble_eq_true rfl) ?_; clear m; intro _ m; simp only [List.set_cons_zero, List.set_cons_succ] at m)
  refine ⟨_, m.pget 3 rfl (ckn hn rfl) (List.length_set.trans hN) 3 rfl rfl, ?_⟩
  refine ⟨_, _, _, m.cell 1 rfl rfl, ?_⟩
  refine ⟨by simp only [fits]; omega, ?_⟩
  (refine m.pset 3 rfl (ckn hn rfl) (List.length_set.trans hN) 3 rfl (Nat.le_of_ble_eq_true rfl) ?_; clear m; intro _ m; simp only [List.set_cons_zero, List.set_cons_succ] at m)
  refine ⟨_, m.rowb 1 rfl rfl rfl, ?_⟩
  refine ⟨⟨rfl, m.wrsb 2 rfl rfl, by simp [Value.oneCell']⟩, ?_⟩
  intro h9 e3
  replace m := m.setr 2 rfl e3
  refine ⟨_, m.rowb 2 rfl rfl rfl, ?_⟩
  clear e3
  have m2 := ((((m.free 4 rfl).free 1 rfl).free 1 rfl).focus 1 rfl)
  rw [show p.body.length + bytP r - p.body.length = bytP r by omega] at m2
  have c1 := setF_cnt q k ((q.flow k).setL r)
  have c2 := setF_byt q k ((q.flow k).setL r)
  obtain ⟨L', hv', m'⟩ := shutQ (q' := q.setF k ((q.flow k).setL r)) (g := (q.flow k).setL r) hc hq hk hE (E := E') ⟨a', c', _, rfl, by simpa using o', by simpa using hst⟩ rfl of oe rfl rfl m2 (q4_is rfl rfl rfl (by omega) (by omega))
  exact ⟨_, L', rfl, ⟨pa, pc, rfl, hbt⟩, hv', m'⟩
theorem put_o (m : Me W h (L :: R)) (hv : QuV W b q L) (hq : QOk q) (hp : PkV (Wd.of h) p cs) (hlen : p.body.length ≤ 1048576) (hroom : q.cnt < 1048576) :
    Runs Tryd.prog 30 #[.pointer (some ⟨b, 0, none⟩), .agg cs.toArray] h fun v h' => v = .int .i64 (bucketZ p.flow q.seed) ∧ ∃ W' L', W.le W' ∧ QuV W' b (q.put p) L' ∧ Me W' h' (L' :: R) := by
  obtain ⟨k0, k1⟩ := bucketZ_bd p.flow q.seed
  obtain ⟨k, hk9⟩ : ∃ k, k = bucketZ p.flow q.seed := ⟨_, rfl⟩
  rw [← hk9] at k0 k1
  (obtain ⟨css, Es, fa, fc, ea, ec, Ef, Ee, T, hc, of, oe, rfl⟩ := hv; obtain ⟨a, c, vs, E, hE, hcs, o, hs, hk⟩ := hc.opn hq k0 k1; have hn := hc.n8; have hN := hc.n1; have hcnt := hq.cnt; obtain ⟨hb1, hb0⟩ := hq.bd; have ecn : q.cnt = cntL q.fl := rfl; have ebn : q.byt = bytL q.fl := rfl; have hfb := bytL_ge (hq.flow k0 k1).1; have hfc := cntL_ge (hq.flow k0 k1).1; have hfn := bytP_nn (q.flow k).l; replace m := m.openQ hE; rw [hcs] at m)
  have e1 := cntL_set (g := (q.flow k).setL ((q.flow k).l ++ [p])) (hq.flow k0 k1).1
  have e2 := bytL_set (g := (q.flow k).setL ((q.flow k).l ++ [p])) (hq.flow k0 k1).1
  have e3 := cntL_set (g := ((q.flow k).setL ((q.flow k).l ++ [p])).setD 300) (hq.flow k0 k1).1
  have e4 := bytL_set (g := ((q.flow k).setL ((q.flow k).l ++ [p])).setD 300) (hq.flow k0 k1).1
  have e5 := bytP_app (q.flow k).l [p]
  simp only [setL_l, setD_l, List.length_append, List.length_cons, List.length_nil, bytP] at e1 e2 e3 e4 e5
  obtain ⟨pa, pc, rfl, hbt⟩ := hp
  refine vc_fq_Queue_Put _ _ _ _ ?_
  intro bN hN1 eN1 eN2
  have kk := ((Me.start h).push eN2 eN1).kept (Wd.le.refl _)
  replace m := m.push eN2 eN1
  clear eN1 eN2
  refine ⟨_, m.cell 0 rfl rfl, ?_⟩
  refine ⟨_, m.hget 1 rfl (Nat.le_of_ble_eq_true rfl) rfl, ?_⟩
  refine (bucket_c _ _ _).ret ⟨_, rfl, ?_⟩
  rw [← hk9]
  refine ⟨⟨k0, by omega⟩, ?_⟩
  refine ⟨_, _, _, m.cell 0 rfl rfl, ?_⟩
  obtain ⟨hb2, hb3⟩ := (hbt.le kk.le).src
  refine (clone_byte_c hb2 (by simp [ints]) ints_one (by omega)).mono ?_
  rintro _ h3 ⟨a', c', E', rfl, mk, o'⟩
  replace m := m.beside mk
  refine ⟨_, _, _, rfl, ?_⟩
  simp only [List.cons_append, List.nil_append] at m
  obtain ⟨W', hle, hgE, m'⟩ := m.give
  have hbt' := o'.bts rfl hgE
  clear m mk
  have m := m'
  clear m'
  (refine m.store 0 rfl (Nat.le_of_ble_eq_true rfl) ?_; clear m; intro _ m; simp only [List.set_cons_zero, List.set_cons_succ] at m)
  refine ⟨_, _, _, m.fget 1 rfl hn hk rfl 0 rfl rfl, ?_⟩
  refine ⟨_, m.rowb 0 rfl rfl rfl, ?_⟩
  refine ⟨rfl, ?_⟩
  refine o.app1 m 2 rfl rfl (by simp [Value.oneCell']) (by omega) (by decide) fun a2 c2 E2 h6 m' o2 => ?_
  clear m
  have m := m'
  clear m'
  simp only [List.set_cons_zero, List.set_cons_succ] at m
  (refine m.fset 1 rfl hn hk rfl 0 rfl rfl ?_; clear m; intro _ m; simp only [List.set_cons_zero, List.set_cons_succ] at m)
  refine ⟨_, m.fget 1 rfl hn hk rfl 1 rfl rfl, ?_⟩
  refine ⟨_, _, _, m.cell 0 rfl rfl, ?_⟩
  refine ⟨by simp only [fits]; omega, ?_⟩
  (refine m.fset 1 rfl hn hk rfl 1 rfl rfl ?_; clear m; intro _ m; simp only [List.set_cons_zero, List.set_cons_succ] at m)
  refine ⟨_, m.pget 1 rfl (ckn hn rfl) (List.length_set.trans hN) 2 rfl rfl, ?_⟩
  refine ⟨by simp only [fits]; omega, ?_⟩
  (refine m.pset 1 rfl (ckn hn rfl) (List.length_set.trans hN) 2 rfl (Nat.le_of_ble_eq_true rfl) ?_; clear m; intro _ m; simp only [List.set_cons_zero, List.set_cons_succ] at m)
  refine ⟨_, m.pget 1 rfl (ckn hn rfl) (List.length_set.trans hN) 3 rfl rfl, ?_⟩
  refine ⟨_, _, _, m.cell 0 rfl rfl, ?_⟩
  refine ⟨by simp only [fits]; omega, ?_⟩
  (refine m.pset 1 rfl (ckn hn rfl) (List.length_set.trans hN) 3 rfl (Nat.le_of_ble_eq_true rfl) ?_; clear m; intro _ m; simp only [List.set_cons_zero, List.set_cons_succ] at m)
  rename_i h10
  refine ⟨_, _, _, m.pget 1 rfl (ckn hn rfl) (List.length_set.trans hN) 0 rfl rfl, ?_⟩
  have hls := hq.lens
  refine (contains_int_c (of.src1 m 3 rfl) rfl (by omega)).ret ⟨_, rfl, ?_⟩
  have hcx := hc.le hle
  have hs2 : Sq (PkV W') ((q.flow k).l ++ [p]) (vs ++ [.int .i64 p.id, .int .u32 p.flow, .int .i64 p.tid, .int .i64 p.at_, .slice a' p.body.length c']) := (hs.mono fun _ _ h => h.le hle).snoc ⟨a', c', rfl, hbt'⟩
  have e6 : ((q.flow k).l ++ [p]).length = (q.flow k).l.length + 1 := by simp
  rw [show bytP (q.flow k).l + p.body.length = bytP ((q.flow k).l ++ [p]) by omega, ← e6] at m
  rw [← e6] at o2
  have fin : (k ∈ q.fresh ∨ k ∈ q.elder) → ∃ W' L', W.le W' ∧ QuV W' b (q.put p) L' ∧ Me W' h10 (L' :: R) := fun hin => by
    have eput : q.put p = q.setF k ((q.flow k).setL ((q.flow k).l ++ [p])) := by unfold Qu.put; rw [← hk9]; exact if_pos hin
    have c1 := setF_cnt q k ((q.flow k).setL ((q.flow k).l ++ [p]))
    have c2' := setF_byt q k ((q.flow k).setL ((q.flow k).l ++ [p]))
    rw [eput]
    obtain ⟨L', h1, h2⟩ := shutQ (q' := q.setF k ((q.flow k).setL ((q.flow k).l ++ [p]))) hcx hq hk hE (E := E2) ⟨a2, c2, _, rfl, o2, hs2⟩ rfl of oe rfl rfl m.drop1 (q4_is rfl rfl rfl (by omega) (by omega))
    exact ⟨W', L', hle, h1, h2⟩
  refine bcase_intro (fun q1 => ?_) (fun q1 => ⟨rfl, fin (.inl (by simpa using q1))⟩)
  refine ⟨_, _, _, m.pget 1 rfl (ckn hn rfl) (List.length_set.trans hN) 1 rfl rfl, ?_⟩
  refine (contains_int_c (oe.src1 m 4 rfl) rfl (by omega)).ret ⟨_, rfl, ?_⟩
  refine bcase_intro (fun q2 => ?_) (fun q2 => ⟨rfl, fin (.inr (by simpa using q2))⟩)
  clear fin
  (refine m.fset 1 rfl hn hk rfl 2 rfl rfl ?_; clear m; intro _ m; simp only [List.set_cons_zero, List.set_cons_succ] at m)
  refine ⟨_, _, _, m.pget 1 rfl (ckn hn rfl) (List.length_set.trans hN) 0 rfl rfl, ?_⟩
  refine of.app1 m 3 rfl rfl (by simp [Value.oneCell']) (by omega) (by decide) fun a3 c3 E3 h15 m' o3 => ?_
  clear m
  have m := m'
  clear m'
  simp only [List.set_cons_zero, List.set_cons_succ] at m
  (refine m.pset 1 rfl (ckn hn rfl) (List.length_set.trans hN) 0 rfl (Nat.le_of_ble_eq_true rfl) ?_; clear m; intro _ m; simp only [List.set_cons_zero, List.set_cons_succ] at m)
  refine ⟨rfl, ?_⟩
  have eput : q.put p = (q.setF k (((q.flow k).setL ((q.flow k).l ++ [p])).setD 300)).addF k := by
    unfold Qu.put; rw [← hk9]; exact if_neg (by rintro (h | h); exact absurd h (by simpa using q1); exact absurd h (by simpa using q2))
  have c1 := setF_cnt q k (((q.flow k).setL ((q.flow k).l ++ [p])).setD 300)
  have c2' := setF_byt q k (((q.flow k).setL ((q.flow k).l ++ [p])).setD 300)
  rw [eput]
  have o4 : Ow a3 (q.fresh ++ [k]).length c3 1 (ints .i64 (q.fresh ++ [k])) E3 := by rw [ints_app]; show Ow a3 _ c3 1 (ints .i64 q.fresh ++ [.int .i64 k]) E3; simpa using o3
  obtain ⟨L', h1, h2⟩ := shutQ (q' := (q.setF k (((q.flow k).setL ((q.flow k).l ++ [p])).setD 300)).addF k) hcx hq hk hE (E := E2) ⟨a2, c2, _, rfl, o2, hs2⟩ rfl o4 oe rfl rfl m.drop1
    (q4_is rfl (by show _ = (q.fresh ++ [k]).length; simp) rfl (by show _ = ((q.setF k (((q.flow k).setL ((q.flow k).l ++ [p])).setD 300)).cnt : Int); omega) (by show _ = (q.setF k (((q.flow k).setL ((q.flow k).l ++ [p])).setD 300)).byt; omega))
  exact ⟨W', L', hle, h1, h2⟩
theorem put_c (m : Me W h (L :: R)) (hv : QuV W b q L) (hq : QOk q) (hp : PkV W p cs) (hlen : p.body.length ≤ 1048576) (hroom : q.cnt < 1048576) :
    Runs Tryd.prog 30 #[.pointer (some ⟨b, 0, none⟩), .agg cs.toArray] h fun v h' => v = .int .i64 (bucketZ p.flow q.seed) ∧ ∃ W' L', W.le W' ∧ QuV W' b (q.put p) L' ∧ Me W' h' (L' :: R) := put_o m hv hq (hp.le m.leOf) hlen hroom
/-- The queue's own block, one flow in front of us. -/
def BQ (b : Nat) (q : Qu) (k : Int) (css : List (List Value)) (a : Option Addr) (c : Nat) (fa : Option Addr) (fc : Nat) (ea : Option Addr) (ec : Nat) (T : TypeId) : Grp :=
  [(b, ck (q3 q) (css.set k.toNat (.slice a (q.flow k).l.length c :: .int .i64 (bytP (q.flow k).l) :: .int .i64 (q.flow k).deficit :: cV (q.flow k).c)) (q4 q fa fc ea ec), T)]
theorem fqpull_c {now : Int} (m : Me W h (L :: R)) (hv : QuV W b q L) (hq : QOk q) (k0 : 0 ≤ k) (k1 : k < 16) (n0 : 0 ≤ now) (n1 : now ≤ 1125899906842624) :
    Runs Tryd.prog 61 #[.pointer (some ⟨b, 0, none⟩), .int .i64 k, .int .i64 now] h fun v h' => ∃ a c vs E L', v = .tuple #[.slice a (dropF q.tg q.iv now (q.flow k)).length c, .bool (isF q.tg q.iv now (q.flow k))] ∧
      Ow a (dropF q.tg q.iv now (q.flow k)).length c 5 vs E ∧ Sq (PkV W) (dropF q.tg q.iv now (q.flow k)) vs ∧ QuV W b (q.setF k (pullF q.tg q.iv now (q.flow k))) L' ∧ Me W h' (E :: L' :: R) := by
  (obtain ⟨css, Es, fa, fc, ea, ec, Ef, Ee, T, hc, of, oe, rfl⟩ := hv; obtain ⟨a, c, vs, E, hE, hcs, o, hs, hk⟩ := hc.opn hq k0 k1; have hn := hc.n8; have hN := hc.n1; have hcnt := hq.cnt; obtain ⟨hb1, hb0⟩ := hq.bd; have ecn : q.cnt = cntL q.fl := rfl; have ebn : q.byt = bytL q.fl := rfl; have hfb := bytL_ge (hq.flow k0 k1).1; have hfc := cntL_ge (hq.flow k0 k1).1; have hfn := bytP_nn (q.flow k).l; replace m := m.openQ hE; rw [hcs] at m)
  obtain ⟨hE5, hI, hbd, hpos, his⟩ := pull_facts (tg := q.tg) (iv := q.iv) (hq.flow k0 k1).2 (by omega) n0 n1
  have hfo := (hq.flow k0 k1).2
  refine vc_fq_Queue_pull _ _ _ _ _ ⟨⟨k0, by omega⟩, ?_⟩
  refine ⟨_, _, _, m.fget 0 rfl hn hk rfl 0 rfl rfl, ?_⟩
  have hil : (itemsP (q.flow k).l).length = (q.flow k).l.length := by simp [itemsP]
  replace m : Me W h (BQ b q k css a c fa fc ea ec T :: E :: Ef :: Ee :: (Es.eraseIdx k.toNat).flatten :: R) := m
  refine ⟨fun ia il ic x h' => ∃ (j : Nat) (Ei : Grp), x = j ∧ j ≤ (q.flow k).l.length ∧ il = j ∧ Ow ia il ic 2 (flatI (itemsP ((q.flow k).l.take j))) Ei ∧ Me W h' (Ei :: BQ b q k css a c fa fc ea ec T :: E :: Ef :: Ee :: (Es.eraseIdx k.toNat).flatten :: R), fun _ _ _ x _ => (((q.flow k).l.length : Int) - x).toNat,
    ⟨0, [], rfl, by omega, rfl, Ow.nil, m.nilI⟩, fun _ => ?_⟩
  clear m
  rintro ia il ic _ h1 ⟨j, Ei, rfl, hj, hil2, oi, m⟩
  subst il
  refine dcase_intro (fun q1 => ?_) fun q1 => ?_
  · obtain ⟨x, hx⟩ : ∃ x, (q.flow k).l[j]? = some x := ⟨_, List.getElem?_eq_getElem (by omega)⟩
    obtain ⟨cs, hcv, hrow, hrl⟩ := hs.get (fun _ _ => PkV.len) hx
    obtain ⟨pa, pc, rfl, hbt⟩ := hcv
    obtain ⟨sb, so, rfl, hr⟩ := src_part (k := j * 5) (n := 5) (o.src m 2 rfl) hrl (by decide) hrow
    refine ⟨⟨by omega, by omega⟩, _, hr, ?_⟩
    (intro bN hN1 eN1 eN2; replace m := m.push eN2 eN1; clear eN1 eN2)
    refine ⟨⟨rfl, m.wrsb 0 rfl rfl, by simp [Value.oneCell']⟩, ?_⟩
    intro h3 e3
    replace m := m.setr 0 rfl e3
    clear e3
    simp only [List.set_cons_zero, List.set_cons_succ, setL] at m
    refine ⟨_, m.cell 0 rfl rfl, ?_⟩
    refine ⟨_, _, _, m.cell 0 rfl rfl, ?_⟩
    refine ⟨rfl, ?_⟩
    refine oi.app1 m 1 rfl rfl (by simp [Value.oneCell']) (by omega) (by decide) fun a2 c2 E2 h6 m' o2 => ?_
    clear m
    simp only [List.set_cons_zero, List.set_cons_succ] at m'
    refine ⟨by simp only [fits]; omega, ⟨j + 1, E2, by omega, by omega, rfl, ?_, m'.drop1⟩, by dsimp only; omega⟩
    rw [← take_snoc hx]
    simp only [itemsP, List.map_append, flatI_append] at o2 ⊢
    exact o2
  · obtain rfl : j = (q.flow k).l.length := by omega
    rw [List.take_length] at oi
    clear q1 hj
    refine ⟨fun x n is h' => ∃ (bc : Nat) (Tc : TypeId), x = some ⟨bc, 0, none⟩ ∧ n = ((runP q.tg q.iv now (q.flow k)).1.pos : Nat) ∧ is = (runP q.tg q.iv now (q.flow k)).2 ∧
      Me W h' ([(bc, cV (runP q.tg q.iv now (q.flow k)).1, Tc)] :: BQ b q k css a c fa fc ea ec T :: E :: Ef :: Ee :: (Es.eraseIdx k.toNat).flatten :: R), ?_, fun _ => ?_⟩
    · refine ⟨_, m.frow 1 rfl hn hk rfl 3 rfl rfl rfl, ?_⟩
      refine ⟨_, m.hget 1 rfl (Nat.le_of_ble_eq_true rfl) rfl, ?_⟩
      refine ⟨_, m.hget 1 rfl (Nat.le_of_ble_eq_true rfl) rfl, ?_⟩
      refine ⟨_, m.fget 1 rfl hn hk rfl 1 rfl rfl, ?_⟩
      have p1 := fun (h1 : Heap) (hi : Itm h1 ia (itemsP (q.flow k).l)) => pull_c (cap := ic) (c := (q.flow k).c) hE5 hi hI
      rw [hil] at p1
      refine ⟨?_, ?_⟩
      · refine (p1 _ (itm_of (oi.src m 0 rfl))).mono ?_
        rintro _ h6 ⟨rfl, kk⟩
        replace m := m.on kk
        refine ⟨_, _, _, rfl, ?_⟩
        (intro bN hN1 eN1 eN2; replace m := m.push eN2 eN1; clear eN1 eN2)
        refine ⟨⟨rfl, m.wrsb 0 rfl rfl, by simp [cV, Value.oneCell']⟩, ?_⟩
        intro h8 e3
        replace m := m.setr 0 rfl e3
        exact ⟨_, _, rfl, rfl, rfl, m.free 1 rfl⟩
      · (intro bN hN1 eN1 eN2; replace m := m.push eN2 eN1; clear eN1 eN2)
        refine (p1 _ (itm_of (oi.src m 1 rfl))).mono ?_
        rintro _ h6 ⟨rfl, kk⟩
        replace m := m.on kk
        refine ⟨_, _, _, rfl, ?_⟩
        refine ⟨⟨rfl, m.wrsb 0 rfl rfl, by simp [cV, Value.oneCell']⟩, ?_⟩
        intro h8 e3
        replace m := m.setr 0 rfl e3
        exact ⟨_, _, rfl, rfl, rfl, m.free 1 rfl⟩
    · clear m
      rintro _ _ _ h12 ⟨bc, Tc, rfl, rfl, rfl, m⟩
      refine ⟨_, m.rowb 0 rfl rfl rfl, ?_⟩
      refine ⟨⟨rfl, m.fwrs 1 rfl hn hk rfl 3 rfl rfl, by simp [cV, Value.oneCell']⟩, ?_⟩
      intro h13 e3
      replace m := m.fsetr 1 rfl hn hk rfl 3 rfl (Nat.le_of_ble_eq_true rfl) e3
      clear e3
      simp only [List.set_cons_zero, List.set_cons_succ] at m
      have c1 := setF_cnt q k ⟨(q.flow k).l, (q.flow k).deficit, (runP q.tg q.iv now (q.flow k)).1.rest⟩
      have c2 := setF_byt q k ⟨(q.flow k).l, (q.flow k).deficit, (runP q.tg q.iv now (q.flow k)).1.rest⟩
      have c3 := cntL_set (g := ⟨(q.flow k).l, (q.flow k).deficit, (runP q.tg q.iv now (q.flow k)).1.rest⟩) (hq.flow k0 k1).1
      have c4 := bytL_set (g := ⟨(q.flow k).l, (q.flow k).deficit, (runP q.tg q.iv now (q.flow k)).1.rest⟩) (hq.flow k0 k1).1
      dsimp only at c3 c4
      obtain ⟨L1, hv1, m1⟩ := shutQ (q' := q.setF k ⟨(q.flow k).l, (q.flow k).deficit, (runP q.tg q.iv now (q.flow k)).1.rest⟩) (g := ⟨(q.flow k).l, (q.flow k).deficit, (runP q.tg q.iv now (q.flow k)).1.rest⟩) hc hq hk hE (E := E) ⟨a, c, _, rfl, o, hs⟩ rfl of oe rfl rfl m.drop1 (q4_is (x := q.cnt) (y := q.byt) rfl rfl rfl (by omega) (by omega))
      clear m c1 c2 c3 c4 hcs hE5 hI
      have hrf : dropF q.tg q.iv now (q.flow k) = (q.flow k).l.take (runP q.tg q.iv now (q.flow k)).1.pos := rfl
      have hpf : pullF q.tg q.iv now (q.flow k) = ⟨(q.flow k).l.drop (runP q.tg q.iv now (q.flow k)).1.pos, (q.flow k).deficit, (runP q.tg q.iv now (q.flow k)).1.rest⟩ := rfl
      have hif : isF q.tg q.iv now (q.flow k) = (runP q.tg q.iv now (q.flow k)).2 := rfl
      rw [hrf, hpf, hif]
      generalize runP q.tg q.iv now (q.flow k) = ρ at *
      obtain ⟨t, is⟩ := ρ
      dsimp only at *
      have hok : ∀ j, QOk (q.setF k ⟨(q.flow k).l.drop j, (q.flow k).deficit, t.rest⟩) := fun j =>
        hq.setF k0 k1 ⟨rest_bd hbd, fun p hp => hfo.p p (List.mem_of_mem_drop hp), hfo.d0, hfo.d1⟩ (by simp)
      have hfl : ∀ j, (q.setF k ⟨(q.flow k).l.drop j, (q.flow k).deficit, t.rest⟩).flow k = ⟨(q.flow k).l.drop j, (q.flow k).deficit, t.rest⟩ := fun j => flow_setF hq k0 k1
      refine ⟨fun oa ol oc x h' => ∃ (j : Nat) (vs : List Value) (E L' : Grp), x = j ∧ j ≤ t.pos ∧ ol = j ∧ Ow oa j oc 5 vs E ∧ Sq (PkV W) ((q.flow k).l.take j) vs ∧ QuV W b (q.setF k ⟨(q.flow k).l.drop j, (q.flow k).deficit, t.rest⟩) L' ∧ Me W h' (E :: L' :: R),
        fun _ _ _ x _ => ((t.pos : Int) - x).toNat, ⟨0, [], [], L1, rfl, by omega, rfl, Ow.nil, rfl, hv1, m1.nilI⟩, fun _ => ?_⟩
      clear hv1 m1 hs o
      rintro oa ol oc _ h14 ⟨j, vs, E, L', rfl, hj, hol, o, hs, hv, m⟩
      subst ol
      refine dcase_intro (fun q1 => ?_) fun q1 => ?_
      · obtain ⟨x, hx⟩ : ∃ x, (q.flow k).l[j]? = some x := ⟨_, List.getElem?_eq_getElem (by omega)⟩
        have hd : (q.flow k).l.drop j = x :: (q.flow k).l.drop (j + 1) := by
          rw [List.drop_eq_getElem_cons (List.getElem?_eq_some_iff.1 hx).1, (List.getElem?_eq_some_iff.1 hx).2]
        refine (shift_c (m.focus 1 rfl) hv (hok j) k0 k1 (p := x) (r := (q.flow k).l.drop (j + 1)) (by rw [hfl]; exact hd)).mono ?_
        rintro _ h15 ⟨cs, L2, rfl, hcv, hv2, m2⟩
        rw [hfl, setF_setF] at hv2
        refine ⟨_, rfl, hcv.len, ?_⟩
        refine o.app1 m2 1 rfl (by simp [hcv.len]) (by simpa using hcv.one) (by omega) (by decide) fun a2 c2 E2 h6 m' o2 => ?_
        rw [List.append_nil] at o2
        refine ⟨by simp only [fits]; omega, ⟨j + 1, _, E2, L2, by omega, by omega, rfl, o2, ?_, hv2, m'.focus 1 rfl⟩, by dsimp only; omega⟩
        rw [← take_snoc hx]
        exact hs.snoc hcv
      · obtain rfl : j = t.pos := by omega
        have e : ((q.flow k).l.take t.pos).length = t.pos := by simp; omega
        exact ⟨oa, oc, vs, E, L', by rw [e], by rw [e]; exact o, hs, hv, m⟩
end
/-! The queue's parts, one by one. -/
section
variable {W W' : Wd} {h h' h1 : Heap} {G R : List Grp} {L E E0 Ef Ee : Grp} {B : Grp} {Es : List Grp} {css : List (List Value)} {q : Qu} {f g : Fl} {k d : Int} {b n : Nat} {cs : List Value} {p : Pk} {r : List Pk}
theorem shutQ0 {q' : Qu} {fa ea : Option Addr} {fc ec : Nat} {post : List Value} {T : TypeId} (hc : QuC W q css Es) (of : Ow fa q'.fresh.length fc 1 (ints .i64 q'.fresh) Ef) (oe : Ow ea q'.elder.length ec 1 (ints .i64 q'.elder) Ee) (h3 : q3 q' = q3 q) (hfl : q'.fl = q.fl)
    (m : Me W h ([(b, ck (q3 q) css post, T)] :: Ef :: Ee :: Es.flatten :: R)) (hpost : post = q4 q' fa fc ea ec) : ∃ L', QuV W b q' L' ∧ Me W h (L' :: R) := by
  have h2 : QuC W q' css Es := ⟨hc.n1, hc.n2, by rw [hfl]; exact hc.f, hc.n8⟩
  refine ⟨_, ⟨_, _, fa, fc, ea, ec, Ef, Ee, T, h2, of, oe, rfl⟩, ?_⟩
  rw [hpost] at m
  rw [h3]
  exact m.perm (by simp)
theorem QuV.elim (hv : QuV W b q L) (m : Me W h (L :: R)) : ∃ (css : List (List Value)) (Es : List Grp) (fa : Option Addr) (fc : Nat) (ea : Option Addr) (ec : Nat) (Ef Ee : Grp) (T : TypeId), QuC W q css Es ∧ Ow fa q.fresh.length fc 1 (ints .i64 q.fresh) Ef ∧ Ow ea q.elder.length ec 1 (ints .i64 q.elder) Ee ∧
    Me W h ([(b, ck (q3 q) css (q4 q fa fc ea ec), T)] :: Ef :: Ee :: Es.flatten :: R) := by
  obtain ⟨css, Es, fa, fc, ea, ec, Ef, Ee, T, hc, of, oe, rfl⟩ := hv
  exact ⟨css, Es, fa, fc, ea, ec, Ef, Ee, T, hc, of, oe, m.perm (by simp)⟩
theorem QuV.deficit (hv : QuV W b q L) (m : Me W h (L :: R)) (hq : QOk q) (k0 : 0 ≤ k) (k1 : k < 16) : cell h b (3 + k.toNat * 8 + 2) = some (.int .i64 (q.flow k).deficit) := by
  (obtain ⟨css, Es, fa, fc, ea, ec, Ef, Ee, T, hc, of, oe, rfl⟩ := hv; obtain ⟨a, c, vs, E, hE, hcs, o, hs, hk⟩ := hc.opn hq k0 k1; have hn := hc.n8; have hN := hc.n1; have hcnt := hq.cnt; obtain ⟨hb1, hb0⟩ := hq.bd; have ecn : q.cnt = cntL q.fl := rfl; have ebn : q.byt = bytL q.fl := rfl; have hfb := bytL_ge (hq.flow k0 k1).1; have hfc := cntL_ge (hq.flow k0 k1).1; have hfn := bytP_nn (q.flow k).l; replace m := m.openQ hE; rw [hcs] at m)
  exact m.fget 0 rfl hn hk rfl 2 rfl rfl
theorem QuV.flowL (hv : QuV W b q L) (m : Me W h (L :: R)) (hq : QOk q) (k0 : 0 ≤ k) (k1 : k < 16) : ∃ a c vs, cell h b (3 + k.toNat * 8) = some (.slice a (q.flow k).l.length c) ∧ src h a ((q.flow k).l.length * 5) vs ∧ Sq (PkV W) (q.flow k).l vs := by
  (obtain ⟨css, Es, fa, fc, ea, ec, Ef, Ee, T, hc, of, oe, rfl⟩ := hv; obtain ⟨a, c, vs, E, hE, hcs, o, hs, hk⟩ := hc.opn hq k0 k1; have hn := hc.n8; have hN := hc.n1; have hcnt := hq.cnt; obtain ⟨hb1, hb0⟩ := hq.bd; have ecn : q.cnt = cntL q.fl := rfl; have ebn : q.byt = bytL q.fl := rfl; have hfb := bytL_ge (hq.flow k0 k1).1; have hfc := cntL_ge (hq.flow k0 k1).1; have hfn := bytP_nn (q.flow k).l; replace m := m.openQ hE; rw [hcs] at m)
  exact ⟨a, c, vs, m.fget 0 rfl hn hk rfl 0 rfl rfl, o.src m 1 rfl, hs⟩
/-- A flow's packets lie there as long as the queue is let alone. -/
theorem QuV.flowK (hv : QuV W b q L) (hq : QOk q) (k0 : 0 ≤ k) (k1 : k < 16) : ∃ a c vs, Sq (PkV W) (q.flow k).l vs ∧ ∀ {W1 : Wd} {h1 : Heap} {R1 : List Grp}, Me W1 h1 (L :: R1) →
    cell h1 b (3 + k.toNat * 8) = some (.slice a (q.flow k).l.length c) ∧ src h1 a ((q.flow k).l.length * 5) vs := by
  obtain ⟨css, Es, fa, fc, ea, ec, Ef, Ee, T, hc, of, oe, rfl⟩ := hv
  obtain ⟨a, c, vs, E, hE, hcs, o, hs, hk⟩ := hc.opn hq k0 k1
  have hn := hc.n8
  refine ⟨a, c, vs, hs, fun m => ?_⟩
  replace m := m.openQ hE
  rw [hcs] at m
  exact ⟨m.fget 0 rfl hn hk rfl 0 rfl rfl, o.src m 1 rfl⟩
theorem QuV.flowB (hv : QuV W b q L) (m : Me W h (L :: R)) (hq : QOk q) (k0 : 0 ≤ k) (k1 : k < 16) : cell h b (3 + k.toNat * 8 + 1) = some (.int .i64 (bytP (q.flow k).l)) := by
  (obtain ⟨css, Es, fa, fc, ea, ec, Ef, Ee, T, hc, of, oe, rfl⟩ := hv; obtain ⟨a, c, vs, E, hE, hcs, o, hs, hk⟩ := hc.opn hq k0 k1; have hn := hc.n8; have hN := hc.n1; have hcnt := hq.cnt; obtain ⟨hb1, hb0⟩ := hq.bd; have ecn : q.cnt = cntL q.fl := rfl; have ebn : q.byt = bytL q.fl := rfl; have hfb := bytL_ge (hq.flow k0 k1).1; have hfc := cntL_ge (hq.flow k0 k1).1; have hfn := bytP_nn (q.flow k).l; replace m := m.openQ hE; rw [hcs] at m)
  exact m.fget 0 rfl hn hk rfl 1 rfl rfl
theorem QuV.setD (hv : QuV W b q L) (m : Me W h (L :: R)) (hq : QOk q) (k0 : 0 ≤ k) (k1 : k < 16) {Q : Heap → Prop} (x : ∀ h1 L', QuV W b (q.setF k ((q.flow k).setD d)) L' → Me W h1 (L' :: R) → Q h1) :
    wr h b (3 + k.toNat * 8 + 2) ∧ ∀ h1, h1 = setc h b (3 + k.toNat * 8 + 2) (.int .i64 d) → Q h1 := by
  (obtain ⟨css, Es, fa, fc, ea, ec, Ef, Ee, T, hc, of, oe, rfl⟩ := hv; obtain ⟨a, c, vs, E, hE, hcs, o, hs, hk⟩ := hc.opn hq k0 k1; have hn := hc.n8; have hN := hc.n1; have hcnt := hq.cnt; obtain ⟨hb1, hb0⟩ := hq.bd; have ecn : q.cnt = cntL q.fl := rfl; have ebn : q.byt = bytL q.fl := rfl; have hfb := bytL_ge (hq.flow k0 k1).1; have hfc := cntL_ge (hq.flow k0 k1).1; have hfn := bytP_nn (q.flow k).l; replace m := m.openQ hE; rw [hcs] at m)
  refine m.fset 0 rfl hn hk rfl 2 rfl rfl fun h1 m' => ?_
  have c1 := setF_cnt q k ((q.flow k).setD d)
  have c2 := setF_byt q k ((q.flow k).setD d)
  have c3 := cntL_set (g := (q.flow k).setD d) (hq.flow k0 k1).1
  have c4 := bytL_set (g := (q.flow k).setD d) (hq.flow k0 k1).1
  simp only [setD_l] at c3 c4
  obtain ⟨L', hv', m2⟩ := shutQ (q' := q.setF k ((q.flow k).setD d)) (g := (q.flow k).setD d) hc hq hk hE (E := E) ⟨a, c, vs, rfl, o, hs⟩ rfl of oe rfl rfl m' (q4_is (x := q.cnt) (y := q.byt) rfl rfl rfl (by omega) (by omega))
  exact x _ _ hv' m2
theorem QuV.fresh (hv : QuV W b q L) (m : Me W h (L :: R)) : ∃ a c, cell h b 131 = some (.slice a q.fresh.length c) ∧ src h a q.fresh.length (ints .i64 q.fresh) := by
  obtain ⟨css, Es, fa, fc, ea, ec, Ef, Ee, T, hc, of, oe, m⟩ := hv.elim m
  exact ⟨fa, fc, m.pget 0 rfl hc.n8 hc.n1 0 rfl rfl, of.src1 m 1 rfl⟩
theorem QuV.elder (hv : QuV W b q L) (m : Me W h (L :: R)) : ∃ a c, cell h b 132 = some (.slice a q.elder.length c) ∧ src h a q.elder.length (ints .i64 q.elder) := by
  obtain ⟨css, Es, fa, fc, ea, ec, Ef, Ee, T, hc, of, oe, m⟩ := hv.elim m
  exact ⟨ea, ec, m.pget 0 rfl hc.n8 hc.n1 1 rfl rfl, oe.src1 m 2 rfl⟩
theorem popF_is (hf : q.fresh ≠ []) : q.popT = { q with fresh := q.fresh.tail } := if_neg hf
theorem popE_is (hf : q.fresh = []) : q.popT = { q with elder := q.elder.tail } := if_pos hf
theorem ints_tail {k : IntKind} {l : List Int} : (ints k l).drop (1 * 1) = ints k l.tail := by cases l <;> simp [ints]
theorem QuV.popF (hv : QuV W b q L) (m : Me W h (L :: R)) (hf : q.fresh ≠ []) {Q : Heap → Prop} (x : ∀ h1 L', QuV W b q.popT L' → Me W h1 (L' :: R) → Q h1) :
    ∃ (s : Option Addr) (sl sc : Nat), cell h b 131 = some (.slice s sl sc) ∧ (0 ≤ (1 : Int) ∧ (1 : Int) ≤ ((sl : Nat) : Int)) ∧ wr h b 131 ∧ ∀ h1 : Heap, h1 = setc h b 131 (.slice (slcAddr s 1 sc 1) (sl - 1) (sc - 1)) → Q h1 := by
  obtain ⟨css, Es, fa, fc, ea, ec, Ef, Ee, T, hc, of, oe, m⟩ := hv.elim m
  have hl : 0 < q.fresh.length := List.length_pos_iff.2 hf
  refine ⟨_, _, _, m.pget 0 rfl hc.n8 hc.n1 0 rfl rfl, ⟨by omega, by omega⟩, m.pset 0 rfl hc.n8 hc.n1 0 rfl (Nat.le_of_ble_eq_true rfl) fun h1 m' => ?_⟩
  have ot := of.tail 1 hl
  rw [ints_tail] at ot
  rw [popF_is hf] at x
  obtain ⟨L', hv', m2⟩ := shutQ0 (q' := { q with fresh := q.fresh.tail }) hc (by simpa using ot) oe rfl rfl m' (q4_is rfl (by simp) rfl rfl rfl)
  exact x _ _ hv' m2
theorem QuV.popE (hv : QuV W b q L) (m : Me W h (L :: R)) (hf : q.fresh = []) (he : q.elder ≠ []) {Q : Heap → Prop} (x : ∀ h1 L', QuV W b q.popT L' → Me W h1 (L' :: R) → Q h1) :
    ∃ (s : Option Addr) (sl sc : Nat), cell h b 132 = some (.slice s sl sc) ∧ (0 ≤ (1 : Int) ∧ (1 : Int) ≤ ((sl : Nat) : Int)) ∧ wr h b 132 ∧ ∀ h1 : Heap, h1 = setc h b 132 (.slice (slcAddr s 1 sc 1) (sl - 1) (sc - 1)) → Q h1 := by
  obtain ⟨css, Es, fa, fc, ea, ec, Ef, Ee, T, hc, of, oe, m⟩ := hv.elim m
  have hl : 0 < q.elder.length := List.length_pos_iff.2 he
  refine ⟨_, _, _, m.pget 0 rfl hc.n8 hc.n1 1 rfl rfl, ⟨by omega, by omega⟩, m.pset 0 rfl hc.n8 hc.n1 1 rfl (Nat.le_of_ble_eq_true rfl) fun h1 m' => ?_⟩
  have ot := oe.tail 1 hl
  rw [ints_tail] at ot
  rw [popE_is hf] at x
  obtain ⟨L', hv', m2⟩ := shutQ0 (q' := { q with elder := q.elder.tail }) hc of (by simpa using ot) rfl rfl m' (q4_is rfl rfl (by simp) rfl rfl)
  exact x _ _ hv' m2
theorem QuV.pushE (hv : QuV W b q L) (m : Me W h (L :: R)) (hl : q.elder.length ≤ 1048576) {Q : Heap → Prop} (x : ∀ h1 L', QuV W b (q.addE k) L' → Me W h1 (L' :: R) → Q h1) {e : TypeId} :
    ∃ (s : Option Addr) (sl sc : Nat), cell h b 132 = some (.slice s sl sc) ∧ ∀ (b3 : Nat) (h6 : Heap), b3 = h.size → h6 = h.push (.cells ([(.int .i64 k)] : List Value).toArray e) →
      ∃ news1 : List Value, (row h6 b3 0 1 = some news1 ∧ ∀ u ∈ news1, u.oneCell' = true) ∧ appK h6 s sl sc 1 1 e 8 news1 fun (a1 : Option Addr) (cap1 : Nat) (h7 : Heap) => wr h7 b 132 ∧ ∀ h8 : Heap, h8 = setc h7 b 132 (.slice a1 (sl + 1) cap1) → Q h8 := by
  obtain ⟨css, Es, fa, fc, ea, ec, Ef, Ee, T, hc, of, oe, m⟩ := hv.elim m
  refine ⟨_, _, _, m.pget 0 rfl hc.n8 hc.n1 1 rfl rfl, ?_⟩
  refine oe.app1 m 2 rfl rfl (by simp [Value.oneCell']) (by omega) (by decide) fun a' c' E' h' m' o' => ?_
  refine m'.pset 0 rfl hc.n8 hc.n1 1 rfl (Nat.le_of_ble_eq_true rfl) fun h1 m2 => ?_
  have o2 : Ow a' (q.elder ++ [k]).length c' 1 (ints .i64 (q.elder ++ [k])) E' := by rw [ints_app]; show Ow a' _ c' 1 (ints .i64 q.elder ++ [.int .i64 k]) E'; simpa using o'
  obtain ⟨L', hv', m3⟩ := shutQ0 (q' := q.addE k) hc of o2 rfl rfl m2 (q4_is rfl rfl (by simp [Qu.addE]) rfl rfl)
  exact x _ _ hv' m3
def TakeJ (W : Wd) (R : List Grp) (b b1 : Nat) (now : Int) (res : Qu × List Pk × Option Pk) (n : Nat) (da : Option Addr) (dl dc : Nat) (h' : Heap) : Prop :=
  ∃ (q : Qu) (d : List Pk) (vs : List Value) (E L : Grp) (T : TypeId), takeN now n q d = res ∧ q.meas < n ∧ QOk q ∧ dl = d.length ∧ d.length + q.cnt ≤ 1048576 ∧ Ow da dl dc 5 vs E ∧ Sq (PkV W) d vs ∧ QuV W b q L ∧
    Me W h' (L :: [(b1, [.int .i64 0, .int .u32 0, .int .i64 0, .int .i64 0, .slice none 0 0], T)] :: E :: R)
/-- Behind a pull that yields one: it is taken. -/
theorem take_c {now : Int} {q0 : Qu} (m : Me W h (L :: R)) (hv : QuV W b q0 L) (hq : QOk q0) (n0 : 0 ≤ now) (n1 : now ≤ 1125899906842624) :
    Runs Tryd.prog 39 #[.pointer (some ⟨b, 0, none⟩), .int .i64 now] h fun v h' => ∃ a c vs E L' cs, v = .tuple #[.agg cs.toArray, .slice a (q0.take now).2.1.length c, .bool (q0.take now).2.2.isSome] ∧
      PkV W ((q0.take now).2.2.getD pk0) cs ∧ Ow a (q0.take now).2.1.length c 5 vs E ∧ Sq (PkV W) (q0.take now).2.1 vs ∧ QuV W b (q0.take now).1 L' ∧ Me W h' (E :: L' :: R) := by
  refine vc_fq_Queue_Take _ _ _ _ ?_
  (intro bN hN1 eN1 eN2; replace m := m.push eN2 eN1; clear eN1 eN2)
  have hJ0 : TakeJ W R b bN now (q0.take now) (q0.meas + 1) none 0 0 hN1 := ⟨q0, [], [], [], L, _, rfl, by omega, hq, rfl, by simpa using hq.cnt, Ow.nil, rfl, hv, (m.nilI.focus 1 rfl).focus 2 rfl⟩
  generalize q0.take now = res at *
  refine ⟨fun da dl dc h' => ∃ n, TakeJ W R b bN now res n da dl dc h', fun da dl dc h' => lea fun n => TakeJ W R b bN now res n da dl dc h', ⟨_, hJ0⟩, fun _ => ?_⟩
  clear m hv hq hJ0
  intro da dl dc h2 hJ
  obtain ⟨n, ⟨q, d, vsd, Ed, L, T, htk, hms, hq, hdl, hsum, od, hsd, hv, m⟩, hn⟩ := lea_spec hJ
  subst dl
  obtain ⟨n, rfl⟩ : ∃ k, n = k + 1 := ⟨n - 1, by omega⟩
  clear hJ
  have hls := hq.lens
  obtain ⟨fa, fc, hfr, hfs⟩ := hv.fresh m
  obtain ⟨ea, ec, hel, hes⟩ := hv.elder m
  refine ⟨_, _, _, hfr, ?_⟩
  by_cases hf : q.fresh = []
  · refine dcase_pos (by rw [hf]; rfl) ⟨_, _, _, hel, ?_⟩
    by_cases he : q.elder = []
    · refine dcase_pos (by rw [he]; rfl) ⟨⟨rfl, m.wrsb 1 rfl rfl, by simp [Value.oneCell']⟩, ?_⟩
      intro h3 e3
      replace m := m.setr 1 rfl e3
      refine ⟨_, m.rowb 1 rfl rfl rfl, ?_⟩
      rw [takeN_none (by unfold Qu.turn; rw [hf, he]; rfl)] at htk
      rw [← htk]
      exact ⟨_, _, _, Ed, L, _, rfl, PkV.zero, od, hsd, hv, (m.free 1 rfl).focus 1 rfl⟩
    · obtain ⟨k, re, hke⟩ := List.exists_cons_of_ne_nil he
      have ht : q.turn = some k := by unfold Qu.turn; rw [hf, hke]; rfl
      obtain ⟨k0, k1⟩ := hq.b k (turn_mem ht)
      have hfo := (hq.flow k0 k1).2
      have hl : 0 < q.elder.length := List.length_pos_iff.2 he
      refine dcase_neg (by omega) ⟨_, _, _, hel, ⟨by omega, by omega⟩, ?_⟩
      obtain ⟨sb, so, rfl, hr⟩ := src_cell (k := 0) (v := .int .i64 k) hes (by rw [hke]; rfl)
      refine ⟨_, hr, ⟨k0, by omega⟩, _, hv.deficit m hq k0 k1, ?_⟩
      by_cases hd : (q.flow k).deficit ≤ 0
      · refine dcase_pos hd ⟨_, hv.deficit m hq k0 k1, ?_⟩
        have hd0 := hfo.d0
        refine ⟨by simp only [fits]; omega, hv.setD m hq k0 k1 fun h4 L1 hv1 m1 => ?_⟩
        have hok1 := hq.setF k0 k1 (setD_ok hfo (d := (q.flow k).deficit + 300) (by omega) (by omega)) (by simp)
        refine hv1.popE m1 hf he fun h5 L2 hv2 m2 => ?_
        refine hv2.pushE m2 ?_ fun h8 L3 hv3 m3 => ?_
        · have := (hok1.popT).lens; omega
        rw [takeN_turn ht hd] at htk
        have hnot := popT_not hok1 (k := k) ht
        exact lea_next hn (k := n) ⟨_, d, vsd, Ed, L3, T, htk, by have := meas_turn hq ht hd; omega, (hok1.popT).addE hnot k0 k1, rfl, by rw [addE_cnt, popT_cnt, setD_cnt hq k0 k1]; exact hsum, od, hsd, hv3, m3⟩ (by omega)
      · refine dcase_neg hd ?_
        refine (fqpull_c m hv hq k0 k1 n0 n1).mono ?_
        rintro _ h9 ⟨a', c', vs', E', L2, rfl, o', hs', hv2, m2⟩
        clear m hv
        have hfo := (hq.flow k0 k1).2
        have hfc := hq.fcnt k0 k1
        have hok2 := hq.setF k0 k1 (pullF_ok (tg := q.tg) (iv := q.iv) hfo hfc n0 n1) (by simp [pullF])
        have hisd := isF_drop (tg := q.tg) (iv := q.iv) hfo hfc n0 n1
        have hcnt2 : (dropF q.tg q.iv now (q.flow k)).length + (q.setF k (pullF q.tg q.iv now (q.flow k))).cnt ≤ q.cnt := by
          have c3 := cntL_set (g := pullF q.tg q.iv now (q.flow k)) (hq.flow k0 k1).1
          have c1 := setF_cnt q k (pullF q.tg q.iv now (q.flow k))
          have e : q.cnt = cntL q.fl := rfl
          simp only [pullF, List.length_drop] at c3
          simp only [dropF, List.length_take]
          have := (pull_facts (tg := q.tg) (iv := q.iv) hfo hfc n0 n1).2.2.2.1
          simp only [pullF] at c1
          simp only [pullF]
          omega
        have hgd : (pullF q.tg q.iv now (q.flow k)).deficit = (q.flow k).deficit := rfl
        refine ⟨_, _, _, _, rfl, vs', ⟨o'.src m2 0 rfl, hs'.all fun _ _ => PkV.one⟩, ?_⟩
        refine od.app m2 3 rfl o'.len (by omega) (by decide) fun a2 c2 E2 h10 m' od2 => ?_
        clear m2
        simp only [List.set_cons_zero, List.set_cons_succ] at m'
        have m := m'.drop1
        clear m'
        have hsd2 := hsd.app hs'
        rw [← List.length_append] at od2 ⊢
        refine bcase_intro (fun his => ?_) fun his => ?_
        · obtain ⟨p, r, hp⟩ := hisd.1 his
          have hfl2 := flow_setF (g := pullF q.tg q.iv now (q.flow k)) hq k0 k1
          refine (shift_c m hv2 hok2 k0 k1 (p := p) (r := r) (by rw [hfl2]; exact hp)).mono ?_
          rintro _ h11 ⟨cs, L3, rfl, hcv, hv3, m⟩
          rw [hfl2, setF_setF] at hv3
          have hple : p.body.length ≤ 1048576 := (hfo.p p (List.mem_of_mem_drop (by unfold pullF at hp; dsimp only at hp; rw [hp]; simp))).2.2
          have hok3 : QOk (q.setF k ((pullF q.tg q.iv now (q.flow k)).setL r)) := hq.setF k0 k1 ⟨(pullF_ok (tg := q.tg) (iv := q.iv) hfo hfc n0 n1).c, fun x hx => (pullF_ok (tg := q.tg) (iv := q.iv) hfo hfc n0 n1).p x (by rw [hp]; simp at hx; simp [hx]), hfo.d0, hfo.d1⟩ (by
            have : (pullF q.tg q.iv now (q.flow k)).l.length ≤ (q.flow k).l.length := by simp [pullF]
            rw [hp] at this; simp at this ⊢; omega)
          refine ⟨_, rfl, ?_⟩
          (intro bN hN1 eN1 eN2; replace m := m.push eN2 eN1; clear eN1 eN2)
          rename_i bp hp12
          obtain ⟨pa, pc, rfl, hbt⟩ := hcv
          refine ⟨⟨rfl, m.wrsb 0 rfl rfl, by simp [Value.oneCell']⟩, ?_⟩
          intro h13 e3
          replace m := m.setr 0 rfl e3
          clear e3
          simp only [List.set_cons_zero, List.set_cons_succ, setL] at m
          replace m := m.focus 1 rfl
          simp only [List.eraseIdx_cons_zero, List.eraseIdx_cons_succ] at m
          have hfl3 := flow_setF (g := (pullF q.tg q.iv now (q.flow k)).setL r) hq k0 k1
          have hdf := hv3.deficit m hok3 k0 k1
          rw [hfl3] at hdf
          refine ⟨_, hdf, ?_⟩
          refine ⟨_, _, _, m.cell 1 rfl rfl, ?_⟩
          have hd0 := hfo.d0
          have hd1 := hfo.d1
          refine ⟨by simp only [fits, setL_d]; omega, ?_⟩
          refine hv3.setD m hok3 k0 k1 fun h14 L4 hv4 m => ?_
          rw [hfl3, setF_setF] at hv4
          refine ⟨_, m.rowb 1 rfl rfl rfl, ⟨rfl, m.wrsb 2 rfl rfl, by simp [Value.oneCell']⟩, ?_⟩
          intro h15 e3
          replace m := m.setr 2 rfl e3
          refine ⟨_, m.rowb 2 rfl rfl rfl, ?_⟩
          rw [takeN_some ht hd his hp] at htk
          rw [← htk]
          exact ⟨_, _, _, E2, L4, _, rfl, ⟨pa, pc, rfl, hbt⟩, od2, hsd2, hv4, (((m.free 1 rfl).free 1 rfl).focus 1 rfl)⟩
        · have hmv := meas_empty hq ht hd hgd
          refine hv2.popE m hf he fun h16 L3 hv3 m3 => ?_
          rw [takeN_gone ht hd his (fun hc => hc.1 hf)] at htk
          exact lea_next hn (k := n) ⟨_, _, _, E2, L3, T, htk, by have := hmv.1; omega, hok2.popT, rfl, by rw [popT_cnt, List.length_append]; omega, od2, hsd2, hv3, m3⟩ (by omega)
  · obtain ⟨k, re, hke⟩ := List.exists_cons_of_ne_nil hf
    have ht : q.turn = some k := by unfold Qu.turn; rw [hke]
    obtain ⟨k0, k1⟩ := hq.b k (turn_mem ht)
    have hfo := (hq.flow k0 k1).2
    have hl : 0 < q.fresh.length := List.length_pos_iff.2 hf
    refine dcase_neg (by omega) ⟨_, _, _, hfr, dcase_neg (by omega) ⟨_, _, _, hfr, ⟨by omega, by omega⟩, ?_⟩⟩
    obtain ⟨sb, so, rfl, hr⟩ := src_cell (k := 0) (v := .int .i64 k) hfs (by rw [hke]; rfl)
    refine ⟨_, hr, ⟨k0, by omega⟩, _, hv.deficit m hq k0 k1, ?_⟩
    by_cases hd : (q.flow k).deficit ≤ 0
    · refine dcase_pos hd ⟨_, hv.deficit m hq k0 k1, ?_⟩
      have hd0 := hfo.d0
      refine ⟨by simp only [fits]; omega, hv.setD m hq k0 k1 fun h4 L1 hv1 m1 => ?_⟩
      have hok1 := hq.setF k0 k1 (setD_ok hfo (d := (q.flow k).deficit + 300) (by omega) (by omega)) (by simp)
      refine hv1.popF m1 hf fun h5 L2 hv2 m2 => ?_
      refine hv2.pushE m2 ?_ fun h8 L3 hv3 m3 => ?_
      · have := (hok1.popT).lens; omega
      rw [takeN_turn ht hd] at htk
      have hnot := popT_not hok1 (k := k) ht
      exact lea_next hn (k := n) ⟨_, d, vsd, Ed, L3, T, htk, by have := meas_turn hq ht hd; omega, (hok1.popT).addE hnot k0 k1, rfl, by rw [addE_cnt, popT_cnt, setD_cnt hq k0 k1]; exact hsum, od, hsd, hv3, m3⟩ (by omega)
    · refine dcase_neg hd ?_
      refine (fqpull_c m hv hq k0 k1 n0 n1).mono ?_
      rintro _ h9 ⟨a', c', vs', E', L2, rfl, o', hs', hv2, m2⟩
      clear m hv
      have hfo := (hq.flow k0 k1).2
      have hfc := hq.fcnt k0 k1
      have hok2 := hq.setF k0 k1 (pullF_ok (tg := q.tg) (iv := q.iv) hfo hfc n0 n1) (by simp [pullF])
      have hisd := isF_drop (tg := q.tg) (iv := q.iv) hfo hfc n0 n1
      have hcnt2 : (dropF q.tg q.iv now (q.flow k)).length + (q.setF k (pullF q.tg q.iv now (q.flow k))).cnt ≤ q.cnt := by
        have c3 := cntL_set (g := pullF q.tg q.iv now (q.flow k)) (hq.flow k0 k1).1
        have c1 := setF_cnt q k (pullF q.tg q.iv now (q.flow k))
        have e : q.cnt = cntL q.fl := rfl
        simp only [pullF, List.length_drop] at c3
        simp only [dropF, List.length_take]
        have := (pull_facts (tg := q.tg) (iv := q.iv) hfo hfc n0 n1).2.2.2.1
        simp only [pullF] at c1
        simp only [pullF]
        omega
      have hgd : (pullF q.tg q.iv now (q.flow k)).deficit = (q.flow k).deficit := rfl
      refine ⟨_, _, _, _, rfl, vs', ⟨o'.src m2 0 rfl, hs'.all fun _ _ => PkV.one⟩, ?_⟩
      refine od.app m2 3 rfl o'.len (by omega) (by decide) fun a2 c2 E2 h10 m' od2 => ?_
      clear m2
      simp only [List.set_cons_zero, List.set_cons_succ] at m'
      have m := m'.drop1
      clear m'
      have hsd2 := hsd.app hs'
      rw [← List.length_append] at od2 ⊢
      refine bcase_intro (fun his => ?_) fun his => ?_
      · obtain ⟨p, r, hp⟩ := hisd.1 his
        have hfl2 := flow_setF (g := pullF q.tg q.iv now (q.flow k)) hq k0 k1
        refine (shift_c m hv2 hok2 k0 k1 (p := p) (r := r) (by rw [hfl2]; exact hp)).mono ?_
        rintro _ h11 ⟨cs, L3, rfl, hcv, hv3, m⟩
        rw [hfl2, setF_setF] at hv3
        have hple : p.body.length ≤ 1048576 := (hfo.p p (List.mem_of_mem_drop (by unfold pullF at hp; dsimp only at hp; rw [hp]; simp))).2.2
        have hok3 : QOk (q.setF k ((pullF q.tg q.iv now (q.flow k)).setL r)) := hq.setF k0 k1 ⟨(pullF_ok (tg := q.tg) (iv := q.iv) hfo hfc n0 n1).c, fun x hx => (pullF_ok (tg := q.tg) (iv := q.iv) hfo hfc n0 n1).p x (by rw [hp]; simp at hx; simp [hx]), hfo.d0, hfo.d1⟩ (by
          have : (pullF q.tg q.iv now (q.flow k)).l.length ≤ (q.flow k).l.length := by simp [pullF]
          rw [hp] at this; simp at this ⊢; omega)
        refine ⟨_, rfl, ?_⟩
        (intro bN hN1 eN1 eN2; replace m := m.push eN2 eN1; clear eN1 eN2)
        rename_i bp hp12
        obtain ⟨pa, pc, rfl, hbt⟩ := hcv
        refine ⟨⟨rfl, m.wrsb 0 rfl rfl, by simp [Value.oneCell']⟩, ?_⟩
        intro h13 e3
        replace m := m.setr 0 rfl e3
        clear e3
        simp only [List.set_cons_zero, List.set_cons_succ, setL] at m
        replace m := m.focus 1 rfl
        simp only [List.eraseIdx_cons_zero, List.eraseIdx_cons_succ] at m
        have hfl3 := flow_setF (g := (pullF q.tg q.iv now (q.flow k)).setL r) hq k0 k1
        have hdf := hv3.deficit m hok3 k0 k1
        rw [hfl3] at hdf
        refine ⟨_, hdf, ?_⟩
        refine ⟨_, _, _, m.cell 1 rfl rfl, ?_⟩
        have hd0 := hfo.d0
        have hd1 := hfo.d1
        refine ⟨by simp only [fits, setL_d]; omega, ?_⟩
        refine hv3.setD m hok3 k0 k1 fun h14 L4 hv4 m => ?_
        rw [hfl3, setF_setF] at hv4
        refine ⟨_, m.rowb 1 rfl rfl rfl, ⟨rfl, m.wrsb 2 rfl rfl, by simp [Value.oneCell']⟩, ?_⟩
        intro h15 e3
        replace m := m.setr 2 rfl e3
        refine ⟨_, m.rowb 2 rfl rfl rfl, ?_⟩
        rw [takeN_some ht hd his hp] at htk
        rw [← htk]
        exact ⟨_, _, _, E2, L4, _, rfl, ⟨pa, pc, rfl, hbt⟩, od2, hsd2, hv4, (((m.free 1 rfl).free 1 rfl).focus 1 rfl)⟩
      · have hmv := meas_empty hq ht hd hgd
        refine hv2.popF m hf fun h16 L3 hv3 m3 => ?_
        obtain ⟨ea3, ec3, hel3, hes3⟩ := hv3.elder m3
        have hpe : ((q.setF k (pullF q.tg q.iv now (q.flow k))).popT).elder = q.elder := by rw [popF_is (q := q.setF k (pullF q.tg q.iv now (q.flow k))) hf]; rfl
        rw [hpe] at hel3
        refine ⟨_, _, _, hel3, ?_⟩
        by_cases he : q.elder = []
        · refine dcase_neg (by rw [he]; simp) ?_
          rw [takeN_gone ht hd his (fun hc => hc.2 he)] at htk
          exact lea_next hn (k := n) ⟨_, _, _, E2, L3, T, htk, by have := hmv.1; omega, hok2.popT, rfl, by rw [popT_cnt, List.length_append]; omega, od2, hsd2, hv3, m3⟩ (by omega)
        · have hle : 0 < q.elder.length := List.length_pos_iff.2 he
          refine dcase_pos (by omega) ?_
          refine hv3.pushE m3 (by rw [hpe]; omega) fun h33 L4 hv4 m4 => ?_
          rw [takeN_move ht hd his ⟨hf, he⟩] at htk
          have hnot := popT_not hok2 (k := k) ht
          exact lea_next hn (k := n) ⟨_, _, _, E2, L4, T, htk, by have := hmv.2 hf; omega, (hok2.popT).addE hnot k0 k1, rfl, by rw [addE_cnt, popT_cnt, List.length_append]; omega, od2, hsd2, hv4, m4⟩ (by omega)
end
end Go.Proofs.YtpcilleldanfmaaDoor
