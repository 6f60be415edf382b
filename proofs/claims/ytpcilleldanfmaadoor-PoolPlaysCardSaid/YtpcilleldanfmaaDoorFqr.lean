/- The document's queue of flows (muezzinref8): how it lies in memory; the contracts of its functions, over the same model. -/
import Derived.Test.YtpcilleldanfmaaDoorFq2
import Derived.Test.YtpcilleldanfmaaDoorGenAll1
set_option linter.unusedVariables false
set_option linter.unusedSimpArgs false
namespace Go.Proofs.YtpcilleldanfmaaDoor
open Go.Vc
def FlR (W : Wd) (f : Fl) (cs : List Value) (E : Grp) : Prop :=
  ∃ a c vs, cs = .slice a f.l.length c :: .int .i64 f.deficit :: cV f.c ∧ Ow a f.l.length c 5 vs E ∧ Sq (PkV W) f.l vs
structure QrC (W : Wd) (q : Qu) (css : List (List Value)) (Es : List Grp) : Prop where
  n1 : css.length = 16
  n2 : Es.length = 16
  f : ∀ (k : Nat) (f : Fl), q.fl[k]? = some f → ∃ (cs : List Value) (E : Grp), css[k]? = some cs ∧ Es[k]? = some E ∧ FlR W f cs E
  n8 : ∀ c ∈ css, c.length = 7
def r2 (q : Qu) (fa : Option Addr) (fc : Nat) (ea : Option Addr) (ec : Nat) : List Value := [.slice fa q.fresh.length fc, .slice ea q.elder.length ec]
def QrV (W : Wd) (b : Nat) (q : Qu) (L : Grp) : Prop :=
  ∃ (css : List (List Value)) (Es : List Grp) (fa : Option Addr) (fc : Nat) (ea : Option Addr) (ec : Nat) (Ef Ee : Grp) (T : TypeId), QrC W q css Es ∧ Ow fa q.fresh.length fc 1 (ints .i64 q.fresh) Ef ∧ Ow ea q.elder.length ec 1 (ints .i64 q.elder) Ee ∧
    L = [(b, ck (q3 q) css (r2 q fa fc ea ec), T)] ++ (Ef ++ (Ee ++ Es.flatten))
section
variable {W W' : Wd} {h h' : Heap} {G R : List Grp} {L E E0 Ef Ee : Grp} {B : Grp} {Es : List Grp} {css : List (List Value)} {q : Qu} {f g : Fl} {k : Int} {b n : Nat} {cs : List Value} {p : Pk} {r l : List Pk} {vs : List Value} {a : Option Addr}
theorem FlR.le (hl : W.le W') (hf : FlR W f cs E) : FlR W' f cs E := by
  obtain ⟨a, c, vs, h1, h2, h3⟩ := hf; exact ⟨a, c, vs, h1, h2, h3.mono fun _ _ h => h.le hl⟩
theorem QrC.le (hl : W.le W') (hc : QrC W q css Es) : QrC W' q css Es :=
  ⟨hc.n1, hc.n2, fun k f h => by obtain ⟨cs, E, h1, h2, h3⟩ := hc.f k f h; exact ⟨cs, E, h1, h2, h3.le hl⟩, hc.n8⟩
theorem QrV.le (hl : W.le W') (hv : QrV W b q L) : QrV W' b q L := by
  obtain ⟨css, Es, fa, fc, ea, ec, Ef, Ee, T, hc, of, oe, e⟩ := hv
  exact ⟨css, Es, fa, fc, ea, ec, Ef, Ee, T, hc.le hl, of, oe, e⟩
theorem QrC.opn (hc : QrC W q css Es) (hq : QOk q) (k0 : 0 ≤ k) (k1 : k < 16) :
    ∃ a c vs E, Es[k.toNat]? = some E ∧ css = css.set k.toNat (.slice a (q.flow k).l.length c :: .int .i64 (q.flow k).deficit :: cV (q.flow k).c) ∧
      Ow a (q.flow k).l.length c 5 vs E ∧ Sq (PkV W) (q.flow k).l vs ∧ k.toNat < css.length := by
  obtain ⟨cs, E, h1, h2, a, c, vs, rfl, h3, h4⟩ := hc.f _ _ (hq.flow k0 k1).1
  have hlt := (List.getElem?_eq_some_iff.1 h1).1
  refine ⟨a, c, vs, E, h2, ?_, h3, h4, hlt⟩
  apply List.ext_getElem?
  intro i
  rw [List.getElem?_set]
  split
  · rename_i e; subst e; exact h1
  · rfl
theorem QrC.cls (hc : QrC W q css Es) (hq : QOk q) (hk : k.toNat < css.length) (hg : FlR W g cs E) (hl : cs.length = 7) : QrC W (q.setF k g) (css.set k.toNat cs) (Es.set k.toNat E) := by
  have h1 := hc.n1
  have h2 := hc.n2
  refine ⟨by simp [h1], by simp [h2], fun j f hj => ?_, ckn hc.n8 hl⟩
  simp only [Qu.setF] at hj
  rw [List.getElem?_set] at hj
  rw [List.getElem?_set, List.getElem?_set]
  by_cases e : k.toNat = j
  · subst e
    rw [if_pos rfl, if_pos (by rw [hq.len]; omega)] at hj
    cases hj
    rw [if_pos rfl, if_pos rfl, if_pos hk, if_pos (by omega)]
    exact ⟨cs, E, rfl, rfl, hg⟩
  · rw [if_neg e] at hj
    rw [if_neg e, if_neg e]
    exact hc.f j f hj
theorem shutR {q' : Qu} {fa ea : Option Addr} {fc ec : Nat} {post : List Value} {T : TypeId} (hc : QrC W q css Es) (hq : QOk q) (hk : k.toNat < css.length) (hE : Es[k.toNat]? = some E0) (hg : FlR W g cs E) (hl : cs.length = 7)
    (of : Ow fa q'.fresh.length fc 1 (ints .i64 q'.fresh) Ef) (oe : Ow ea q'.elder.length ec 1 (ints .i64 q'.elder) Ee) (h3 : q3 q' = q3 q) (hfl : q'.fl = q.fl.set k.toNat g)
    (m : Me W h ([(b, ck (q3 q) (css.set k.toNat cs) post, T)] :: E :: Ef :: Ee :: (Es.eraseIdx k.toNat).flatten :: R)) (hpost : post = r2 q' fa fc ea ec) : ∃ L', QrV W b q' L' ∧ Me W h (L' :: R) := by
  have h1 := hc.cls hq hk hg hl
  have h2 : QrC W q' (css.set k.toNat cs) (Es.set k.toNat E) := ⟨h1.n1, h1.n2, by rw [hfl]; exact h1.f, h1.n8⟩
  refine ⟨_, ⟨_, _, fa, fc, ea, ec, Ef, Ee, T, h2, of, oe, rfl⟩, ?_⟩
  have := m.closeQ hE
  rw [hpost] at this
  rw [h3]; exact this
theorem r2_is {l : List Value} {q' : Qu} {fa ea : Option Addr} {fc ec n n2 : Nat} (h : l = [.slice fa n fc, .slice ea n2 ec]) (h1 : n = q'.fresh.length) (h2 : n2 = q'.elder.length) : l = r2 q' fa fc ea ec := by
  subst h1 h2 h; rfl
theorem QrV.flowL (hv : QrV W b q L) (m : Me W h (L :: R)) (hq : QOk q) (k0 : 0 ≤ k) (k1 : k < 16) : ∃ a c vs, cell h b (3 + k.toNat * 7) = some (.slice a (q.flow k).l.length c) ∧ src h a ((q.flow k).l.length * 5) vs ∧ Sq (PkV W) (q.flow k).l vs := by
  obtain ⟨css, Es, fa, fc, ea, ec, Ef, Ee, T, hc, of, oe, rfl⟩ := hv
  obtain ⟨a, c, vs, E, hE, hcs, o, hs, hk⟩ := hc.opn hq k0 k1
  have hn := hc.n8
  replace m := m.openQ hE
  rw [hcs] at m
  exact ⟨a, c, vs, m.fget 0 rfl hn hk rfl 0 rfl rfl, o.src m 1 rfl, hs⟩
theorem newr_c (m : Me W h R) (seed tg iv : Int) : Runs Tryd.prog 42 #[.int .u32 seed, .int .i64 tg, .int .i64 iv] h fun v h' => ∃ b L, v = .pointer (some ⟨b, 0, none⟩) ∧ QrV W b (qu0 seed tg iv) L ∧ Me W h' (L :: R) := by
  refine vc_muezzinref8_NewQueue _ _ _ _ _ ?_
  intro b h1 e1 e2
  replace m := m.push e2 e1
  have hc : QrC W (qu0 seed tg iv) (List.replicate 16 (.slice none 0 0 :: .int .i64 0 :: cV cs0)) (List.replicate 16 []) := by
    refine ⟨rfl, rfl, fun k f hf => ?_, fun c hc => by rw [List.mem_replicate] at hc; rw [hc.2]; rfl⟩
    simp only [qu0, List.getElem?_replicate] at hf ⊢
    split at hf
    · rename_i hk; cases hf
      rw [if_pos hk]
      exact ⟨_, _, rfl, by rw [if_pos hk], none, 0, [], rfl, Ow.nil, rfl⟩
    · cases hf
  exact ⟨b, _, rfl, ⟨_, _, none, 0, none, 0, [], [], _, hc, Ow.nil, Ow.nil, rfl⟩, m⟩
/-- A packet's copy. -/
theorem packet_o (hp : PkV (Wd.of h) p cs) (hl : p.body.length ≤ 1099511627776) :
    Runs Tryd.prog 66 #[.agg cs.toArray] h fun v h' => ∃ a c E, v = .agg #[.int .i64 p.id, .int .u32 p.flow, .int .i64 p.tid, .int .i64 p.at_, .slice a p.body.length c] ∧ Me (Wd.of h) h' [E] ∧ Ow a p.body.length c 1 (ints .u8 p.body) E := by
  obtain ⟨a, c, rfl, hbp⟩ := hp
  refine vc_muezzinref_Packet _ _ _ ?_
  intro b1 h1 e1 e2 b2 h2 e3 e4
  have m := ((Me.start h).push e2 e1).push e4 e3
  clear e1 e2 e3 e4
  have k := m.kept (Wd.le.refl _)
  obtain ⟨ha, hla⟩ := (hbp.le k.le).src
  refine ⟨_, _, _, m.cell 1 rfl rfl, (bytes_c ha hla hl).mono ?_⟩
  rintro _ h3 ⟨a', c', E, rfl, mk, o⟩
  replace m := m.beside mk
  refine ⟨_, _, _, rfl, m.wrb 2 rfl rfl, ?_⟩
  intro h4 e1
  replace m := m.setc 2 rfl e1
  refine ⟨_, m.rowb 2 rfl rfl rfl, ⟨rfl, m.wrsb 1 rfl rfl, by simp [Value.oneCell']⟩, ?_⟩
  intro h5 e2
  replace m := m.setr 1 rfl e2
  exact ⟨_, m.rowb 1 rfl rfl rfl, a', c', E, rfl, (m.free 1 rfl).free 1 rfl, o⟩
theorem packet_m (m : Me W h G) (hp : PkV W p cs) (hl : p.body.length ≤ 1099511627776) :
    Runs Tryd.prog 66 #[.agg cs.toArray] h fun v h' => ∃ W' ds, W.le W' ∧ v = .agg ds.toArray ∧ PkV W' p ds ∧ Me W' h' G := by
  refine (packet_o (hp.le m.leOf) hl).mono ?_
  rintro _ h1 ⟨a, c, E, rfl, mk, o⟩
  obtain ⟨W', hle, hE, m'⟩ := (m.beside mk).give
  exact ⟨W', _, hle, rfl, ⟨a, c, rfl, o.bts rfl hE⟩, m'⟩
theorem bytP_take {x : Pk} {j : Nat} (hx : l[j]? = some x) : bytP (l.take (j + 1)) = bytP (l.take j) + x.body.length := by
  rw [← take_snoc hx, bytP_app]; simp [bytP]
theorem bytP_take_le (l : List Pk) (j : Nat) : bytP (l.take j) ≤ bytP l := by
  have h1 := bytP_app (l.take j) (l.drop j)
  rw [List.take_append_drop] at h1
  have := bytP_nn (l.drop j); omega
theorem fbytes_c {o c : Nat} (hcl : cell h b o = some (.slice a l.length c)) (hs : src h a (l.length * 5) vs) (hq : Sq (PkV W) l vs) (hl : l.length ≤ 1099511627776) (hb : bytP l ≤ 4611686018427387904) :
    Runs Tryd.prog 68 #[.pointer (some ⟨b, o, none⟩)] h fun v h' => v = .int .i64 (bytP l) ∧ h' = h := by
  refine vc_muezzinref8_flow_bytes _ _ _ ?_
  refine ⟨fun n x h' => h' = h ∧ ∃ j : Nat, x = j ∧ j ≤ l.length ∧ n = bytP (l.take j), fun _ x _ => ((l.length : Int) - x).toNat, ⟨rfl, 0, rfl, by omega, rfl⟩, fun _ => ?_⟩
  rintro _ _ h1 ⟨rfl, j, rfl, hj, rfl⟩
  refine ⟨_, _, _, hcl, dcase_intro (fun q1 => ⟨_, _, _, hcl, ⟨by omega, by omega⟩, ?_⟩) fun q1 => ⟨?_, rfl⟩⟩
  · obtain ⟨x, hx⟩ : ∃ x, l[j]? = some x := ⟨_, List.getElem?_eq_getElem (by omega)⟩
    obtain ⟨cs, hcv, hrow, hrl⟩ := hq.get (fun _ _ => PkV.len) hx
    obtain ⟨pa, pc, rfl, hbt⟩ := hcv
    obtain ⟨sb, so, rfl, hr⟩ := src_part (k := j * 5) (n := 5) hs hrl (by decide) hrow
    have h4 := (row_iff.1 hr).2 4 _ rfl
    have e := bytP_take hx
    have e2 := bytP_take_le l (j + 1)
    have e3 := bytP_nn (l.take j)
    exact ⟨_, _, _, h4, by simp only [fits]; omega, by simp only [fits]; omega, ⟨rfl, j + 1, by omega, by omega, by omega⟩, by (try dsimp only); omega⟩
  · obtain rfl : j = l.length := by omega
    rw [List.take_length]
theorem items_c {c : Nat} (hs : src h a (l.length * 5) vs) (hq : Sq (PkV W) l vs) (hl : l.length ≤ 1099511627776) :
    Runs Tryd.prog 73 #[.slice a l.length c] h (Made h l.length 2 (flatI (itemsP l))) := by
  refine vc_muezzinref8_items _ _ _ _ _ ?_
  refine ⟨fun ia il ic x h' => ∃ (j : Nat) (E : Grp), x = j ∧ j ≤ l.length ∧ il = j ∧ Ow ia il ic 2 (flatI (itemsP (l.take j))) E ∧ Me (Wd.of h) h' [E], fun _ _ _ x _ => ((l.length : Int) - x).toNat,
    ⟨0, [], rfl, by omega, rfl, Ow.nil, (Me.start h).nilI⟩, fun _ => ?_⟩
  rintro ia il ic _ h1 ⟨j, E, rfl, hj, hil, o, m⟩
  subst il
  refine dcase_intro (fun q1 => ?_) fun q1 => ?_
  · obtain ⟨x, hx⟩ : ∃ x, l[j]? = some x := ⟨_, List.getElem?_eq_getElem (by omega)⟩
    obtain ⟨cs, hcv, hrow, hrl⟩ := hq.get (fun _ _ => PkV.len) hx
    obtain ⟨pa, pc, rfl, hbt⟩ := hcv
    have kk := m.kept (Wd.le.refl _)
    obtain ⟨sb, so, e9, hr⟩ := src_part (k := j * 5) (n := 5) (kk.src hs) hrl (by decide) hrow
    have h4 := (row_iff.1 hr).2 4 _ rfl
    have h3 := (row_iff.1 hr).2 3 _ rfl
    have hs0 := hs
    subst e9
    refine ⟨⟨by omega, by omega⟩, _, h3, ⟨by omega, by omega⟩, _, _, _, h4, rfl, ?_⟩
    refine o.app1 m 0 rfl rfl (by simp [Value.oneCell']) (by omega) (by decide) fun a2 c2 E2 h6 m' o2 => ?_
    simp only [List.set_cons_zero, List.set_cons_succ] at m'
    have k2 := m'.kept (Wd.le.refl _)
    obtain ⟨sb2, so2, e8, hr2⟩ := src_part (k := j * 5) (n := 5) (k2.src hs0) hrl (by decide) hrow
    cases e8
    refine ⟨(row_iff.1 hr2).2 4 _ rfl, (row_iff.1 hr2).2 3 _ rfl, by simp only [fits]; omega, ⟨j + 1, E2, by omega, by omega, rfl, ?_, m'⟩, by (try dsimp only); omega⟩
    rw [← take_snoc hx]
    simp only [itemsP, List.map_append, flatI_append] at o2 ⊢
    exact o2
  · obtain rfl : j = l.length := by omega
    rw [List.take_length] at o
    exact ⟨_, _, E, rfl, m, o⟩
theorem headr_c (m : Me W h (L :: R)) (hv : QrV W b q L) (hq : QOk q) : Runs Tryd.prog 69 #[.pointer (some ⟨b, 0, none⟩), .int .i64 k] h fun v h' =>
    ∃ W' cs, W.le W' ∧ v = .tuple #[.agg cs.toArray, .bool (q.head k).isSome] ∧ PkV W' ((q.head k).getD pk0) cs ∧ Me W' h' (L :: R) := by
  refine vc_muezzinref8_Queue_Head _ _ _ _ ?_
  (intro bN hN1 eN1 eN2; replace m := m.push eN2 eN1; clear eN1 eN2)
  have none : q.head k = none → ∀ {h : Heap} {G : List Grp} {T : TypeId}, Me W h ([(bN, [.int .i64 0, .int .u32 0, .int .i64 0, .int .i64 0, .slice none 0 0], T)] :: L :: R) →
      ((([(.int .i64 (0 : Int)), (.int .u32 (0 : Int)), (.int .i64 (0 : Int)), (.int .i64 (0 : Int)), (.slice none 0 0)] : List Value)).length = 5 ∧ wrs h bN 0 5 ∧ ∀ u ∈ (([(.int .i64 (0 : Int)), (.int .u32 (0 : Int)), (.int .i64 (0 : Int)), (.int .i64 (0 : Int)), (.slice none 0 0)] : List Value) : List Value), u.oneCell' = true) ∧
      ∀ h3 : Heap, h3 = setr h bN 0 ([(.int .i64 (0 : Int)), (.int .u32 (0 : Int)), (.int .i64 (0 : Int)), (.int .i64 (0 : Int)), (.slice none 0 0)] : List Value) → ∃ cs2 : List Value, row h3 bN 0 5 = some cs2 ∧
      ∃ W' cs, W.le W' ∧ Value.tuple #[(.agg (cs2).toArray), (.bool false)] = .tuple #[.agg cs.toArray, .bool (q.head k).isSome] ∧ PkV W' ((q.head k).getD pk0) cs ∧ Me W' h3 (L :: R) := fun e {h G T} m => by
    refine ⟨⟨rfl, m.wrsb 0 rfl rfl, by simp [Value.oneCell']⟩, fun h3 e3 => ?_⟩
    replace m := m.setr 0 rfl e3
    rw [e]
    exact ⟨_, m.rowb 0 rfl rfl rfl, W, _, Wd.le.refl _, rfl, PkV.zero, m.drop1⟩
  refine dcase_intro (fun q1 => none (by unfold Qu.head; rw [if_neg (by omega)]) (G := []) m) fun q1 => dcase_intro (fun q2 => none (by unfold Qu.head; rw [if_neg (by omega)]) (G := []) m) fun q2 => ?_
  have k0 : 0 ≤ k := by omega
  have k1 : k < 16 := by omega
  have hh : q.head k = (q.flow k).l.head? := by unfold Qu.head; rw [if_pos ⟨k0, k1⟩]
  have mq := m.focus 1 rfl
  obtain ⟨a, c, vs, hcl, hsrc, hs⟩ := hv.flowL mq hq k0 k1
  refine ⟨⟨by omega, by omega⟩, _, _, _, hcl, ?_⟩
  refine dcase_intro (fun q3 => none (by rw [hh, List.eq_nil_of_length_eq_zero (l := (q.flow k).l) (by omega)]; rfl) (G := []) m) fun q3 => ?_
  clear none
  obtain ⟨p, r, hp⟩ := List.exists_cons_of_ne_nil (l := (q.flow k).l) (by rintro e; rw [e] at q3; simp at q3)
  obtain ⟨cs, hcv, hrow, hrl⟩ := hs.get (fun _ _ => PkV.len) (i := 0) (x := p) (by rw [hp]; rfl)
  rw [Nat.zero_mul] at hrow hrl
  obtain ⟨sb, so, rfl, hr⟩ := src_part (k := 0) (n := 5) hsrc (by omega) (by decide) hrow
  have hle := ((hq.flow k0 k1).2.p p (by rw [hp]; simp)).2.2
  refine ⟨⟨by omega, by omega⟩, _, _, _, hcl, ⟨by omega, by rw [hp]; simp⟩, _, hr, (packet_m m hcv (by omega)).mono ?_⟩
  rintro _ h5 ⟨W', ds, hle, rfl, hds, m⟩
  obtain ⟨pa, pc, rfl, hbt⟩ := hds
  refine ⟨_, rfl, ⟨rfl, m.wrsb 0 rfl rfl, by simp [Value.oneCell']⟩, ?_⟩
  intro h6 e3
  replace m := m.setr 0 rfl e3
  rw [hh, hp]
  exact ⟨_, m.rowb 0 rfl rfl rfl, W', _, hle, rfl, ⟨pa, pc, rfl, hbt⟩, m.drop1⟩
end
end Go.Proofs.YtpcilleldanfmaaDoor
