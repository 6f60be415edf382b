/- The document's queue: Put, DropHead, Fattest, Bytes, All, Len; what Take wants. -/
import Derived.Test.YtpcilleldanfmaaDoorFqr
set_option linter.unusedVariables false
set_option linter.unusedSimpArgs false
namespace Go.Proofs.YtpcilleldanfmaaDoor
open Go.Vc
section
variable {W W' : Wd} {h h' : Heap} {G R : List Grp} {L E E0 Ef Ee : Grp} {B : Grp} {Es : List Grp} {css : List (List Value)} {q : Qu} {f g : Fl} {k d : Int} {b n : Nat} {cs : List Value} {p : Pk} {r l : List Pk} {vs : List Value} {a : Option Addr}
theorem QrV.elim (hv : QrV W b q L) (m : Me W h (L :: R)) : ∃ (css : List (List Value)) (Es : List Grp) (fa : Option Addr) (fc : Nat) (ea : Option Addr) (ec : Nat) (Ef Ee : Grp) (T : TypeId), QrC W q css Es ∧ Ow fa q.fresh.length fc 1 (ints .i64 q.fresh) Ef ∧ Ow ea q.elder.length ec 1 (ints .i64 q.elder) Ee ∧
    Me W h ([(b, ck (q3 q) css (r2 q fa fc ea ec), T)] :: Ef :: Ee :: Es.flatten :: R) := by
  obtain ⟨css, Es, fa, fc, ea, ec, Ef, Ee, T, hc, of, oe, rfl⟩ := hv
  exact ⟨css, Es, fa, fc, ea, ec, Ef, Ee, T, hc, of, oe, m.perm (by simp)⟩
theorem shutR0 {q' : Qu} {fa ea : Option Addr} {fc ec : Nat} {post : List Value} {T : TypeId} (hc : QrC W q css Es) (of : Ow fa q'.fresh.length fc 1 (ints .i64 q'.fresh) Ef) (oe : Ow ea q'.elder.length ec 1 (ints .i64 q'.elder) Ee)
    (h3 : q3 q' = q3 q) (hfl : q'.fl = q.fl) (m : Me W h ([(b, ck (q3 q) css post, T)] :: Ef :: Ee :: Es.flatten :: R)) (hpost : post = r2 q' fa fc ea ec) : ∃ L', QrV W b q' L' ∧ Me W h (L' :: R) := by
  refine ⟨_, ⟨css, Es, fa, fc, ea, ec, Ef, Ee, T, ⟨hc.n1, hc.n2, by rw [hfl]; exact hc.f, hc.n8⟩, of, oe, rfl⟩, ?_⟩
  rw [h3, ← hpost]
  exact m.perm (by simp)
theorem QrV.deficit (hv : QrV W b q L) (m : Me W h (L :: R)) (hq : QOk q) (k0 : 0 ≤ k) (k1 : k < 16) : cell h b (3 + k.toNat * 7 + 1) = some (.int .i64 (q.flow k).deficit) := by
  (obtain ⟨css, Es, fa, fc, ea, ec, Ef, Ee, T, hc, of, oe, rfl⟩ := hv; obtain ⟨a, c, vs, E, hE, hcs, o, hs, hk⟩ := hc.opn hq k0 k1; have hn := hc.n8; have hN := hc.n1; have hcnt := hq.cnt; obtain ⟨hb1, hb0⟩ := hq.bd; have ecn : q.cnt = cntL q.fl := rfl; have ebn : q.byt = bytL q.fl := rfl; have hfb := bytL_ge (hq.flow k0 k1).1; have hfc := cntL_ge (hq.flow k0 k1).1; have hfn := bytP_nn (q.flow k).l; replace m := m.openQ hE; rw [hcs] at m)
  exact m.fget 0 rfl hn hk rfl 1 rfl rfl
theorem QrV.flowK (hv : QrV W b q L) (hq : QOk q) (k0 : 0 ≤ k) (k1 : k < 16) : ∃ a c vs, Sq (PkV W) (q.flow k).l vs ∧ ∀ {W1 : Wd} {h1 : Heap} {R1 : List Grp}, Me W1 h1 (L :: R1) →
    cell h1 b (3 + k.toNat * 7) = some (.slice a (q.flow k).l.length c) ∧ src h1 a ((q.flow k).l.length * 5) vs := by
  obtain ⟨css, Es, fa, fc, ea, ec, Ef, Ee, T, hc, of, oe, rfl⟩ := hv
  obtain ⟨a, c, vs, E, hE, hcs, o, hs, hk⟩ := hc.opn hq k0 k1
  have hn := hc.n8
  refine ⟨a, c, vs, hs, fun m => ?_⟩
  replace m := m.openQ hE
  rw [hcs] at m
  exact ⟨m.fget 0 rfl hn hk rfl 0 rfl rfl, o.src m 1 rfl⟩
theorem QrV.codel (hv : QrV W b q L) (m : Me W h (L :: R)) (hq : QOk q) (k0 : 0 ≤ k) (k1 : k < 16) : row h b (3 + k.toNat * 7 + 2) 5 = some (cV (q.flow k).c) := by
  (obtain ⟨css, Es, fa, fc, ea, ec, Ef, Ee, T, hc, of, oe, rfl⟩ := hv; obtain ⟨a, c, vs, E, hE, hcs, o, hs, hk⟩ := hc.opn hq k0 k1; have hn := hc.n8; have hN := hc.n1; have hcnt := hq.cnt; obtain ⟨hb1, hb0⟩ := hq.bd; have ecn : q.cnt = cntL q.fl := rfl; have ebn : q.byt = bytL q.fl := rfl; have hfb := bytL_ge (hq.flow k0 k1).1; have hfc := cntL_ge (hq.flow k0 k1).1; have hfn := bytP_nn (q.flow k).l; replace m := m.openQ hE; rw [hcs] at m)
  exact m.frow 0 rfl hn hk rfl 2 rfl rfl rfl
theorem QrV.tg (hv : QrV W b q L) (m : Me W h (L :: R)) : cell h b 1 = some (.int .i64 q.tg) ∧ cell h b 2 = some (.int .i64 q.iv) ∧ cell h b 0 = some (.int .u32 q.seed) := by
  obtain ⟨css, Es, fa, fc, ea, ec, Ef, Ee, T, hc, of, oe, m⟩ := hv.elim m
  exact ⟨m.hget 0 rfl (Nat.le_of_ble_eq_true rfl) rfl, m.hget 0 rfl (Nat.le_of_ble_eq_true rfl) rfl, m.hget 0 rfl (Nat.le_of_ble_eq_true rfl) rfl⟩
theorem QrV.setD (hv : QrV W b q L) (m : Me W h (L :: R)) (hq : QOk q) (k0 : 0 ≤ k) (k1 : k < 16) {Q : Heap → Prop} (x : ∀ h1 L', QrV W b (q.setF k ((q.flow k).setD d)) L' → Me W h1 (L' :: R) → Q h1) :
    wr h b (3 + k.toNat * 7 + 1) ∧ ∀ h1, h1 = setc h b (3 + k.toNat * 7 + 1) (.int .i64 d) → Q h1 := by
  (obtain ⟨css, Es, fa, fc, ea, ec, Ef, Ee, T, hc, of, oe, rfl⟩ := hv; obtain ⟨a, c, vs, E, hE, hcs, o, hs, hk⟩ := hc.opn hq k0 k1; have hn := hc.n8; have hN := hc.n1; have hcnt := hq.cnt; obtain ⟨hb1, hb0⟩ := hq.bd; have ecn : q.cnt = cntL q.fl := rfl; have ebn : q.byt = bytL q.fl := rfl; have hfb := bytL_ge (hq.flow k0 k1).1; have hfc := cntL_ge (hq.flow k0 k1).1; have hfn := bytP_nn (q.flow k).l; replace m := m.openQ hE; rw [hcs] at m)
  refine m.fset 0 rfl hn hk rfl 1 rfl rfl fun h1 m' => ?_
  obtain ⟨L', hv', m2⟩ := shutR (q' := q.setF k ((q.flow k).setD d)) (g := (q.flow k).setD d) hc hq hk hE (E := E) ⟨a, c, vs, rfl, o, hs⟩ rfl of oe rfl rfl m' (r2_is rfl rfl rfl)
  exact x _ _ hv' m2
theorem QrV.fresh (hv : QrV W b q L) (m : Me W h (L :: R)) : ∃ a c, cell h b 115 = some (.slice a q.fresh.length c) ∧ src h a q.fresh.length (ints .i64 q.fresh) := by
  obtain ⟨css, Es, fa, fc, ea, ec, Ef, Ee, T, hc, of, oe, m⟩ := hv.elim m
  exact ⟨fa, fc, m.pget 0 rfl hc.n8 hc.n1 0 rfl rfl, of.src1 m 1 rfl⟩
theorem QrV.elder (hv : QrV W b q L) (m : Me W h (L :: R)) : ∃ a c, cell h b 116 = some (.slice a q.elder.length c) ∧ src h a q.elder.length (ints .i64 q.elder) := by
  obtain ⟨css, Es, fa, fc, ea, ec, Ef, Ee, T, hc, of, oe, m⟩ := hv.elim m
  exact ⟨ea, ec, m.pget 0 rfl hc.n8 hc.n1 1 rfl rfl, oe.src1 m 2 rfl⟩
def Qu.setFr (q : Qu) (l : List Int) : Qu := { q with fresh := l }
def Qu.setEl (q : Qu) (l : List Int) : Qu := { q with elder := l }
theorem QrV.setFresh {xs : List Int} {c : Nat} (hv : QrV W b q L) (m : Me W h (L :: E :: R)) (hn : n = xs.length) (o : Ow a n c 1 (ints .i64 xs) E) {Q : Heap → Prop} (x : ∀ h1 L', QrV W b (q.setFr xs) L' → Me W h1 (L' :: R) → Q h1) :
    wr h b 115 ∧ ∀ h1, h1 = setc h b 115 (.slice a n c) → Q h1 := by
  subst hn
  obtain ⟨css, Es, fa, fc, ea, ec, Ef, Ee, T, hc, of, oe, m⟩ := hv.elim m
  refine m.pset 0 rfl hc.n8 hc.n1 0 rfl (Nat.le_of_ble_eq_true rfl) fun h1 m' => ?_
  obtain ⟨L', hv', m2⟩ := shutR0 (q' := q.setFr xs) hc (Ef := E) o oe rfl rfl (((((m'.free 1 rfl).focus 3 rfl)).focus 1 rfl)) (r2_is rfl rfl rfl)
  exact x _ _ hv' m2
theorem QrV.setElder {xs : List Int} {c : Nat} (hv : QrV W b q L) (m : Me W h (L :: E :: R)) (hn : n = xs.length) (o : Ow a n c 1 (ints .i64 xs) E) {Q : Heap → Prop} (x : ∀ h1 L', QrV W b (q.setEl xs) L' → Me W h1 (L' :: R) → Q h1) :
    wr h b 116 ∧ ∀ h1, h1 = setc h b 116 (.slice a n c) → Q h1 := by
  subst hn
  obtain ⟨css, Es, fa, fc, ea, ec, Ef, Ee, T, hc, of, oe, m⟩ := hv.elim m
  refine m.pset 0 rfl hc.n8 hc.n1 1 rfl (Nat.le_of_ble_eq_true rfl) fun h1 m' => ?_
  obtain ⟨L', hv', m2⟩ := shutR0 (q' := q.setEl xs) hc (Ee := E) of o rfl rfl ((((m'.free 2 rfl).focus 3 rfl).focus 2 rfl).focus 2 rfl) (r2_is rfl rfl rfl)
  exact x _ _ hv' m2
theorem QrV.pushE (hv : QrV W b q L) (m : Me W h (L :: R)) (hl : q.elder.length ≤ 1048576) {Q : Heap → Prop} (x : ∀ h1 L', QrV W b (q.addE k) L' → Me W h1 (L' :: R) → Q h1) {e : TypeId} :
    ∃ (s : Option Addr) (sl sc : Nat), cell h b 116 = some (.slice s sl sc) ∧ ∀ (b3 : Nat) (h6 : Heap), b3 = h.size → h6 = h.push (.cells ([(.int .i64 k)] : List Value).toArray e) →
      ∃ news1 : List Value, (row h6 b3 0 1 = some news1 ∧ ∀ u ∈ news1, u.oneCell' = true) ∧ appK h6 s sl sc 1 1 e 8 news1 fun (a1 : Option Addr) (cap1 : Nat) (h7 : Heap) => wr h7 b 116 ∧ ∀ h8 : Heap, h8 = setc h7 b 116 (.slice a1 (sl + 1) cap1) → Q h8 := by
  obtain ⟨css, Es, fa, fc, ea, ec, Ef, Ee, T, hc, of, oe, m⟩ := hv.elim m
  refine ⟨_, _, _, m.pget 0 rfl hc.n8 hc.n1 1 rfl rfl, ?_⟩
  refine oe.app1 m 2 rfl rfl (by simp [Value.oneCell']) (by omega) (by decide) fun a' c' E' h' m' o' => ?_
  refine m'.pset 0 rfl hc.n8 hc.n1 1 rfl (Nat.le_of_ble_eq_true rfl) fun h1 m2 => ?_
  have o2 : Ow a' (q.elder ++ [k]).length c' 1 (ints .i64 (q.elder ++ [k])) E' := by rw [ints_app]; show Ow a' _ c' 1 (ints .i64 q.elder ++ [.int .i64 k]) E'; simpa using o'
  obtain ⟨L', hv', m3⟩ := shutR0 (q' := q.addE k) hc of o2 rfl rfl m2 (r2_is rfl rfl (by simp [Qu.addE]))
  exact x _ _ hv' m3
theorem QrV.pushF (hv : QrV W b q L) (m : Me W h (L :: R)) (hl : q.fresh.length ≤ 1048576) {Q : Heap → Prop} (x : ∀ h1 L', QrV W b (q.addF k) L' → Me W h1 (L' :: R) → Q h1) {e : TypeId} :
    ∃ (s : Option Addr) (sl sc : Nat), cell h b 115 = some (.slice s sl sc) ∧ ∀ (b3 : Nat) (h6 : Heap), b3 = h.size → h6 = h.push (.cells ([(.int .i64 k)] : List Value).toArray e) →
      ∃ news1 : List Value, (row h6 b3 0 1 = some news1 ∧ ∀ u ∈ news1, u.oneCell' = true) ∧ appK h6 s sl sc 1 1 e 8 news1 fun (a1 : Option Addr) (cap1 : Nat) (h7 : Heap) => wr h7 b 115 ∧ ∀ h8 : Heap, h8 = setc h7 b 115 (.slice a1 (sl + 1) cap1) → Q h8 := by
  obtain ⟨css, Es, fa, fc, ea, ec, Ef, Ee, T, hc, of, oe, m⟩ := hv.elim m
  refine ⟨_, _, _, m.pget 0 rfl hc.n8 hc.n1 0 rfl rfl, ?_⟩
  refine of.app1 m 1 rfl rfl (by simp [Value.oneCell']) (by omega) (by decide) fun a' c' E' h' m' o' => ?_
  refine m'.pset 0 rfl hc.n8 hc.n1 0 rfl (Nat.le_of_ble_eq_true rfl) fun h1 m2 => ?_
  have o2 : Ow a' (q.fresh ++ [k]).length c' 1 (ints .i64 (q.fresh ++ [k])) E' := by rw [ints_app]; show Ow a' _ c' 1 (ints .i64 q.fresh ++ [.int .i64 k]) E'; simpa using o'
  obtain ⟨L', hv', m3⟩ := shutR0 (q' := q.addF k) hc o2 oe rfl rfl m2 (r2_is rfl (by simp [Qu.addF]) rfl)
  exact x _ _ hv' m3
theorem QrV.setC {c' : CSt} (hv : QrV W b q L) (m : Me W h (L :: R)) (hq : QOk q) (k0 : 0 ≤ k) (k1 : k < 16) : wrs h b (3 + k.toNat * 7 + 2) 5 ∧ ∀ h1, h1 = setr h b (3 + k.toNat * 7 + 2) (cV c') → ∃ L', QrV W b (q.setF k ⟨(q.flow k).l, (q.flow k).deficit, c'.rest⟩) L' ∧ Me W h1 (L' :: R) := by
  (obtain ⟨css, Es, fa, fc, ea, ec, Ef, Ee, T, hc, of, oe, rfl⟩ := hv; obtain ⟨a, c, vs, E, hE, hcs, o, hs, hk⟩ := hc.opn hq k0 k1; have hn := hc.n8; have hN := hc.n1; have hcnt := hq.cnt; obtain ⟨hb1, hb0⟩ := hq.bd; have ecn : q.cnt = cntL q.fl := rfl; have ebn : q.byt = bytL q.fl := rfl; have hfb := bytL_ge (hq.flow k0 k1).1; have hfc := cntL_ge (hq.flow k0 k1).1; have hfn := bytP_nn (q.flow k).l; replace m := m.openQ hE; rw [hcs] at m)
  refine ⟨m.fwrs 0 rfl hn hk rfl 2 rfl rfl, fun h1 e3 => ?_⟩
  replace m := m.fsetr 0 rfl hn hk rfl 2 rfl (Nat.le_of_ble_eq_true rfl) e3
  simp only [List.set_cons_zero, List.set_cons_succ] at m
  exact shutR (q' := q.setF k ⟨(q.flow k).l, (q.flow k).deficit, c'.rest⟩) (g := ⟨(q.flow k).l, (q.flow k).deficit, c'.rest⟩) hc hq hk hE (E := E) ⟨a, c, _, rfl, o, hs⟩ rfl of oe rfl rfl m (r2_is rfl rfl rfl)
/-- What Del makes of the lists: the one whose turn it is, is out. -/
theorem del_head {x : Int} {r : List Int} (h : x ∉ r) : delZ x (x :: r) = r := by
  unfold delZ
  rw [List.filter_cons, if_neg (by simp)]
  exact List.filter_eq_self.2 fun y hy => by simp; rintro rfl; exact h hy
theorem del_not {x : Int} {r : List Int} (h : x ∉ r) : delZ x r = r := List.filter_eq_self.2 fun y hy => by simp; rintro rfl; exact h hy
theorem del_pop (hq : QOk q) (ht : q.turn = some k) : (q.setFr (delZ k q.fresh)).setEl (delZ k q.elder) = q.popT := by
  have hnd := hq.nd
  unfold Qu.turn at ht
  unfold Qu.popT
  cases hf : q.fresh with
  | nil =>
    rw [hf] at ht hnd
    cases he : q.elder with
    | nil => rw [he] at ht; cases ht
    | cons x r =>
      rw [he] at ht hnd
      simp at ht; subst ht
      rw [if_pos rfl, del_head (by simpa using (List.nodup_cons.1 hnd).1)]
      rfl
  | cons x r =>
    rw [hf] at ht hnd
    simp at ht; subst ht
    have h1 := (List.nodup_cons.1 hnd).1
    simp at h1
    rw [if_neg (by simp), del_head h1.1, del_not h1.2]
    rfl
/-- A flow without its first ones: a copy of the others. -/
theorem QrV.cut {j : Nat} (hv : QrV W b q L) (m : Me W h (L :: R)) (hq : QOk q) (k0 : 0 ≤ k) (k1 : k < 16) (hj : j ≤ (q.flow k).l.length) : ∃ a c, cell h b (3 + k.toNat * 7) = some (.slice a (q.flow k).l.length c) ∧
    Runs Tryd.prog 70 #[.slice (slcAddr a j c (j * 5)) ((q.flow k).l.length - j) (c - j)] h fun v h5 => ∃ a' c', v = .slice a' ((q.flow k).l.length - j) c' ∧ cell h5 b (3 + k.toNat * 7) = some (.slice a (q.flow k).l.length c) ∧
      ∀ (Q : Heap → Prop), (∀ h6 L', QrV W b (q.setF k ((q.flow k).setL ((q.flow k).l.drop j))) L' → Me W h6 (L' :: R) → Q h6) →
        wr h5 b (3 + k.toNat * 7) ∧ ∀ h6, h6 = setc h5 b (3 + k.toNat * 7) (.slice a' ((q.flow k).l.length - j) c') → Q h6 := by
  (obtain ⟨css, Es, fa, fc, ea, ec, Ef, Ee, T, hc, of, oe, rfl⟩ := hv; obtain ⟨a, c, vs, E, hE, hcs, o, hs, hk⟩ := hc.opn hq k0 k1; have hn := hc.n8; have hN := hc.n1; have hcnt := hq.cnt; obtain ⟨hb1, hb0⟩ := hq.bd; have ecn : q.cnt = cntL q.fl := rfl; have ebn : q.byt = bytL q.fl := rfl; have hfb := bytL_ge (hq.flow k0 k1).1; have hfc := cntL_ge (hq.flow k0 k1).1; have hfn := bytP_nn (q.flow k).l; replace m := m.openQ hE; rw [hcs] at m)
  refine ⟨a, c, m.fget 0 rfl hn hk rfl 0 rfl rfl, ?_⟩
  have ot := o.tail j hj
  have hst := hs.drop (fun _ _ => PkV.len) j
  refine (packets_c (ot.src m 1 rfl) ot.len (hst.all fun _ _ => PkV.one) (by omega)).mono ?_
  rintro _ h4 ⟨a', c', E', rfl, mk, o'⟩
  replace m := m.beside mk
  simp only [List.cons_append, List.nil_append] at m
  refine ⟨a', c', rfl, m.fget 1 rfl hn hk rfl 0 rfl rfl, fun Q x => m.fset 1 rfl hn hk rfl 0 rfl rfl fun h6 m' => ?_⟩
  simp only [List.set_cons_zero, List.set_cons_succ] at m'
  have m2 := (m'.free 2 rfl).focus 1 rfl
  obtain ⟨L', hv', m3⟩ := shutR (q' := q.setF k ((q.flow k).setL ((q.flow k).l.drop j))) (g := (q.flow k).setL ((q.flow k).l.drop j)) hc hq hk hE (E := E') ⟨a', c', _, by simp, by simpa using o', by simpa using hst⟩ rfl of oe rfl rfl m2 (r2_is rfl rfl rfl)
  exact x _ _ hv' m3
theorem dropHeadr_c (m : Me W h (L :: R)) (hv : QrV W b q L) (hq : QOk q) : Runs Tryd.prog 48 #[.pointer (some ⟨b, 0, none⟩), .int .i64 k] h fun v h' =>
    ∃ W' cs L', W.le W' ∧ v = .tuple #[.agg cs.toArray, .bool (q.dropHead k).2.isSome] ∧ PkV W' ((q.dropHead k).2.getD pk0) cs ∧ QrV W' b (q.dropHead k).1 L' ∧ Me W' h' (L' :: R) := by
  refine vc_muezzinref8_Queue_DropHead _ _ _ _ ?_
  (intro bN hN1 eN1 eN2; replace m := m.push eN2 eN1; clear eN1 eN2)
  refine (headr_c (m.focus 1 rfl) hv hq).mono ?_
  rintro _ h2 ⟨W', cs, hle, rfl, hcv, m⟩
  refine ⟨_, _, rfl, ?_⟩
  intro b2 h3 e1 e2
  replace m := m.push e2 e1
  clear e1 e2
  obtain ⟨pa, pc, rfl, hbt⟩ := hcv
  refine ⟨⟨rfl, m.wrsb 0 rfl rfl, by simp [Value.oneCell']⟩, ?_⟩
  intro h4 e3
  replace m := m.setr 0 rfl e3
  clear e3
  simp only [List.eraseIdx_cons_zero, List.eraseIdx_cons_succ, List.set_cons_zero] at m
  cases hh : q.head k with
  | none =>
    have e : q.dropHead k = (q, none) := by unfold Qu.dropHead; rw [hh]
    rw [e]
    rw [hh] at m hbt
    refine bcase_false rfl ⟨_, m.rowb 0 rfl rfl rfl, ⟨rfl, m.wrsb 2 rfl rfl, by simp [setL, Value.oneCell']⟩, fun h5 e3 => ?_⟩
    replace m := m.setr 2 rfl e3
    exact ⟨_, m.rowb 2 rfl rfl rfl, W', _, L, hle, rfl, ⟨pa, pc, rfl, hbt⟩, hv.le hle, (m.free 0 rfl).free 1 rfl⟩
  | some p =>
    have hk : 0 ≤ k ∧ k < 16 := by
      unfold Qu.head at hh
      by_cases hk : 0 ≤ k ∧ k < 16
      · exact hk
      · rw [if_neg hk] at hh; cases hh
    obtain ⟨k0, k1⟩ := hk
    have hp : (q.flow k).l = p :: (q.flow k).l.tail := by
      unfold Qu.head at hh
      rw [if_pos ⟨k0, k1⟩] at hh
      cases he : (q.flow k).l with
      | nil => rw [he] at hh; cases hh
      | cons x r => rw [he] at hh; simp at hh; subst hh; rfl
    have e : q.dropHead k = (q.setF k ((q.flow k).setL (q.flow k).l.tail), some p) := by unfold Qu.dropHead; rw [hh]
    have hl1 : 1 ≤ (q.flow k).l.length := by rw [hp]; simp
    rw [e]
    rw [hh] at m hbt
    obtain ⟨sa, sc, hc1, hrun⟩ := (hv.le hle).cut (j := 1) (m.focus 1 rfl) hq k0 k1 hl1
    refine bcase_true rfl ⟨⟨k0, by omega⟩, _, _, _, hc1, ⟨by omega, by omega⟩, hrun.mono ?_⟩
    rintro _ h5 ⟨a', c', rfl, hc5, hset⟩
    refine ⟨_, _, _, rfl, hc5, ⟨k0, by omega⟩, hset _ fun h6 L' hv' m => ?_⟩
    simp only [List.eraseIdx_cons_zero, List.eraseIdx_cons_succ] at m
    refine ⟨_, m.rowb 1 rfl rfl rfl, ⟨rfl, m.wrsb 2 rfl rfl, by simp [setL, Value.oneCell']⟩, fun h7 e3 => ?_⟩
    replace m := m.setr 2 rfl e3
    rw [show (q.flow k).l.drop 1 = (q.flow k).l.tail by simp] at hv'
    exact ⟨_, m.rowb 2 rfl rfl rfl, W', _, L', hle, rfl, ⟨pa, pc, rfl, hbt⟩, hv', (m.free 1 rfl).free 1 rfl⟩
end
end Go.Proofs.YtpcilleldanfmaaDoor
