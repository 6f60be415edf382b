/- The program's queue of flows: New, Head, DropHead, Fattest, All. -/
import Derived.Test.YtpcilleldanfmaaDoorFq
set_option linter.unusedVariables false
set_option linter.unusedSimpArgs false
namespace Go.Proofs.YtpcilleldanfmaaDoor
open Go.Vc
section
variable {W W' : Wd} {h h' h1 : Heap} {G R : List Grp} {L E E0 Ef Ee : Grp} {B : Grp} {Es : List Grp} {css : List (List Value)} {q : Qu} {f g : Fl} {k d : Int} {b n : Nat} {cs : List Value} {p : Pk} {r : List Pk}
theorem new_c (m : Me W h R) (seed tg iv : Int) : Runs Tryd.prog 53 #[.int .u32 seed, .int .i64 tg, .int .i64 iv] h fun v h' => ∃ b L, v = .pointer (some ⟨b, 0, none⟩) ∧ QuV W b (qu0 seed tg iv) L ∧ Me W h' (L :: R) := by
  refine vc_fq_New _ _ _ _ _ ?_
  intro b h1 e1 e2
  replace m := m.push e2 e1
  have hc : QuC W (qu0 seed tg iv) (List.replicate 16 (.slice none 0 0 :: .int .i64 0 :: .int .i64 0 :: cV cs0)) (List.replicate 16 []) := by
    refine ⟨rfl, rfl, fun k f hf => ?_, fun c hc => by rw [List.mem_replicate] at hc; rw [hc.2]; rfl⟩
    simp only [qu0, List.getElem?_replicate] at hf ⊢
    split at hf
    · rename_i hk; cases hf
      rw [if_pos hk]
      exact ⟨_, _, rfl, by rw [if_pos hk], none, 0, [], rfl, Ow.nil, rfl⟩
    · cases hf
  exact ⟨b, _, rfl, ⟨_, _, none, 0, none, 0, [], [], _, hc, Ow.nil, Ow.nil, rfl⟩, m⟩
theorem own_c (hp : PkV (Wd.of h) p cs) (hl : p.body.length ≤ 1099511627776) :
    Runs Tryd.prog 60 #[.agg cs.toArray] h fun v h' => ∃ a c E, v = .agg #[.int .i64 p.id, .int .u32 p.flow, .int .i64 p.tid, .int .i64 p.at_, .slice a p.body.length c] ∧ Me (Wd.of h) h' [E] ∧ Ow a p.body.length c 1 (ints .u8 p.body) E := by
  obtain ⟨a, c, rfl, hbp⟩ := hp
  refine vc_fq_own _ _ _ ?_
  intro b1 h1 e1 e2 b2 h2 e3 e4
  have m := ((Me.start h).push e2 e1).push e4 e3
  clear e1 e2 e3 e4
  have k := m.kept (Wd.le.refl _)
  obtain ⟨ha, hla⟩ := (hbp.le k.le).src
  refine ⟨_, _, _, m.cell 1 rfl rfl, (clone_byte_c ha (by simp [ints]) ints_one (by omega)).mono ?_⟩
  rintro _ h3 ⟨a', c', E, rfl, mk, o⟩
  replace m := m.beside mk
  refine ⟨_, _, _, rfl, m.wrb 2 rfl rfl, ?_⟩
  intro h4 e1
  replace m := m.setc 2 rfl e1
  refine ⟨_, m.rowb 2 rfl rfl rfl, ⟨rfl, m.wrsb 1 rfl rfl, by simp [Value.oneCell']⟩, ?_⟩
  intro h5 e2
  replace m := m.setr 1 rfl e2
  exact ⟨_, m.rowb 1 rfl rfl rfl, a', c', E, rfl, (m.free 1 rfl).free 1 rfl, o⟩
/-- A copy of a packet, whose bytes from then on stay. -/
theorem own_m (m : Me W h G) (hp : PkV W p cs) (hl : p.body.length ≤ 1099511627776) :
    Runs Tryd.prog 60 #[.agg cs.toArray] h fun v h' => ∃ W' ds, W.le W' ∧ v = .agg ds.toArray ∧ PkV W' p ds ∧ Me W' h' G := by
  refine (own_c (hp.le m.leOf) hl).mono ?_
  rintro _ h1 ⟨a, c, E, rfl, mk, o⟩
  obtain ⟨W', hle, hE, m'⟩ := (m.beside mk).give
  exact ⟨W', _, hle, rfl, ⟨a, c, rfl, o.bts rfl hE⟩, m'⟩
theorem head_c (m : Me W h (L :: R)) (hv : QuV W b q L) (hq : QOk q) : Runs Tryd.prog 76 #[.pointer (some ⟨b, 0, none⟩), .int .i64 k] h fun v h' =>
    ∃ W' cs, W.le W' ∧ v = .tuple #[.agg cs.toArray, .bool (q.head k).isSome] ∧ PkV W' ((q.head k).getD pk0) cs ∧ Me W' h' (L :: R) := by
  refine vc_fq_Queue_Head _ _ _ _ ?_
  (intro bN hN1 eN1 eN2; replace m := m.push eN2 eN1; clear eN1 eN2)
  have none : q.head k = none → ∀ {h : Heap} {G : List Grp} {T : TypeId}, Me W h ([(bN, [.int .i64 0, .int .u32 0, .int .i64 0, .int .i64 0, .slice none 0 0], T)] :: L :: R) →
      ((([(.int .i64 (0 : Int)), (.int .u32 (0 : Int)), (.int .i64 (0 : Int)), (.int .i64 (0 : Int)), (.slice none 0 0)] : List Value)).length = 5 ∧ wrs h bN 0 5 ∧ ∀ u ∈ (([(.int .i64 (0 : Int)), (.int .u32 (0 : Int)), (.int .i64 (0 : Int)), (.int .i64 (0 : Int)), (.slice none 0 0)] : List Value) : List Value), u.oneCell' = true) ∧
      ∀ h3 : Heap, h3 = setr h bN 0 ([(.int .i64 (0 : Int)), (.int .u32 (0 : Int)), (.int .i64 (0 : Int)), (.int .i64 (0 : Int)), (.slice none 0 0)] : List Value) → ∃ cs2 : List Value, row h3 bN 0 5 = some cs2 ∧
      ∃ W' cs, W.le W' ∧ Value.tuple #[(.agg (cs2).toArray), (.bool false)] = .tuple #[.agg cs.toArray, .bool (q.head k).isSome] ∧ PkV W' ((q.head k).getD pk0) cs ∧ Me W' h3 (L :: R) := fun e {h G T} m => by
    refine ⟨⟨rfl, m.wrsb 0 rfl rfl, by simp [Value.oneCell']⟩, fun h3 e3 => ?_⟩
    replace m := m.setr 0 rfl e3
    rw [e]
    exact ⟨_, m.rowb 0 rfl rfl rfl, W, _, Wd.le.refl _, rfl, PkV.zero, m.drop1⟩
  refine dcase_intro (fun q1 => none (by unfold Qu.head; rw [if_neg (by omega)]) (G := []) m) fun q1 => dcase_intro (fun q2 => none (by unfold Qu.head; rw [if_neg (by omega)]) (G := []) m) fun q2 => ?_
  have k0 : 0 ≤ k := by omega
  have k1 : k < 16 := by omega
  have hh : q.head k = (q.flow k).l.head? := by unfold Qu.head; rw [if_pos ⟨k0, k1⟩]
  have mq := m.focus 1 rfl
  obtain ⟨a, c, vs, hcl, hsrc, hs⟩ := hv.flowL mq hq k0 k1
  refine ⟨⟨by omega, by omega⟩, _, _, _, hcl, ?_⟩
  refine dcase_intro (fun q3 => none (by rw [hh, List.eq_nil_of_length_eq_zero (l := (q.flow k).l) (by omega)]; rfl) (G := []) m) fun q3 => ?_
  clear none
  obtain ⟨p, r, hp⟩ := List.exists_cons_of_ne_nil (l := (q.flow k).l) (by rintro e; rw [e] at q3; simp at q3)
  obtain ⟨cs, hcv, hrow, hrl⟩ := hs.get (fun _ _ => PkV.len) (i := 0) (x := p) (by rw [hp]; rfl)
  rw [Nat.zero_mul] at hrow hrl
  obtain ⟨sb, so, rfl, hr⟩ := src_part (k := 0) (n := 5) hsrc (by omega) (by decide) hrow
  have hle := ((hq.flow k0 k1).2.p p (by rw [hp]; simp)).2.2
  refine ⟨⟨by omega, by omega⟩, _, _, _, hcl, ⟨by omega, by rw [hp]; simp⟩, _, hr, (own_m m hcv (by omega)).mono ?_⟩
  rintro _ h5 ⟨W', ds, hle, rfl, hds, m⟩
  obtain ⟨pa, pc, rfl, hbt⟩ := hds
  refine ⟨_, rfl, ⟨rfl, m.wrsb 0 rfl rfl, by simp [Value.oneCell']⟩, ?_⟩
  intro h6 e3
  replace m := m.setr 0 rfl e3
  rw [hh, hp]
  exact ⟨_, m.rowb 0 rfl rfl rfl, W', _, hle, rfl, ⟨pa, pc, rfl, hbt⟩, m.drop1⟩
theorem dropHead_c (m : Me W h (L :: R)) (hv : QuV W b q L) (hq : QOk q) : Runs Tryd.prog 59 #[.pointer (some ⟨b, 0, none⟩), .int .i64 k] h fun v h' =>
    ∃ W' cs L', W.le W' ∧ v = .tuple #[.agg cs.toArray, .bool (q.dropHead k).2.isSome] ∧ PkV W' ((q.dropHead k).2.getD pk0) cs ∧ QuV W' b (q.dropHead k).1 L' ∧ Me W' h' (L' :: R) := by
  refine vc_fq_Queue_DropHead _ _ _ _ ?_
  (intro bN hN1 eN1 eN2; replace m := m.push eN2 eN1; clear eN1 eN2)
  refine (head_c (m.focus 1 rfl) hv hq).mono ?_
  rintro _ h2 ⟨W', cs, hle, rfl, hcv, m⟩
  refine ⟨_, _, rfl, ?_⟩
  intro b2 h3 e1 e2
  replace m := m.push e2 e1
  clear e1 e2
  obtain ⟨pa, pc, rfl, hbt⟩ := hcv
  refine ⟨⟨rfl, m.wrsb 0 rfl rfl, by simp [Value.oneCell']⟩, ?_⟩
  intro h4 e3
  replace m := m.setr 0 rfl e3
  replace m := m.drop1
  clear e3
  simp only [List.eraseIdx_cons_zero, List.eraseIdx_cons_succ] at m
  cases hh : q.head k with
  | none =>
    have e : q.dropHead k = (q, none) := by unfold Qu.dropHead; rw [hh]
    rw [e]
    refine bcase_true rfl ⟨⟨rfl, m.wrsb 1 rfl rfl, by simp [Value.oneCell']⟩, fun h5 e3 => ?_⟩
    replace m := m.setr 1 rfl e3
    exact ⟨_, m.rowb 1 rfl rfl rfl, W', _, L, hle, rfl, PkV.zero, hv.le hle, m.free 1 rfl⟩
  | some p =>
    have hk : 0 ≤ k ∧ k < 16 := by
      unfold Qu.head at hh
      by_cases hk : 0 ≤ k ∧ k < 16
      · exact hk
      · rw [if_neg hk] at hh; cases hh
    obtain ⟨k0, k1⟩ := hk
    have hp : (q.flow k).l = p :: (q.flow k).l.tail := by
      unfold Qu.head at hh
      rw [if_pos ⟨k0, k1⟩] at hh
      cases he : (q.flow k).l with
      | nil => rw [he] at hh; cases hh
      | cons x r => rw [he] at hh; simp at hh; subst hh; rfl
    have e : q.dropHead k = (q.setF k ((q.flow k).setL (q.flow k).l.tail), some p) := by unfold Qu.dropHead; rw [hh]
    rw [e]
    refine bcase_false rfl ((shift_c m (hv.le hle) hq k0 k1 hp).mono ?_)
    rintro _ h6 ⟨cs, L', rfl, hcv, hv', m⟩
    obtain ⟨pa, pc, rfl, hbt⟩ := hcv
    refine ⟨_, rfl, ⟨rfl, m.wrsb 1 rfl rfl, by simp [Value.oneCell']⟩, fun h5 e3 => ?_⟩
    replace m := m.setr 1 rfl e3
    exact ⟨_, m.rowb 1 rfl rfl rfl, W', _, L', hle, rfl, ⟨pa, pc, rfl, hbt⟩, hv', m.free 1 rfl⟩
theorem fattest_c (m : Me W h (L :: R)) (hv : QuV W b q L) (hq : QOk q) : Runs Tryd.prog 58 #[.pointer (some ⟨b, 0, none⟩)] h fun v h' => v = .tuple #[.int .i64 q.fattest.1, .int .i64 q.fattest.2] ∧ h' = h := by
  refine vc_fq_Queue_Fattest _ _ _ ?_
  refine ⟨fun best most x h' => h' = h ∧ ∃ k : Nat, x = k ∧ k ≤ 16 ∧ fatN (q.fl.drop k) k (best, most) = fatN q.fl 0 (0, -1), fun _ _ x _ => (16 - x).toNat, ⟨rfl, 0, rfl, by omega, rfl⟩, fun _ => ?_⟩
  rintro best most _ h1 ⟨rfl, k, rfl, hk, hf⟩
  refine dcase_intro (fun q1 => ?_) fun q1 => ?_
  · have hk1 : k < 16 := by omega
    have hfl := flow_at hq hk1
    rw [fatN_cons hfl] at hf
    obtain ⟨a, c, vs, hcl, hsrc, hs⟩ := hv.flowL m hq (k := (k : Int)) (by omega) (by omega)
    have hb := hv.flowB m hq (k := (k : Int)) (by omega) (by omega)
    have next : ∀ s, s = (if (q.flow (k : Int)).l ≠ [] ∧ most < bytP (q.flow (k : Int)).l then ((k : Int), bytP (q.flow (k : Int)).l) else (best, most)) → fatN (q.fl.drop (k + 1)) ((k : Int) + 1) s = fatN q.fl 0 (0, -1) := fun s e => by rw [e]; exact hf
    refine ⟨⟨by omega, by omega⟩, _, _, _, hcl, dcase_intro (fun q2 => ⟨_, hb, dcase_intro (fun q3 => ⟨_, hb, ?_⟩) fun q3 => ?_⟩) fun q2 => ?_⟩
    · refine ⟨by simp only [fits]; omega, ⟨rfl, k + 1, by omega, by omega, next _ ?_⟩, by dsimp only; omega⟩
      rw [if_pos ⟨fun e => by rw [e] at q2; simp at q2, q3⟩]
    · refine ⟨by simp only [fits]; omega, ⟨rfl, k + 1, by omega, by omega, next _ ?_⟩, by dsimp only; omega⟩
      rw [if_neg (fun hc => q3 hc.2)]
    · refine ⟨by simp only [fits]; omega, ⟨rfl, k + 1, by omega, by omega, next _ ?_⟩, by dsimp only; omega⟩
      rw [if_neg (fun hc => q2 (by have := List.length_pos_iff.2 hc.1; omega))]
  · obtain rfl : k = 16 := by omega
    rw [List.drop_of_length_le (by rw [hq.len]; omega)] at hf
    refine ⟨?_, rfl⟩
    unfold Qu.fattest
    rw [← hf]
    rfl
/-- Packets whose bytes are ours: a group each. -/
def PksO : List Pk → List Value → List Grp → Prop
  | [], vs, Fs => vs = [] ∧ Fs = []
  | p :: ps, vs, Fs => ∃ a c F r Gs, vs = [.int .i64 p.id, .int .u32 p.flow, .int .i64 p.tid, .int .i64 p.at_, .slice a p.body.length c] ++ r ∧ Fs = F :: Gs ∧ Ow a p.body.length c 1 (ints .u8 p.body) F ∧ PksO ps r Gs
theorem PksO.snoc {p : Pk} {a : Option Addr} {c : Nat} {F : Grp} (ho : Ow a p.body.length c 1 (ints .u8 p.body) F) : ∀ {ps : List Pk} {vs : List Value} {Fs : List Grp}, PksO ps vs Fs → PksO (ps ++ [p]) (vs ++ [.int .i64 p.id, .int .u32 p.flow, .int .i64 p.tid, .int .i64 p.at_, .slice a p.body.length c]) (Fs ++ [F])
  | [], _, _, ⟨h1, h2⟩ => by subst h1 h2; exact ⟨a, c, F, [], [], by simp, rfl, ho, rfl, rfl⟩
  | x :: ps, _, _, ⟨a1, c1, F1, r, Gs, h1, h2, h3, h4⟩ => by subst h1 h2; exact ⟨a1, c1, F1, _, _, by simp, by simp, h3, h4.snoc ho⟩
theorem PksO.len : ∀ {ps : List Pk} {vs : List Value} {Fs : List Grp}, PksO ps vs Fs → Fs.length = ps.length
  | [], _, _, ⟨h1, h2⟩ => by subst h2; rfl
  | x :: ps, _, _, ⟨a1, c1, F1, r, Gs, h1, h2, h3, h4⟩ => by subst h2; simp [h4.len]
theorem PksO.get : ∀ {ps : List Pk} {vs : List Value} {Fs : List Grp} {i : Nat} {p : Pk}, PksO ps vs Fs → ps[i]? = some p → ∃ a c F, Fs[i]? = some F ∧ Ow a p.body.length c 1 (ints .u8 p.body) F ∧
    (vs.drop (i * 5)).take 5 = [.int .i64 p.id, .int .u32 p.flow, .int .i64 p.tid, .int .i64 p.at_, .slice a p.body.length c] ∧ i * 5 + 5 ≤ vs.length
  | [], _, _, _, _, _, h => by simp at h
  | x :: ps, _, _, 0, p, ⟨a1, c1, F1, r, Gs, h1, h2, h3, h4⟩, h => by
    simp at h; subst h h1 h2
    exact ⟨a1, c1, F1, rfl, h3, by simp, by simp⟩
  | x :: ps, _, _, i + 1, p, ⟨a1, c1, F1, r, Gs, h1, h2, h3, h4⟩, h => by
    subst h1 h2
    obtain ⟨a, c, F, g1, g2, g3, g4⟩ := h4.get (i := i) (p := p) (by simpa using h)
    refine ⟨a, c, F, by simpa using g1, g2, ?_, by simp; omega⟩
    rw [show (i + 1) * 5 = 5 + i * 5 by omega, ← List.drop_drop]
    exact g3
theorem PksO.upd : ∀ {ps : List Pk} {vs : List Value} {Fs : List Grp} {i : Nat} {p : Pk}, PksO ps vs Fs → ps[i]? = some p → ∃ a c F, Fs[i]? = some F ∧ Ow a p.body.length c 1 (ints .u8 p.body) F ∧
    (vs.drop (i * 5)).take 5 = [.int .i64 p.id, .int .u32 p.flow, .int .i64 p.tid, .int .i64 p.at_, .slice a p.body.length c] ∧ i * 5 + 5 ≤ vs.length ∧
    ∀ (xs : List Int) (F' : Grp), xs.length = p.body.length → Ow a p.body.length c 1 (ints .u8 xs) F' → PksO (ps.set i ⟨p.id, p.flow, p.tid, p.at_, xs⟩) vs (Fs.set i F')
  | [], _, _, _, _, _, h => by simp at h
  | x :: ps, _, _, 0, p, ⟨a1, c1, F1, r, Gs, h1, h2, h3, h4⟩, h => by
    simp at h; subst h h1 h2
    exact ⟨a1, c1, F1, rfl, h3, by simp, by simp, fun xs F' hl ho => ⟨a1, c1, F', r, Gs, by rw [← hl], rfl, by rw [← hl] at ho; exact ho, h4⟩⟩
  | x :: ps, _, _, i + 1, p, ⟨a1, c1, F1, r, Gs, h1, h2, h3, h4⟩, h => by
    subst h1 h2
    obtain ⟨a, c, F, g1, g2, g3, g4, g5⟩ := h4.upd (i := i) (p := p) (by simpa using h)
    refine ⟨a, c, F, by simpa using g1, g2, ?_, by simp; omega, fun xs F' hl ho => ⟨a1, c1, F1, r, _, rfl, rfl, h3, g5 xs F' hl ho⟩⟩
    rw [show (i + 1) * 5 = 5 + i * 5 by omega, ← List.drop_drop]
    exact g3
theorem PksO.sq {W : Wd} : ∀ {ps : List Pk} {vs : List Value} {Fs : List Grp}, PksO ps vs Fs → (∀ x ∈ Fs.flatten, W x.1 = some (.cells x.2.1.toArray x.2.2)) → Sq (PkV W) ps vs
  | [], _, _, ⟨h1, h2⟩, _ => h1
  | x :: ps, _, _, ⟨a1, c1, F1, r, Gs, h1, h2, h3, h4⟩, hW => by
    subst h1 h2
    exact ⟨_, r, rfl, ⟨a1, c1, rfl, h3.bts rfl fun y hy => hW y (by simp [hy])⟩, h4.sq fun y hy => hW y (by simp only [List.flatten_cons, List.mem_append]; exact .inr hy)⟩
theorem all_o (m : Me W h (L :: R)) (hv : QuV W b q L) (hq : QOk q) : Runs Tryd.prog 38 #[.pointer (some ⟨b, 0, none⟩)] h fun v h' =>
    ∃ a c vs E Fs, v = .slice a (allL q.fl).length c ∧ Ow a (allL q.fl).length c 5 vs E ∧ PksO (allL q.fl) vs Fs ∧ Me W h' (E :: Fs.flatten :: L :: R) := by
  have hcnt := hq.cnt
  have ecn : q.cnt = cntL q.fl := rfl
  refine vc_fq_Queue_All _ _ _ ?_
  refine ⟨fun oa ol oc x h' => ∃ (j : Nat) (vs : List Value) (E : Grp) (Fs : List Grp), x = j ∧ j ≤ 16 ∧ ol = (allL (q.fl.take j)).length ∧ Ow oa ol oc 5 vs E ∧ PksO (allL (q.fl.take j)) vs Fs ∧ Me W h' (E :: Fs.flatten :: L :: R), fun _ _ _ x _ => (16 - x).toNat,
    ⟨0, [], [], [], rfl, by omega, rfl, Ow.nil, ⟨rfl, rfl⟩, m.nilI.nilI⟩, fun _ => ?_⟩
  clear m
  rintro oa ol oc _ h1 ⟨j, vs, E, Fs, rfl, hj, hol, o, hs, m⟩
  subst ol
  refine dcase_intro (fun q1 => ?_) fun q1 => ?_
  · have hj1 : j < 16 := by omega
    have hfl := flow_at hq hj1
    have hbd := allL_bd hfl
    obtain ⟨a, c, vf, hsf, hfk⟩ := hv.flowK hq (k := (j : Int)) (by omega) (by omega)
    refine ⟨⟨by omega, by omega⟩, _, _, _, (hfk (m.focus 2 rfl)).1, ?_⟩
    refine ⟨fun oa ol oc x h' => ∃ (i : Nat) (vs : List Value) (E : Grp) (Fs : List Grp), x = i ∧ i ≤ (q.flow (j : Int)).l.length ∧ ol = (allL (q.fl.take j) ++ (q.flow (j : Int)).l.take i).length ∧ Ow oa ol oc 5 vs E ∧ PksO (allL (q.fl.take j) ++ (q.flow (j : Int)).l.take i) vs Fs ∧ Me W h' (E :: Fs.flatten :: L :: R),
      fun _ _ _ x _ => (((q.flow (j : Int)).l.length : Int) - x).toNat, ⟨0, vs, E, Fs, rfl, by omega, by simp, o, by simpa using hs, m⟩, fun _ => ?_⟩
    clear m hs o
    rintro oa2 ol oc2 _ h2 ⟨i, vs, E, Fs, rfl, hi, hol, o, hs, m⟩
    subst ol
    refine dcase_intro (fun q2 => ?_) fun q2 => ?_
    · obtain ⟨x, hx⟩ : ∃ x, (q.flow (j : Int)).l[i]? = some x := ⟨_, List.getElem?_eq_getElem (by omega)⟩
      obtain ⟨cs, hcv, hrow, hrl⟩ := hsf.get (fun _ _ => PkV.len) hx
      obtain ⟨sb, so, rfl, hr⟩ := src_part (k := i * 5) (n := 5) (hfk (m.focus 2 rfl)).2 hrl (by decide) hrow
      refine ⟨⟨by omega, by omega⟩, _, hr, ?_⟩
      (intro bN hN1 eN1 eN2; replace m := m.push eN2 eN1; clear eN1 eN2)
      obtain ⟨pa, pc, rfl, hbt⟩ := hcv
      refine ⟨⟨rfl, m.wrsb 0 rfl rfl, by simp [Value.oneCell']⟩, ?_⟩
      intro h4 e3
      replace m := m.setr 0 rfl e3
      clear e3
      have hle5 := ((hq.flow (k := (j : Int)) (by omega) (by omega)).2.p x (List.mem_of_getElem? hx)).2.2
      refine ⟨_, m.rowb 0 rfl rfl rfl, (own_c (p := x) ⟨pa, pc, rfl, hbt.le m.leOf⟩ (by omega)).mono ?_⟩
      rintro _ h5 ⟨a3, c3, F, rfl, mk, o3⟩
      replace m := (m.drop1).beside mk
      clear mk
      simp only [List.cons_append, List.nil_append] at m
      refine ⟨_, rfl, rfl, ?_⟩
      have hli : (allL (q.fl.take j) ++ (q.flow (j : Int)).l.take i).length = (allL (q.fl.take j)).length + i := by simp; omega
      refine o.app1 m 1 rfl rfl (by simp [Value.oneCell']) (by omega) (by decide) fun a2 c2 E2 h6 m' o2 => ?_
      simp only [List.append_nil, List.set_cons_zero, List.set_cons_succ] at o2 m'
      refine ⟨by simp only [fits]; omega, ⟨i + 1, _, E2, Fs ++ [F], by omega, by omega, ?_, o2, ?_, m'.perm ?_⟩, by dsimp only; omega⟩
      · rw [← take_snoc hx]; simp; omega
      · rw [← take_snoc hx, ← List.append_assoc]
        exact hs.snoc o3
      · simp only [List.flatten_cons, List.flatten_append, List.flatten_nil, List.append_nil, List.append_assoc]
        have h1 := List.perm_append_comm_assoc F E2 (Fs.flatten ++ (L ++ R.flatten))
        refine h1.trans (List.Perm.append_left _ ?_)
        exact List.perm_append_comm_assoc F Fs.flatten (L ++ R.flatten)
    · obtain rfl : i = (q.flow (j : Int)).l.length := by omega
      rw [List.take_length] at hs o
      rw [← allL_take hfl] at hs o
      refine ⟨by simp only [fits]; omega, ⟨j + 1, vs, E, Fs, by omega, by omega, by rw [List.take_length, ← allL_take hfl], ?_, hs, m⟩, by dsimp only; omega⟩
      rw [List.take_length, ← allL_take hfl]
      exact o
  · obtain rfl : j = 16 := by omega
    have e : q.fl.take 16 = q.fl := List.take_of_length_le (by rw [hq.len]; omega)
    rw [e] at o hs ⊢
    exact ⟨oa, oc, vs, E, Fs, rfl, o, hs, m⟩
theorem all_c (m : Me W h (L :: R)) (hv : QuV W b q L) (hq : QOk q) : Runs Tryd.prog 38 #[.pointer (some ⟨b, 0, none⟩)] h fun v h' =>
    ∃ W' a c vs E, W.le W' ∧ v = .slice a (allL q.fl).length c ∧ Ow a (allL q.fl).length c 5 vs E ∧ Sq (PkV W') (allL q.fl) vs ∧ Me W' h' (E :: L :: R) := by
  refine (all_o m hv hq).mono ?_
  rintro _ h1 ⟨a, c, vs, E, Fs, rfl, o, hs, m⟩
  obtain ⟨W', hle, hE, m'⟩ := (m.focus 1 rfl).give
  exact ⟨W', a, c, vs, E, hle, rfl, o, hs.sq hE, m'⟩
end
end Go.Proofs.YtpcilleldanfmaaDoor
