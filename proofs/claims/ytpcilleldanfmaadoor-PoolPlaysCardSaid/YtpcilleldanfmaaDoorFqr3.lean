/- The document's queue: Fattest, Bytes, All, Len, Put. -/
import Derived.Test.YtpcilleldanfmaaDoorFqr2
set_option linter.unusedVariables false
set_option linter.unusedSimpArgs false
namespace Go.Proofs.YtpcilleldanfmaaDoor
open Go.Vc
section
variable {W W' : Wd} {h h' : Heap} {G R : List Grp} {L E E0 Ef Ee : Grp} {B : Grp} {Es : List Grp} {css : List (List Value)} {q : Qu} {f g : Fl} {k d : Int} {b n : Nat} {cs : List Value} {p : Pk} {r l : List Pk} {vs : List Value} {a : Option Addr}
theorem QrV.fbytes (hv : QrV W b q L) (m : Me W h (L :: R)) (hq : QOk q) (k0 : 0 ≤ k) (k1 : k < 16) :
    Runs Tryd.prog 68 #[.pointer (some ⟨b, 3 + k.toNat * 7, none⟩)] h fun v h' => v = .int .i64 (bytP (q.flow k).l) ∧ h' = h := by
  obtain ⟨a, c, vs, hcl, hsrc, hs⟩ := hv.flowL m hq k0 k1
  have hfb := bytL_ge (hq.flow k0 k1).1
  have hfc := cntL_ge (hq.flow k0 k1).1
  have hcnt := hq.cnt
  have ecn : q.cnt = cntL q.fl := rfl
  have ebn : q.byt = bytL q.fl := rfl
  obtain ⟨hb1, hb0⟩ := hq.bd
  exact fbytes_c hcl hsrc hs (by omega) (by omega)
theorem fattestr_c (m : Me W h (L :: R)) (hv : QrV W b q L) (hq : QOk q) : Runs Tryd.prog 46 #[.pointer (some ⟨b, 0, none⟩)] h fun v h' => v = .tuple #[.int .i64 q.fattest.1, .int .i64 q.fattest.2] ∧ h' = h := by
  refine vc_muezzinref8_Queue_Fattest _ _ _ ?_
  refine ⟨fun best most x h' => h' = h ∧ ∃ k : Nat, x = k ∧ k ≤ 16 ∧ fatN (q.fl.drop k) k (best, most) = fatN q.fl 0 (0, -1), fun _ _ x _ => (16 - x).toNat, ⟨rfl, 0, rfl, by omega, rfl⟩, fun _ => ?_⟩
  rintro best most _ h1 ⟨rfl, k, rfl, hk, hf⟩
  refine dcase_intro (fun q1 => ?_) fun q1 => ?_
  · have hk1 : k < 16 := by omega
    have hfl := flow_at hq hk1
    rw [fatN_cons hfl] at hf
    obtain ⟨a, c, vs, hcl, hsrc, hs⟩ := hv.flowL m hq (k := (k : Int)) (by omega) (by omega)
    have hb := hv.fbytes m hq (k := (k : Int)) (by omega) (by omega)
    have next : ∀ s, s = (if (q.flow (k : Int)).l ≠ [] ∧ most < bytP (q.flow (k : Int)).l then ((k : Int), bytP (q.flow (k : Int)).l) else (best, most)) → fatN (q.fl.drop (k + 1)) ((k : Int) + 1) s = fatN q.fl 0 (0, -1) := fun s e => by rw [e]; exact hf
    refine ⟨⟨by omega, by omega⟩, _, _, _, hcl, dcase_intro (fun q2 => ⟨⟨by omega, by omega⟩, hb.ret ⟨_, rfl, dcase_intro (fun q3 => ⟨⟨by omega, by omega⟩, hb.ret ⟨_, rfl, ?_⟩⟩) fun q3 => ?_⟩⟩) fun q2 => ?_⟩
    · refine ⟨by simp only [fits]; omega, ⟨rfl, k + 1, by omega, by omega, next _ ?_⟩, by dsimp only; omega⟩
      rw [if_pos ⟨fun e => by rw [e] at q2; simp at q2, q3⟩]
    · refine ⟨by simp only [fits]; omega, ⟨rfl, k + 1, by omega, by omega, next _ ?_⟩, by dsimp only; omega⟩
      rw [if_neg (fun hc => q3 hc.2)]
    · refine ⟨by simp only [fits]; omega, ⟨rfl, k + 1, by omega, by omega, next _ ?_⟩, by dsimp only; omega⟩
      rw [if_neg (fun hc => q2 (by have := List.length_pos_iff.2 hc.1; omega))]
  · obtain rfl : k = 16 := by omega
    rw [List.drop_of_length_le (by rw [hq.len]; omega)] at hf
    refine ⟨?_, rfl⟩
    unfold Qu.fattest
    rw [← hf]
    rfl
theorem bytL_appR : ∀ (a b : List Fl), bytL (a ++ b) = bytL a + bytL b
  | [], b => by simp [bytL]
  | x :: r, b => by simp only [List.cons_append, bytL, bytL_appR r b]; omega
theorem bytesr_c (m : Me W h (L :: R)) (hv : QrV W b q L) (hq : QOk q) : Runs Tryd.prog 52 #[.pointer (some ⟨b, 0, none⟩)] h fun v h' => v = .int .i64 q.byt ∧ h' = h := by
  obtain ⟨hb1, hb0⟩ := hq.bd
  have ebn : q.byt = bytL q.fl := rfl
  refine vc_muezzinref8_Queue_Bytes _ _ _ ?_
  refine ⟨fun n x h' => h' = h ∧ ∃ j : Nat, x = j ∧ j ≤ 16 ∧ n = bytL (q.fl.take j), fun _ x _ => (16 - x).toNat, ⟨rfl, 0, rfl, by omega, rfl⟩, fun _ => ?_⟩
  rintro _ _ h1 ⟨rfl, j, rfl, hj, rfl⟩
  refine dcase_intro (fun q1 => ?_) fun q1 => ?_
  · have hj1 : j < 16 := by omega
    have hfl := flow_at hq hj1
    have e : bytL (q.fl.take (j + 1)) = bytL (q.fl.take j) + bytP (q.flow (j : Int)).l := by
      rw [List.take_add_one, hfl, bytL_appR]; simp [bytL]
    have e2 : bytL (q.fl.take (j + 1)) ≤ bytL q.fl := by
      have := bytL_appR (q.fl.take (j + 1)) (q.fl.drop (j + 1))
      rw [List.take_append_drop] at this
      have := bytL_nn (q.fl.drop (j + 1)); omega
    have e3 := bytL_nn (q.fl.take (j + 1))
    exact ⟨⟨by omega, by omega⟩, (hv.fbytes m hq (k := (j : Int)) (by omega) (by omega)).ret ⟨_, rfl, by simp only [fits]; omega, by simp only [fits]; omega, ⟨rfl, j + 1, by omega, by omega, by omega⟩, by (try dsimp only); omega⟩⟩
  · obtain rfl : j = 16 := by omega
    have e : q.fl.take 16 = q.fl := List.take_of_length_le (by rw [hq.len]; omega)
    rw [e]; exact ⟨rfl, rfl⟩
theorem allr_c (m : Me W h (L :: R)) (hv : QrV W b q L) (hq : QOk q) : Runs Tryd.prog 51 #[.pointer (some ⟨b, 0, none⟩)] h fun v h' =>
    ∃ a c vs E, v = .slice a (allL q.fl).length c ∧ Ow a (allL q.fl).length c 5 vs E ∧ Sq (PkV W) (allL q.fl) vs ∧ Me W h' (E :: L :: R) := by
  have hcnt := hq.cnt
  have ecn : q.cnt = cntL q.fl := rfl
  have hall := allL_len q.fl
  refine vc_muezzinref8_Queue_All _ _ _ ?_
  refine ⟨fun oa ol oc x h' => ∃ (j : Nat) (vs : List Value) (E : Grp), x = j ∧ j ≤ 16 ∧ ol = (allL (q.fl.take j)).length ∧ Ow oa ol oc 5 vs E ∧ Sq (PkV W) (allL (q.fl.take j)) vs ∧ Me W h' (E :: L :: R), fun _ _ _ x _ => (16 - x).toNat,
    ⟨0, [], [], rfl, by omega, rfl, Ow.nil, rfl, m.nilI⟩, fun _ => ?_⟩
  clear m
  rintro oa ol oc _ h1 ⟨j, vs, E, rfl, hj, hol, o, hs, m⟩
  subst ol
  refine dcase_intro (fun q1 => ?_) fun q1 => ?_
  · have hj1 : j < 16 := by omega
    have hfl := flow_at hq hj1
    have hbd := allL_bd hfl
    obtain ⟨a, c, vf, hcl, hsrc, hsf⟩ := hv.flowL (m.focus 1 rfl) hq (k := (j : Int)) (by omega) (by omega)
    refine ⟨⟨by omega, by omega⟩, _, _, _, hcl, vf, ⟨hsrc, hsf.all fun _ _ => PkV.one⟩, ?_⟩
    refine o.app m 0 rfl (hsf.len fun _ _ => PkV.len) (by omega) (by decide) fun a2 c2 E2 h6 m' o2 => ?_
    have e : allL (q.fl.take (j + 1)) = allL (q.fl.take j) ++ (q.flow (j : Int)).l := allL_take hfl
    refine ⟨by simp only [fits]; omega, ⟨j + 1, _, E2, by omega, by omega, by rw [e, List.length_append], ?_, by rw [e]; exact hs.app hsf, m'⟩, by (try dsimp only); omega⟩
    exact o2
  · obtain rfl : j = 16 := by omega
    have e : q.fl.take 16 = q.fl := List.take_of_length_le (by rw [hq.len]; omega)
    rw [e] at o hs ⊢
    refine (packets_c (o.src m 0 rfl) o.len (hs.all fun _ _ => PkV.one) (by omega)).mono ?_
    rintro _ h5 ⟨a', c', E', rfl, mk, o'⟩
    exact ⟨_, _, _, rfl, a', c', vs, E', rfl, o', hs, (m.beside mk).free 1 rfl⟩
theorem lenr_c (m : Me W h (L :: R)) (hv : QrV W b q L) (hq : QOk q) : Runs Tryd.prog 47 #[.pointer (some ⟨b, 0, none⟩)] h fun v h' => v = .int .i64 q.cnt ∧ Me W h' (L :: R) := by
  refine vc_muezzinref8_Queue_Len _ _ _ ((allr_c m hv hq).mono ?_)
  rintro _ h1 ⟨a, c, vs, E, rfl, o, hs, m⟩
  exact ⟨_, _, _, rfl, by rw [allL_len]; rfl, m.drop1⟩
theorem putr_c (m : Me W h (L :: R)) (hv : QrV W b q L) (hq : QOk q) (hp : PkV (Wd.of h) p cs) (hlen : p.body.length ≤ 1048576) (hroom : q.cnt < 1048576) :
    Runs Tryd.prog 45 #[.pointer (some ⟨b, 0, none⟩), .agg cs.toArray] h fun v h' => v = .int .i64 (bucketZ p.flow q.seed) ∧ ∃ W' L', W.le W' ∧ QrV W' b (q.put p) L' ∧ Me W' h' (L' :: R) := by
  obtain ⟨k0, k1⟩ := bucketZ_bd p.flow q.seed
  obtain ⟨k, hk9⟩ : ∃ k, k = bucketZ p.flow q.seed := ⟨_, rfl⟩
  rw [← hk9] at k0 k1
  have hv0 := hv
  have hsd := (hv.tg m).2.2
  (obtain ⟨css, Es, fa, fc, ea, ec, Ef, Ee, T, hc, of, oe, rfl⟩ := hv; obtain ⟨a, c, vs, E, hE, hcs, o, hs, hk⟩ := hc.opn hq k0 k1; have hn := hc.n8; have hN := hc.n1; have hcnt := hq.cnt; obtain ⟨hb1, hb0⟩ := hq.bd; have ecn : q.cnt = cntL q.fl := rfl; have ebn : q.byt = bytL q.fl := rfl; have hfb := bytL_ge (hq.flow k0 k1).1; have hfc := cntL_ge (hq.flow k0 k1).1; have hfn := bytP_nn (q.flow k).l; replace m := m.openQ hE; rw [hcs] at m)
  obtain ⟨pa, pc, rfl, hbt⟩ := hp
  refine vc_muezzinref8_Queue_Put _ _ _ _ ?_
  intro bN hN1 eN1 eN2
  have kk := ((Me.start h).push eN2 eN1).kept (Wd.le.refl _)
  replace m := m.push eN2 eN1
  clear eN1 eN2
  refine ⟨_, m.cell 0 rfl rfl, ?_⟩
  refine ⟨_, m.hget 1 rfl (Nat.le_of_ble_eq_true rfl) rfl, ?_⟩
  refine (refbucket_c _ _ _).ret ⟨_, rfl, ?_⟩
  rw [← hk9]
  refine ⟨⟨k0, by omega⟩, ?_⟩
  refine ⟨_, _, _, m.fget 1 rfl hn hk rfl 0 rfl rfl, ?_⟩
  refine ⟨_, m.rowb 0 rfl rfl rfl, ?_⟩
  refine (packet_o (p := p) ⟨pa, pc, rfl, hbt.le kk.le⟩ (by omega)).mono ?_
  rintro _ h3 ⟨a', c', E', rfl, mk, o'⟩
  replace m := m.beside mk
  simp only [List.cons_append, List.nil_append] at m
  obtain ⟨W', hle, hgE, m'⟩ := m.give
  have hbt' := o'.bts rfl hgE
  clear m mk
  have m := m'
  clear m'
  refine ⟨_, rfl, m.fget 1 rfl hn hk rfl 0 rfl rfl, rfl, ?_⟩
  refine o.app1 m 2 rfl rfl (by simp [Value.oneCell']) (by omega) (by decide) fun a2 c2 E2 h6 m' o2 => ?_
  clear m
  have m := m'
  clear m'
  simp only [List.set_cons_zero, List.set_cons_succ] at m
  (refine m.fset 1 rfl hn hk rfl 0 rfl rfl ?_; clear m; intro _ m; simp only [List.set_cons_zero, List.set_cons_succ] at m)
  rename_i h10
  have hcx := hc.le hle
  have hs2 : Sq (PkV W') ((q.flow k).l ++ [p]) (vs ++ [.int .i64 p.id, .int .u32 p.flow, .int .i64 p.tid, .int .i64 p.at_, .slice a' p.body.length c']) := (hs.mono fun _ _ h => h.le hle).snoc ⟨a', c', rfl, hbt'⟩
  have e6 : ((q.flow k).l ++ [p]).length = (q.flow k).l.length + 1 := by simp
  rw [← e6] at m o2
  refine ⟨_, _, _, m.pget 1 rfl (ckn hn rfl) (List.length_set.trans hN) 0 rfl rfl, ?_⟩
  have hls := hq.lens
  refine (has_c (of.src1 m 3 rfl) rfl (by omega)).ret ⟨_, rfl, ?_⟩
  have fin : (k ∈ q.fresh ∨ k ∈ q.elder) → ∃ W' L', W.le W' ∧ QrV W' b (q.put p) L' ∧ Me W' h10 (L' :: R) := fun hin => by
    have eput : q.put p = q.setF k ((q.flow k).setL ((q.flow k).l ++ [p])) := by unfold Qu.put; rw [← hk9]; exact if_pos hin
    rw [eput]
    obtain ⟨L', h1, h2⟩ := shutR (q' := q.setF k ((q.flow k).setL ((q.flow k).l ++ [p]))) (g := (q.flow k).setL ((q.flow k).l ++ [p])) hcx hq hk hE (E := E2) ⟨a2, c2, _, rfl, o2, hs2⟩ rfl of oe rfl rfl m.drop1 (r2_is rfl rfl rfl)
    exact ⟨W', L', hle, h1, h2⟩
  refine bcase_intro (fun q1 => ?_) (fun q1 => ⟨rfl, fin (.inl (by simpa using q1))⟩)
  refine ⟨_, _, _, m.pget 1 rfl (ckn hn rfl) (List.length_set.trans hN) 1 rfl rfl, ?_⟩
  refine (has_c (oe.src1 m 4 rfl) rfl (by omega)).ret ⟨_, rfl, ?_⟩
  refine bcase_intro (fun q2 => ?_) (fun q2 => ⟨rfl, fin (.inr (by simpa using q2))⟩)
  clear fin
  (refine m.fset 1 rfl hn hk rfl 1 rfl rfl ?_; clear m; intro _ m; simp only [List.set_cons_zero, List.set_cons_succ] at m)
  refine ⟨_, _, _, m.pget 1 rfl (ckn hn rfl) (List.length_set.trans hN) 0 rfl rfl, ?_⟩
  refine of.app1 m 3 rfl rfl (by simp [Value.oneCell']) (by omega) (by decide) fun a3 c3 E3 h15 m' o3 => ?_
  clear m
  have m := m'
  clear m'
  simp only [List.set_cons_zero, List.set_cons_succ] at m
  (refine m.pset 1 rfl (ckn hn rfl) (List.length_set.trans hN) 0 rfl (Nat.le_of_ble_eq_true rfl) ?_; clear m; intro _ m; simp only [List.set_cons_zero, List.set_cons_succ] at m)
  refine ⟨rfl, ?_⟩
  have eput : q.put p = (q.setF k (((q.flow k).setL ((q.flow k).l ++ [p])).setD 300)).addF k := by
    unfold Qu.put; rw [← hk9]; exact if_neg (by rintro (h | h); exact absurd h (by simpa using q1); exact absurd h (by simpa using q2))
  rw [eput]
  have o4 : Ow a3 (q.fresh ++ [k]).length c3 1 (ints .i64 (q.fresh ++ [k])) E3 := by rw [ints_app]; show Ow a3 _ c3 1 (ints .i64 q.fresh ++ [.int .i64 k]) E3; simpa using o3
  obtain ⟨L', h1, h2⟩ := shutR (q' := (q.setF k (((q.flow k).setL ((q.flow k).l ++ [p])).setD 300)).addF k) (g := ((q.flow k).setL ((q.flow k).l ++ [p])).setD 300) hcx hq hk hE (E := E2) ⟨a2, c2, _, rfl, o2, hs2⟩ rfl o4 oe rfl rfl m.drop1
    (r2_is rfl (by show _ = (q.fresh ++ [k]).length; simp) rfl)
  exact ⟨W', L', hle, h1, h2⟩
end
end Go.Proofs.YtpcilleldanfmaaDoor
