import Derived.Test.YtepodifionoigaaGreatDoorPlD
import Derived.Test.YtepodifionoigaaGreatDoorPlE
import Derived.Test.YtepodifionoigaaGreatDoorMFirst24
set_option linter.unusedVariables false
set_option linter.unusedSimpArgs false
set_option maxRecDepth 8000
namespace Go.Proofs.YtepodifionoigaaGreatDoor
open Go.Vc
section
variable {W W' W1 : Wd} {h h' : Heap} {b bx t j n c i b1 l : Nat} {a : Option Addr} {T Tx T1 T2 : TypeId} {size : Int} {G G' : List Grp} {v : Value} {x : Ses} {xs xs' : List Ses} {mv : Option Nat} {mvs mv2 : List (Option Nat)} {E A : Grp} {ads : List Addr} {ps : List Kp}
theorem S8.inW (s : S8 W h b T size xs mvs G) {r : Nat} (hr : some r ∈ mvs) : W r ≠ none := fun e2 => by
  obtain ⟨i, hi⟩ := List.getElem?_of_mem hr
  obtain ⟨y, hy⟩ : ∃ y, xs[i]? = some y := ⟨_, List.getElem?_eq_getElem (by have := (List.getElem?_eq_some_iff.1 hi).1; have := s.l1; have := s.l2; omega)⟩
  have hk := (s.ok.1 i y _ hy hi).1
  obtain ⟨es, c, h5, -⟩ := MapV.v (show MapV W r y.kept from hk)
  rw [h5] at e2; cases e2
theorem bo_new (s : S8 W1 h' b T size xs mvs G') (hle : W1.le W) (r : R8 W h bx Tx size xs ([(b, ck (preC size) (List.zipWith sesC xs mvs) [], T)] :: G)) : Bo W h b T bx Tx size xs mvs G := by
  obtain ⟨ps, h1, h2, h3, m⟩ := r
  refine ⟨ps, h2, h3, s.l1, s.l2, ⟨fun i x mv e1 e2 => ⟨(s.ok.1 i x mv e1 e2).1.le hle, (s.ok.1 i x mv e1 e2).2⟩, s.ok.2⟩, m.perm ?_⟩
  simp only [List.flatten_cons]
  generalize kpE ps = K
  generalize ([(b, ck (preC size) (List.zipWith sesC xs mvs) [], T)] : Grp) = S
  generalize ([(bx, ck (preC size) (List.zipWith kpC xs ps) [], Tx)] : Grp) = R
  generalize G.flatten = Z
  have e : R ++ (K ++ (S ++ Z)) = ((R ++ K) ++ S) ++ Z := by simp only [List.append_assoc]
  have e2 : S ++ (R ++ (K ++ Z)) = (S ++ (R ++ K)) ++ Z := by simp only [List.append_assoc]
  rw [e, e2]
  exact List.Perm.append_right _ List.perm_append_comm
theorem bo_clone (s : Bo W h b T bx Tx size xs mvs G) (hg : ∀ x ∈ xs, SesG x) :
    Runs Tryz.prog 10 #[.pointer (some ⟨b, 0, none⟩)] h fun v h' => ∃ b1 T2 W1 mv2, v = .pointer (some ⟨b1, 0, none⟩) ∧ W.le W1 ∧ Bo W1 h' b T bx Tx size xs mvs ([(b1, ck (preC size) (List.zipWith sesC xs mv2) [], T2)] :: G) ∧
      mv2.length = 8 ∧ ∀ (i : Nat) (mv : Option Nat) (x : Ses), mv2[i]? = some mv → xs[i]? = some x → ∃ l, (KeptV W1 mv l ∧ l.length = x.kept.length) ∧ ∀ r, mv = some r → some r ∉ mvs := by
  obtain ⟨ps, p1, p2, s⟩ := s
  refine (sclone_c s hg).mono ?_
  rintro _ h1 ⟨b1, T2, rfl, W1, mv2, kl, hle, hl2, hlk, m, hdone, -⟩
  refine ⟨b1, T2, W1, mv2, rfl, hle, ⟨ps, p1, fun i x p e1 e2 => (p2 i x p e1 e2).cl (cl_le hle), s.mem hle (me_r3 m)⟩, hl2, fun i mv x e1 e2 => ?_⟩
  have hi := (List.getElem?_eq_some_iff.1 e1).1
  obtain ⟨l, hl⟩ : ∃ l, kl[i]? = some l := ⟨_, List.getElem?_eq_getElem (by omega)⟩
  obtain ⟨k1, k2, k3⟩ := hdone i mv l x (by omega) e1 hl e2
  exact ⟨l, ⟨k1, k2⟩, fun r e hr => s.inW hr (k3 r e)⟩
theorem Bo.cw (s : Bo W h b T bx Tx size xs mvs G) : Cw W h b T size xs mvs := by obtain ⟨ps, -, -, s⟩ := s; exact s.cw
theorem Bo.l1 (s : Bo W h b T bx Tx size xs mvs G) : xs.length = 8 := s.cw.l1
theorem cw_on {xs0 : List Ses} {mvs' : List (Option Nat)} (h1 : xs0.length = 8) (h2 : mv2.length = 8) (hk : ∀ (i : Nat) (mv : Option Nat) (x : Ses), mv2[i]? = some mv → xs0[i]? = some x → ∃ l, (KeptV W1 mv l ∧ l.length = x.kept.length) ∧ ∀ r, mv = some r → some r ∉ mvs)
    (hgr : Grs W1 mvs W' mvs') (s : Bo W' h' b T bx Tx size xs mvs' ([(b1, ck (preC size) (List.zipWith sesC xs0 mv2) [], T2)] :: G)) : Cw W' h' b1 T2 size xs0 mv2 := by
  obtain ⟨A, B, C, m, -⟩ := s.opn
  refine ⟨h1, h2, ⟨_, me_l3 m⟩, fun i mv x e1 e2 => ?_⟩
  obtain ⟨l, ⟨q1, q2⟩, q3⟩ := hk i mv x e1 e2
  exact ⟨l, q1.cl hgr.c fun r z e hz => hgr.g r z (q3 r e) hz, q2⟩
theorem dk_at {l : List Dk} {vs : List Value} (hs : src h a (l.length * 8) vs) (hq : Sq (DkV W) l vs) {k : Nat} {y : Dk} (hx : l[k]? = some y) :
    ∃ b o pa pc, a = some ⟨b, o, none⟩ ∧ (Bts W (.slice pa y.body.length pc) y.body ∧ ∀ z ∈ y.body, 0 ≤ z ∧ z < 256) ∧ ∀ h', src h' a (l.length * 8) vs → row h' b (o + k * 8) 8 = some (dkC y pa pc) ∧ cell h' b (o + k * 8 + 1) = some (.int .i64 y.tid) ∧ cell h' b (o + k * 8 + 7) = some (.slice pa y.body.length pc) := by
  obtain ⟨cs, hcv, hrow, hrl⟩ := hq.get (fun _ _ => DkV.len) hx
  obtain ⟨⟨pa, pc, rfl, hbt⟩, hby⟩ := hcv
  obtain ⟨b, o, e, hr⟩ := src_part (k := k * 8) (n := 8) hs hrl (by decide) hrow
  have hc : ∀ (u : Nat) (v : Value), u < 8 → (dkC y pa pc)[u]? = some v → vs[k * 8 + u]? = some v := fun u v hu hv => by
    rw [← hrow, List.getElem?_take_of_lt hu, List.getElem?_drop] at hv; exact hv
  refine ⟨b, o, pa, pc, e, ⟨hbt, hby⟩, fun h' hs' => ⟨?_, ?_, ?_⟩⟩
  · obtain ⟨b', o', e', hr'⟩ := src_part (k := k * 8) (n := 8) hs' hrl (by decide) hrow
    rw [e] at e'; cases e'
    exact hr'
  · obtain ⟨b', o', e', hr'⟩ := src_cell hs' (hc 1 _ (by decide) rfl)
    rw [e] at e'; cases e'
    rw [← Nat.add_assoc] at hr'; exact hr'
  · obtain ⟨b', o', e', hr'⟩ := src_cell hs' (hc 7 _ (by decide) rfl)
    rw [e] at e'; cases e'
    rw [← Nat.add_assoc] at hr'; exact hr'
def PlI (W : Wd) (b : Nat) (T : TypeId) (bx : Nat) (Tx : TypeId) (size : Int) (n : Nat) (G : List Grp) (z : Int) (h' : Heap) : Prop :=
  ∃ (k : Nat) (W2 : Wd) (xs : List Ses) (mvs : List (Option Nat)), z = (k : Int) ∧ k ≤ n ∧ W.le W2 ∧ (∀ r, some r ∈ mvs → W r = none) ∧ (∀ x ∈ xs, SesG x) ∧ Bo W2 h' b T bx Tx size xs mvs G
theorem PlI.fin {z : Int} (k : PlI W b T bx Tx size n G z h') : ∃ W', W.le W' ∧ Me W' h' G := by
  obtain ⟨_, W2, xs, mvs, -, -, hle, -, -, s⟩ := k
  obtain ⟨A, B, C, m, -⟩ := s.opn
  exact ⟨W2, hle, m.drop1.drop1.drop1⟩
set_option maxHeartbeats 2000000 in
theorem plays_r {l : List Dk} {vs : List Value} (hE : Snt W ads) (m : Me W h G) (hsrc : wsrc W a (l.length * 8) vs) (hq : Sq (DkV W) l vs) (size seq : Int) :
    Runs Tryz.prog 3 #[.int .i64 size, .slice a l.length c, .int .i64 seq] h fun v h' => v = .bool true ∧ ∃ W', W.le W' ∧ Me W' h' G := by
  refine vc_muezzinlaw24_RecvPlays _ _ _ _ _ _ _ ?_
  refine (first24_c hE.five m).mono ?_
  rintro _ h1 ⟨rfl, W1, hle1, m1⟩
  refine ⟨true, rfl, bcase_false rfl ?_⟩
  refine (me_c m1).mono ?_
  rintro _ h2 ⟨rfl, m2⟩
  refine ⟨_, rfl, (bss_c m2).mono ?_⟩
  rintro _ h3 ⟨rfl, m3⟩
  refine ⟨_, rfl, ?_⟩
  clear m m1 m2
  by_cases hs : 1 ≤ size ∧ size ≤ 64
  rotate_left
  · refine (rnewE_c (hE.le hle1) m3 hs).mono ?_
    rintro _ h4 ⟨rfl, m4⟩
    refine ⟨_, _, rfl, ?_⟩
    by_cases q1 : size < 1
    · refine dcase_pos q1 (bcase_true rfl (bcase_true rfl ((is_c (hE.le hle1) m4 (fun i e => by cases e; decide) 103).mono ?_)))
      rintro _ h5 ⟨rfl, m5⟩
      exact ⟨_, rfl, by rw [decide_eq_true (show erC (some 2) = 103 from rfl)], W1, hle1, m5⟩
    · refine dcase_neg q1 (dcase_pos (by omega) (bcase_true rfl (bcase_true rfl ((is_c (hE.le hle1) m4 (fun i e => by cases e; decide) 103).mono ?_))))
      rintro _ h5 ⟨rfl, m5⟩
      exact ⟨_, rfl, by rw [decide_eq_true (show erC (some 2) = 103 from rfl)], W1, hle1, m5⟩
  refine (rnewS_c m3 hs).mono ?_
  rintro _ h4 ⟨b, T, rfl, s4⟩
  refine ⟨_, _, rfl, dcase_neg (by omega) (dcase_neg (by omega) (bcase_false rfl ⟨true, ifeqH_nil, bcase_false rfl (dcase_intro (fun q => ?_) fun q => ?_)⟩))⟩
  · exact bcase_true rfl (bcase_true rfl ⟨true, ifeqH_nil, rfl, W1, hle1, s4.m.drop1⟩)
  refine (me_c s4.m).mono ?_
  rintro _ h5 ⟨rfl, m5⟩
  refine ⟨_, rfl, (bss_c m5).mono ?_⟩
  rintro _ h6 ⟨rfl, m6⟩
  refine ⟨_, rfl, (rnew24_c m6 size).mono ?_⟩
  rintro _ h7 ⟨bx, Tx, rfl, r7⟩
  have s7 := bo_new s4 (Wd.le.refl W1) r7
  clear m3 m5 m6 r7 s4
  refine ⟨_, rfl, ?_⟩
  refine ⟨fun z h' => PlI W1 b T bx Tx size l.length G z h', fun z _ => ((l.length : Int) - z).toNat, ⟨0, W1, List.replicate 8 ses0, List.replicate 8 none, rfl, Nat.zero_le _, Wd.le.refl W1, fun r hr => (by rw [List.mem_replicate] at hr; cases hr.2), fun x hx => (by rw [List.eq_of_mem_replicate hx]; exact ses0_g), s7⟩, fun _ => ?_⟩
  clear s7
  intro z h8 hI
  have hfin := hI.fin
  obtain ⟨k, W2, xs, mvs, rfl, hk, hle2, hnew, hg, s⟩ := hI
  refine dcase_intro (fun q1 => ?_) fun q1 => ?_
  rotate_left
  · obtain ⟨W', k1, k2⟩ := hfin
    exact ⟨rfl, W', hle1.trans k1, k2⟩
  have hkl : k < l.length := by omega
  obtain ⟨y, hy⟩ : ∃ y, l[k]? = some y := ⟨_, List.getElem?_eq_getElem hkl⟩
  have hleA := hle1.trans hle2
  have hS : ∀ {W3 : Wd} {h3 : Heap} {G3 : List Grp} {xs3 : List Ses} {mvs3 : List (Option Nat)}, W.le W3 → Bo W3 h3 b T bx Tx size xs3 mvs3 G3 → src h3 a (l.length * 8) vs := fun hle s => by
    obtain ⟨A, B, C, m, -⟩ := s.opn
    exact m.wsrc (wsrc_le hle hsrc)
  obtain ⟨bl, ol, pa, pc, rfl, ⟨hbt, hby⟩, hat⟩ := dk_at (hS hleA s) hq hy
  obtain ⟨-, -, e7⟩ := hat h8 (hS hleA s)
  rw [Int.toNat_natCast]
  refine ⟨⟨by omega, by omega⟩, pa, _, pc, e7, dcase_intro (fun q2 => ?_) fun q2 => ?_⟩
  · obtain ⟨W', k1, k2⟩ := hfin
    exact ⟨rfl, W', hle1.trans k1, k2⟩
  refine (bo_clone s hg).mono ?_
  rintro _ h9 ⟨b1, T2, W3, mv2, rfl, hle3, s9, hl2, hk2⟩
  refine ⟨_, rfl, ⟨by omega, by omega⟩, y.tid, (hat h9 (hS (hleA.trans hle3) s9)).2.1, ?_⟩
  have cw9 := cw_on s.l1 hl2 hk2 (Grs.le (Wd.le.refl W3)) s9
  refine (swaits_c cw9 y.tid).ret ⟨_, rfl, ⟨by omega, by omega⟩, dkC y pa pc, (hat h9 (hS (hleA.trans hle3) s9)).1, ?_⟩
  have hE3 : Snt5 W3 := (hE.le (hleA.trans hle3)).five
  refine (heard_c hE3 s9 hg hs (hbt.le (hleA.trans hle3)) hby (by omega)).mono ?_
  rintro _ h10 ⟨rfl, W4, xs', mvs', hgr, hg', s10⟩
  have hle34 : W1.le W4 := fun d u e => by
    refine hgr.g d u (fun hm => ?_) (hle3 _ _ (hle2 _ _ e))
    rw [hnew d hm] at e; cases e
  have cw10 := cw_on s.l1 hl2 hk2 hgr s10
  refine ⟨true, rfl, bcase_false rfl ⟨⟨by omega, by omega⟩, y.tid, (hat h10 (hS (hle1.trans hle34) s10)).2.1, (swaits_c cw10 y.tid).ret ⟨_, rfl, bcase_false (by rw [decide_eq_true rfl]; rfl) ?_⟩⟩⟩
  have s11 := s10.drop
  have hnew' : ∀ r, some r ∈ mvs' → W1 r = none := fun r hr => by
    rcases hgr.n r hr with h1 | h1
    · exact hnew r h1
    · cases hw : W1 r with
      | none => rfl
      | some u => rw [hle3 _ _ (hle2 _ _ hw)] at h1; cases h1
  obtain ⟨X, r11⟩ := s11.r8
  have cw := s11.cw
  refine ⟨fun z h' => h' = h10 ∧ ∃ q : Nat, z = (q : Int) - 1 ∧ q ≤ 10, fun z _ => (9 - z).toNat, ⟨rfl, 0, rfl, by omega⟩, fun _ => ?_⟩
  rintro z _ ⟨rfl, q, rfl, hq10⟩
  refine dcase_intro (fun q3 => ?_) fun q3 => ?_
  · obtain ⟨u1, u2, u3, eu⟩ := sesV_tup xs' ((q : Int) - 1)
    refine (ssession_c cw _).ret ⟨u1, u2, u3, eu, ?_⟩
    refine (rsession_c r11 _).ret ⟨u1, u2, u3, eu, ?_⟩
    refine bcase_false (by rw [decide_eq_true rfl]; rfl) (bcase_false (by rw [decide_eq_true rfl]; rfl) (bcase_false (by rw [beq_self_eq_true]; rfl) ?_))
    refine (swaits_c cw _).ret ⟨_, rfl, (rwaits_c r11 _).ret ⟨_, rfl, bcase_false (by rw [decide_eq_true rfl]; rfl) ?_⟩⟩
    refine (sgot_c cw hg' _ _).ret ⟨_, rfl, (rgot_c r11 hg' _ _).ret ⟨_, rfl, bcase_false (by rw [beq_self_eq_true]; rfl) ?_⟩⟩
    exact ⟨by simp only [fits]; omega, ⟨rfl, q + 1, by omega, by omega⟩, by dsimp only; omega⟩
  · exact ⟨by simp only [fits]; omega, ⟨k + 1, W4, xs', mvs', by omega, by omega, hle34, hnew', hg', s11⟩, by dsimp only; omega⟩
end
theorem walk_RecvPlays (w : World) (hE : ∃ ads, Snt (Wd.of w.heap) ads) (a0 : Int) (w0 : (Lit.int .i64 a0).wf = true) (a1 : Option Addr) (len1 cap1 : Nat) (o1 : Opn (.slc (.con (.int .i64) (.con (.int .i64) (.con (.int .i64) (.con (.int .i64) (.con .bool (.con .bool (.con (.int .u32) (.con (.slc (.int .u8)) .nil))))))))) (Wd.of w.heap) [.slice a1 len1 cap1]) (a2 : Int) (w2 : (Lit.int .i64 a2).wf = true) :
    Calls Tryz.prog 3 #[.int .i64 a0, .slice a1 len1 cap1, .int .i64 a2] w fun e w' => e = .returned (.bool true) ∧ Go.RowKit.Below w.heap.size w w' := by
  obtain ⟨ads, hE⟩ := hE
  obtain ⟨l, vs, rfl, hs, hq⟩ := opn_dks o1
  refine calls_of_runs ((plays_r hE (Me.start w.heap) hs hq a0 a2).mono ?_)
  rintro v h' ⟨rfl, W', hle, m⟩
  exact ⟨rfl, m.kept hle⟩
end Go.Proofs.YtepodifionoigaaGreatDoor
