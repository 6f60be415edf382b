import Derived.Test.YtepodifionoigaaGreatDoorMPlA
import Derived.Test.YtepodifionoigaaGreatDoorS8b
import Derived.Test.YtepodifionoigaaGreatDoorMR24g
import Derived.Test.YtepodifionoigaaGreatDoorMOpnInts
set_option linter.unusedVariables false
set_option linter.unusedSimpArgs false
set_option maxRecDepth 8000
namespace Go.Proofs.YtepodifionoigaaGreatDoor
open Go.Vc
theorem wf_u8b {a : Int} (h : (Lit.int .u8 a).wf = true) : 0 ≤ a ∧ a < 256 := by
  simp only [Lit.wf, Bool.and_eq_true, decide_eq_true_eq] at h
  exact ⟨h.1, Int.lt_of_le_of_lt h.2 (by decide)⟩
structure Dk where
  kd : Int
  tid : Int
  sq : Int
  sz : Int
  rt : Bool
  agg : Bool
  mp : Int
  body : List Int
def dkC (x : Dk) (a : Option Addr) (c : Nat) : List Value := [.int .i64 x.kd, .int .i64 x.tid, .int .i64 x.sq, .int .i64 x.sz, .bool x.rt, .bool x.agg, .int .u32 x.mp, .slice a x.body.length c]
def DkV (W : Wd) (x : Dk) (cs : List Value) : Prop := (∃ a c, cs = dkC x a c ∧ Bts W (.slice a x.body.length c) x.body) ∧ ∀ y ∈ x.body, 0 ≤ y ∧ y < 256
theorem DkV.len {W : Wd} {x : Dk} {cs : List Value} (h : DkV W x cs) : cs.length = 8 := by obtain ⟨⟨a, c, rfl, _⟩, _⟩ := h; rfl
theorem opn_dk {W : Wd} {cs : List Value} (o : Opn (.con (.int .i64) (.con (.int .i64) (.con (.int .i64) (.con (.int .i64) (.con .bool (.con .bool (.con (.int .u32) (.con (.slc (.int .u8)) .nil)))))))) W cs) : ∃ x, DkV W x cs := by
  obtain ⟨hl, ⟨kd, e1, _⟩, _, ⟨a, e2, _⟩, _, ⟨b, e3, _⟩, _, ⟨n, e4, _⟩, _, ⟨rt, e5⟩, _, ⟨ag, e6⟩, _, ⟨mp, e7, _⟩, _, ob, _⟩ := o
  match cs, hl with
  | [c0, c1, c2, c3, c4, c5, c6, c7], _ =>
    simp [Sh1.size] at e1 e2 e3 e4 e5 e6 e7 ob
    subst e1 e2 e3 e4 e5 e6 e7
    obtain ⟨p, cap, l, rfl, h1, _, h2, h3⟩ := opn_ints ob
    refine ⟨⟨kd, a, b, n, rt, ag, mp, l⟩, ⟨p, cap, rfl, p, cap, rfl, h1, h2⟩, fun y hy => ?_⟩
    exact wf_u8b (h3 y hy)
theorem opn_dks {W : Wd} {a : Option Addr} {len cap : Nat} (o : Opn (.slc (.con (.int .i64) (.con (.int .i64) (.con (.int .i64) (.con (.int .i64) (.con .bool (.con .bool (.con (.int .u32) (.con (.slc (.int .u8)) .nil))))))))) W [.slice a len cap]) : ∃ (l : List Dk) (vs : List Value), l.length = len ∧ wsrc W a (len * 8) vs ∧ Sq (DkV W) l vs := by
  obtain ⟨a', len', cap', vs, e, h1, h2, h3, h4, h5⟩ := o
  cases e
  obtain ⟨l, hl, hx⟩ := choose_l len fun i hi => opn_dk (h5 i hi)
  exact ⟨l, vs, hl, h4, sq_of (by rw [hl]; exact h3) fun i x hi => hx i x hi⟩
theorem unp_le {xs : List Int} : ∀ {k i : Nat}, (unp xs k i).length ≤ k
  | 0, i => by unfold unp; exact Nat.le_refl _
  | k + 1, i => by
    by_cases h : i + 4 ≤ xs.length
    · by_cases hp : isPart (xs.drop i)
      · rw [unp_yes h hp, List.length_cons]; have := unp_le (xs := xs) (k := k) (i := i + 4 + partU (xs.drop i)); omega
      · rw [unp_no h hp]; have := unp_le (xs := xs) (k := k) (i := i + 4); omega
    · rw [unp_end (by omega)]; exact Nat.zero_le _
theorem parts_le {agg : Bool} {bs : List Int} (h : bs.length ≤ 160000) : (partsOf agg bs).length ≤ 200000 := by
  unfold partsOf
  split
  · have := unp_le (xs := bs) (k := bs.length) (i := 0)
    unfold unpL; omega
  · show 1 ≤ 200000; decide
theorem dfm_by {tid sq : Int} {rt : Bool} {body : List Int} (ht : 0 ≤ tid ∧ tid ≤ 7) (hs : 0 ≤ sq ∧ sq ≤ 4095) (hb : body.length ≤ 1500) (hx : ∀ x ∈ body, 0 ≤ x ∧ x < 256) : (∀ x ∈ qosB (dfm tid sq rt body), 0 ≤ x ∧ x < 256) ∧ (qosB (dfm tid sq rt body)).length = 26 + body.length := by
  refine ⟨qosB_by (dfm_ok ht hs hb) (show ∀ x ∈ meL, 0 ≤ x ∧ x < 256 by decide) (show ∀ x ∈ bssL, 0 ≤ x ∧ x < 256 by decide) (show ∀ x ∈ bssL, 0 ≤ x ∧ x < 256 by decide) hx, ?_⟩
  simp [qosB, dfm, meL, bssL]; omega
section
variable {W W' W1 : Wd} {h h' : Heap} {b bx t j n c i b1 l : Nat} {a : Option Addr} {T Tx T1 : TypeId} {size : Int} {css : List (List Value)} {cs us vs : List Value} {G G' : List Grp} {v : Value} {x : Ses} {xs : List Ses} {mv : Option Nat} {mvs : List (Option Nat)} {f : Fm} {E A : Grp} {bs ans : List Int} {ps : List Kp}
theorem data2_c {k s0 sz mp tid seq : Int} {rt agg : Bool} {bl bc : Nat} {body : List Int} (m : Me W h G) (hb : Bts W (.slice a bl bc) body) (hl : body.length ≤ 1500) :
    Runs Tryz.prog 19 #[.agg #[.int .i64 k, .int .i64 tid, .int .i64 s0, .int .i64 sz, .bool rt, .bool agg, .int .u32 mp, .slice a bl bc], .int .i64 seq] h (Bmade W G (qosB (dfm (tid % 8) (seq % 4096) rt body)) fun v => v) := by
  refine vc_muezzinlaw24_data [.int .i64 k, .int .i64 tid, .int .i64 s0, .int .i64 sz, .bool rt, .bool agg, .int .u32 mp, .slice a bl bc] _ _ _ ?_
  intro b1 h1 e1 e2
  have m1 := m.push e2 e1
  refine ⟨_, m1.cell 0 rfl rfl, _, m1.cell 0 rfl rfl, _, _, _, m1.cell 0 rfl rfl, ?_⟩
  refine (me_c m1).mono ?_
  rintro _ h2 ⟨rfl, m2⟩
  refine ⟨_, rfl, m2.cell 0 rfl rfl, m2.cell 0 rfl rfl, m2.cell 0 rfl rfl, ?_⟩
  refine (bss_c m2).mono ?_
  rintro _ h3 ⟨rfl, m3⟩
  refine ⟨_, rfl, m3.cell 0 rfl rfl, m3.cell 0 rfl rfl, m3.cell 0 rfl rfl, ?_⟩
  refine (bss_c m3).mono ?_
  rintro _ h4 ⟨rfl, m4⟩
  refine ⟨_, rfl, m4.cell 0 rfl rfl, m4.cell 0 rfl rfl, m4.cell 0 rfl rfl, ?_⟩
  refine (radd_c _ _ _).ret ⟨_, rfl, m4.cell 0 rfl rfl, m4.cell 0 rfl rfl, m4.cell 0 rfl rfl, rfl, rfl, rfl, ?_⟩
  rw [and7g tid, show addZ seq 0 = seq % 4096 by unfold addZ; omega]
  refine (qosBytes_c (f := dfm (tid % 8) (seq % 4096) rt body) m4 ⟨_, rfl, hb⟩ (dfm_ok (by omega) (by omega) hl)).mono ?_
  rintro _ h5 ⟨W', a', c', hle, rfl, m5, hb5⟩
  exact ⟨_, _, _, _, rfl, W', a', c', hle, rfl, m5.drop1, hb5⟩
def Bo (W : Wd) (h : Heap) (b : Nat) (T : TypeId) (bx : Nat) (Tx : TypeId) (size : Int) (xs : List Ses) (mvs : List (Option Nat)) (G : List Grp) : Prop :=
  ∃ ps : List Kp, ps.length = 8 ∧ (∀ (i : Nat) (x : Ses) (p : Kp), xs[i]? = some x → ps[i]? = some p → kpOk W x p) ∧ S8 W h b T size xs mvs ([(bx, ck (preC size) (List.zipWith kpC xs ps) [], Tx)] :: kpE ps :: G)
theorem Bo.opn (s : Bo W h b T bx Tx size xs mvs G) : ∃ A B C, Me W h (A :: B :: C :: G) ∧ ∀ W' h' G', W.le W' → Me W' h' (A :: B :: C :: G') → Bo W' h' b T bx Tx size xs mvs G' := by
  obtain ⟨ps, h1, h2, s⟩ := s
  exact ⟨_, _, _, s.m, fun W' h' G' hle m => ⟨ps, h1, fun i x p e1 e2 => (h2 i x p e1 e2).cl (cl_le hle), s.mem hle m⟩⟩
theorem me_r3 {A B C D : Grp} (m : Me W h (D :: A :: B :: C :: G)) : Me W h (A :: B :: C :: D :: G) := m.perm (by
  simp only [List.flatten_cons, ← List.append_assoc]
  refine List.Perm.append_right _ ?_
  simp only [List.append_assoc]
  exact List.perm_append_comm.trans (by simp only [List.append_assoc]; exact List.Perm.refl _))
theorem me_l3 {A B C D : Grp} (m : Me W h (A :: B :: C :: D :: G)) : Me W h (D :: A :: B :: C :: G) := m.perm (by
  simp only [List.flatten_cons, ← List.append_assoc]
  refine List.Perm.append_right _ ?_
  simp only [List.append_assoc]
  exact ((List.perm_append_comm (l₁ := D) (l₂ := A ++ (B ++ C))).trans (by simp only [List.append_assoc]; exact List.Perm.refl _)).symm)
theorem Bo.push (s : Bo W h b T bx Tx size xs mvs G) (e1 : b1 = h.size) (e2 : h' = h.push (.cells vs.toArray T1)) : Bo W h' b T bx Tx size xs mvs ([(b1, vs, T1)] :: G) := by
  obtain ⟨A, B, C, m, back⟩ := s.opn
  exact back _ _ _ (Wd.le.refl W) (me_r3 (m.push e2 e1))
theorem Bo.drop (s : Bo W h b T bx Tx size xs mvs (A :: G)) : Bo W h b T bx Tx size xs mvs G := by
  obtain ⟨_, _, _, m, back⟩ := s.opn
  exact back _ _ _ (Wd.le.refl W) (me_l3 m).drop1
theorem Bo.r8 (s : Bo W h b T bx Tx size xs mvs G) : ∃ X, R8 W h bx Tx size xs (X :: G) := by
  obtain ⟨ps, h1, h2, s⟩ := s
  refine ⟨[(b, ck (preC size) (List.zipWith sesC xs mvs) [], T)], ps, s.l1, h1, h2, ?_⟩
  exact (me_swap s.m).perm (by
    simp only [List.flatten_cons]
    refine List.Perm.append_left _ ?_
    simp only [← List.append_assoc]
    exact List.Perm.append_right _ List.perm_append_comm)
theorem bo_mid {U : Grp} {xs' : List Ses} {mvs' : List (Option Nat)} (h1 : xs.length = 8) (h2 : ps.length = 8) (hk : ∀ (i : Nat) (x : Ses) (p : Kp), xs[i]? = some x → ps[i]? = some p → kpOk W x p) (hc : ∀ b o v, wcell W b o = some v → wcell W' b o = some v)
    (s : S8 W' h b T size xs' mvs' (U :: [(bx, ck (preC size) (List.zipWith kpC xs ps) [], Tx)] :: kpE ps :: G)) : R8 W' h bx Tx size xs (U :: [(b, ck (preC size) (List.zipWith sesC xs' mvs') [], T)] :: G) := by
  refine ⟨ps, h1, h2, fun i x p e1 e2 => (hk i x p e1 e2).cl hc, s.m.perm ?_⟩
  simp only [List.flatten_cons]
  generalize kpE ps = K
  generalize ([(b, ck (preC size) (List.zipWith sesC xs' mvs') [], T)] : Grp) = S
  generalize ([(bx, ck (preC size) (List.zipWith kpC xs ps) [], Tx)] : Grp) = R
  generalize G.flatten = Z
  have e : S ++ (U ++ (R ++ (K ++ Z))) = ((S ++ U) ++ (R ++ K)) ++ Z := by simp only [List.append_assoc]
  have e2 : R ++ (K ++ (U ++ (S ++ Z))) = ((R ++ K) ++ (U ++ S)) ++ Z := by simp only [List.append_assoc]
  rw [e, e2]
  exact List.Perm.append_right _ ((List.perm_append_comm).trans (List.Perm.append_left _ List.perm_append_comm))
theorem bo_fin {U V : Grp} {W0 : Wd} (l1 : xs.length = 8) (l2 : mvs.length = 8) (hok : mvsOk W0 xs mvs) (hle : W0.le W) (r : R8 W h bx Tx size xs (V :: U :: [(b, ck (preC size) (List.zipWith sesC xs mvs) [], T)] :: G)) : Bo W h b T bx Tx size xs mvs (V :: U :: G) := by
  obtain ⟨ps, h1, h2, h3, m⟩ := r
  refine ⟨ps, h2, h3, l1, l2, ⟨fun i x mv e1 e2 => ⟨(hok.1 i x mv e1 e2).1.le hle, (hok.1 i x mv e1 e2).2⟩, hok.2⟩, m.perm ?_⟩
  simp only [List.flatten_cons]
  generalize kpE ps = K
  generalize ([(b, ck (preC size) (List.zipWith sesC xs mvs) [], T)] : Grp) = S
  generalize ([(bx, ck (preC size) (List.zipWith kpC xs ps) [], Tx)] : Grp) = R
  generalize G.flatten = Z
  have e : R ++ (K ++ (V ++ (U ++ (S ++ Z)))) = ((R ++ (K ++ (V ++ U))) ++ S) ++ Z := by simp only [List.append_assoc]
  have e2 : S ++ (R ++ (K ++ (V ++ (U ++ Z)))) = (S ++ (R ++ (K ++ (V ++ U)))) ++ Z := by simp only [List.append_assoc]
  rw [e, e2]
  exact List.Perm.append_right _ List.perm_append_comm
end
end Go.Proofs.YtepodifionoigaaGreatDoor
