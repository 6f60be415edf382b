import Derived.Test.YtepodifionoigaaGreatDoorPlC
import Derived.Test.YtepodifionoigaaGreatDoorAdD
import Derived.Test.YtepodifionoigaaGreatDoorDelD
set_option linter.unusedVariables false
set_option linter.unusedSimpArgs false
set_option maxRecDepth 8000
namespace Go.Proofs.YtepodifionoigaaGreatDoor
open Go.Vc
section
variable {W W' W1 : Wd} {h h' : Heap} {b bx t j n c i b1 l : Nat} {a : Option Addr} {T Tx T1 : TypeId} {size : Int} {G G' : List Grp} {v : Value} {xs xs' : List Ses} {mvs : List (Option Nat)} {E A : Grp} {bs ans : List Int} {y : Dk}
theorem HeV.drop (k : HeV W b T bx Tx size mvs (A :: G) h') : HeV W b T bx Tx size mvs G h' := by
  obtain ⟨W', xs', mvs', h1, h2, h3⟩ := k
  exact ⟨W', xs', mvs', h1, h2, h3.drop⟩
theorem HeV.le (hle : W.le W1) (k : HeV W1 b T bx Tx size mvs G h') : HeV W b T bx Tx size mvs G h' := by
  obtain ⟨W', xs', mvs', h1, h2, h3⟩ := k
  exact ⟨W', xs', mvs', (Grs.le hle).trans h1, h2, h3⟩
def HeJ (W : Wd) (L : List Grp) (o : Option Addr) (l cc : Nat) (h' : Heap) : Prop := ∃ W1 bs, W.le W1 ∧ Bts W1 (.slice o l cc) bs ∧ (∀ x ∈ bs, 0 ≤ x ∧ x < 256) ∧ bs.length ≤ 160000 ∧ Me W1 h' L
set_option maxHeartbeats 2000000 in
theorem heard_c (hE : Snt5 W) (s : Bo W h b T bx Tx size xs mvs G) (hg : ∀ x ∈ xs, SesG x) (hs : 1 ≤ size ∧ size ≤ 64) (hb : Bts W (.slice a y.body.length c) y.body) (hx : ∀ x ∈ y.body, 0 ≤ x ∧ x < 256) (hl : y.body.length ≤ 200) :
    Runs Tryz.prog 12 #[.pointer (some ⟨b, 0, none⟩), .pointer (some ⟨bx, 0, none⟩), .agg (dkC y a c).toArray] h fun v h' => v = .bool true ∧ HeV W b T bx Tx size mvs G h' := by
  refine vc_muezzinlaw24_heard _ _ _ _ _ ?_
  intro b1 h1 e1 e2
  have s1 := s.push e1 e2
  obtain ⟨A, B, C, m, back⟩ := s1.opn
  refine ⟨fun agg o l cc h' => HeJ W (A :: B :: C :: [(b1, dkC y a c, 38)] :: G) o l cc h', ⟨y.kd, m.cell 3 rfl rfl, dcase_intro (fun q => ?_) fun q => dcase_intro (fun q => ?_) fun q => dcase_intro (fun q => ?_) fun q => dcase_intro (fun q => ?_) fun q => dcase_intro (fun q => ?_) fun q => dcase_intro (fun q => ?_) fun q => ?_⟩, fun _ => ?_⟩
  · refine ⟨dkC y a c, m.row 3 rfl rfl (Nat.le_of_ble_eq_true rfl), y.sq, m.cell 3 rfl rfl, ?_⟩
    refine (data2_c m hb (by omega)).mono ?_
    rintro _ h2 ⟨W1, a1, c1, hle, rfl, m2, hb2⟩
    obtain ⟨k1, k2⟩ := dfm_by (tid := y.tid % 8) (sq := y.sq % 4096) (rt := y.rt) (body := y.body) (by omega) (by omega) (by omega) hx
    exact ⟨_, _, _, rfl, W1, _, hle, hb2, k1, by omega, m2⟩
  · refine ⟨fun o l cc k h' => ∃ (n : Nat) (W1 : Wd) (E : Grp) (vs : List Value) (ls : List (List Int)), k = (n : Int) ∧ n ≤ 32 ∧ W.le W1 ∧ l = vs.length ∧ vs.length ≤ n ∧ Ow o vs.length cc 1 vs E ∧ BtsL W1 vs ls ∧ (∀ p ∈ ls, (∀ x ∈ p, 0 ≤ x ∧ x < 256) ∧ p.length ≤ 2000) ∧ Me W1 h' (E :: A :: B :: C :: [(b1, dkC y a c, 38)] :: G),
      fun _ _ _ k _ => (32 - k).toNat, ⟨0, W, [], [], [], rfl, by omega, Wd.le.refl W, rfl, Nat.le_refl _, Ow.nil, trivial, fun p hp => (by cases hp), m.nilI⟩, fun _ => ?_⟩
    clear m
    rintro o _ cc _ h3 ⟨n, W1, E, vs, ls, rfl, hn, hle, rfl, hvn, ow, hbl, hpl, m⟩
    refine dcase_intro (fun q2 => ?_) fun q2 => ?_
    · have hw : IntKind.u64.wrap (n : Int) = n := wrap_fits (show fits .u64 _ by simp only [fits]; omega)
      have hw1 : IntKind.i64.wrap ((n : Int) + 1) = ((n + 1 : Nat) : Int) := by rw [wrap_fits (show fits .i64 _ by simp only [fits]; omega)]; omega
      rw [hw, hw1]
      refine ⟨y.mp, m.cell 4 rfl rfl, ⟨by omega, by simp only [kbits]; omega⟩, dcase_intro (fun q3 => ?_) fun q3 => ?_⟩
      · refine ⟨dkC y a c, m.row 4 rfl rfl (Nat.le_of_ble_eq_true rfl), y.sq, m.cell 4 rfl rfl, ?_⟩
        refine (data2_c m (hb.le hle) (by omega)).mono ?_
        rintro _ h4 ⟨W2, a1, c1, hle2, rfl, m2, hb2⟩
        obtain ⟨sq1, hsq1⟩ : ∃ z, z = IntKind.i64.wrap (y.sq + n) % 4096 := ⟨_, rfl⟩
        rw [← hsq1] at hb2 ⊢
        obtain ⟨k1, k2⟩ := dfm_by (tid := y.tid % 8) (sq := sq1) (rt := y.rt) (body := y.body) (by omega) (by omega) (by omega) hx
        refine ⟨_, _, _, rfl, ?_⟩
        intro b2 h5 f1 f2
        have m5 := m2.push f2 f1
        refine ⟨[.slice a1 _ c1], ⟨m5.row 0 rfl rfl (Nat.le_of_ble_eq_true rfl), by intro u hu; simp at hu; subst hu; rfl⟩, ?_⟩
        refine ow.app m5 1 rfl rfl (by omega) (by decide) fun a7 c7 E7 h7 m7 o7 => ?_
        simp only [List.set_cons_zero, List.set_cons_succ] at m7
        refine ⟨⟨n + 1, W2, E7, vs ++ [.slice a1 _ c1], ls ++ [_], rfl, by omega, hle.trans hle2, by rw [List.length_append]; rfl, by rw [List.length_append, List.length_singleton]; omega, by rw [List.length_append, List.length_singleton]; exact o7, BtsL.snoc hb2 (hbl.le hle2), fun p hp => ?_, m7.drop1⟩, by dsimp only; omega⟩
        rcases List.mem_append.1 hp with hp | hp
        · exact hpl p hp
        · rw [List.mem_singleton] at hp; subst hp
          exact ⟨k1, by omega⟩
      · exact ⟨⟨n + 1, W1, E, vs, ls, rfl, by omega, hle, rfl, by omega, ow, hbl, hpl, m⟩, by dsimp only; omega⟩
    · refine (rpackG_c m ow (i := 0) rfl hbl (by omega) hpl).mono ?_
      rintro _ h4 ⟨W2, a4, c4, e4, bs, hle2, rfl, hb4, hx4, hl4, m4⟩
      exact ⟨_, _, _, _, rfl, W2, bs, hle.trans hle2, hb4, hx4, hl4, m4.drop1⟩
  · refine ⟨y.tid, m.cell 3 rfl rfl, y.sq, m.cell 3 rfl rfl, (me_c m).mono ?_⟩
    rintro _ h2 ⟨rfl, m2⟩
    refine ⟨_, rfl, m2.cell 3 rfl rfl, m2.cell 3 rfl rfl, (bss_c m2).mono ?_⟩
    rintro _ h3 ⟨rfl, m3⟩
    refine ⟨_, rfl, m3.cell 3 rfl rfl, m3.cell 3 rfl rfl, (radd_c _ _ _).ret ⟨_, rfl, m3.cell 3 rfl rfl, rfl, rfl, ?_⟩⟩
    rw [and7g y.tid, show addZ y.sq 0 = y.sq % 4096 by unfold addZ; omega]
    refine (rbarBytes_c (to := meL) (fr := bssL) (tid := y.tid % 8) (sq := y.sq % 4096) m3 rfl rfl (by omega) (by omega)).mono ?_
    rintro _ h4 ⟨W4, a4, c4, hle, rfl, m4, hb4⟩
    have hbl := askB_len (to := meL) (fr := bssL) (tid := y.tid % 8) (sq := y.sq % 4096) 132 rfl rfl
    exact ⟨_, _, _, _, rfl, W4, _, hle, hb4, askB_by (show ∀ x ∈ meL, 0 ≤ x ∧ x < 256 by decide) (show ∀ x ∈ bssL, 0 ≤ x ∧ x < 256 by decide) (by decide), by omega, m4⟩
  · refine ⟨y.sz, m.cell 3 rfl rfl, y.tid, m.cell 3 rfl rfl, y.sz, m.cell 3 rfl rfl, y.sq, m.cell 3 rfl rfl, (me_c m).mono ?_⟩
    rintro _ h2 ⟨rfl, m2⟩
    refine ⟨_, rfl, m2.cell 3 rfl rfl, m2.cell 3 rfl rfl, m2.cell 3 rfl rfl, m2.cell 3 rfl rfl, (bss_c m2).mono ?_⟩
    rintro _ h3 ⟨rfl, m3⟩
    refine ⟨_, rfl, m3.cell 3 rfl rfl, m3.cell 3 rfl rfl, m3.cell 3 rfl rfl, m3.cell 3 rfl rfl, (bss_c m3).mono ?_⟩
    rintro _ h4 ⟨rfl, m4⟩
    refine ⟨_, rfl, m4.cell 3 rfl rfl, m4.cell 3 rfl rfl, m4.cell 3 rfl rfl, m4.cell 3 rfl rfl, (radd_c _ _ _).ret ⟨_, rfl, m4.cell 3 rfl rfl, m4.cell 3 rfl rfl, m4.cell 3 rfl rfl, rfl, rfl, rfl, ?_⟩⟩
    rw [and255g y.sz, and7g y.tid, and63g y.sz, show addZ y.sq 0 = y.sq % 4096 by unfold addZ; omega]
    refine (raddG_c (to := meL) (fr := bssL) (bss := bssL) (token := y.sz % 256) (tid := y.tid % 8) (size := y.sz % 64) (tmo := 0) (sq := y.sq % 4096) (st := 0) m4 rfl rfl rfl (by omega) (by omega) (by omega) (by decide) (by omega) (by decide) false (fun q => by cases q) (fun _ => rfl)).mono ?_
    rintro _ h5 ⟨W5, hle, m5, ⟨-, a5, c5, rfl, hb5⟩ | ⟨hgt, -⟩⟩
    · refine ⟨_, _, _, _, rfl, W5, _, hle, hb5, addGB_by (show ∀ x ∈ meL, 0 ≤ x ∧ x < 256 by decide) (show ∀ x ∈ bssL, 0 ≤ x ∧ x < 256 by decide) (show ∀ x ∈ bssL, 0 ≤ x ∧ x < 256 by decide) (by omega), ?_, m5⟩
      simp [addGB, headB, w2, meL, bssL]
    · omega
  · refine ⟨y.rt, m.cell 3 rfl rfl, y.tid, m.cell 3 rfl rfl, (me_c m).mono ?_⟩
    rintro _ h2 ⟨rfl, m2⟩
    refine ⟨_, rfl, m2.cell 3 rfl rfl, m2.cell 3 rfl rfl, (bss_c m2).mono ?_⟩
    rintro _ h3 ⟨rfl, m3⟩
    refine ⟨_, rfl, m3.cell 3 rfl rfl, m3.cell 3 rfl rfl, (bss_c m3).mono ?_⟩
    rintro _ h4 ⟨rfl, m4⟩
    refine ⟨_, rfl, m4.cell 3 rfl rfl, m4.cell 3 rfl rfl, rfl, rfl, rfl, ?_⟩
    rw [and7g y.tid]
    refine (rdelG_c (to := meL) (fr := bssL) (bss := bssL) (tid := y.tid % 8) (re := 0) m4 rfl rfl rfl (by omega) (by decide) y.rt).mono ?_
    rintro _ h5 ⟨W5, hle, m5, ⟨-, a5, c5, rfl, hb5⟩ | ⟨hgt, -⟩⟩
    · refine ⟨_, _, _, _, rfl, W5, _, hle, hb5, delGB_by (show ∀ x ∈ meL, 0 ≤ x ∧ x < 256 by decide) (show ∀ x ∈ bssL, 0 ≤ x ∧ x < 256 by decide) (show ∀ x ∈ bssL, 0 ≤ x ∧ x < 256 by decide), ?_, m5⟩
      simp [delGB, headB, w2, meL, bssL]
    · omega
  · exact ⟨a, _, c, m.cell 3 rfl rfl, y.agg, m.cell 3 rfl rfl, W, y.body, Wd.le.refl W, hb, hx, by omega, m⟩
  · exact duoL_c (Post := fun v h' => v = .bool true ∧ HeV W b T bx Tx size mvs G h') s1 hg fun h' hv => ⟨rfl, hv.drop⟩
  · clear m
    rintro agg o l cc h24 ⟨W1, bs, hle, hb2, hx2, hl2, m⟩
    have s2 := back W1 h24 _ hle m
    have hE1 : Snt5 W1 := hE.cl (cl_le hle)
    refine ⟨fun h' => h' = h24, ⟨fun _ h' => h' = h24, ⟨y.kd, m.cell 3 rfl rfl, dcase_intro (fun _ => rfl) fun _ => ⟨y.kd, m.cell 3 rfl rfl, dcase_intro (fun _ => rfl) fun _ => ⟨y.kd, m.cell 3 rfl rfl, dcase_intro (fun _ => ⟨y.agg, m.cell 3 rfl rfl, rfl⟩) fun _ => rfl⟩⟩⟩, fun _ => ?_⟩, fun _ => ?_⟩
    · rintro x5 _ rfl
      exact bcase_intro (fun _ => duoD_c (Post := fun v h' => v = .bool true ∧ HeV W b T bx Tx size mvs G h') hE1 s2 hg hb2 hx2 hl2 agg fun h' hv => ⟨rfl, (hv.drop).le hle⟩) fun _ => rfl
    · rintro _ rfl
      exact duoO_c (Post := fun v h' => v = .bool true ∧ HeV W b T bx Tx size mvs G h') hE1 s2 hg hs hb2 hx2 fun h' hv => ⟨rfl, (hv.drop).le hle⟩
end
end Go.Proofs.YtepodifionoigaaGreatDoor
