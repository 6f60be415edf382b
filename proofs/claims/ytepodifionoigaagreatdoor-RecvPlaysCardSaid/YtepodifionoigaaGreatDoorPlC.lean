import Derived.Test.YtepodifionoigaaGreatDoorPlB
set_option linter.unusedVariables false
set_option linter.unusedSimpArgs false
set_option maxRecDepth 8000
namespace Go.Proofs.YtepodifionoigaaGreatDoor
open Go.Vc
def HeV (W : Wd) (b : Nat) (T : TypeId) (bx : Nat) (Tx : TypeId) (size : Int) (mvs : List (Option Nat)) (G : List Grp) (h' : Heap) : Prop :=
  ∃ W' xs' mvs', Grs W mvs W' mvs' ∧ (∀ x ∈ xs', SesG x) ∧ Bo W' h' b T bx Tx size xs' mvs' G
section
variable {W W' W1 : Wd} {h h' : Heap} {b bx t j n c i b1 l : Nat} {a : Option Addr} {T Tx T1 : TypeId} {size : Int} {css : List (List Value)} {cs us vs : List Value} {G G' : List Grp} {v : Value} {x : Ses} {xs xs' : List Ses} {mv : Option Nat} {mvs : List (Option Nat)} {f : Fm} {E A : Grp} {bs ans : List Int} {ps : List Kp} {up : List Fm}
theorem SoV.slc (k : SoV W b T size xs mvs up ans G v h') : ∃ a l c a2 l2 c2, v = .tuple #[.slice a l c, .slice a2 l2 c2] := by
  obtain ⟨W', mvs', a, c, U, us, w, -, -, -, -, rfl, a2, c2, rfl, -, -⟩ := k
  exact ⟨_, _, _, _, _, _, rfl⟩
theorem duo_c {FS FX : Nat} {A1 A2 : Array Value} {Post : Value → Heap → Prop} (s : Bo W h b T bx Tx size xs mvs G)
    (H1 : ∀ G', S8 W h b T size xs mvs G' → Runs Tryz.prog FS A1 h (SoV W b T size xs' mvs up ans G'))
    (H2 : ∀ W1 h1 G', (∀ b o v, wcell W b o = some v → wcell W1 b o = some v) → R8 W1 h1 bx Tx size xs G' → Runs Tryz.prog FX A2 h1 fun v h' => RoV W1 bx Tx size xs' up G' (fun W' u => ∃ w, v = .tuple #[u, w] ∧ Bts W' w ans) h')
    (hg : ∀ x ∈ xs', SesG x) (hu : UpOk up) (hl : up.length ≤ 1000000) (hal : ans.length ≤ 1000000) (hP : ∀ h', HeV W b T bx Tx size mvs G h' → Post (.bool true) h') :
    Runs Tryz.prog FS A1 h fun r1 h1 => ∃ (s1 : Option Addr) (s1l s1c : Nat), ∃ (s2 : Option Addr) (s2l s2c : Nat), r1 = .tuple #[.slice s1 s1l s1c, .slice s2 s2l s2c] ∧
      Runs Tryz.prog FX A2 h1 fun r2 h2 => ∃ (s3 : Option Addr) (s3l s3c : Nat), ∃ (s4 : Option Addr) (s4l s4c : Nat), r2 = .tuple #[.slice s3 s3l s3c, .slice s4 s4l s4c] ∧
      Runs Tryz.prog 27 #[.slice s1 s1l s1c, .slice s3 s3l s3c] h2 fun r3 h3 => ∃ t1 : Bool, r3 = .bool t1 ∧
      bcase t1 (Runs Tryz.prog 31 #[.slice s2 s2l s2c, .slice s4 s4l s4c] h3 fun r4 h4 => ∃ t2 : Bool, r4 = .bool t2 ∧ Post (.bool t2) h4) (Post (.bool false) h3) := by
  obtain ⟨ps, p1, p2, s⟩ := s
  have l1 := s.l1
  refine (H1 _ s).mono ?_
  clear s
  rintro _ h1 ⟨W1, mvs1, a1, c1, U, us, w1, hgr, o1, q1, s1, rfl, a2, c2, rfl, hc2, hw2⟩
  have hb2 : Bts W1 (.slice a2 ans.length c2) ans := ⟨a2, c2, rfl, hc2, hw2⟩
  refine ⟨_, _, _, _, _, _, rfl, ?_⟩
  have r1 := bo_mid l1 p1 p2 hgr.c s1
  refine (H2 W1 h1 _ hgr.c r1).mono ?_
  clear r1
  rintro _ h2 ⟨W2, a3, c3, V, us2, hle, o3, q3, r3, _, rfl, a4, c4, rfl, hc4, hw4⟩
  refine ⟨_, _, _, _, _, _, rfl, ?_⟩
  have s3 := bo_fin s1.l1 s1.l2 s1.ok hle r3
  clear r3
  obtain ⟨A, B, C, m, back⟩ := s3.opn
  refine (sameFs_c m o1 (i := 4) rfl (q1.mono fun f cs hv => hv.le hle) o3 (j := 3) rfl q3 hu hl).mono ?_
  rintro _ h3 ⟨rfl, m3⟩
  refine ⟨true, rfl, bcase_true rfl ?_⟩
  obtain ⟨k1, k2, -⟩ := bts_src (hb2.le hle)
  refine (sameBytes_c (m3.wsrc k1) k2 (m3.wsrc hw4) rfl (by omega)).ret ⟨true, ?_, hP _ ⟨W2, xs', mvs1, hgr.trans (Grs.le hle), hg, (back W2 h3 _ (Wd.le.refl W2) m3).drop.drop⟩⟩
  rw [decide_eq_true rfl]
theorem duoD_c {Post : Value → Heap → Prop} (hE : Snt5 W) (s : Bo W h b T bx Tx size xs mvs G) (hg : ∀ x ∈ xs, SesG x) (hb : Bts W (.slice a n c) bs) (hx : ∀ x ∈ bs, 0 ≤ x ∧ x < 256) (hl : bs.length ≤ 160000) (agg : Bool)
    (hP : ∀ h', HeV W b T bx Tx size mvs G h' → Post (.bool true) h') :
    Runs Tryz.prog 18 #[.pointer (some ⟨b, 0, none⟩), .bool agg, .slice a n c] h fun r1 h1 => ∃ (s1 : Option Addr) (s1l s1c : Nat), ∃ (s2 : Option Addr) (s2l s2c : Nat), r1 = .tuple #[.slice s1 s1l s1c, .slice s2 s2l s2c] ∧
      Runs Tryz.prog 30 #[.pointer (some ⟨bx, 0, none⟩), .bool agg, .slice a n c] h1 fun r2 h2 => ∃ (s3 : Option Addr) (s3l s3c : Nat), ∃ (s4 : Option Addr) (s4l s4c : Nat), r2 = .tuple #[.slice s3 s3l s3c, .slice s4 s4l s4c] ∧
      Runs Tryz.prog 27 #[.slice s1 s1l s1c, .slice s3 s3l s3c] h2 fun r3 h3 => ∃ t1 : Bool, r3 = .bool t1 ∧
      bcase t1 (Runs Tryz.prog 31 #[.slice s2 s2l s2c, .slice s4 s4l s4c] h3 fun r4 h4 => ∃ t2 : Bool, r4 = .bool t2 ∧ Post (.bool t2) h4) (Post (.bool false) h3) := by
  have hp := parts_le (agg := agg) hl
  have hby := partsOf_by (agg := agg) hx
  have l1 : xs.length = 8 := by obtain ⟨_, -, -, s⟩ := s; exact s.l1
  have hd : DstG (Dst.mk xs [] (-1)) 0 := ⟨l1, hg, by have := kepts_le hg; rw [l1] at this; simp; omega, by show (-1 : Int) ≤ -1; decide, by show (-1 : Int) ≤ 7; decide⟩
  have hd2 := DstG.alls (l := partsOf agg bs) hd fun p hp => (hby p hp).1
  have hul := hd2.u
  refine duo_c s (fun G' s' => sdata_c hE s' hg hb hx (by omega) agg hp) (fun W1 h1 G' hc r => rdata_c r hg (bts_cl hc hb) hx (by omega) agg hp) hd2.g (all_ok hd UpOk.nil fun p hp => (hby p hp).1) (by omega) ?_ hP
  unfold ackOf
  split
  · exact Nat.zero_le _
  · rw [ackB_len rfl rfl]; decide
theorem duoO_c {Post : Value → Heap → Prop} (hE : Snt5 W) (s : Bo W h b T bx Tx size xs mvs G) (hg : ∀ x ∈ xs, SesG x) (hs : 1 ≤ size ∧ size ≤ 64) (hb : Bts W (.slice a n c) bs) (hx : ∀ x ∈ bs, 0 ≤ x ∧ x < 256)
    (hP : ∀ h', HeV W b T bx Tx size mvs G h' → Post (.bool true) h') :
    Runs Tryz.prog 32 #[.pointer (some ⟨b, 0, none⟩), .slice a n c] h fun r1 h1 => ∃ (s1 : Option Addr) (s1l s1c : Nat), ∃ (s2 : Option Addr) (s2l s2c : Nat), r1 = .tuple #[.slice s1 s1l s1c, .slice s2 s2l s2c] ∧
      Runs Tryz.prog 33 #[.pointer (some ⟨bx, 0, none⟩), .slice a n c] h1 fun r2 h2 => ∃ (s3 : Option Addr) (s3l s3c : Nat), ∃ (s4 : Option Addr) (s4l s4c : Nat), r2 = .tuple #[.slice s3 s3l s3c, .slice s4 s4l s4c] ∧
      Runs Tryz.prog 27 #[.slice s1 s1l s1c, .slice s3 s3l s3c] h2 fun r3 h3 => ∃ t1 : Bool, r3 = .bool t1 ∧
      bcase t1 (Runs Tryz.prog 31 #[.slice s2 s2l s2c, .slice s4 s4l s4c] h3 fun r4 h4 => ∃ t2 : Bool, r4 = .bool t2 ∧ Post (.bool t2) h4) (Post (.bool false) h3) := by
  obtain ⟨k1, k2, k3, k4⟩ := oth_g (xs := xs) (bs := bs) hg hs hx
  refine duo_c s (fun G' s' => sother_c hE s' hg hs hb hx) (fun W1 h1 G' hc r => rother_c r hg hs (bts_cl hc hb) hx) k2 k3 (by omega) ?_ hP
  have hA : ∀ (t : Int) (x y : Int), (ackB bssL meL t x y).length ≤ 1000000 := fun t x y => by rw [ackB_len rfl rfl]; decide
  unfold oth
  split
  · split
    · exact hA _ _ _
    · exact Nat.zero_le _
  · split
    · split
      · show (addGB bssL meL bssL true _ _ _ 0 0 0).length ≤ 1000000
        simp [addGB, headB, w2, meL, bssL]
      · exact Nat.zero_le _
    · split <;> exact Nat.zero_le _
theorem duoL_c {Post : Value → Heap → Prop} (s : Bo W h b T bx Tx size xs mvs G) (hg : ∀ x ∈ xs, SesG x) (hP : ∀ h', HeV W b T bx Tx size mvs G h' → Post (.bool true) h') :
    Runs Tryz.prog 28 #[.pointer (some ⟨b, 0, none⟩)] h fun r1 h1 => ∃ (s1 : Option Addr) (s1l s1c : Nat), r1 = .slice s1 s1l s1c ∧
      Runs Tryz.prog 29 #[.pointer (some ⟨bx, 0, none⟩)] h1 fun r2 h2 => ∃ (s3 : Option Addr) (s3l s3c : Nat), r2 = .slice s3 s3l s3c ∧
      Runs Tryz.prog 27 #[.slice s1 s1l s1c, .slice s3 s3l s3c] h2 fun r3 h3 => ∃ t1 : Bool, r3 = .bool t1 ∧ Post (.bool t1) h3 := by
  obtain ⟨ps, p1, p2, s⟩ := s
  have l1 := s.l1
  have hll := leaveP_len hg
  rw [l1] at hll
  refine (sleave_c s hg).mono ?_
  clear s
  rintro _ h1 ⟨W1, mvs1, a1, c1, U, us, hgr, o1, q1, s1, rfl⟩
  refine ⟨_, _, _, rfl, ?_⟩
  have r1 := bo_mid l1 p1 p2 hgr.c s1
  refine (rleaveS_c r1 hg).mono ?_
  clear r1
  rintro _ h2 ⟨W2, a3, c3, V, us2, hle, o3, q3, r3, rfl⟩
  refine ⟨_, _, _, rfl, ?_⟩
  have s3 := bo_fin s1.l1 s1.l2 s1.ok hle r3
  clear r3
  obtain ⟨A, B, C, m, back⟩ := s3.opn
  refine (sameFs_c m o1 (i := 4) rfl (q1.mono fun f cs hv => hv.le hle) o3 (j := 3) rfl q3 (leaveP_ok hg) (by omega)).mono ?_
  rintro _ h3 ⟨rfl, m3⟩
  exact ⟨true, rfl, hP _ ⟨W2, _, mvs1, hgr.trans (Grs.le hle), fun x hx => by rw [List.eq_of_mem_replicate hx]; exact ses0_g, (back W2 h3 _ (Wd.le.refl W2) m3).drop.drop⟩⟩
end
end Go.Proofs.YtepodifionoigaaGreatDoor
