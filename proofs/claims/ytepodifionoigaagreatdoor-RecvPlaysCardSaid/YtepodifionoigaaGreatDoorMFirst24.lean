import Derived.Test.YtepodifionoigaaGreatDoorGenAll2
import Derived.Test.YtepodifionoigaaGreatDoorMNum
import Derived.Test.YtepodifionoigaaGreatDoorMRecv2
import Derived.Test.YtepodifionoigaaGreatDoorPlB
set_option linter.unusedVariables false
set_option linter.unusedSimpArgs false
namespace Go.Proofs.YtepodifionoigaaGreatDoor
open Go.Vc
def errG : List Nat := [1, 3, 0, 5, 2, 4, 6, 7, 8, 9, 10, 11, 12, 13]
structure Snt (W : Wd) (ads : List Addr) : Prop where
  n : ads.length = 14
  nd : ads.Nodup
  v : ∀ (i : Nat) (a : Addr) (g : Nat), ads[i]? = some a → errG[i]? = some g → wcell W g 0 = some (ptE a)
  pl : ∀ a ∈ ads, ∃ c t, W a.block = some (.cells c t (0, 0))
abbrev Er := Option Nat
def erV (ads : List Addr) : Er → Value
  | none => .nilIface
  | some i => match ads[i]? with | some a => ptE a | none => .nilIface
def erC : Er → Int
  | none => 0
  | some i => 101 + i
section
variable {W W' : Wd} {h h' : Heap} {G : List Grp} {ads : List Addr} {a b : Addr} {i j : Nat} {e : Er} {c : Bool}
theorem Snt.le (hl : W.le W') (s : Snt W ads) : Snt W' ads :=
  ⟨s.n, s.nd, fun i a g h1 h2 => wcell_le hl (s.v i a g h1 h2), fun a ha => by obtain ⟨c, t, h⟩ := s.pl a ha; exact ⟨c, t, hl _ _ h⟩⟩
theorem Snt.get (s : Snt W ads) (hi : i < 14) : ∃ a, ads[i]? = some a ∧ erV ads (some i) = ptE a := by
  have hlt : i < ads.length := by rw [s.n]; exact hi
  refine ⟨ads[i], List.getElem?_eq_getElem hlt, ?_⟩
  unfold erV; dsimp only; rw [List.getElem?_eq_getElem hlt]
theorem Snt.plain (s : Snt W ads) (m : Me W h G) (hi : ads[i]? = some a) : plainB h a.block = true := by
  obtain ⟨c, t, e⟩ := s.pl a (List.mem_of_getElem? hi)
  unfold plainB
  rw [m.keep _ _ e]
  rfl
theorem Snt.inj (s : Snt W ads) (hi : ads[i]? = some a) (hj : ads[j]? = some a) : i = j := by
  obtain ⟨h1, e1⟩ := List.getElem?_eq_some_iff.1 hi
  obtain ⟨h2, e2⟩ := List.getElem?_eq_some_iff.1 hj
  have hp := List.pairwise_iff_getElem.1 s.nd
  rcases Nat.lt_trichotomy i j with h | h | h
  · exact absurd (e1.trans e2.symm) (hp i j h1 h2 h)
  · exact h
  · exact absurd (e2.trans e1.symm) (hp j i h2 h1 h)
theorem Snt.var (s : Snt W ads) (m : Me W h G) {g : Nat} (hg : errG[i]? = some g) (hi : i < 14) : cell h g 0 = some (erV ads (some i)) := by
  obtain ⟨a, h1, h2⟩ := s.get hi
  rw [h2]; exact m.wcell (s.v i a g h1 hg)
theorem ifeqH_nil : ifeqH Tryz.prog h true .nilIface .nilIface = some true := rfl
theorem ptE_ok : ptrOk Tryz.prog 192 = true := by kernel_rfl
theorem ifeqH_pt : ifeqH Tryz.prog h c (ptE a) (ptE b) = sameA h a b := by
  unfold ifeqH ptE
  simp only [Nat.beq_refl, ptE_ok]
theorem Snt.same (s : Snt W ads) (m : Me W h G) (hi : ads[i]? = some a) (hj : ads[j]? = some b) : ifeqH Tryz.prog h c (ptE a) (ptE b) = some (decide (i = j)) := by
  rw [ifeqH_pt]
  unfold sameA
  by_cases hab : a = b
  · subst hab
    rw [if_pos rfl, s.inj hi hj]
    simp
  · rw [if_neg hab, s.plain m hi, s.plain m hj]
    have : i ≠ j := fun e => by subst e; rw [hi] at hj; exact hab (Option.some.inj hj)
    simp [this]
theorem asr_at : asr Tryz.prog 138 (ptE a) = some (.pointer none, false) := by kernel_rfl
theorem alike_c (s : Snt W ads) (m : Me W h G) (hi : ads[i]? = some a) (hj : ads[j]? = some b) : Runs Tryz.prog 107 #[ptE a, ptE b] h fun v h' => v = .bool (decide (i = j)) ∧ h' = h := by
  refine vc_muezzinsee_Alike _ _ _ _ ⟨_, ifeqH_nilR, bcase_false rfl ⟨_, ifeqH_nilR, bcase_false rfl ⟨_, s.same m hi hj, rfl, rfl⟩⟩⟩
theorem sentinels_c (s : Snt W ads) (m : Me W h G) : Runs Tryz.prog 106 #[] h fun v h' => ∃ b T, v = .slice (some ⟨b, 0, none⟩) 14 14 ∧ Me W h' ([(b, ads.map ptE, T)] :: G) := by
  have hv := fun (i : Nat) (a : Addr) (g : Nat) h1 h2 => m.wcell (s.v i a g h1 h2)
  obtain ⟨a0, a1, a2, a3, a4, a5, a6, a7, a8, a9, a10, a11, a12, a13, rfl⟩ : ∃ a0 a1 a2 a3 a4 a5 a6 a7 a8 a9 a10 a11 a12 a13, ads = [a0, a1, a2, a3, a4, a5, a6, a7, a8, a9, a10, a11, a12, a13] := by
    have hn := s.n
    match ads, hn with
    | [a0, a1, a2, a3, a4, a5, a6, a7, a8, a9, a10, a11, a12, a13], _ => exact ⟨_, _, _, _, _, _, _, _, _, _, _, _, _, _, rfl⟩
  refine vc_muezzinsee_sentinels _ _ ⟨_, hv 0 _ _ rfl rfl, _, hv 1 _ _ rfl rfl, _, hv 2 _ _ rfl rfl, _, hv 3 _ _ rfl rfl, _, hv 4 _ _ rfl rfl, _, hv 5 _ _ rfl rfl, _, hv 6 _ _ rfl rfl, _, hv 7 _ _ rfl rfl, _, hv 8 _ _ rfl rfl, _, hv 9 _ _ rfl rfl, _, hv 10 _ _ rfl rfl, _, hv 11 _ _ rfl rfl, _, hv 12 _ _ rfl rfl, _, hv 13 _ _ rfl rfl, ?_⟩
  intro b1 h1 e1 e2
  exact ⟨b1, _, rfl, m.push e2 e1⟩
theorem sentinel_c (s : Snt W ads) (m : Me W h G) (hi : i < 14) : Runs Tryz.prog 81 #[erV ads (some i)] h fun v h' => v = .int .i64 (101 + (i : Int)) ∧ Me W h' G := by
  obtain ⟨a, ha, e⟩ := s.get hi
  rw [e]
  refine vc_muezzinsee_sentinel _ _ _ ((sentinels_c s m).mono ?_)
  rintro _ h1 ⟨b, T, rfl, m⟩
  refine ⟨_, _, _, rfl, fun x h' => ∃ k : Nat, x = k ∧ k ≤ i ∧ Me W h' ([(b, ads.map ptE, T)] :: G), fun x _ => (14 - x).toNat, ⟨0, rfl, by omega, m⟩, fun _ => ?_⟩
  clear m
  rintro _ h2 ⟨k, rfl, hk, m⟩
  obtain ⟨c, hc, _⟩ := s.get (i := k) (by omega)
  refine dcase_pos (by omega) ⟨⟨by omega, by omega⟩, _, m.cell 0 rfl (v := ptE c) (by simp [hc]), ?_⟩
  refine (alike_c s m ha hc).mono ?_
  rintro _ h3 ⟨rfl, rfl⟩
  refine ⟨_, rfl, dcase_intro (fun q => ?_) fun q => ?_⟩
  · subst q
    exact ⟨by simp only [fits]; omega, rfl, m.drop1⟩
  · exact ⟨by simp only [fits]; omega, ⟨k + 1, by omega, by omega, m⟩, by (try dsimp only); omega⟩
theorem bare_c (m : Me W h G) (n : Int) : Runs Tryz.prog 21 #[.int .i64 n] h fun v h' => v = .agg #[.int .i64 n, .bool false, .int .i64 0] ∧ Me W h' G := by
  refine vc_muezzinref_Bare _ _ _ ?_
  (intro bN hN1 eN1 eN2; replace m := m.push eN2 eN1; clear eN1 eN2)
  refine ⟨⟨rfl, m.wrsb 0 rfl rfl, by simp [Value.oneCell']⟩, ?_⟩
  intro h2 e3
  replace m := m.setr 0 rfl e3
  exact ⟨_, m.rowb 0 rfl rfl rfl, rfl, m.drop1⟩
theorem noneF_c (m : Me W h G) : Runs Tryz.prog 80 #[] h fun v h' => v = .agg #[.int .i64 0, .bool false, .int .i64 0] ∧ Me W h' G := by
  refine vc_muezzinref_None _ _ ?_
  (intro bN hN1 eN1 eN2; replace m := m.push eN2 eN1; clear eN1 eN2)
  refine ⟨⟨rfl, m.wrsb 0 rfl rfl, by simp [Value.oneCell']⟩, ?_⟩
  intro h2 e3
  replace m := m.setr 0 rfl e3
  exact ⟨_, m.rowb 0 rfl rfl rfl, rfl, m.drop1⟩
theorem fault_c (s : Snt W ads) (m : Me W h G) (he : ∀ i, e = some i → i < 14) : Runs Tryz.prog 42 #[erV ads e] h fun v h' => v = .agg #[.int .i64 (erC e), .bool false, .int .i64 0] ∧ Me W h' G := by
  refine vc_muezzinsee_Fault _ _ _ ?_
  (intro bN hN1 eN1 eN2; replace m := m.push eN2 eN1; clear eN1 eN2)
  cases e with
  | none =>
    refine ⟨_, ifeqH_nil, bcase_true rfl ((noneF_c m).mono ?_)⟩
    rintro _ h2 ⟨rfl, m⟩
    refine ⟨[.int .i64 0, .bool false, .int .i64 0], rfl, ⟨rfl, m.wrsb 0 rfl rfl, by simp [Value.oneCell']⟩, ?_⟩
    intro h3 e3
    replace m := m.setr 0 rfl e3
    exact ⟨_, m.rowb 0 rfl rfl rfl, rfl, m.drop1⟩
  | some i =>
    have hi := he i rfl
    obtain ⟨a, ha, e1⟩ := s.get hi
    have hn : ifeqH Tryz.prog hN1 true (erV ads (some i)) .nilIface = some false := by rw [e1]; exact ifeqH_nilR
    refine ⟨_, hn, bcase_false rfl ⟨none, false, by rw [e1]; exact asr_at, bcase_true rfl ((sentinel_c s m hi).mono ?_)⟩⟩
    rintro _ h2 ⟨rfl, m⟩
    refine ⟨_, rfl, (bare_c m _).mono ?_⟩
    rintro _ h3 ⟨rfl, m⟩
    refine ⟨[.int .i64 (101 + (i : Int)), .bool false, .int .i64 0], rfl, ⟨rfl, m.wrsb 0 rfl rfl, by simp [Value.oneCell']⟩, ?_⟩
    intro h4 e3
    replace m := m.setr 0 rfl e3
    exact ⟨_, m.rowb 0 rfl rfl rfl, rfl, m.drop1⟩
theorem sameFault_c (m : Me W h G) (x y : Int) : Runs Tryz.prog 41 #[.agg #[.int .i64 x, .bool false, .int .i64 0], .agg #[.int .i64 y, .bool false, .int .i64 0]] h fun v h' => v = .bool (decide (x = y)) ∧ Me W h' G := by
  refine vc_muezzinref_SameFault [.int .i64 x, .bool false, .int .i64 0] [.int .i64 y, .bool false, .int .i64 0] _ _ ?_
  intro b1 h1 e1 e2 b2 h2 e3 e4
  replace m := (m.push e2 e1).push e4 e3
  refine ⟨_, m.cell 1 rfl rfl, _, m.cell 0 rfl rfl, dcase_intro (fun q => ?_) fun q => ⟨by simp [q], m.drop1.drop1⟩⟩
  refine ⟨_, m.cell 1 rfl rfl, _, m.cell 0 rfl rfl, bcase_true rfl ⟨_, m.cell 1 rfl rfl, _, m.cell 0 rfl rfl, by simp [q], m.drop1.drop1⟩⟩
theorem is_c (s : Snt W ads) (m : Me W h G) (he : ∀ i, e = some i → i < 14) (n : Int) : Runs Tryz.prog 8 #[erV ads e, .int .i64 n] h fun v h' => v = .bool (decide (erC e = n)) ∧ Me W h' G := by
  refine vc_muezzinsee_Is _ _ _ _ ((bare_c m n).mono ?_)
  rintro _ h1 ⟨rfl, m⟩
  refine ⟨[.int .i64 n, .bool false, .int .i64 0], rfl, vc_muezzinsee_Same _ _ _ _ ?_⟩
  (intro bN hN1 eN1 eN2; replace m := m.push eN2 eN1; clear eN1 eN2)
  refine ⟨_, m.rowb 0 rfl rfl rfl, (fault_c s m he).mono ?_⟩
  rintro _ h2 ⟨rfl, m⟩
  refine ⟨[.int .i64 (erC e), .bool false, .int .i64 0], rfl, m.rowb 0 rfl rfl rfl, (sameFault_c m _ _).mono ?_⟩
  rintro _ h3 ⟨rfl, m⟩
  exact ⟨_, rfl, _, rfl, rfl, m.drop1⟩
end
theorem Snt.five {W : Wd} {ads : List Addr} (s : Snt W ads) : Snt5 W := by
  intro g hg
  have k : ∀ i, errG[i]? = some g → ∃ a, wcell W g 0 = some (ptE a) := fun i hi => by
    have hl : i < ads.length := by
      rw [s.n]
      have := (List.getElem?_eq_some_iff.1 hi).1
      exact this
    exact ⟨ads[i], s.v i _ g (List.getElem?_eq_getElem hl) hi⟩
  unfold errG5 at hg
  simp only [List.mem_cons, List.not_mem_nil, or_false] at hg
  rcases hg with rfl | rfl | rfl | rfl | rfl
  · exact k 0 rfl
  · exact k 1 rfl
  · exact k 2 rfl
  · exact k 4 rfl
  · exact k 5 rfl
theorem snt_of_laid {W : World} {laid : List (String × DataW Unit)} (l : List (String × List UInt8)) (hl : laid = l.map mkE) (hp : ∀ w, laidMetH Tryz.prog laid w = laidMet Tryz.prog laid w) (ht : errTied l = true) (hn : l.map (fun x => Tryz.prog.globalNamed x.1) = errG.map some) (h : laidMetH Tryz.prog laid W) :
    ∃ ads, Snt (Wd.of W.heap) ads := by
  rw [hp] at h
  obtain ⟨ps, h1, h2, h3⟩ := h
  rw [hl] at h1
  obtain ⟨ads, k1, k2, k3, k4⟩ := laid_list l ps ht h1 h2 h3
  have hlen : l.length = 14 := by
    have := congrArg List.length hn
    simpa [errG] using this
  refine ⟨ads, by rw [k1, hlen], k2, fun i a g hi hg => ?_, fun a ha => (k4 a ha).1⟩
  have hi' : i < l.length := by rw [← k1]; exact (List.getElem?_eq_some_iff.1 hi).1
  have e : (l.map (fun x => Tryz.prog.globalNamed x.1))[i]? = (errG.map some)[i]? := by rw [hn]
  rw [List.getElem?_map, List.getElem?_map, hg, List.getElem?_eq_getElem hi'] at e
  exact k3 i _ a g (List.getElem?_eq_getElem hi') hi (by simpa using e)
end Go.Proofs.YtepodifionoigaaGreatDoor
set_option linter.unusedVariables false
set_option linter.unusedSimpArgs false
set_option maxRecDepth 8000
namespace Go.Proofs.YtepodifionoigaaGreatDoor
open Go.Vc
section
variable {W W' W1 : Wd} {h h' : Heap} {b t j n c i b1 l : Nat} {a : Option Addr} {T T1 : TypeId} {size : Int} {css : List (List Value)} {cs us vs : List Value} {G G' : List Grp} {v : Value} {x : Ses} {xs : List Ses} {mv : Option Nat} {mv2 mvs : List (Option Nat)} {f : Fm} {E A : Grp} {bs : List Int} {ads : List Addr}
theorem bts_one {b : Nat} {T : TypeId} {i : Int} (m : Me W h ([(b, [.int .u8 i], T)] :: G)) : ∃ W', W.le W' ∧ Me W' h G ∧ Bts W' (.slice (some ⟨b, 0, none⟩) 1 1) [i] :=
  ow_give (l := [i]) (Ow.fresh0 rfl) m
theorem rnewS_c (m : Me W h G) (hs : 1 ≤ size ∧ size ≤ 64) : Runs Tryz.prog 5 #[.agg (ints .u8 meL).toArray, .agg (ints .u8 bssL).toArray, .int .i64 size] h fun v h' => ∃ b T, v = .tuple #[.pointer (some ⟨b, 0, none⟩), .nilIface] ∧ S8 W h' b T size (List.replicate 8 ses0) (List.replicate 8 none) G := by
  refine (rnew_c m hs).mono ?_
  rintro _ h' ⟨b, T, rfl, hh⟩
  have s0 := (hh 0 (by decide)).m
  refine ⟨b, T, rfl, rfl, rfl, ⟨fun i x mv e1 e2 => ?_, fun i j r e1 e2 => ?_⟩, s0⟩
  · rw [List.getElem?_replicate] at e1 e2
    split at e1
    · rename_i hi
      rw [if_pos hi] at e2
      cases e1; cases e2
      exact ⟨rfl, fun q => by cases q⟩
    · cases e1
  · rw [List.getElem?_replicate] at e1
    split at e1 <;> cases e1
theorem rnewE_c (hE : Snt W ads) (m : Me W h G) (hs : ¬ (1 ≤ size ∧ size ≤ 64)) : Runs Tryz.prog 5 #[.agg (ints .u8 meL).toArray, .agg (ints .u8 bssL).toArray, .int .i64 size] h fun v h' => v = .tuple #[.pointer none, erV ads (some 2)] ∧ Me W h' G := by
  refine vc_recv_New _ _ _ _ _ ?_
  intro b1 h1 e1 e2 b2 h2 f1 f2
  have m2 := (m.push e2 e1).push f2 f1
  have hv := hE.var m2 (i := 2) (g := 0) rfl (by decide)
  refine dcase_intro (fun q => ⟨_, hv, rfl, m2.drop1.drop1⟩) fun q => dcase_intro (fun q2 => ⟨_, hv, rfl, m2.drop1.drop1⟩) fun q2 => ?_
  exact absurd ⟨by omega, by omega⟩ hs
theorem first24_c (hE : Snt5 W) (m : Me W h G) : Runs Tryz.prog 4 #[] h fun v h' => v = .bool true ∧ ∃ W', W.le W' ∧ Me W' h' G := by
  refine vc_muezzinlaw24_first _ _ ?_
  refine (me_c m).mono ?_
  rintro _ h1 ⟨rfl, m⟩
  refine ⟨_, rfl, (bss_c m).mono ?_⟩
  rintro _ h2 ⟨rfl, m⟩
  refine ⟨_, rfl, (rnewS_c m (by decide)).mono ?_⟩
  rintro _ h3 ⟨b, T, rfl, s⟩
  have hg0 : ∀ x ∈ List.replicate 8 ses0, SesG x := fun x hx => by rw [List.eq_of_mem_replicate hx]; exact ses0_g
  refine ⟨_, _, rfl, bcase_false rfl ⟨true, rfl, bcase_false rfl ?_⟩⟩
  refine (sdata_c hE s hg0 (Bts.nil (W := W)) (fun x hx => by cases hx) (by decide) false (by decide)).mono ?_
  rintro _ h4 ⟨W4, mvs4, a4, c4, U4, us4, w4, hgr4, o4, q4, s4, rfl, a5, c5, rfl, hc5, hw5⟩
  refine ⟨_, _, _, _, _, _, rfl, ?_⟩
  have e4 : ((Dst.mk (List.replicate 8 ses0) [] (-1)).all (partsOf false [])).xs = List.replicate 8 ses0 := rfl
  rw [e4] at s4
  intro b1 h5 e1 e2
  have s5 := s4.push e1 e2
  obtain ⟨W6, hle6, m6, hb6⟩ := bts_one (me_swap s5.m)
  have s6 := s4.mem hle6 m6
  clear s4 s5
  refine (data2_c (tid := 0) s6.m hb6 (by decide)).mono ?_
  rintro _ h7 ⟨W7, a7, c7, hle7, rfl, m7, hb7⟩
  have s7 := s6.mem hle7 m7
  clear s6
  refine ⟨_, _, _, rfl, ?_⟩
  have hE7 : Snt5 W7 := hE.cl fun b o v hv => cl_le hle7 b o v (cl_le hle6 b o v (hgr4.c b o v hv))
  refine (sdata_c hE7 s7 hg0 hb7 (dfm_by (by decide) (by decide) (by decide) (by decide)).1 (by decide) false (by decide)).mono ?_
  rintro _ h8 ⟨W8, mvs8, a8, c8, U8, us8, w8, hgr8, o8, q8, s8, rfl, a9, c9, rfl, hc9, hw9⟩
  refine ⟨_, _, _, _, _, _, rfl, dcase_pos (by decide) (dcase_pos (by decide) (dcase_pos (by decide) (dcase_pos (by decide) ?_)))⟩
  obtain ⟨css, mv, hm, st, -⟩ := s8.at (t := 0) (x := (ses0.take (dfm 0 3 false [7])).2) (by kernel_rfl)
  refine (got_c st 3).ret ⟨_, rfl, ?_⟩
  have hgr : Grs W (List.replicate 8 none) W8 mvs8 := ((hgr4.trans (Grs.le hle6)).trans (Grs.le hle7)).trans hgr8
  exact ⟨by kernel_rfl, W8, fun b x e => hgr.g b x (fun hm => by rw [List.mem_replicate] at hm; cases hm.2) e, s8.drop.drop.m.drop1⟩
end
end Go.Proofs.YtepodifionoigaaGreatDoor
