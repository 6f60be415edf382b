/- Errors: the sentinels of package api in memory; what muezzinsee tells of an error. -/
import Derived.Test.YtcefbgcgldagfaaGreatDoorGenSee
import Derived.Test.YtcefbgcgldagfaaGreatDoorOwn
set_option linter.unusedVariables false
set_option linter.unusedSimpArgs false
namespace Go.Proofs.YtcefbgcgldagfaaGreatDoor
open Go.Vc
/-- The variables of api's errors, in order. -/
def errG : List Nat := [8, 7, 1, 9, 5, 11, 0, 2, 4, 3, 6, 10, 12, 13]
def ptE (a : Addr) : Value := .iface 462 (.pointer (some a))
structure Snt (W : Wd) (ads : List Addr) : Prop where
  n : ads.length = 14
  nd : ads.Nodup
  v : ∀ (i : Nat) (a : Addr) (g : Nat), ads[i]? = some a → errG[i]? = some g → wcell W g 0 = some (ptE a)
  pl : ∀ a ∈ ads, ∃ c t, W a.block = some (.cells c t (0, 0))
/-- An error: none, or one of the sentinels. -/
abbrev Er := Option Nat
def erV (ads : List Addr) : Er → Value
  | none => .nilIface
  | some i => match ads[i]? with | some a => ptE a | none => .nilIface
def erC : Er → Int
  | none => 0
  | some i => 101 + i
section
variable {W W' : Wd} {h h' : Heap} {G : List Grp} {ads : List Addr} {a b : Addr} {i j : Nat} {e : Er} {c : Bool}
theorem Snt.le (hl : W.le W') (s : Snt W ads) : Snt W' ads :=
  ⟨s.n, s.nd, fun i a g h1 h2 => wcell_le hl (s.v i a g h1 h2), fun a ha => by obtain ⟨c, t, h⟩ := s.pl a ha; exact ⟨c, t, hl _ _ h⟩⟩
theorem Snt.get (s : Snt W ads) (hi : i < 14) : ∃ a, ads[i]? = some a ∧ erV ads (some i) = ptE a := by
  have hlt : i < ads.length := by rw [s.n]; exact hi
  refine ⟨ads[i], List.getElem?_eq_getElem hlt, ?_⟩
  unfold erV; dsimp only; rw [List.getElem?_eq_getElem hlt]
theorem Snt.plain (s : Snt W ads) (m : Me W h G) (hi : ads[i]? = some a) : plainB h a.block = true := by
  obtain ⟨c, t, e⟩ := s.pl a (List.mem_of_getElem? hi)
  unfold plainB
  rw [m.keep _ _ e]
  rfl
theorem Snt.inj (s : Snt W ads) (hi : ads[i]? = some a) (hj : ads[j]? = some a) : i = j := by
  obtain ⟨h1, e1⟩ := List.getElem?_eq_some_iff.1 hi
  obtain ⟨h2, e2⟩ := List.getElem?_eq_some_iff.1 hj
  have hp := List.pairwise_iff_getElem.1 s.nd
  rcases Nat.lt_trichotomy i j with h | h | h
  · exact absurd (e1.trans e2.symm) (hp i j h1 h2 h)
  · exact h
  · exact absurd (e2.trans e1.symm) (hp j i h2 h1 h)
/-- The variable of a sentinel, read. -/
theorem Snt.var (s : Snt W ads) (m : Me W h G) {g : Nat} (hg : errG[i]? = some g) (hi : i < 14) : cell h g 0 = some (erV ads (some i)) := by
  obtain ⟨a, h1, h2⟩ := s.get hi
  rw [h2]; exact m.wcell (s.v i a g h1 hg)
theorem ifeqH_nilR : ifeqH Tryz.prog h c (ptE a) .nilIface = some false := rfl
theorem ifeqH_nilL : ifeqH Tryz.prog h c .nilIface (ptE a) = some false := rfl
theorem ifeqH_nil : ifeqH Tryz.prog h true .nilIface .nilIface = some true := rfl
theorem ptE_ok : ptrOk Tryz.prog 462 = true := by kernel_rfl
theorem ifeqH_pt : ifeqH Tryz.prog h c (ptE a) (ptE b) = sameA h a b := by
  unfold ifeqH ptE
  simp only [Nat.beq_refl, ptE_ok]
theorem Snt.same (s : Snt W ads) (m : Me W h G) (hi : ads[i]? = some a) (hj : ads[j]? = some b) : ifeqH Tryz.prog h c (ptE a) (ptE b) = some (decide (i = j)) := by
  rw [ifeqH_pt]
  unfold sameA
  by_cases hab : a = b
  · subst hab
    rw [if_pos rfl, s.inj hi hj]
    simp
  · rw [if_neg hab, s.plain m hi, s.plain m hj]
    have : i ≠ j := fun e => by subst e; rw [hi] at hj; exact hab (Option.some.inj hj)
    simp [this]
theorem asr_at : asr Tryz.prog 317 (ptE a) = some (.pointer none, false) := by kernel_rfl
theorem alike_c (s : Snt W ads) (m : Me W h G) (hi : ads[i]? = some a) (hj : ads[j]? = some b) : Runs Tryz.prog 292 #[ptE a, ptE b] h fun v h' => v = .bool (decide (i = j)) ∧ h' = h := by
  refine vc_muezzinsee_Alike _ _ _ _ ⟨_, ifeqH_nilR, bcase_false rfl ⟨_, ifeqH_nilR, bcase_false rfl ⟨_, s.same m hi hj, rfl, rfl⟩⟩⟩
theorem sentinels_c (s : Snt W ads) (m : Me W h G) : Runs Tryz.prog 291 #[] h fun v h' => ∃ b T, v = .slice (some ⟨b, 0, none⟩) 14 14 ∧ Me W h' ([(b, ads.map ptE, T)] :: G) := by
  have hv := fun (i : Nat) (a : Addr) (g : Nat) h1 h2 => m.wcell (s.v i a g h1 h2)
  obtain ⟨a0, a1, a2, a3, a4, a5, a6, a7, a8, a9, a10, a11, a12, a13, rfl⟩ : ∃ a0 a1 a2 a3 a4 a5 a6 a7 a8 a9 a10 a11 a12 a13, ads = [a0, a1, a2, a3, a4, a5, a6, a7, a8, a9, a10, a11, a12, a13] := by
    have hn := s.n
    match ads, hn with
    | [a0, a1, a2, a3, a4, a5, a6, a7, a8, a9, a10, a11, a12, a13], _ => exact ⟨_, _, _, _, _, _, _, _, _, _, _, _, _, _, rfl⟩
  refine vc_muezzinsee_sentinels _ _ ⟨_, hv 0 _ _ rfl rfl, _, hv 1 _ _ rfl rfl, _, hv 2 _ _ rfl rfl, _, hv 3 _ _ rfl rfl, _, hv 4 _ _ rfl rfl, _, hv 5 _ _ rfl rfl, _, hv 6 _ _ rfl rfl, _, hv 7 _ _ rfl rfl, _, hv 8 _ _ rfl rfl, _, hv 9 _ _ rfl rfl, _, hv 10 _ _ rfl rfl, _, hv 11 _ _ rfl rfl, _, hv 12 _ _ rfl rfl, _, hv 13 _ _ rfl rfl, ?_⟩
  intro b1 h1 e1 e2
  exact ⟨b1, _, rfl, m.push e2 e1⟩
theorem sentinel_c (s : Snt W ads) (m : Me W h G) (hi : i < 14) : Runs Tryz.prog 231 #[erV ads (some i)] h fun v h' => v = .int .i64 (101 + (i : Int)) ∧ Me W h' G := by
  obtain ⟨a, ha, e⟩ := s.get hi
  rw [e]
  refine vc_muezzinsee_sentinel _ _ _ ((sentinels_c s m).mono ?_)
  rintro _ h1 ⟨b, T, rfl, m⟩
  refine ⟨_, _, _, rfl, fun x h' => ∃ k : Nat, x = k ∧ k ≤ i ∧ Me W h' ([(b, ads.map ptE, T)] :: G), fun x _ => (14 - x).toNat, ⟨0, rfl, by omega, m⟩, fun _ => ?_⟩
  clear m
  rintro _ h2 ⟨k, rfl, hk, m⟩
  obtain ⟨c, hc, _⟩ := s.get (i := k) (by omega)
  refine dcase_pos (by omega) ⟨⟨by omega, by omega⟩, _, m.cell 0 rfl (v := ptE c) (by simp [hc]), ?_⟩
  refine (alike_c s m ha hc).mono ?_
  rintro _ h3 ⟨rfl, rfl⟩
  refine ⟨_, rfl, dcase_intro (fun q => ?_) fun q => ?_⟩
  · subst q
    exact ⟨by simp only [fits]; omega, rfl, m.drop1⟩
  · exact ⟨by simp only [fits]; omega, ⟨k + 1, by omega, by omega, m⟩, by (try dsimp only); omega⟩
theorem bare_c (m : Me W h G) (n : Int) : Runs Tryz.prog 66 #[.int .i64 n] h fun v h' => v = .agg #[.int .i64 n, .bool false, .int .i64 0] ∧ Me W h' G := by
  refine vc_muezzinref_Bare _ _ _ ?_
  (intro bN hN1 eN1 eN2; replace m := m.push eN2 eN1; clear eN1 eN2)
  refine ⟨⟨rfl, m.wrsb 0 rfl rfl, by simp [Value.oneCell']⟩, ?_⟩
  intro h2 e3
  replace m := m.setr 0 rfl e3
  exact ⟨_, m.rowb 0 rfl rfl rfl, rfl, m.drop1⟩
theorem noneF_c (m : Me W h G) : Runs Tryz.prog 230 #[] h fun v h' => v = .agg #[.int .i64 0, .bool false, .int .i64 0] ∧ Me W h' G := by
  refine vc_muezzinref_None _ _ ?_
  (intro bN hN1 eN1 eN2; replace m := m.push eN2 eN1; clear eN1 eN2)
  refine ⟨⟨rfl, m.wrsb 0 rfl rfl, by simp [Value.oneCell']⟩, ?_⟩
  intro h2 e3
  replace m := m.setr 0 rfl e3
  exact ⟨_, m.rowb 0 rfl rfl rfl, rfl, m.drop1⟩
theorem fault_c (s : Snt W ads) (m : Me W h G) (he : ∀ i, e = some i → i < 14) : Runs Tryz.prog 140 #[erV ads e] h fun v h' => v = .agg #[.int .i64 (erC e), .bool false, .int .i64 0] ∧ Me W h' G := by
  refine vc_muezzinsee_Fault _ _ _ ?_
  (intro bN hN1 eN1 eN2; replace m := m.push eN2 eN1; clear eN1 eN2)
  cases e with
  | none =>
    refine ⟨_, ifeqH_nil, bcase_true rfl ((noneF_c m).mono ?_)⟩
    rintro _ h2 ⟨rfl, m⟩
    refine ⟨[.int .i64 0, .bool false, .int .i64 0], rfl, ⟨rfl, m.wrsb 0 rfl rfl, by simp [Value.oneCell']⟩, ?_⟩
    intro h3 e3
    replace m := m.setr 0 rfl e3
    exact ⟨_, m.rowb 0 rfl rfl rfl, rfl, m.drop1⟩
  | some i =>
    have hi := he i rfl
    obtain ⟨a, ha, e1⟩ := s.get hi
    have hn : ifeqH Tryz.prog hN1 true (erV ads (some i)) .nilIface = some false := by rw [e1]; exact ifeqH_nilR
    refine ⟨_, hn, bcase_false rfl ⟨none, false, by rw [e1]; exact asr_at, bcase_true rfl ((sentinel_c s m hi).mono ?_)⟩⟩
    rintro _ h2 ⟨rfl, m⟩
    refine ⟨_, rfl, (bare_c m _).mono ?_⟩
    rintro _ h3 ⟨rfl, m⟩
    refine ⟨[.int .i64 (101 + (i : Int)), .bool false, .int .i64 0], rfl, ⟨rfl, m.wrsb 0 rfl rfl, by simp [Value.oneCell']⟩, ?_⟩
    intro h4 e3
    replace m := m.setr 0 rfl e3
    exact ⟨_, m.rowb 0 rfl rfl rfl, rfl, m.drop1⟩
theorem sameFault_c (m : Me W h G) (x y : Int) : Runs Tryz.prog 139 #[.agg #[.int .i64 x, .bool false, .int .i64 0], .agg #[.int .i64 y, .bool false, .int .i64 0]] h fun v h' => v = .bool (decide (x = y)) ∧ Me W h' G := by
  refine vc_muezzinref_SameFault [.int .i64 x, .bool false, .int .i64 0] [.int .i64 y, .bool false, .int .i64 0] _ _ ?_
  intro b1 h1 e1 e2 b2 h2 e3 e4
  replace m := (m.push e2 e1).push e4 e3
  refine ⟨_, m.cell 1 rfl rfl, _, m.cell 0 rfl rfl, dcase_intro (fun q => ?_) fun q => ⟨by simp [q], m.drop1.drop1⟩⟩
  refine ⟨_, m.cell 1 rfl rfl, _, m.cell 0 rfl rfl, bcase_true rfl ⟨_, m.cell 1 rfl rfl, _, m.cell 0 rfl rfl, by simp [q], m.drop1.drop1⟩⟩
/-- Is an error this one? -/
theorem is_c (s : Snt W ads) (m : Me W h G) (he : ∀ i, e = some i → i < 14) (n : Int) : Runs Tryz.prog 24 #[erV ads e, .int .i64 n] h fun v h' => v = .bool (decide (erC e = n)) ∧ Me W h' G := by
  refine vc_muezzinsee_Is _ _ _ _ ((bare_c m n).mono ?_)
  rintro _ h1 ⟨rfl, m⟩
  refine ⟨[.int .i64 n, .bool false, .int .i64 0], rfl, vc_muezzinsee_Same _ _ _ _ ?_⟩
  (intro bN hN1 eN1 eN2; replace m := m.push eN2 eN1; clear eN1 eN2)
  refine ⟨_, m.rowb 0 rfl rfl rfl, (fault_c s m he).mono ?_⟩
  rintro _ h2 ⟨rfl, m⟩
  refine ⟨[.int .i64 (erC e), .bool false, .int .i64 0], rfl, m.rowb 0 rfl rfl rfl, (sameFault_c m _ _).mono ?_⟩
  rintro _ h3 ⟨rfl, m⟩
  exact ⟨_, rfl, _, rfl, rfl, m.drop1⟩
end
end Go.Proofs.YtcefbgcgldagfaaGreatDoor
