/- What is made for an access point: queues, a limit, sessions; whether a transmission opportunity may be. -/
import Derived.Test.YtgjbgcgjcamlgaaGreatDoorCfg
set_option linter.unusedVariables false
set_option linter.unusedSimpArgs false
set_option maxRecDepth 8000
namespace Go.Proofs.YtgjbgcgjcamlgaaGreatDoor
open Go.Vc
section
variable {W W' : Wd} {h h' : Heap} {G : List Grp} {E : Grp} {ads : List Addr} {a : Option Addr} {n c k : Nat} {vs us : List Value} {l : List Int}
/-- The error of a number that may not be. -/
theorem rangeE (s : Snt W ads) (m : Me W h G) : ∃ e, erV ads (some 2) = ptE e ∧ cell h 0 0 = some (ptE e) := by
  obtain ⟨e, h1, h2⟩ := s.get (i := 2) (by decide)
  exact ⟨e, h2, by rw [← h2]; exact s.var m rfl (by decide)⟩
theorem twiceE (s : Snt W ads) (m : Me W h G) : ∃ e, erV ads (some 7) = ptE e ∧ cell h 1 0 = some (ptE e) := by
  obtain ⟨e, h1, h2⟩ := s.get (i := 7) (by decide)
  exact ⟨e, h2, by rw [← h2]; exact s.var m rfl (by decide)⟩
/-- What a pool's cells begin with. -/
def PlC (seed tg iv : Int) (vs : List Value) : Prop := vs.length = 133 ∧ vs[0]? = some (.int .u32 seed) ∧ vs[1]? = some (.int .i64 tg) ∧ vs[2]? = some (.int .i64 iv)
theorem PlC.set {seed tg iv : Int} {v : Value} (p : PlC seed tg iv vs) (hk : 3 ≤ k) : PlC seed tg iv (vs.set k v) := by
  obtain ⟨h1, h2, h3, h4⟩ := p
  refine ⟨by rw [List.length_set]; exact h1, ?_, ?_, ?_⟩
  · rw [List.getElem?_set_ne (by omega)]; exact h2
  · rw [List.getElem?_set_ne (by omega)]; exact h3
  · rw [List.getElem?_set_ne (by omega)]; exact h4
theorem renew_c {b i : Nat} {T : TypeId} {seed tg iv : Int} (m : Me W h ([(b, vs, T)] :: G)) (p : PlC seed tg iv vs) (hi : i < 16) :
    Runs Tryz.prog 59 #[.pointer (some ⟨b, 0, none⟩), .int .i64 (i : Int)] h fun v h' => ∃ vs', PlC seed tg iv vs' ∧ Me W h' ([(b, vs', T)] :: G) := by
  refine vc_pool_Pool_renew _ _ _ _ ⟨fun x h => ∃ (k : Nat) (vs' : List Value), x = k ∧ k ≤ 8 ∧ PlC seed tg iv vs' ∧ Me W h ([(b, vs', T)] :: G), fun x _ => (8 - x).toNat, ⟨0, vs, rfl, by omega, p, m⟩, fun _ => ?_⟩
  rintro _ h1 ⟨k, vs', rfl, hk, p, m⟩
  refine dcase_intro (fun q => ?_) fun q => ⟨vs', p, m⟩
  have hp := p
  obtain ⟨p1, p2, p3, p4⟩ := p
  refine ⟨seed, m.cell 0 rfl p2, tg, m.cell 0 rfl p3, iv, m.cell 0 rfl p4, ⟨by omega, by omega⟩, vc_fq_New _ _ _ _ _ ?_⟩
  intro b1 h2 e1 e2
  replace m := me_swap (m.push e2 e1)
  refine ⟨_, rfl, ⟨by omega, by omega⟩, ?_⟩
  rw [show (0 + 5 + (i : Int).toNat * 8 + (k : Int).toNat) = 5 + i * 8 + k by omega]
  refine m.store 0 rfl (by omega) fun h3 m => ?_
  simp only [List.set_cons_zero] at m
  exact ⟨by simp only [fits]; omega, ⟨k + 1, _, by omega, by omega, hp.set (by omega), (me_swap m).drop1⟩, by dsimp only; omega⟩
theorem poolNew_c {seed tg iv pk bt : Int} (m : Me W h G) (hp : okPool pk bt) :
    Runs Tryz.prog 22 #[.int .u32 seed, .int .i64 tg, .int .i64 iv, .int .i64 pk, .int .i64 bt] h fun v h' => ∃ p E, v = .tuple #[.pointer (some p), .nilIface] ∧ Me W h' (E :: G) ∧ E = [] := by
  obtain ⟨⟨h1, h2⟩, h3, h4⟩ := hp
  refine vc_pool_New _ _ _ _ _ _ _ (dcase_neg (by omega) (dcase_neg (by omega) (dcase_neg (by omega) (dcase_neg (by omega) ?_))))
  intro b1 g1 e1 e2
  replace m := m.push e2 e1
  refine ⟨fun x h => ∃ (k : Nat) (vs' : List Value), x = k ∧ k ≤ 16 ∧ PlC seed tg iv vs' ∧ Me W h ([(b1, vs', 149)] :: G), fun x _ => (16 - x).toNat, ⟨0, _, rfl, by omega, ⟨rfl, rfl, rfl, rfl⟩, m⟩, fun _ => ?_⟩
  rintro _ g2 ⟨k, vs', rfl, hk, p, m⟩
  refine dcase_intro (fun q => ?_) fun q => ⟨_, [], rfl, m.drop1.nilI, rfl⟩
  refine (renew_c m p (by omega)).mono ?_
  rintro _ g3 ⟨vs2, p2, m2⟩
  exact ⟨by simp only [fits]; omega, ⟨k + 1, vs2, by omega, by omega, p2, m2⟩, by dsimp only; omega⟩
theorem poolNew_no {seed tg iv pk bt : Int} (s : Snt W ads) (m : Me W h G) (hp : ¬ okPool pk bt) :
    Runs Tryz.prog 22 #[.int .u32 seed, .int .i64 tg, .int .i64 iv, .int .i64 pk, .int .i64 bt] h fun v h' => v = .tuple #[.pointer none, erV ads (some 2)] ∧ h' = h := by
  obtain ⟨e, he, hc⟩ := rangeE s m
  rw [he]
  refine vc_pool_New _ _ _ _ _ _ _ (dcase_intro (fun q => ⟨_, hc, rfl, rfl⟩) fun q1 => dcase_intro (fun q => ⟨_, hc, rfl, rfl⟩) fun q2 => dcase_intro (fun q => ⟨_, hc, rfl, rfl⟩) fun q3 => dcase_intro (fun q => ⟨_, hc, rfl, rfl⟩) fun q4 => ?_)
  exact absurd ⟨⟨by omega, by omega⟩, by omega, by omega⟩ hp
def baC (w : Nat) (wn rt lf : Int) : List Value := [.pointer (some ⟨w, 0, none⟩), .int .i64 wn, .int .i64 rt, .int .i64 lf, .int .i64 1, .int .i64 0, .slice none 0 0, .bool false, .int .i64 0]
def winC : List Value := [.int .i64 0, .int .i64 0, .int .i64 1, .slice none 0 0]
theorem winNew_c (m : Me W h G) : Runs Tryz.prog 60 #[.int .i64 0, .int .i64 1] h fun v h' => ∃ b, v = .tuple #[.pointer (some ⟨b, 0, none⟩), .nilIface] ∧ Me W h' ([(b, winC, 225)] :: G) := by
  refine vc_win_New _ _ _ _ (dcase_neg (by decide) (dcase_neg (by decide) (dcase_neg (by decide) (dcase_neg (by decide) ?_))))
  intro b1 g1 e1 e2
  exact ⟨b1, rfl, m.push e2 e1⟩
theorem baNew_c {wn rt lf : Int} (m : Me W h G) (hp : okBa wn rt lf) :
    Runs Tryz.prog 23 #[.int .i64 wn, .int .i64 rt, .int .i64 lf] h fun v h' => ∃ b w, v = .tuple #[.pointer (some ⟨b, 0, none⟩), .nilIface] ∧ Me W h' ([(b, baC w wn rt lf, 155), (w, winC, 225)] :: G) := by
  obtain ⟨⟨h1, h2⟩, ⟨h3, h4⟩, h5, h6⟩ := hp
  refine vc_ba_New _ _ _ _ _ (dcase_neg (by omega) (dcase_neg (by omega) (dcase_neg (by omega) (dcase_neg (by omega) (dcase_neg (by omega) (dcase_neg (by omega) ?_))))))
  refine (winNew_c m).mono ?_
  rintro _ g1 ⟨w, rfl, m⟩
  refine ⟨_, _, rfl, true, rfl, bcase_false rfl ?_⟩
  intro b1 g2 e1 e2
  exact ⟨b1, w, rfl, (m.push e2 e1).join⟩
theorem baNew_no {wn rt lf : Int} (s : Snt W ads) (m : Me W h G) (hp : ¬ okBa wn rt lf) :
    Runs Tryz.prog 23 #[.int .i64 wn, .int .i64 rt, .int .i64 lf] h fun v h' => v = .tuple #[.pointer none, erV ads (some 2)] ∧ h' = h := by
  obtain ⟨e, he, hc⟩ := rangeE s m
  rw [he]
  refine vc_ba_New _ _ _ _ _ (dcase_intro (fun q => ⟨_, hc, rfl, rfl⟩) fun q1 => dcase_intro (fun q => ⟨_, hc, rfl, rfl⟩) fun q2 => dcase_intro (fun q => ⟨_, hc, rfl, rfl⟩) fun q3 => dcase_intro (fun q => ⟨_, hc, rfl, rfl⟩) fun q4 => dcase_intro (fun q => ⟨_, hc, rfl, rfl⟩) fun q5 => dcase_intro (fun q => ⟨_, hc, rfl, rfl⟩) fun q6 => ?_)
  exact absurd ⟨⟨by omega, by omega⟩, ⟨by omega, by omega⟩, by omega, by omega⟩ hp
theorem aqlFair_c (n : Int) (h : Heap) : Runs Tryz.prog 61 #[.int .i64 n] h fun v h' => v = .bool (decide (0 ≤ n ∧ n ≤ 1099511627776)) ∧ h' = h := by
  refine vc_aql_fair _ _ _ (dcase_intro (fun q => ⟨?_, rfl⟩) fun q => ⟨?_, rfl⟩)
  · congr 1; exact decide_eq_decide.2 ⟨fun h => ⟨q, h⟩, fun h => h.2⟩
  · rw [decide_eq_false (by omega)]
def limC (st al : Int) (l : List Int) : List Value := .int .i64 st :: .int .i64 al :: ints .i64 l
theorem aqlNew_c {st al : Int} (m : Me W h G) (hp : okAql st al) :
    Runs Tryz.prog 24 #[.int .i64 st, .int .i64 al] h fun v h' => ∃ b, v = .tuple #[.pointer (some ⟨b, 0, none⟩), .nilIface] ∧ Me W h' ([(b, limC st al (List.replicate 16 0), 158)] :: G) := by
  obtain ⟨h1, h2⟩ := hp
  refine vc_aql_New _ _ _ _ ((aqlFair_c _ _).ret ⟨_, rfl, ?_⟩)
  rw [decide_eq_true h1]
  refine bcase_false rfl ((aqlFair_c _ _).ret ⟨_, rfl, ?_⟩)
  rw [decide_eq_true h2]
  refine bcase_false rfl ?_
  intro b1 g1 e1 e2
  exact ⟨b1, rfl, m.push e2 e1⟩
theorem aqlNew_no {st al : Int} (s : Snt W ads) (m : Me W h G) (hp : ¬ okAql st al) :
    Runs Tryz.prog 24 #[.int .i64 st, .int .i64 al] h fun v h' => v = .tuple #[.pointer none, erV ads (some 2)] ∧ h' = h := by
  obtain ⟨e, he, hc⟩ := rangeE s m
  rw [he]
  refine vc_aql_New _ _ _ _ ((aqlFair_c _ _).ret ⟨_, rfl, bcase_intro (fun q => ⟨_, hc, rfl, rfl⟩) fun q1 => ?_⟩)
  refine (aqlFair_c _ _).ret ⟨_, rfl, bcase_intro (fun q => ⟨_, hc, rfl, rfl⟩) fun q2 => ?_⟩
  simp at q1 q2
  exact absurd ⟨q1, q2⟩ hp
theorem long_c (n : Int) (h : Heap) : Runs Tryz.prog 25 #[.int .i64 n] h fun v h' => v = .bool (!decide (0 ≤ n ∧ n ≤ 54840)) ∧ h' = h := by
  refine vc_ap_New_1 _ _ _ (dcase_intro (fun q => ⟨?_, rfl⟩) fun q => ⟨?_, rfl⟩)
  · rw [decide_eq_false (by omega)]; rfl
  · congr 1
    by_cases h2 : n ≤ 54840
    · rw [decide_eq_true (show 0 ≤ n ∧ n ≤ 54840 by omega), decide_eq_false (by omega)]; rfl
    · rw [decide_eq_false (show ¬ (0 ≤ n ∧ n ≤ 54840) by omega), decide_eq_true (by omega)]; rfl
theorem longs_c {b : Nat} {T : TypeId} {tx : List Int} (m : Me W h G) (i : Nat) (hi : G[i]? = some [(b, vs, T)]) (h4 : tx.length = 4) (hv : ∀ (k : Nat) (x : Int), tx[k]? = some x → vs[15 + k]? = some (.int .i64 x)) :
    Runs Tryz.prog 26 #[.slice (some ⟨b, 15, none⟩) 4 4, .func (.func 25) #[] #[]] h fun v h' => (∃ t : Bool, v = .bool t ∧ (t = false ↔ okTx tx)) ∧ h' = h := by
  refine vc_slices_ContainsFunc_int64 _ _ _ _ _ _ (vc_slices_IndexFunc_int64 _ _ _ _ _ _ ?_)
  refine ⟨fun x h' => h' = h ∧ ∃ k : Nat, x = k ∧ k ≤ 4 ∧ okTx (tx.take k), fun x _ => (4 - x).toNat, ⟨rfl, 0, rfl, by omega, by intro x hx; simp at hx⟩, fun _ => ?_⟩
  rintro _ _ ⟨rfl, k, rfl, hk, hok⟩
  refine dcase_intro (fun q => ?_) fun q => ?_
  · have hkl : k < tx.length := by omega
    have hx := List.getElem?_eq_getElem hkl
    refine ⟨⟨by omega, by omega⟩, tx[k], m.cell i hi (by simpa using hv k _ hx), callv_of' (by kernel_rfl) ?_⟩
    show Runs Tryz.prog 25 #[.int .i64 tx[k]] _ _
    refine (long_c _ _).ret ⟨_, rfl, bcase_intro (fun q2 => ?_) fun q2 => ?_⟩
    · refine ⟨(k : Int), rfl, ⟨_, rfl, ⟨fun h => ?_, fun h => ?_⟩⟩, rfl⟩
      · have := of_decide_eq_false h; omega
      · have := h tx[k] (List.getElem_mem hkl)
        rw [decide_eq_true this] at q2; cases q2
    · have h3 : 0 ≤ tx[k] ∧ tx[k] ≤ 54840 := by simpa using q2
      refine ⟨by simp only [fits]; omega, ⟨rfl, k + 1, rfl, by omega, ?_⟩, by dsimp only; omega⟩
      intro y hy
      rw [List.take_add_one, hx] at hy
      rcases List.mem_append.1 hy with h | h
      · exact hok y h
      · simp at h; subst h; exact h3
  · obtain rfl : k = 4 := by omega
    refine ⟨-1, rfl, ⟨_, rfl, ⟨fun _ => ?_, fun _ => rfl⟩⟩, rfl⟩
    rw [List.take_of_length_le (by omega)] at hok
    exact hok
end
end Go.Proofs.YtgjbgcgjcamlgaaGreatDoor
