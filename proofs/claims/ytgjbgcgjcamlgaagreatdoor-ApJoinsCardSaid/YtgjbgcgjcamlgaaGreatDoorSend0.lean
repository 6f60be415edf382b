/- An access point of nobody sends nothing. -/
import Derived.Test.YtgjbgcgjcamlgaaGreatDoorTab
set_option linter.unusedVariables false
set_option linter.unusedSimpArgs false
set_option maxRecDepth 8000
namespace Go.Proofs.YtgjbgcgjcamlgaaGreatDoor
open Go.Vc
def no4 : List Value := [.bool false, .bool false, .bool false, .bool false]
def z4 : List Value := [.int .u32 0, .int .u32 0, .int .u32 0, .int .u32 0]
def tx0 : List Value := [.int .i64 0, .int .i64 0, .int .i64 0, .int .i64 0, .int .i64 0, .int .i64 0, .bool false, .slice none 0 0, .int .i64 0, .int .i64 0]
theorem on_addr {b o : Nat} {K : Nat → Nat → Prop} (h : K b o) : onAddr (some ⟨b, o, none⟩) K := h
theorem no4_one : ∀ u ∈ no4, u.oneCell' = true := by intro u hu; simp [no4] at hu; subst hu; rfl
theorem tx0_one : ∀ u ∈ tx0, u.oneCell' = true := by
  intro u hu
  simp only [tx0, List.mem_cons, List.not_mem_nil, or_false] at hu
  rcases hu with rfl | rfl | rfl | rfl | rfl | rfl | rfl | rfl | rfl | rfl <;> rfl
section
variable {W W' : Wd} {h h' : Heap} {G : List Grp} {E : Grp} {n k i j b o : Nat} {x : Ap} {v : Value} {tm : List On} {T : TypeId}
theorem contend0_c (m : Me W h G) (e : Option Addr) : Runs Tryz.prog 52 #[.pointer e, .agg no4.toArray, .agg z4.toArray] h fun v h' => v = .tuple #[.int .i64 0, .int .i64 0, .bool false] ∧ Me W h' G := by
  refine vc_edca_Edca_Contend _ _ _ _ _ ?_
  intro b1 h1 e1 e2 b2 h2 e3 e4
  replace m := (m.push e2 e1).push e4 e3
  refine ⟨fun w l x h => w = -1 ∧ h = h2 ∧ ∃ k : Nat, x = k ∧ k ≤ 4, fun _ _ x _ => (4 - x).toNat, ⟨rfl, rfl, 0, rfl, by omega⟩, fun _ => ?_⟩
  rintro _ l _ h2 ⟨rfl, rfl, k, rfl, hk⟩
  refine dcase_intro (fun q => ?_) fun q => dcase_pos (by decide) ?_
  · have : k = 0 ∨ k = 1 ∨ k = 2 ∨ k = 3 := by omega
    refine ⟨⟨by omega, by omega⟩, false, ?_, bcase_true rfl ⟨by simp only [fits]; omega, ⟨rfl, rfl, k + 1, by omega, by omega⟩, by dsimp only; omega⟩⟩
    rcases this with rfl | rfl | rfl | rfl <;> exact m.cell 1 rfl rfl
  · exact ⟨rfl, m.drop1.drop1⟩
theorem ApW.tm_row (w : ApW x) (ht : x.tb = tm.map onC) : (x.C.drop 22).take 128 = (tm.map onC).flatten := by rw [w.tb_row, ht]
theorem actives0_c (w : ApW x) (tw : TbW tm) (ht : x.tb = tm.map onC) (hp : ∀ v ∈ x.ts, ∃ p, v = .pointer p) (h0 : allL tm 0 = []) (m : Me W h ([(b, x.C, T)] :: G)) :
    Runs Tryz.prog 53 #[.pointer (some ⟨b, 0, none⟩)] h fun v h' => v = .agg no4.toArray ∧ Me W h' ([(b, x.C, T)] :: G) := by
  have hlen := w.len
  refine vc_ap_AP_actives _ _ _ ?_
  intro b1 h1 e1 e2 b2 h2 e3 e4
  replace m : Me W h2 ([(b2, no4, 46)] :: [(b1, no4, 46)] :: [(b, x.C, T)] :: G) := (m.push e2 e1).push e4 e3
  refine ⟨x.ts, m.row 2 rfl w.ts_row (by omega), ?_⟩
  refine ⟨fun z h => ∃ k : Nat, z = k ∧ k ≤ 4 ∧ Me W h ([(b2, no4, 46)] :: [(b1, no4, 46)] :: [(b, x.C, T)] :: G), fun z _ => (4 - z).toNat, ⟨0, rfl, by omega, m⟩, fun _ => ?_⟩
  rintro _ h3 ⟨k, rfl, hk, m⟩
  refine dcase_intro (fun q => ?_) fun q => ?_
  · have hkl : k < x.ts.length := by rw [w.ts]; omega
    have hq := List.getElem?_eq_getElem hkl
    obtain ⟨p, hpe⟩ := hp _ (List.getElem_mem hkl)
    refine ⟨⟨by omega, by omega⟩, p, by rw [show ((k : Int)).toNat = k from rfl, hq, hpe], ?_⟩
    refine on_addr ?_
    refine (all_c (o := 0 + 22) tw m (m.row 2 rfl (w.tm_row ht) (by omega))).mono ?_
    rw [h0]
    rintro _ h4 ⟨a4, c4, E4, rfl, o4, m4⟩
    refine ⟨_, _, _, rfl, ?_⟩
    refine ⟨fun a l c z h => l = 0 ∧ z = 0 ∧ h = h4, fun _ _ _ _ _ => 0, ⟨rfl, rfl, rfl⟩, fun _ => ?_⟩
    rintro _ _ _ _ h4 ⟨rfl, rfl, rfl⟩
    refine dcase_neg (by decide) ?_
    refine ⟨fun z h => z = 0 ∧ h = h4, fun _ _ => 0, ⟨rfl, rfl⟩, fun _ => ?_⟩
    rintro _ h4 ⟨rfl, rfl⟩
    exact dcase_neg (by decide) ⟨by simp only [fits]; omega, ⟨k + 1, by omega, by omega, m4.drop1⟩, by dsimp only; omega⟩
  · refine ⟨no4, m.row 0 rfl rfl (Nat.le_of_ble_eq_true rfl), ⟨rfl, m.wrsb 1 rfl rfl, no4_one⟩, fun h5 e5 => ?_⟩
    have m5 := me_setAll (us := no4) (me_swap m) rfl e5
    exact ⟨no4, m5.row 0 rfl rfl (Nat.le_of_ble_eq_true rfl), rfl, m5.drop1.drop1⟩
theorem send0_c (w : ApW x) (tw : TbW tm) (ht : x.tb = tm.map onC) (hp : ∀ v ∈ x.ts, ∃ p, v = .pointer p) (h0 : allL tm 0 = []) (now : Int) (hn : x.now ≤ now) (m : Me W h ([(b, x.C, T)] :: G)) :
    Runs Tryz.prog 21 #[.pointer (some ⟨b, 0, none⟩), .int .i64 now, .agg z4.toArray] h fun v h' => v = .tuple #[.agg tx0.toArray, .bool false] ∧ Me W h' ([(b, ({ x with now := now } : Ap).C, T)] :: G) := by
  have hlen := w.len
  have w2 : ApW { x with now := now } := ⟨w.cc, w.t16, w.t8, w.p16, w.p10, w.mid, w.ts, w.ed, w.ls⟩
  have hlen2 := w2.len
  refine vc_ap_AP_Send _ _ _ _ _ ?_
  intro b1 h1 e1 e2 b2 h2 e3 e4
  replace m : Me W h2 ([(b2, tx0, 61)] :: [(b1, z4, 64)] :: [(b, x.C, T)] :: G) := (m.push e2 e1).push e4 e3
  refine ⟨x.now, m.cell 2 rfl w.now_at, dcase_neg (by omega) ?_⟩
  refine m.store 2 rfl (by omega) fun h3 m => ?_
  simp only [List.set_cons_zero, List.set_cons_succ] at m
  rw [show 0 + 21 = 21 from rfl, w.now_set] at m
  refine on_addr ?_
  refine (all_c (o := 0 + 22) tw m (m.row 2 rfl (w2.tm_row ht) (by omega))).mono ?_
  rw [h0]
  rintro _ h4 ⟨a4, c4, E4, rfl, o4, m⟩
  replace m := m.drop1
  refine ⟨_, _, _, rfl, ?_⟩
  refine ⟨fun z h => z = 0 ∧ h = h4, fun _ _ => 0, ⟨rfl, rfl⟩, fun _ => ?_⟩
  rintro _ h4 ⟨rfl, rfl⟩
  refine dcase_neg (by decide) ⟨z4, m.row 1 rfl rfl (Nat.le_of_ble_eq_true rfl), ?_⟩
  have mA : Me W h4 ([(b, ({ x with now := now } : Ap).C, T)] :: [(b2, tx0, 61)] :: [(b1, z4, 64)] :: G) := m.perm (by
    simp only [List.flatten_cons]
    rw [← List.append_assoc, ← List.append_assoc [(b, ({ x with now := now } : Ap).C, T)]]
    refine (List.perm_append_comm_assoc _ _ _).trans ?_
    simp only [List.append_assoc]
    exact List.Perm.refl _)
  refine (actives0_c w2 tw ht hp h0 mA).mono ?_
  rintro _ h5 ⟨rfl, m5⟩
  refine ⟨_, rfl, m5.row 2 rfl rfl (Nat.le_of_ble_eq_true rfl), (contend0_c m5 _).mono ?_⟩
  rintro _ h6 ⟨rfl, m6⟩
  refine ⟨_, _, _, rfl, bcase_true rfl ⟨⟨rfl, m6.wrsb 1 rfl rfl, tx0_one⟩, fun h7 e7 => ?_⟩⟩
  have m7 := me_setAll (us := tx0) (me_swap m6) rfl e7
  exact ⟨tx0, m7.row 0 rfl rfl (Nat.le_of_ble_eq_true rfl), rfl, (me_swap m7.drop1).drop1⟩
end
end Go.Proofs.YtgjbgcgjcamlgaaGreatDoor
