/- Configurations; what is made for an access point: queues, sessions, limits. -/
import Derived.Test.YtgjbgcgjcamlgaaGreatDoorNum
import Derived.Test.YtgjbgcgjcamlgaaGreatDoorSee
import Derived.Test.YtgjbgcgjcamlgaaGreatDoorChunk
import Derived.Test.YtgjbgcgjcamlgaaGreatDoorGenAp
set_option linter.unusedVariables false
set_option linter.unusedSimpArgs false
set_option maxRecDepth 8000
namespace Go.Proofs.YtgjbgcgjcamlgaaGreatDoor
open Go.Vc
theorem callv_of' {P : Program} {g : FuncId} {first captured : Array Value} {args : List Value} {h : Heap} {K : Value → Heap → Prop} (hb : bodied P g = true) (hr : Runs P g (first.toList ++ (args ++ captured.toList)).toArray h K) :
    callv P (.func (.func g) first captured) args h K := by
  unfold callv; simp only [hb]; exact hr
theorem setL_all {vs us : List Value} (h : us.length = vs.length) : setL vs 0 us = us := by
  rw [setL_eq (by omega), List.take_zero, List.nil_append, Nat.zero_add, h, List.drop_length, List.append_nil]
/-- A configuration. -/
structure Cf where
  bss : List Int
  seed : Int
  pk : Int
  bt : Int
  tg : Int
  iv : Int
  wn : Int
  rt : Int
  lf : Int
  ag : Int
  tx : List Int
  st : Int
  al : Int
def cfC (c : Cf) : List Value := ints .u8 c.bss ++ ([.int .u32 c.seed, .int .i64 c.pk, .int .i64 c.bt, .int .i64 c.tg, .int .i64 c.iv, .int .i64 c.wn, .int .i64 c.rt, .int .i64 c.lf, .int .i64 c.ag] ++ (ints .i64 c.tx ++ [.int .i64 c.st, .int .i64 c.al]))
def fairB (l : List Int) : Bool := decide (bits .and .u8 (l.headD 0) 1 = 0) && !decide (l = [0, 0, 0, 0, 0, 0])
def bssL : List Int := [2, 0, 0, 0, 1, 0]
def addrL (who : Int) : List Int := [2, 0, 0, 0, 0, who]
def okPool (pk bt : Int) : Prop := (1 ≤ pk ∧ pk ≤ 512) ∧ 1 ≤ bt ∧ bt ≤ 1048576
def okBa (wn rt lf : Int) : Prop := (1 ≤ wn ∧ wn ≤ 64) ∧ (0 ≤ rt ∧ rt ≤ 15) ∧ 1 ≤ lf ∧ lf ≤ 1099511627776
def okAql (st al : Int) : Prop := (0 ≤ st ∧ st ≤ 1099511627776) ∧ 0 ≤ al ∧ al ≤ 1099511627776
def okNum (c : Cf) : Prop := ((((0 ≤ c.tg ∧ c.tg ≤ 1073741824) ∧ 0 ≤ c.iv) ∧ c.iv ≤ 1073741824) ∧ 1 ≤ c.ag) ∧ c.ag ≤ 65535
def okTx (l : List Int) : Prop := ∀ x ∈ l, 0 ≤ x ∧ x ≤ 54840
structure CfOk (c : Cf) : Prop where
  p : okPool c.pk c.bt
  b : okBa c.wn c.rt c.lf
  a : okAql c.st c.al
  n : okNum c
  t : okTx c.tx
  f : fairB c.bss = true
/-- The configurations that there are. -/
def cfe (k : Nat) (s : Int) : Cf := match k with
  | 0 => ⟨bssL, s, 40, 8000, 50000, 1000000, 1, 0, 1073741824, 20000, [0, 0, 0, 0], 100000, 200000⟩
  | 1 => ⟨bssL, s, 9, 8000, 50000, 1000000, 64, 2, 1073741824, 20000, [0, 0, 0, 0], 0, 0⟩
  | 2 => ⟨bssL, s, 40, 100000, 100, 1000, 4, 2, 20000, 20000, [0, 0, 0, 0], 100000, 200000⟩
  | 3 => ⟨bssL, s, 40, 8000, 50000, 1000000, 8, 5, 1073741824, 300, [600, 600, 600, 600], 100000, 200000⟩
  | _ => ⟨bssL, s, 40, 8000, 50000, 1000000, 16, 2, 1073741824, 20000, [0, 0, 0, 0], 100000, 200000⟩
theorem cfe_tx (k : Nat) (s : Int) : okTx (cfe k s).tx := by
  rcases k with _ | _ | _ | _ | k <;> intro x hx <;> simp [cfe] at hx <;> omega
theorem cfe_ok (k : Nat) (s : Int) : CfOk (cfe k s) := by
  refine ⟨?_, ?_, ?_, ?_, cfe_tx k s, ?_⟩ <;> rcases k with _ | _ | _ | _ | k <;> first
    | (simp [cfe, okPool]; done)
    | (simp [cfe, okBa]; done)
    | (simp [cfe, okAql]; done)
    | (simp [cfe, okNum]; done)
    | (show fairB bssL = true; decide)
theorem cfC_one (c : Cf) : ∀ u ∈ cfC c, u.oneCell' = true := by
  intro u hu
  unfold cfC at hu
  simp only [List.mem_append] at hu
  rcases hu with hu | hu | hu | hu
  · exact ints_one u hu
  · simp only [List.mem_cons, List.not_mem_nil, or_false] at hu
    rcases hu with rfl | rfl | rfl | rfl | rfl | rfl | rfl | rfl | rfl <;> rfl
  · exact ints_one u hu
  · simp only [List.mem_cons, List.not_mem_nil, or_false] at hu
    rcases hu with rfl | rfl <;> rfl
theorem six_of' {l : List Int} (h : l.length = 6) : ∃ a b c d e f, l = [a, b, c, d, e, f] := by
  match l, h with
  | [a, b, c, d, e, f], _ => exact ⟨a, b, c, d, e, f, rfl⟩
theorem four_of {l : List Int} (h : l.length = 4) : ∃ a b c d, l = [a, b, c, d] := by
  match l, h with
  | [a, b, c, d], _ => exact ⟨a, b, c, d, rfl⟩
section
variable {W W' : Wd} {h h' : Heap} {G : List Grp} {E : Grp} {ads : List Addr} {a : Option Addr} {n c k : Nat} {vs us : List Value} {l : List Int}
theorem me_swap {A B : Grp} (m : Me W h (A :: B :: G)) : Me W h (B :: A :: G) := m.perm (by
  simp only [List.flatten_cons]; rw [← List.append_assoc, ← List.append_assoc]; exact List.perm_append_comm.append_right _)
theorem me_setAll {b : Nat} {T : TypeId} (m : Me W h ([(b, vs, T)] :: G)) (hl : us.length = vs.length) (e : h' = setr h b 0 us) : Me W h' ([(b, us, T)] :: G) := by
  have m1 := m.setr 0 rfl e
  simp only [List.set_cons_zero] at m1
  rwa [setL_all hl] at m1
theorem bss_c (m : Me W h G) : Runs Tryz.prog 12 #[] h fun v h' => v = .agg (ints .u8 bssL).toArray ∧ Me W h' G := by
  refine vc_muezzinair_BSS _ _ ?_
  intro b1 h1 e1 e2
  have m1 := m.push e2 e1
  refine ⟨⟨rfl, m1.wrsb 0 rfl rfl, ints_one (k := .u8) (l := bssL)⟩, fun h2 e3 => ?_⟩
  have m2 := m1.setr 0 rfl e3
  exact ⟨_, m2.row 0 rfl rfl (Nat.le_of_ble_eq_true rfl), rfl, m2.drop1⟩
theorem addr_c (m : Me W h G) (who : Int) (hw : 0 ≤ who ∧ who < 256) : Runs Tryz.prog 11 #[.int .i64 who] h fun v h' => v = .agg (ints .u8 (addrL who)).toArray ∧ Me W h' G := by
  refine vc_muezzinair_Addr _ _ _ ?_
  intro b1 h1 e1 e2
  have m1 := m.push e2 e1
  refine ⟨by simp only [fits]; omega, ⟨rfl, m1.wrsb 0 rfl rfl, ints_one (k := .u8) (l := addrL who)⟩, fun h2 e3 => ?_⟩
  have m2 := m1.setr 0 rfl e3
  exact ⟨_, m2.row 0 rfl rfl (Nat.le_of_ble_eq_true rfl), rfl, m2.drop1⟩
theorem fair_c (m : Me W h G) (hl : l.length = 6) : Runs Tryz.prog 27 #[.agg (ints .u8 l).toArray] h fun v h' => v = .bool (fairB l) ∧ Me W h' G := by
  obtain ⟨x1, x2, x3, x4, x5, x6, rfl⟩ := six_of' hl
  refine vc_sta_Fair _ _ _ ?_
  intro b1 h1 e1 e2
  have m1 := m.push e2 e1
  refine ⟨by decide, x1, m1.cell 0 rfl rfl, dcase_intro (fun q => ?_) fun q => ⟨?_, m1.drop1⟩⟩
  · refine ⟨_, m1.row 0 rfl rfl (Nat.le_of_ble_eq_true rfl), [x1, x2, x3, x4, x5, x6], [0, 0, 0, 0, 0, 0], rfl, rfl, ⟨rfl, rfl⟩, ?_, m1.drop1⟩
    show Value.bool _ = Value.bool (decide (bits .and .u8 x1 1 = 0) && _)
    rw [decide_eq_true q]; rfl
  · show Value.bool _ = Value.bool (decide (bits .and .u8 x1 1 = 0) && _)
    rw [decide_eq_false q]; rfl
theorem config_c (m : Me W h G) (n : Int) : Runs Tryz.prog 6 #[.int .i64 n] h fun v h' => ∃ c : Cf, v = .agg (cfC c).toArray ∧ CfOk c ∧ c.bss = bssL ∧ c.tx.length = 4 ∧ Me W h' G := by
  refine vc_muezzinair_Config _ _ _ ?_
  intro b1 h1 e1 e2
  replace m := m.push e2 e1
  refine (number_c _ _ _ (by decide) (by decide)).ret ⟨_, rfl, ?_⟩
  obtain ⟨s, hs⟩ : ∃ s, s = n % 1048576 := ⟨_, rfl⟩
  have hsb : 0 ≤ s ∧ s < 1048576 := by omega
  rw [← hs]
  refine (bss_c m).mono ?_
  rintro _ h2 ⟨rfl, m⟩
  refine ⟨_, rfl, by simp only [fits]; omega, rfl, ?_⟩
  intro b2 h3 e3 e4
  replace m := m.push e4 e3
  refine ⟨⟨rfl, m.wrsb 0 rfl rfl, cfC_one ⟨bssL, s, 40, 8000, 50000, 1000000, 16, 2, 1073741824, 20000, [0, 0, 0, 0], 100000, 200000⟩⟩, fun h4 e5 => ?_⟩
  replace m := me_setAll (us := cfC ⟨bssL, s, 40, 8000, 50000, 1000000, 16, 2, 1073741824, 20000, [0, 0, 0, 0], 100000, 200000⟩) m rfl e5
  refine ⟨⟨hsb.1, by decide⟩, dcase_intro (fun q => ?_) fun q => dcase_intro (fun q => ?_) fun q => dcase_intro (fun q => ?_) fun q => dcase_intro (fun q => ?_) fun q => ?_⟩
  · refine m.store 0 rfl (by show 11 < 21; decide) fun h5 m => ?_
    refine m.store 0 rfl (by show 12 < 21; decide) fun h6 m => ?_
    have r6 : row h6 b2 0 21 = some (cfC (cfe 0 s)) := m.row 0 rfl rfl (Nat.le_of_ble_eq_true rfl)
    refine ⟨_, r6, ⟨rfl, m.wrsb 1 rfl rfl, cfC_one _⟩, fun h8 e8 => ?_⟩
    have m8 := me_setAll (us := cfC (cfe 0 s)) (me_swap m) rfl e8
    exact ⟨_, m8.row 0 rfl rfl (Nat.le_of_ble_eq_true rfl), cfe 0 s, rfl, cfe_ok 0 s, rfl, rfl, m8.drop1.drop1⟩
  · refine m.store 0 rfl (by show 11 < 21; decide) fun h5 m => ?_
    refine m.store 0 rfl (by show 7 < 21; decide) fun h6 m => ?_
    refine m.store 0 rfl (by show 19 < 21; decide) fun h7 m => ?_
    refine m.store 0 rfl (by show 20 < 21; decide) fun h6 m => ?_
    have r6 : row h6 b2 0 21 = some (cfC (cfe 1 s)) := m.row 0 rfl rfl (Nat.le_of_ble_eq_true rfl)
    refine ⟨_, r6, ⟨rfl, m.wrsb 1 rfl rfl, cfC_one _⟩, fun h8 e8 => ?_⟩
    have m8 := me_setAll (us := cfC (cfe 1 s)) (me_swap m) rfl e8
    exact ⟨_, m8.row 0 rfl rfl (Nat.le_of_ble_eq_true rfl), cfe 1 s, rfl, cfe_ok 1 s, rfl, rfl, m8.drop1.drop1⟩
  · refine m.store 0 rfl (by show 11 < 21; decide) fun h5 m => ?_
    refine m.store 0 rfl (by show 13 < 21; decide) fun h6 m => ?_
    refine m.store 0 rfl (by show 9 < 21; decide) fun h7 m => ?_
    refine m.store 0 rfl (by show 10 < 21; decide) fun h7 m => ?_
    refine m.store 0 rfl (by show 8 < 21; decide) fun h6 m => ?_
    have r6 : row h6 b2 0 21 = some (cfC (cfe 2 s)) := m.row 0 rfl rfl (Nat.le_of_ble_eq_true rfl)
    refine ⟨_, r6, ⟨rfl, m.wrsb 1 rfl rfl, cfC_one _⟩, fun h8 e8 => ?_⟩
    have m8 := me_setAll (us := cfC (cfe 2 s)) (me_swap m) rfl e8
    exact ⟨_, m8.row 0 rfl rfl (Nat.le_of_ble_eq_true rfl), cfe 2 s, rfl, cfe_ok 2 s, rfl, rfl, m8.drop1.drop1⟩
  · refine m.store 0 rfl (by show 11 < 21; decide) fun h5 m => ?_
    refine m.store 0 rfl (by show 12 < 21; decide) fun h6 m => ?_
    refine m.store 0 rfl (by show 14 < 21; decide) fun h7 m => ?_
    refine ⟨⟨rfl, m.wrsb 0 rfl rfl, ints_one (k := .i64) (l := [600, 600, 600, 600])⟩, fun h6 e6 => ?_⟩
    replace m := m.setr 0 rfl e6
    have r6 : row h6 b2 0 21 = some (cfC (cfe 3 s)) := m.row 0 rfl rfl (Nat.le_of_ble_eq_true rfl)
    refine ⟨_, r6, ⟨rfl, m.wrsb 1 rfl rfl, cfC_one _⟩, fun h8 e8 => ?_⟩
    have m8 := me_setAll (us := cfC (cfe 3 s)) (me_swap m) rfl e8
    exact ⟨_, m8.row 0 rfl rfl (Nat.le_of_ble_eq_true rfl), cfe 3 s, rfl, cfe_ok 3 s, rfl, rfl, m8.drop1.drop1⟩
  · obtain ⟨h6, hh6⟩ : ∃ h6, h6 = h4 := ⟨_, rfl⟩
    rw [← hh6] at m ⊢
    have r6 : row h6 b2 0 21 = some (cfC (cfe 4 s)) := m.row 0 rfl rfl (Nat.le_of_ble_eq_true rfl)
    refine ⟨_, r6, ⟨rfl, m.wrsb 1 rfl rfl, cfC_one _⟩, fun h8 e8 => ?_⟩
    have m8 := me_setAll (us := cfC (cfe 4 s)) (me_swap m) rfl e8
    exact ⟨_, m8.row 0 rfl rfl (Nat.le_of_ble_eq_true rfl), cfe 4 s, rfl, cfe_ok 4 s, rfl, rfl, m8.drop1.drop1⟩
end
end Go.Proofs.YtgjbgcgjcamlgaaGreatDoor
