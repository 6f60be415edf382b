/- The document's ReadAck of an Ack's bytes. -/
import Derived.Test.YthlacliefgliiaaDoorAck
set_option linter.unusedVariables false
set_option linter.unusedSimpArgs false
set_option maxRecDepth 8000
namespace Go.Proofs.YthlacliefgliiaaDoor
open Go.Vc
theorem or_map {mp : Int} {k : Nat} (h0 : 0 ≤ mp) (hk : k < 8) : fits .u64 (mp / pow2 (8 * (k : Int)) % 256 * pow2 (8 * (k : Int))) ∧ bits .or .u64 (mp % pow2 (8 * (k : Int))) (mp / pow2 (8 * (k : Int)) % 256 * pow2 (8 * (k : Int))) = mp % pow2 (8 * ((k + 1 : Nat) : Int)) := by
  obtain ⟨m, rfl⟩ := Int.eq_ofNat_of_zero_le h0
  rw [pow2_8, pow2_8]
  have hp : 2 ^ (8 * (k + 1)) = 2 ^ (8 * k) * 256 := by rw [Nat.mul_succ, Nat.pow_add]
  have hle : 2 ^ (8 * (k + 1)) ≤ 18446744073709551616 := by
    have := Nat.pow_le_pow_right (n := 2) (by decide) (show 8 * (k + 1) ≤ 64 by omega)
    exact this
  have hpos : 0 < 2 ^ (8 * k) := Nat.pow_pos (by decide)
  obtain ⟨p, hpe⟩ : ∃ p, p = 2 ^ (8 * k) := ⟨_, rfl⟩
  have e1 : ((m : Int) / ((2 ^ (8 * k) : Nat) : Int) % 256 * ((2 ^ (8 * k) : Nat) : Int)) = ((m / p % 256 * p : Nat) : Int) := by
    rw [← hpe]; simp
  have e2 : ((m : Int) % ((2 ^ (8 * k) : Nat) : Int)) = ((m % p : Nat) : Int) := by rw [← hpe]; simp
  have h1 : m / p % 256 < 256 := Nat.mod_lt _ (by decide)
  have h2 : m / p % 256 * p + p ≤ 256 * p := by
    have := Nat.mul_le_mul_right p (show m / p % 256 + 1 ≤ 256 by omega)
    rw [Nat.add_mul, Nat.one_mul] at this; exact this
  have h3 : m % p < p := Nat.mod_lt _ (by omega)
  have h4 : 256 * p ≤ 18446744073709551616 := by rw [hpe, Nat.mul_comm, ← hp]; exact hle
  rw [e1, e2]
  refine ⟨by simp only [fits]; omega, ?_⟩
  rw [bor_u64 (by omega) (by omega), hp, ← hpe]
  have h5 : m % p ||| m / p % 256 * p = m % p + m / p % 256 * p := by
    have := or_add (a := m / p % 256) (b := m % p) (i := 8 * k) (by rw [← hpe]; exact h3)
    rwa [← hpe] at this
  rw [h5]
  have h6 : m % (p * 256) = m % p + p * (m / p % 256) := Nat.mod_mul
  rw [Nat.mul_comm p] at h6
  have : ((m : Int) % ((p * 256 : Nat) : Int)) = ((m % (p * 256) : Nat) : Int) := by simp
  rw [this, Nat.mul_comm (m / p % 256)]
  rw [Nat.mul_comm] at h6
  rw [h6, Nat.mul_comm p]
theorem mapB_get {mp : Int} {k : Nat} (hk : k < 8) : (mapB mp 8)[k]? = some (mp / pow2 (8 * (k : Int)) % 256) := by
  simp [mapB, hk]
def z15 : List Value := ints .u8 [0, 0, 0, 0, 0, 0, 0, 0, 0, 0, 0, 0] ++ [.int .i64 0, .int .i64 0, .int .u64 0]
theorem ackC_one (to fr : List Int) (tid sq mp : Int) : ∀ u ∈ ackC to fr tid sq mp, u.oneCell' = true := by
  intro u hu
  unfold ackC at hu
  simp only [List.mem_append] at hu
  rcases hu with hu | hu | hu
  · exact ints_one u hu
  · exact ints_one u hu
  · simp only [List.mem_cons, List.not_mem_nil, or_false] at hu
    rcases hu with rfl | rfl | rfl <;> rfl
set_option maxHeartbeats 1000000 in
theorem readAck_c {W : Wd} {h : Heap} {G : List Grp} {to fr : List Int} {tid sq mp : Int} {a : Option Addr} {n c : Nat} (m : Me W h G) (hb : Bts W (.slice a n c) (ackB to fr tid sq mp)) (h1 : to.length = 6) (h2 : fr.length = 6) (ht : 0 ≤ tid ∧ tid ≤ 7) (hs : 0 ≤ sq ∧ sq ≤ 4095) (hm : 0 ≤ mp ∧ mp < 18446744073709551616) :
    Runs Tryd.prog 16 #[.slice a n c] h fun v h' => v = .tuple #[.agg (ackC to fr tid sq mp).toArray, .int .i64 0] ∧ ∃ W', W.le W' ∧ Me W' h' G := by
  have hL := ackB_len (tid := tid) (sq := sq) (mp := mp) h1 h2
  obtain ⟨x1, x2, x3, x4, x5, x6, rfl⟩ := six_of h1
  obtain ⟨y1, y2, y3, y4, y5, y6, rfl⟩ := six_of h2
  obtain ⟨hsb, hn, hc⟩ := bts_src hb
  have hbk : Bts W (.slice a n c) (ackB [x1, x2, x3, x4, x5, x6] [y1, y2, y3, y4, y5, y6] tid sq mp) := hb
  obtain ⟨b, o, rfl, -, -, hx⟩ := bts_opn hb (by omega)
  rw [hL] at hn
  subst hn
  have s1 : ∀ {h : Heap} {G : List Grp}, Me W h G → Runs Tryd.prog 37 #[.slice (slcAddr (some ⟨b, o, none⟩) 4 c 4) (28 - 4) (c - 4)] h fun v h' => v = .agg (ints .u8 [x1, x2, x3, x4, x5, x6]).toArray ∧ Me W h' G := fun m => six_c m (bts_tail hb (by omega)) (by rw [List.length_drop]; omega)
  have s2 : ∀ {h : Heap} {G : List Grp}, Me W h G → Runs Tryd.prog 37 #[.slice (slcAddr (some ⟨b, o, none⟩) 10 c 10) (28 - 10) (c - 10)] h fun v h' => v = .agg (ints .u8 [y1, y2, y3, y4, y5, y6]).toArray ∧ Me W h' G := fun m => six_c m (bts_tail hb (by omega)) (by rw [List.length_drop]; omega)
  have s3 : ∀ {h : Heap} {G : List Grp}, Me W h G → Runs Tryd.prog 38 #[.slice (slcAddr (some ⟨b, o, none⟩) 16 c 16) (28 - 16) (c - 16)] h fun v h' => v = .int .i64 (4 + tid * 4096) ∧ h' = h := fun m => by
    have := num_c m (bts_tail hb (k := 16) (by omega)) (x := (4 + tid * 4096) % 256) (y := (4 + tid * 4096) / 256 % 256) rfl rfl (by omega) (by omega)
    rwa [show (4 + tid * 4096) % 256 + (4 + tid * 4096) / 256 % 256 * 256 = 4 + tid * 4096 by omega] at this
  have s4 : ∀ {h : Heap} {G : List Grp}, Me W h G → Runs Tryd.prog 38 #[.slice (slcAddr (some ⟨b, o, none⟩) 18 c 18) (28 - 18) (c - 18)] h fun v h' => v = .int .i64 (sq * 16) ∧ h' = h := fun m => by
    have := num_c m (bts_tail hb (k := 18) (by omega)) (x := sq * 16 % 256) (y := sq * 16 / 256 % 256) rfl rfl (by omega) (by omega)
    rwa [show sq * 16 % 256 + sq * 16 / 256 % 256 * 256 = sq * 16 by omega] at this
  have d1 : (4 + tid * 4096) / 4096 = tid := by omega
  have d2 : sq * 16 / 16 = sq := by omega
  have f1 : fits .i64 tid := by simp only [fits]; omega
  have f2 : fits .i64 sq := by simp only [fits]; omega
  refine vc_muezzinref1_ReadAck _ _ _ _ _ ?_
  intro b1 g1 e1 e2
  replace m := m.push e2 e1
  refine (kind_c (N := 28) m hb rfl hL).ret ⟨_, rfl, bcase_false rfl ⟨⟨by decide, by decide⟩, ⟨by decide, by decide⟩, ⟨by decide, by decide⟩, ⟨by decide, by decide⟩, ⟨?_, ?_⟩⟩⟩
  · refine (s1 m).mono ?_
    rintro _ g2 ⟨rfl, m⟩
    refine ⟨_, rfl, ⟨?_, ?_⟩⟩
    · refine (s2 m).mono ?_
      rintro _ g3 ⟨rfl, m⟩
      refine ⟨_, rfl, ⟨?_, ?_⟩⟩
      · refine (s3 m).ret ⟨_, rfl, ?_⟩
        rw [d1]
        refine ⟨⟨by omega, by decide, f1⟩, ⟨?_, ?_⟩⟩
        · refine (s4 m).ret ⟨_, rfl, ?_⟩
          rw [d2]
          refine ⟨⟨by omega, by decide, f2⟩, rfl, rfl, fun bX g4 e3 e4 => ?_⟩
          replace m := m.push e4 e3
          refine ⟨⟨rfl, m.wrsb 0 rfl rfl, ackC_one [x1, x2, x3, x4, x5, x6] [y1, y2, y3, y4, y5, y6] tid sq 0⟩, fun g5 e5 => ?_⟩
          replace m := m.setr 0 rfl e5
          simp only [List.set_cons_zero] at m
          replace m : Me W g5 ([(bX, ackC [x1, x2, x3, x4, x5, x6] [y1, y2, y3, y4, y5, y6] tid sq (mp % pow2 (8 * ((0 : Nat) : Int))), 44)] :: [(b1, z15, 44)] :: G) := by
            rw [show mp % pow2 (8 * ((0 : Nat) : Int)) = 0 from Int.emod_one mp]; exact m
          refine ⟨fun i h => ∃ k : Nat, i = k ∧ k ≤ 8 ∧ Me W h ([(bX, ackC [x1, x2, x3, x4, x5, x6] [y1, y2, y3, y4, y5, y6] tid sq (mp % pow2 (8 * (k : Int))), 44)] :: [(b1, z15, 44)] :: G), fun i _ => (8 - i).toNat, ⟨0, rfl, by omega, m⟩, fun _ => ?_⟩
          rintro _ g6 ⟨k, rfl, hk, m⟩
          refine dcase_intro (fun q => ?_) fun q => ?_
          · obtain ⟨hf, he⟩ := or_map (mp := mp) (k := k) hm.1 (by omega)
            have hcl := hx (20 + k) _ (by rw [show ackB [x1, x2, x3, x4, x5, x6] [y1, y2, y3, y4, y5, y6] tid sq mp = askB 148 [x1, x2, x3, x4, x5, x6] [y1, y2, y3, y4, y5, y6] tid sq ++ mapB mp 8 from rfl, List.getElem?_append_right (by rw [askB_len 148 rfl rfl]; omega), askB_len 148 rfl rfl, Nat.add_sub_cancel_left]; exact mapB_get (by omega))
            refine ⟨_, m.cell 0 rfl rfl, by simp only [fits]; omega, ⟨by omega, by omega⟩, _, m.wcell (by rw [show ((20 : Int) + (k : Int)).toNat = 20 + k by omega]; exact hcl), by simp only [fits]; omega, by simp only [fits]; omega, by simp only [fits]; omega, ⟨by omega, by simp only [kbits]; omega⟩, hf, ?_⟩
            rw [he]
            refine m.store 0 rfl (by show 14 < 15; decide) fun g7 m7 => ?_
            exact ⟨by simp only [fits]; omega, ⟨k + 1, by omega, by omega, m7⟩, by dsimp only; omega⟩
          · obtain rfl : k = 8 := by omega
            rw [show mp % pow2 (8 * ((8 : Nat) : Int)) = mp from Int.emod_eq_of_lt hm.1 hm.2] at m
            refine ⟨ackC [x1, x2, x3, x4, x5, x6] [y1, y2, y3, y4, y5, y6] tid sq mp, m.row 0 rfl rfl (Nat.le_of_ble_eq_true rfl), ?_⟩
            refine (rackBytes_c (to := [x1, x2, x3, x4, x5, x6]) (fr := [y1, y2, y3, y4, y5, y6]) m rfl rfl ht hs).mono ?_
            rintro _ g8 ⟨W', a8, c8, hle, rfl, m, hb8⟩
            obtain ⟨q1, q2, q3⟩ := bts_src hb8
            refine ⟨_, _, _, _, rfl, bcase_false rfl ?_⟩
            refine (sameBytes_c (m.wsrc (wsrc_le hle hsb)) hL (m.wsrc q1) q2 (by decide)).ret ⟨_, rfl, bcase_false (by simp) ?_⟩
            refine ⟨ackC [x1, x2, x3, x4, x5, x6] [y1, y2, y3, y4, y5, y6] tid sq mp, m.row 0 rfl rfl (Nat.le_of_ble_eq_true rfl), ⟨rfl, m.wrsb 1 rfl rfl, ackC_one _ _ _ _ _⟩, fun g9 e9 => ?_⟩
            have m9 := m.setr 1 rfl e9
            simp only [List.set_cons_zero, List.set_cons_succ] at m9
            rw [setL_all (show (ackC [x1, x2, x3, x4, x5, x6] [y1, y2, y3, y4, y5, y6] tid sq mp).length = z15.length from rfl)] at m9
            exact ⟨ackC [x1, x2, x3, x4, x5, x6] [y1, y2, y3, y4, y5, y6] tid sq mp, m9.row 1 rfl rfl (Nat.le_of_ble_eq_true rfl), rfl, W', hle, m9.drop1.drop1⟩
        · intro bX g4 e3 e4
          replace m := m.push e4 e3
          refine (s4 m).ret ⟨_, rfl, ?_⟩
          rw [d2]
          refine ⟨⟨by omega, by decide, f2⟩, rfl, rfl, ?_⟩
          refine ⟨⟨rfl, m.wrsb 0 rfl rfl, ackC_one [x1, x2, x3, x4, x5, x6] [y1, y2, y3, y4, y5, y6] tid sq 0⟩, fun g5 e5 => ?_⟩
          replace m := m.setr 0 rfl e5
          simp only [List.set_cons_zero] at m
          replace m : Me W g5 ([(bX, ackC [x1, x2, x3, x4, x5, x6] [y1, y2, y3, y4, y5, y6] tid sq (mp % pow2 (8 * ((0 : Nat) : Int))), 44)] :: [(b1, z15, 44)] :: G) := by
            rw [show mp % pow2 (8 * ((0 : Nat) : Int)) = 0 from Int.emod_one mp]; exact m
          refine ⟨fun i h => ∃ k : Nat, i = k ∧ k ≤ 8 ∧ Me W h ([(bX, ackC [x1, x2, x3, x4, x5, x6] [y1, y2, y3, y4, y5, y6] tid sq (mp % pow2 (8 * (k : Int))), 44)] :: [(b1, z15, 44)] :: G), fun i _ => (8 - i).toNat, ⟨0, rfl, by omega, m⟩, fun _ => ?_⟩
          rintro _ g6 ⟨k, rfl, hk, m⟩
          refine dcase_intro (fun q => ?_) fun q => ?_
          · obtain ⟨hf, he⟩ := or_map (mp := mp) (k := k) hm.1 (by omega)
            have hcl := hx (20 + k) _ (by rw [show ackB [x1, x2, x3, x4, x5, x6] [y1, y2, y3, y4, y5, y6] tid sq mp = askB 148 [x1, x2, x3, x4, x5, x6] [y1, y2, y3, y4, y5, y6] tid sq ++ mapB mp 8 from rfl, List.getElem?_append_right (by rw [askB_len 148 rfl rfl]; omega), askB_len 148 rfl rfl, Nat.add_sub_cancel_left]; exact mapB_get (by omega))
            refine ⟨_, m.cell 0 rfl rfl, by simp only [fits]; omega, ⟨by omega, by omega⟩, _, m.wcell (by rw [show ((20 : Int) + (k : Int)).toNat = 20 + k by omega]; exact hcl), by simp only [fits]; omega, by simp only [fits]; omega, by simp only [fits]; omega, ⟨by omega, by simp only [kbits]; omega⟩, hf, ?_⟩
            rw [he]
            refine m.store 0 rfl (by show 14 < 15; decide) fun g7 m7 => ?_
            exact ⟨by simp only [fits]; omega, ⟨k + 1, by omega, by omega, m7⟩, by dsimp only; omega⟩
          · obtain rfl : k = 8 := by omega
            rw [show mp % pow2 (8 * ((8 : Nat) : Int)) = mp from Int.emod_eq_of_lt hm.1 hm.2] at m
            refine ⟨ackC [x1, x2, x3, x4, x5, x6] [y1, y2, y3, y4, y5, y6] tid sq mp, m.row 0 rfl rfl (Nat.le_of_ble_eq_true rfl), ?_⟩
            refine (rackBytes_c (to := [x1, x2, x3, x4, x5, x6]) (fr := [y1, y2, y3, y4, y5, y6]) m rfl rfl ht hs).mono ?_
            rintro _ g8 ⟨W', a8, c8, hle, rfl, m, hb8⟩
            obtain ⟨q1, q2, q3⟩ := bts_src hb8
            refine ⟨_, _, _, _, rfl, bcase_false rfl ?_⟩
            refine (sameBytes_c (m.wsrc (wsrc_le hle hsb)) hL (m.wsrc q1) q2 (by decide)).ret ⟨_, rfl, bcase_false (by simp) ?_⟩
            refine ⟨ackC [x1, x2, x3, x4, x5, x6] [y1, y2, y3, y4, y5, y6] tid sq mp, m.row 0 rfl rfl (Nat.le_of_ble_eq_true rfl), ⟨rfl, m.wrsb 1 rfl rfl, ackC_one _ _ _ _ _⟩, fun g9 e9 => ?_⟩
            have m9 := m.setr 1 rfl e9
            simp only [List.set_cons_zero, List.set_cons_succ] at m9
            rw [setL_all (show (ackC [x1, x2, x3, x4, x5, x6] [y1, y2, y3, y4, y5, y6] tid sq mp).length = z15.length from rfl)] at m9
            exact ⟨ackC [x1, x2, x3, x4, x5, x6] [y1, y2, y3, y4, y5, y6] tid sq mp, m9.row 1 rfl rfl (Nat.le_of_ble_eq_true rfl), rfl, W', hle, m9.drop1.drop1⟩
      · intro bX g4 e3 e4
        replace m := m.push e4 e3
        refine (s3 m).ret ⟨_, rfl, ?_⟩
        rw [d1]
        refine ⟨⟨by omega, by decide, f1⟩, ?_⟩
        refine (s4 m).ret ⟨_, rfl, ?_⟩
        rw [d2]
        refine ⟨⟨by omega, by decide, f2⟩, rfl, rfl, ?_⟩
        refine ⟨⟨rfl, m.wrsb 0 rfl rfl, ackC_one [x1, x2, x3, x4, x5, x6] [y1, y2, y3, y4, y5, y6] tid sq 0⟩, fun g5 e5 => ?_⟩
        replace m := m.setr 0 rfl e5
        simp only [List.set_cons_zero] at m
        replace m : Me W g5 ([(bX, ackC [x1, x2, x3, x4, x5, x6] [y1, y2, y3, y4, y5, y6] tid sq (mp % pow2 (8 * ((0 : Nat) : Int))), 44)] :: [(b1, z15, 44)] :: G) := by
          rw [show mp % pow2 (8 * ((0 : Nat) : Int)) = 0 from Int.emod_one mp]; exact m
        refine ⟨fun i h => ∃ k : Nat, i = k ∧ k ≤ 8 ∧ Me W h ([(bX, ackC [x1, x2, x3, x4, x5, x6] [y1, y2, y3, y4, y5, y6] tid sq (mp % pow2 (8 * (k : Int))), 44)] :: [(b1, z15, 44)] :: G), fun i _ => (8 - i).toNat, ⟨0, rfl, by omega, m⟩, fun _ => ?_⟩
        rintro _ g6 ⟨k, rfl, hk, m⟩
        refine dcase_intro (fun q => ?_) fun q => ?_
        · obtain ⟨hf, he⟩ := or_map (mp := mp) (k := k) hm.1 (by omega)
          have hcl := hx (20 + k) _ (by rw [show ackB [x1, x2, x3, x4, x5, x6] [y1, y2, y3, y4, y5, y6] tid sq mp = askB 148 [x1, x2, x3, x4, x5, x6] [y1, y2, y3, y4, y5, y6] tid sq ++ mapB mp 8 from rfl, List.getElem?_append_right (by rw [askB_len 148 rfl rfl]; omega), askB_len 148 rfl rfl, Nat.add_sub_cancel_left]; exact mapB_get (by omega))
          refine ⟨_, m.cell 0 rfl rfl, by simp only [fits]; omega, ⟨by omega, by omega⟩, _, m.wcell (by rw [show ((20 : Int) + (k : Int)).toNat = 20 + k by omega]; exact hcl), by simp only [fits]; omega, by simp only [fits]; omega, by simp only [fits]; omega, ⟨by omega, by simp only [kbits]; omega⟩, hf, ?_⟩
          rw [he]
          refine m.store 0 rfl (by show 14 < 15; decide) fun g7 m7 => ?_
          exact ⟨by simp only [fits]; omega, ⟨k + 1, by omega, by omega, m7⟩, by dsimp only; omega⟩
        · obtain rfl : k = 8 := by omega
          rw [show mp % pow2 (8 * ((8 : Nat) : Int)) = mp from Int.emod_eq_of_lt hm.1 hm.2] at m
          refine ⟨ackC [x1, x2, x3, x4, x5, x6] [y1, y2, y3, y4, y5, y6] tid sq mp, m.row 0 rfl rfl (Nat.le_of_ble_eq_true rfl), ?_⟩
          refine (rackBytes_c (to := [x1, x2, x3, x4, x5, x6]) (fr := [y1, y2, y3, y4, y5, y6]) m rfl rfl ht hs).mono ?_
          rintro _ g8 ⟨W', a8, c8, hle, rfl, m, hb8⟩
          obtain ⟨q1, q2, q3⟩ := bts_src hb8
          refine ⟨_, _, _, _, rfl, bcase_false rfl ?_⟩
          refine (sameBytes_c (m.wsrc (wsrc_le hle hsb)) hL (m.wsrc q1) q2 (by decide)).ret ⟨_, rfl, bcase_false (by simp) ?_⟩
          refine ⟨ackC [x1, x2, x3, x4, x5, x6] [y1, y2, y3, y4, y5, y6] tid sq mp, m.row 0 rfl rfl (Nat.le_of_ble_eq_true rfl), ⟨rfl, m.wrsb 1 rfl rfl, ackC_one _ _ _ _ _⟩, fun g9 e9 => ?_⟩
          have m9 := m.setr 1 rfl e9
          simp only [List.set_cons_zero, List.set_cons_succ] at m9
          rw [setL_all (show (ackC [x1, x2, x3, x4, x5, x6] [y1, y2, y3, y4, y5, y6] tid sq mp).length = z15.length from rfl)] at m9
          exact ⟨ackC [x1, x2, x3, x4, x5, x6] [y1, y2, y3, y4, y5, y6] tid sq mp, m9.row 1 rfl rfl (Nat.le_of_ble_eq_true rfl), rfl, W', hle, m9.drop1.drop1⟩
    · intro bX g4 e3 e4
      replace m := m.push e4 e3
      refine (s2 m).mono ?_
      rintro _ g3 ⟨rfl, m⟩
      refine ⟨_, rfl, ?_⟩
      refine (s3 m).ret ⟨_, rfl, ?_⟩
      rw [d1]
      refine ⟨⟨by omega, by decide, f1⟩, ?_⟩
      refine (s4 m).ret ⟨_, rfl, ?_⟩
      rw [d2]
      refine ⟨⟨by omega, by decide, f2⟩, rfl, rfl, ?_⟩
      refine ⟨⟨rfl, m.wrsb 0 rfl rfl, ackC_one [x1, x2, x3, x4, x5, x6] [y1, y2, y3, y4, y5, y6] tid sq 0⟩, fun g5 e5 => ?_⟩
      replace m := m.setr 0 rfl e5
      simp only [List.set_cons_zero] at m
      replace m : Me W g5 ([(bX, ackC [x1, x2, x3, x4, x5, x6] [y1, y2, y3, y4, y5, y6] tid sq (mp % pow2 (8 * ((0 : Nat) : Int))), 44)] :: [(b1, z15, 44)] :: G) := by
        rw [show mp % pow2 (8 * ((0 : Nat) : Int)) = 0 from Int.emod_one mp]; exact m
      refine ⟨fun i h => ∃ k : Nat, i = k ∧ k ≤ 8 ∧ Me W h ([(bX, ackC [x1, x2, x3, x4, x5, x6] [y1, y2, y3, y4, y5, y6] tid sq (mp % pow2 (8 * (k : Int))), 44)] :: [(b1, z15, 44)] :: G), fun i _ => (8 - i).toNat, ⟨0, rfl, by omega, m⟩, fun _ => ?_⟩
      rintro _ g6 ⟨k, rfl, hk, m⟩
      refine dcase_intro (fun q => ?_) fun q => ?_
      · obtain ⟨hf, he⟩ := or_map (mp := mp) (k := k) hm.1 (by omega)
        have hcl := hx (20 + k) _ (by rw [show ackB [x1, x2, x3, x4, x5, x6] [y1, y2, y3, y4, y5, y6] tid sq mp = askB 148 [x1, x2, x3, x4, x5, x6] [y1, y2, y3, y4, y5, y6] tid sq ++ mapB mp 8 from rfl, List.getElem?_append_right (by rw [askB_len 148 rfl rfl]; omega), askB_len 148 rfl rfl, Nat.add_sub_cancel_left]; exact mapB_get (by omega))
        refine ⟨_, m.cell 0 rfl rfl, by simp only [fits]; omega, ⟨by omega, by omega⟩, _, m.wcell (by rw [show ((20 : Int) + (k : Int)).toNat = 20 + k by omega]; exact hcl), by simp only [fits]; omega, by simp only [fits]; omega, by simp only [fits]; omega, ⟨by omega, by simp only [kbits]; omega⟩, hf, ?_⟩
        rw [he]
        refine m.store 0 rfl (by show 14 < 15; decide) fun g7 m7 => ?_
        exact ⟨by simp only [fits]; omega, ⟨k + 1, by omega, by omega, m7⟩, by dsimp only; omega⟩
      · obtain rfl : k = 8 := by omega
        rw [show mp % pow2 (8 * ((8 : Nat) : Int)) = mp from Int.emod_eq_of_lt hm.1 hm.2] at m
        refine ⟨ackC [x1, x2, x3, x4, x5, x6] [y1, y2, y3, y4, y5, y6] tid sq mp, m.row 0 rfl rfl (Nat.le_of_ble_eq_true rfl), ?_⟩
        refine (rackBytes_c (to := [x1, x2, x3, x4, x5, x6]) (fr := [y1, y2, y3, y4, y5, y6]) m rfl rfl ht hs).mono ?_
        rintro _ g8 ⟨W', a8, c8, hle, rfl, m, hb8⟩
        obtain ⟨q1, q2, q3⟩ := bts_src hb8
        refine ⟨_, _, _, _, rfl, bcase_false rfl ?_⟩
        refine (sameBytes_c (m.wsrc (wsrc_le hle hsb)) hL (m.wsrc q1) q2 (by decide)).ret ⟨_, rfl, bcase_false (by simp) ?_⟩
        refine ⟨ackC [x1, x2, x3, x4, x5, x6] [y1, y2, y3, y4, y5, y6] tid sq mp, m.row 0 rfl rfl (Nat.le_of_ble_eq_true rfl), ⟨rfl, m.wrsb 1 rfl rfl, ackC_one _ _ _ _ _⟩, fun g9 e9 => ?_⟩
        have m9 := m.setr 1 rfl e9
        simp only [List.set_cons_zero, List.set_cons_succ] at m9
        rw [setL_all (show (ackC [x1, x2, x3, x4, x5, x6] [y1, y2, y3, y4, y5, y6] tid sq mp).length = z15.length from rfl)] at m9
        exact ⟨ackC [x1, x2, x3, x4, x5, x6] [y1, y2, y3, y4, y5, y6] tid sq mp, m9.row 1 rfl rfl (Nat.le_of_ble_eq_true rfl), rfl, W', hle, m9.drop1.drop1⟩
  · intro bX g4 e3 e4
    replace m := m.push e4 e3
    refine (s1 m).mono ?_
    rintro _ g2 ⟨rfl, m⟩
    refine ⟨_, rfl, ?_⟩
    refine (s2 m).mono ?_
    rintro _ g3 ⟨rfl, m⟩
    refine ⟨_, rfl, ?_⟩
    refine (s3 m).ret ⟨_, rfl, ?_⟩
    rw [d1]
    refine ⟨⟨by omega, by decide, f1⟩, ?_⟩
    refine (s4 m).ret ⟨_, rfl, ?_⟩
    rw [d2]
    refine ⟨⟨by omega, by decide, f2⟩, rfl, rfl, ?_⟩
    refine ⟨⟨rfl, m.wrsb 0 rfl rfl, ackC_one [x1, x2, x3, x4, x5, x6] [y1, y2, y3, y4, y5, y6] tid sq 0⟩, fun g5 e5 => ?_⟩
    replace m := m.setr 0 rfl e5
    simp only [List.set_cons_zero] at m
    replace m : Me W g5 ([(bX, ackC [x1, x2, x3, x4, x5, x6] [y1, y2, y3, y4, y5, y6] tid sq (mp % pow2 (8 * ((0 : Nat) : Int))), 44)] :: [(b1, z15, 44)] :: G) := by
      rw [show mp % pow2 (8 * ((0 : Nat) : Int)) = 0 from Int.emod_one mp]; exact m
    refine ⟨fun i h => ∃ k : Nat, i = k ∧ k ≤ 8 ∧ Me W h ([(bX, ackC [x1, x2, x3, x4, x5, x6] [y1, y2, y3, y4, y5, y6] tid sq (mp % pow2 (8 * (k : Int))), 44)] :: [(b1, z15, 44)] :: G), fun i _ => (8 - i).toNat, ⟨0, rfl, by omega, m⟩, fun _ => ?_⟩
    rintro _ g6 ⟨k, rfl, hk, m⟩
    refine dcase_intro (fun q => ?_) fun q => ?_
    · obtain ⟨hf, he⟩ := or_map (mp := mp) (k := k) hm.1 (by omega)
      have hcl := hx (20 + k) _ (by rw [show ackB [x1, x2, x3, x4, x5, x6] [y1, y2, y3, y4, y5, y6] tid sq mp = askB 148 [x1, x2, x3, x4, x5, x6] [y1, y2, y3, y4, y5, y6] tid sq ++ mapB mp 8 from rfl, List.getElem?_append_right (by rw [askB_len 148 rfl rfl]; omega), askB_len 148 rfl rfl, Nat.add_sub_cancel_left]; exact mapB_get (by omega))
      refine ⟨_, m.cell 0 rfl rfl, by simp only [fits]; omega, ⟨by omega, by omega⟩, _, m.wcell (by rw [show ((20 : Int) + (k : Int)).toNat = 20 + k by omega]; exact hcl), by simp only [fits]; omega, by simp only [fits]; omega, by simp only [fits]; omega, ⟨by omega, by simp only [kbits]; omega⟩, hf, ?_⟩
      rw [he]
      refine m.store 0 rfl (by show 14 < 15; decide) fun g7 m7 => ?_
      exact ⟨by simp only [fits]; omega, ⟨k + 1, by omega, by omega, m7⟩, by dsimp only; omega⟩
    · obtain rfl : k = 8 := by omega
      rw [show mp % pow2 (8 * ((8 : Nat) : Int)) = mp from Int.emod_eq_of_lt hm.1 hm.2] at m
      refine ⟨ackC [x1, x2, x3, x4, x5, x6] [y1, y2, y3, y4, y5, y6] tid sq mp, m.row 0 rfl rfl (Nat.le_of_ble_eq_true rfl), ?_⟩
      refine (rackBytes_c (to := [x1, x2, x3, x4, x5, x6]) (fr := [y1, y2, y3, y4, y5, y6]) m rfl rfl ht hs).mono ?_
      rintro _ g8 ⟨W', a8, c8, hle, rfl, m, hb8⟩
      obtain ⟨q1, q2, q3⟩ := bts_src hb8
      refine ⟨_, _, _, _, rfl, bcase_false rfl ?_⟩
      refine (sameBytes_c (m.wsrc (wsrc_le hle hsb)) hL (m.wsrc q1) q2 (by decide)).ret ⟨_, rfl, bcase_false (by simp) ?_⟩
      refine ⟨ackC [x1, x2, x3, x4, x5, x6] [y1, y2, y3, y4, y5, y6] tid sq mp, m.row 0 rfl rfl (Nat.le_of_ble_eq_true rfl), ⟨rfl, m.wrsb 1 rfl rfl, ackC_one _ _ _ _ _⟩, fun g9 e9 => ?_⟩
      have m9 := m.setr 1 rfl e9
      simp only [List.set_cons_zero, List.set_cons_succ] at m9
      rw [setL_all (show (ackC [x1, x2, x3, x4, x5, x6] [y1, y2, y3, y4, y5, y6] tid sq mp).length = z15.length from rfl)] at m9
      exact ⟨ackC [x1, x2, x3, x4, x5, x6] [y1, y2, y3, y4, y5, y6] tid sq mp, m9.row 1 rfl rfl (Nat.le_of_ble_eq_true rfl), rfl, W', hle, m9.drop1.drop1⟩
end Go.Proofs.YthlacliefgliiaaDoor
