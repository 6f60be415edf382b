/- The bytes of an Ack: built by ctl.AckBytes and by the document's, read by the document's ReadAck. -/
import Derived.Test.YthlacliefgliiaaDoorFrm3
set_option linter.unusedVariables false
set_option linter.unusedSimpArgs false
set_option maxRecDepth 8000
namespace Go.Proofs.YthlacliefgliiaaDoor
open Go.Vc
/-- The first bytes of a map. -/
def mapB (mp : Int) (k : Nat) : List Int := (List.range k).map fun (i : Nat) => mp / pow2 (8 * (i : Int)) % 256
theorem mapB_succ (mp : Int) (k : Nat) : mapB mp (k + 1) = mapB mp k ++ [mp / pow2 (8 * (k : Int)) % 256] := by
  simp [mapB, List.range_succ]
theorem mapB_len (mp : Int) (k : Nat) : (mapB mp k).length = k := by simp [mapB]
/-- The bytes of a question, or of an Ack's beginning. -/
def askB (kind : Int) (to fr : List Int) (tid sq : Int) : List Int := ([kind, 0, 0, 0] : List Int) ++ (to ++ (fr ++ [(4 + tid * 4096) % 256, (4 + tid * 4096) / 256 % 256, sq * 16 % 256, sq * 16 / 256 % 256]))
def ackB (to fr : List Int) (tid sq mp : Int) : List Int := askB 148 to fr tid sq ++ mapB mp 8
/-- An Ack's cells. -/
def ackC (to fr : List Int) (tid sq mp : Int) : List Value := ints .u8 to ++ (ints .u8 fr ++ [.int .i64 tid, .int .i64 sq, .int .u64 mp])
section
variable {W W' : Wd} {h h' : Heap} {G : List Grp} {E : Grp} {a b : Option Addr} {l r c d n k : Nat} {vs us : List Value} {bs xs ys to fr : List Int} {tid sq mp : Int}
theorem askB_len (kind : Int) (h1 : to.length = 6) (h2 : fr.length = 6) : (askB kind to fr tid sq).length = 20 := by simp [askB, h1, h2]
theorem ackB_len (h1 : to.length = 6) (h2 : fr.length = 6) : (ackB to fr tid sq mp).length = 28 := by simp [ackB, askB_len 148 h1 h2, mapB_len]
theorem two_c (z : Int) (m : Me W h G) : Runs Tryd.prog 89 #[.int .i64 z] h fun v h' => ∃ b T, v = .slice (some ⟨b, 0, none⟩) 2 2 ∧ Me W h' ([(b, ints .u8 [z % 256, z / 256 % 256], T)] :: G) := by
  refine vc_ctl_two _ _ _ ⟨by decide, ?_⟩
  rw [wrap8, wrap8]
  intro b1 h1 e1 e2
  exact ⟨b1, _, rfl, m.push e2 e1⟩
theorem me_swap {A B : Grp} (m : Me W h (A :: B :: G)) : Me W h (B :: A :: G) := m.perm (by
  simp only [List.flatten_cons]; rw [← List.append_assoc, ← List.append_assoc]; exact List.perm_append_comm.append_right _)
theorem asks_c (kind : Int) (m : Me W h G) (h1 : to.length = 6) (h2 : fr.length = 6) (ht : 0 ≤ tid ∧ tid ≤ 7) (hs : 0 ≤ sq ∧ sq ≤ 4095) :
    Runs Tryd.prog 80 #[.int .u8 kind, .agg (ints .u8 to).toArray, .agg (ints .u8 fr).toArray, .int .i64 tid, .int .i64 sq] h fun v h' => ∃ a c E, v = .tuple #[.slice a 20 c, .nilIface] ∧ Me W h' (E :: G) ∧ Ow a 20 c 1 (ints .u8 (askB kind to fr tid sq)) E := by
  refine vc_ctl_asks _ _ _ _ _ _ _ ?_
  intro b1 g1 e1 e2 b2 g2 f1 f2
  replace m := (m.push e2 e1).push f2 f1
  refine dcase_neg (by omega) (dcase_neg (by omega) (dcase_neg (by omega) (dcase_neg (by omega) ?_)))
  intro b3 g3 e3 e4
  replace m := m.push e4 e3
  have o3 : Ow (some ⟨b3, 0, none⟩) 4 4 1 (ints .u8 [kind, 0, 0, 0]) [(b3, ints .u8 [kind, 0, 0, 0], 5)] := Ow.fresh0 rfl
  refine ⟨ints .u8 to, ⟨m.row 2 rfl (by rw [List.drop_zero]; exact List.take_of_length_le (by rw [ints_len]; omega)) (by rw [ints_len]; omega), ints_one⟩, ?_⟩
  refine o3.app m 0 rfl (by rw [ints_len]; omega) (by omega) (by decide) fun a4 c4 E4 h4 m o4 => ?_
  simp only [List.set_cons_zero] at m
  refine ⟨ints .u8 fr, ⟨m.row 1 rfl (by rw [List.drop_zero]; exact List.take_of_length_le (by rw [ints_len]; omega)) (by rw [ints_len]; omega), ints_one⟩, ?_⟩
  refine o4.app m 0 rfl (by rw [ints_len]; omega) (by omega) (by decide) fun a5 c5 E5 h5 m o5 => ?_
  simp only [List.set_cons_zero] at m
  refine ⟨by simp only [fits]; omega, by simp only [fits]; omega, ?_⟩
  refine (two_c _ m).mono ?_
  rintro _ h6 ⟨b6, T6, rfl, m⟩
  refine ⟨_, _, _, rfl, ints .u8 [(4 + tid * 4096) % 256, (4 + tid * 4096) / 256 % 256], ⟨m.row 0 rfl rfl (Nat.le_of_ble_eq_true rfl), ints_one⟩, ?_⟩
  refine o5.app m 1 rfl rfl (by omega) (by decide) fun a7 c7 E7 h7 m o7 => ?_
  simp only [List.set_cons_zero, List.set_cons_succ] at m
  refine ⟨by simp only [fits]; omega, ?_⟩
  refine (two_c _ m.drop1).mono ?_
  rintro _ h8 ⟨b8, T8, rfl, m⟩
  refine ⟨_, _, _, rfl, ints .u8 [sq * 16 % 256, sq * 16 / 256 % 256], ⟨m.row 0 rfl rfl (Nat.le_of_ble_eq_true rfl), ints_one⟩, ?_⟩
  refine o7.app m 1 rfl rfl (by omega) (by decide) fun a9 c9 E9 h9 m o9 => ?_
  simp only [List.set_cons_zero, List.set_cons_succ] at m
  refine ⟨a9, c9, E9, rfl, (me_swap (me_swap m.drop1).drop1).drop1, ?_⟩
  have e : ints .u8 [kind, 0, 0, 0] ++ ints .u8 to ++ ints .u8 fr ++ ints .u8 [(4 + tid * 4096) % 256, (4 + tid * 4096) / 256 % 256] ++ ints .u8 [sq * 16 % 256, sq * 16 / 256 % 256] = ints .u8 (askB kind to fr tid sq) := by
    simp [askB, ints]
  rw [← e]; exact o9
theorem pow2_8 (k : Nat) : pow2 (8 * (k : Int)) = ((2 ^ (8 * k) : Nat) : Int) := by
  unfold pow2
  rw [show (8 * (k : Int)).toNat = 8 * k by omega, Int.natCast_pow]; rfl
theorem shl_bd {k : Nat} (hk : k < 8) : (IntKind.i64.wrap ((8 : Int) * (k : Int))) = 8 * (k : Int) ∧ IntKind.u64.wrap (8 * (k : Int)) = 8 * (k : Int) ∧ IntKind.i64.wrap ((k : Int) + 1) = (k : Int) + 1 :=
  ⟨wrap_fits (by simp only [fits]; omega), wrap_fits (by simp only [fits]; omega), wrap_fits (by simp only [fits]; omega)⟩
theorem ackBytes_c (m : Me W h G) (h1 : to.length = 6) (h2 : fr.length = 6) (ht : 0 ≤ tid ∧ tid ≤ 7) (hs : 0 ≤ sq ∧ sq ≤ 4095) :
    Runs Tryd.prog 65 #[.agg (ackC to fr tid sq mp).toArray] h (Bmade W G (ackB to fr tid sq mp) fun v => .tuple #[v, .nilIface]) := by
  have hL := ackB_len (tid := tid) (sq := sq) (mp := mp) h1 h2
  obtain ⟨x1, x2, x3, x4, x5, x6, rfl⟩ := six_of h1
  obtain ⟨y1, y2, y3, y4, y5, y6, rfl⟩ := six_of h2
  refine vc_ctl_AckBytes _ _ _ ?_
  intro b1 g1 e1 e2
  replace m := m.push e2 e1
  refine ⟨_, m.row 0 rfl rfl (Nat.le_of_ble_eq_true rfl), _, m.row 0 rfl rfl (Nat.le_of_ble_eq_true rfl), _, m.cell 0 rfl rfl, _, m.cell 0 rfl rfl, ?_⟩
  refine (asks_c (to := [x1, x2, x3, x4, x5, x6]) (fr := [y1, y2, y3, y4, y5, y6]) 148 m rfl rfl ht hs).mono ?_
  rintro _ g2 ⟨a2, c2, E2, rfl, m, o2⟩
  refine ⟨_, _, _, _, rfl, true, rfl, bcase_false rfl ?_⟩
  refine ⟨fun a' l' c' i h => ∃ (k : Nat) (E' : Grp), i = k ∧ k ≤ 8 ∧ l' = 20 + k ∧ Me W h (E' :: [(b1, ackC [x1, x2, x3, x4, x5, x6] [y1, y2, y3, y4, y5, y6] tid sq mp, 44)] :: G) ∧ Ow a' l' c' 1 (ints .u8 (askB 148 [x1, x2, x3, x4, x5, x6] [y1, y2, y3, y4, y5, y6] tid sq ++ mapB mp k)) E', fun _ _ _ i _ => (8 - i).toNat, ⟨0, E2, rfl, by omega, rfl, m, by simpa [mapB] using o2⟩, fun _ => ?_⟩
  rintro a' l' c' _ g3 ⟨k, E', rfl, hk, rfl, m, o⟩
  refine dcase_intro (fun q => ?_) fun q => ?_
  · obtain ⟨w1, w2, w3⟩ := shl_bd (show k < 8 by omega)
    rw [w1, w3]
    refine ⟨_, m.cell 1 rfl rfl, ⟨by omega, by simp only [kbits]; omega⟩, ?_⟩
    rw [wrap8]
    refine o.appn m rfl (by simp [Value.oneCell']) (by omega) (by decide) fun a4 c4 E4 g4 m4 o4 => ?_
    refine ⟨⟨k + 1, E4, by omega, by omega, by omega, m4, ?_⟩, by dsimp only; omega⟩
    rw [mapB_succ, ← List.append_assoc, ints_app (l := _ ++ mapB mp k)]
    exact o4
  · obtain rfl : k = 8 := by omega
    have o9 : Ow a' (ackB [x1, x2, x3, x4, x5, x6] [y1, y2, y3, y4, y5, y6] tid sq mp).length c' 1 (ints .u8 (ackB [x1, x2, x3, x4, x5, x6] [y1, y2, y3, y4, y5, y6] tid sq mp)) E' := by rw [hL]; exact o
    obtain ⟨W', hl, m9, hb9⟩ := ow_give o9 m
    exact ⟨W', a', c', hl, by rw [hL], m9.drop1, hb9⟩
/-- The document's bytes of an Ack. -/
theorem rackBytes_c (m : Me W h G) (h1 : to.length = 6) (h2 : fr.length = 6) (ht : 0 ≤ tid ∧ tid ≤ 7) (hs : 0 ≤ sq ∧ sq ≤ 4095) :
    Runs Tryd.prog 39 #[.agg (ackC to fr tid sq mp).toArray] h (Bmade W G (ackB to fr tid sq mp) fun v => .tuple #[v, .int .i64 0]) := by
  have hL := ackB_len (tid := tid) (sq := sq) (mp := mp) h1 h2
  obtain ⟨x1, x2, x3, x4, x5, x6, rfl⟩ := six_of h1
  obtain ⟨y1, y2, y3, y4, y5, y6, rfl⟩ := six_of h2
  refine vc_muezzinref1_AckBytes _ _ _ ?_
  intro b1 g1 e1 e2
  replace m := m.push e2 e1
  refine ⟨_, m.cell 0 rfl rfl, rout_in ⟨ht.1, ht.2⟩ ⟨_, rfl, bcase_false rfl ?_⟩⟩
  refine ⟨_, m.cell 0 rfl rfl, rout_in ⟨hs.1, hs.2⟩ ⟨_, rfl, bcase_false rfl ?_⟩⟩
  refine ⟨_, m.row 0 rfl rfl (Nat.le_of_ble_eq_true rfl), _, m.row 0 rfl rfl (Nat.le_of_ble_eq_true rfl), _, m.cell 0 rfl rfl, _, m.cell 0 rfl rfl, ?_⟩
  intro b2 g2 f1 f2
  have m2 := m.push f2 f1
  have o2 : Ow (some ⟨b2, 0, none⟩) 4 4 1 (ints .u8 [148, 0, 0, 0]) [(b2, ints .u8 [148, 0, 0, 0], 5)] := Ow.fresh0 rfl
  refine (raddr_c (xs := [x1, x2, x3, x4, x5, x6]) (bs := [148, 0, 0, 0]) o2 m2 rfl (Nat.le_of_ble_eq_true rfl)).mono ?_
  rintro _ h3 ⟨a3, c3, E3, rfl, m3, o3⟩
  refine ⟨_, _, _, rfl, m3.cell 1 rfl rfl, m3.cell 1 rfl rfl, m3.row 1 rfl rfl (Nat.le_of_ble_eq_true rfl), ?_⟩
  refine (raddr_c (xs := [y1, y2, y3, y4, y5, y6]) (bs := [148, 0, 0, 0] ++ [x1, x2, x3, x4, x5, x6]) o3 m3 rfl (Nat.le_of_ble_eq_true rfl)).mono ?_
  rintro _ h4 ⟨a4, c4, E4, rfl, m4, o4⟩
  refine ⟨_, _, _, rfl, m4.cell 1 rfl rfl, m4.cell 1 rfl rfl, ?_⟩
  rw [wrap_fits (show fits .i64 (tid * 4096) by simp only [fits]; omega), wrap_fits (show fits .i64 (4 + tid * 4096) by simp only [fits]; omega), wrap_fits (show fits .i64 (sq * 16) by simp only [fits]; omega)]
  refine (rtwo_c (bs := [148, 0, 0, 0] ++ [x1, x2, x3, x4, x5, x6] ++ [y1, y2, y3, y4, y5, y6]) (4 + tid * 4096) o4 m4 (Nat.le_of_ble_eq_true rfl)).mono ?_
  rintro _ h5 ⟨a5, c5, E5, rfl, m5, o5⟩
  refine ⟨_, _, _, rfl, m5.cell 1 rfl rfl, m5.cell 1 rfl rfl, ?_⟩
  refine (rtwo_c (bs := [148, 0, 0, 0] ++ [x1, x2, x3, x4, x5, x6] ++ [y1, y2, y3, y4, y5, y6] ++ [(4 + tid * 4096) % 256, (4 + tid * 4096) / 256 % 256]) (sq * 16) o5 m5 (Nat.le_of_ble_eq_true rfl)).mono ?_
  rintro _ h6 ⟨a6, c6, E6, rfl, m6, o6⟩
  refine ⟨_, _, _, rfl, m6.cell 1 rfl rfl, m6.cell 1 rfl rfl, ?_⟩
  refine ⟨fun a' l' c' i h => ∃ (k : Nat) (E' : Grp), i = k ∧ k ≤ 8 ∧ l' = 20 + k ∧ Me W h (E' :: [(b1, ackC [x1, x2, x3, x4, x5, x6] [y1, y2, y3, y4, y5, y6] tid sq mp, 44)] :: G) ∧ Ow a' l' c' 1 (ints .u8 (askB 148 [x1, x2, x3, x4, x5, x6] [y1, y2, y3, y4, y5, y6] tid sq ++ mapB mp k)) E', fun _ _ _ i _ => (8 - i).toNat, ⟨0, E6, rfl, by omega, rfl, m6, by simpa [mapB, askB] using o6⟩, fun _ => ?_⟩
  rintro a' l' c' _ g3 ⟨k, E', rfl, hk, rfl, m, o⟩
  refine dcase_intro (fun q => ?_) fun q => ?_
  · obtain ⟨w1, w2, w3⟩ := shl_bd (show k < 8 by omega)
    rw [w1, w2, w3]
    refine ⟨_, m.cell 1 rfl rfl, ⟨by omega, by simp only [kbits]; omega⟩, ?_⟩
    rw [wrap8]
    refine o.appn m rfl (by simp [Value.oneCell']) (by omega) (by decide) fun a4 c4 E4 g4 m4 o4 => ?_
    refine ⟨⟨k + 1, E4, by omega, by omega, by omega, m4, ?_⟩, by dsimp only; omega⟩
    rw [mapB_succ, ← List.append_assoc, ints_app (l := _ ++ mapB mp k)]
    exact o4
  · obtain rfl : k = 8 := by omega
    have o9 : Ow a' (ackB [x1, x2, x3, x4, x5, x6] [y1, y2, y3, y4, y5, y6] tid sq mp).length c' 1 (ints .u8 (ackB [x1, x2, x3, x4, x5, x6] [y1, y2, y3, y4, y5, y6] tid sq mp)) E' := by rw [hL]; exact o
    obtain ⟨W', hl, m9, hb9⟩ := ow_give o9 m
    exact ⟨W', a', c', hl, by rw [hL], m9.drop1, hb9⟩
end
end Go.Proofs.YthlacliefgliiaaDoor
