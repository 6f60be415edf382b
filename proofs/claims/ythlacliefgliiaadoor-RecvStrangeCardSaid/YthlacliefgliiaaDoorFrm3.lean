/- A data frame's bytes, read by qos.Read: the frame. -/
import Derived.Test.YthlacliefgliiaaDoorFrm2
set_option linter.unusedVariables false
set_option linter.unusedSimpArgs false
set_option maxRecDepth 8000
namespace Go.Proofs.YthlacliefgliiaaDoor
open Go.Vc
def z24 : List Value := ints .u8 [0, 0, 0, 0, 0, 0, 0, 0, 0, 0, 0, 0, 0, 0, 0, 0, 0, 0] ++ [.int .i64 0, .int .i64 0, .bool false, .bool false, .bool false, .slice none 0 0]
/-- A frame of which so many addresses were read. -/
def rdA (f : Fm) (k : Nat) (v : Value) : List Value :=
  ints .u8 (match k with | 0 => [0, 0, 0, 0, 0, 0] | _ => f.to) ++ (ints .u8 (match k with | 0 => [0, 0, 0, 0, 0, 0] | 1 => [0, 0, 0, 0, 0, 0] | _ => f.bss) ++ (ints .u8 (match k with | 3 => f.fr | _ => [0, 0, 0, 0, 0, 0]) ++ [.int .i64 f.tid, .int .i64 f.sq, .bool f.rt, .bool f.mo, .bool f.eo, v]))
theorem rdA_one (f : Fm) (k : Nat) (a : Option Addr) (l c : Nat) : ∀ u ∈ rdA f k (.slice a l c), u.oneCell' = true := by
  intro u hu
  unfold rdA at hu
  simp only [List.mem_append] at hu
  rcases hu with hu | hu | hu | hu
  · exact ints_one u hu
  · exact ints_one u hu
  · exact ints_one u hu
  · simp only [List.mem_cons, List.not_mem_nil, or_false] at hu
    rcases hu with rfl | rfl | rfl | rfl | rfl | rfl <;> rfl
theorem fmc_one (f : Fm) (a : Option Addr) (l c : Nat) : ∀ u ∈ fmc f (.slice a l c), u.oneCell' = true := rdA_one f 3 a l c
theorem setL_all {vs us : List Value} (h : us.length = vs.length) : setL vs 0 us = us := by
  rw [setL_eq (by omega), List.take_zero, List.nil_append, Nat.zero_add, h, List.drop_length, List.append_nil]
theorem rd6 {W : Wd} {a : Option Addr} {n : Nat} {vs : List Value} (hs : wsrc W a 6 vs) (hn : n * 1 = 6) : wsrc W a (n * 1) vs := by rw [hn]; exact hs
set_option maxHeartbeats 600000 in
theorem qosRead_c {W : Wd} {h : Heap} {G : List Grp} {f : Fm} {a : Option Addr} {n c : Nat} (m : Me W h G) (hb : Bts W (.slice a n c) (qosB f)) (hf : FmOk f) :
    Runs Tryd.prog 33 #[.slice a n c] h fun v h' => ∃ W' cs, W.le W' ∧ v = .tuple #[.agg cs.toArray, .nilIface] ∧ FmV W' f cs ∧ Me W' h' G := by
  obtain ⟨l1, l2, l3, t0, t7, s0, s1, bl⟩ := hf
  obtain ⟨to, bss, fr, tid, sq, rt, mo, eo, body⟩ := f
  dsimp only at l1 l2 l3 t0 t7 s0 s1 bl
  obtain ⟨x1, x2, x3, x4, x5, x6, rfl⟩ := six_of l1
  obtain ⟨y1, y2, y3, y4, y5, y6, rfl⟩ := six_of l2
  obtain ⟨z1, z2, z3, z4, z5, z6, rfl⟩ := six_of l3
  have hlen : (qosB ⟨[x1, x2, x3, x4, x5, x6], [y1, y2, y3, y4, y5, y6], [z1, z2, z3, z4, z5, z6], tid, sq, rt, mo, eo, body⟩).length = 26 + body.length := by simp [qosB]; omega
  obtain ⟨b, o, rfl, hn, hc, hx⟩ := bts_opn hb (by omega)
  rw [hlen] at hn
  have hbt := bts_tail hb (k := 26) (by omega)
  rw [show List.drop 26 (qosB ⟨[x1, x2, x3, x4, x5, x6], [y1, y2, y3, y4, y5, y6], [z1, z2, z3, z4, z5, z6], tid, sq, rt, mo, eo, body⟩) = body from rfl] at hbt
  obtain ⟨ha4, -, -⟩ := bts_src (bts_tail hb (k := 4) (by omega))
  obtain ⟨ha10, -, -⟩ := bts_src (bts_tail hb (k := 10) (by omega))
  obtain ⟨ha16, -, -⟩ := bts_src (bts_tail hb (k := 16) (by omega))
  replace ha4 : wsrc W (slcAddr (some ⟨b, o, none⟩) 4 c 4) 6 (ints .u8 [x1, x2, x3, x4, x5, x6]) := wsrc_take (j := 6) ha4 (by omega) (by rw [ints_len, List.length_drop]; omega)
  replace ha10 : wsrc W (slcAddr (some ⟨b, o, none⟩) 10 c 10) 6 (ints .u8 [y1, y2, y3, y4, y5, y6]) := wsrc_take (j := 6) ha10 (by omega) (by rw [ints_len, List.length_drop]; omega)
  replace ha16 : wsrc W (slcAddr (some ⟨b, o, none⟩) 16 c 16) 6 (ints .u8 [z1, z2, z3, z4, z5, z6]) := wsrc_take (j := 6) ha16 (by omega) (by rw [ints_len, List.length_drop]; omega)
  have eor : bits .or .i64 (sq * 16 % 256) (sq * 16 / 256 % 256 * 256) = sq * 16 := by
    rw [or_lo (by omega) (by omega)]; omega
  obtain ⟨ef1, ef2, ef3⟩ := flags_and rt mo
  obtain ⟨et1, et2⟩ := tid_and tid eo t0 t7
  refine vc_qos_Read _ _ _ _ _ ?_
  intro b1 h1 e1 e2
  replace m := m.push e2 e1
  refine dcase_neg (by omega) ⟨⟨by decide, by omega⟩, _, m.wcell (hx 0 _ rfl), bcase_false rfl ⟨⟨by decide, by omega⟩, _, m.wcell (hx 22 _ rfl), by simp only [fits]; omega, ⟨by decide, by omega⟩, _, m.wcell (hx 23 _ rfl), by simp only [fits]; omega, by decide, by simp only [fits]; omega, ?_⟩⟩
  rw [eor]
  refine ⟨fun h => h = h1, ⟨fun x h => x = false ∧ h = h1, ?_, fun _ => ?_⟩, fun _ => ?_⟩
  · refine ⟨⟨by decide, by omega⟩, _, m.wcell (hx 1 _ rfl), ?_⟩
    rw [ef1]
    refine bcase_false rfl ⟨⟨by decide, by omega⟩, _, m.wcell (hx 2 _ rfl), bcase_false rfl ⟨⟨by decide, by omega⟩, _, m.wcell (hx 3 _ rfl), bcase_false rfl ⟨⟨by decide, by omega⟩, _, m.wcell (hx 25 _ rfl), bcase_false rfl ⟨by decide, bcase_false ?_ ⟨⟨by decide, by omega⟩, _, m.wcell (hx 24 _ rfl), ?_, rfl⟩⟩⟩⟩⟩
    · rw [Int.tmod_eq_emod_of_nonneg (by omega)]; simp
    · rw [et1]; exact decide_eq_false (by omega)
  · rintro _ _ ⟨rfl, rfl⟩
    exact bcase_false rfl ⟨by simp only [fits]; omega, dcase_neg (by omega) rfl⟩
  rintro _ rfl
  refine ⟨⟨by decide, by omega⟩, _, m.wcell (hx 24 _ rfl), ?_⟩
  rw [et1]
  refine ⟨by simp only [fits]; omega, ⟨by omega, by decide, by simp only [fits]; omega⟩, ⟨by decide, by omega⟩, _, m.wcell (hx 1 _ rfl), ⟨by decide, by omega⟩, _, m.wcell (hx 1 _ rfl), ⟨by decide, by omega⟩, _, m.wcell (hx 24 _ rfl), ⟨by decide, by omega⟩, ?_, ?_⟩
  · refine (cloneB_c m hbt (by omega)).mono ?_
    rintro _ h8 ⟨W', sa, sc, hle, rfl, m, hbs⟩
    refine ⟨_, _, _, rfl, m.wcell (wcell_le hle (hx 24 _ rfl)), m.wcell (wcell_le hle (hx 1 _ rfl)), m.wcell (wcell_le hle (hx 1 _ rfl)), m.wcell (wcell_le hle (hx 24 _ rfl)), ?_⟩
    intro bX h9 g1 g2
    replace m := m.push g2 g1
    rw [ef2, ef3, et2, show sq * 16 / 16 = sq by omega]
    refine ⟨⟨rfl, m.wrsb 0 rfl rfl, rdA_one ⟨[x1, x2, x3, x4, x5, x6], [y1, y2, y3, y4, y5, y6], [z1, z2, z3, z4, z5, z6], tid, sq, rt, mo, eo, body⟩ 0 _ _ _⟩, fun h10 g3 => ?_⟩
    replace m := m.setr 0 rfl g3
    simp only [List.set_cons_zero] at m
    replace m : Me W' h10 ([(bX, rdA ⟨[x1, x2, x3, x4, x5, x6], [y1, y2, y3, y4, y5, y6], [z1, z2, z3, z4, z5, z6], tid, sq, rt, mo, eo, body⟩ 0 (.slice sa body.length sc), 55)] :: [(b1, z24, 55)] :: G) := m
    refine ⟨fun h => Me W' h ([(bX, rdA ⟨[x1, x2, x3, x4, x5, x6], [y1, y2, y3, y4, y5, y6], [z1, z2, z3, z4, z5, z6], tid, sq, rt, mo, eo, body⟩ 3 (.slice sa body.length sc), 55)] :: [(b1, z24, 55)] :: G), ?_, fun _ => ?_⟩
    · intro b15 h11 g4 g5
      replace m := m.push g5 g4
      refine ⟨fun i h => ∃ k : Nat, i = k ∧ k ≤ 3 ∧ Me W' h ([(b15, [.pointer (some ⟨bX, 0, none⟩), .pointer (some ⟨bX, 6, none⟩), .pointer (some ⟨bX, 12, none⟩)], 115)] :: [(bX, rdA ⟨[x1, x2, x3, x4, x5, x6], [y1, y2, y3, y4, y5, y6], [z1, z2, z3, z4, z5, z6], tid, sq, rt, mo, eo, body⟩ k (.slice sa body.length sc), 55)] :: [(b1, z24, 55)] :: G), fun i _ => (3 - i).toNat, ⟨0, rfl, by omega, m⟩, fun _ => ?_⟩
      rintro _ h12 ⟨k, rfl, hk, m⟩
      refine dcase_intro (fun q => ?_) fun q => ?_
      · have : k = 0 ∨ k = 1 ∨ k = 2 := by omega
        rcases this with rfl | rfl | rfl
        · (refine ⟨⟨by decide, by decide⟩, _, m.cell 0 rfl rfl, ⟨by simp only [fits]; omega, by simp only [fits]; omega, ⟨by decide, by omega⟩, _, ⟨m.wsrc (wsrc_le hle (rd6 ha4 (by omega))), ints_one⟩, m.wrsb 1 rfl rfl, fun h13 g6 => ?_⟩⟩; have m13 := m.setr 1 rfl g6; exact ⟨by simp only [fits]; omega, ⟨0 + 1, rfl, by decide, m13⟩, by dsimp only; omega⟩)
        · (refine ⟨⟨by decide, by decide⟩, _, m.cell 0 rfl rfl, ⟨by simp only [fits]; omega, by simp only [fits]; omega, ⟨by decide, by omega⟩, _, ⟨m.wsrc (wsrc_le hle (rd6 ha10 (by omega))), ints_one⟩, m.wrsb 1 rfl rfl, fun h13 g6 => ?_⟩⟩; have m13 := m.setr 1 rfl g6; exact ⟨by simp only [fits]; omega, ⟨1 + 1, rfl, by decide, m13⟩, by dsimp only; omega⟩)
        · (refine ⟨⟨by decide, by decide⟩, _, m.cell 0 rfl rfl, ⟨by simp only [fits]; omega, by simp only [fits]; omega, ⟨by decide, by omega⟩, _, ⟨m.wsrc (wsrc_le hle (rd6 ha16 (by omega))), ints_one⟩, m.wrsb 1 rfl rfl, fun h13 g6 => ?_⟩⟩; have m13 := m.setr 1 rfl g6; exact ⟨by simp only [fits]; omega, ⟨2 + 1, rfl, by decide, m13⟩, by dsimp only; omega⟩)
      · obtain rfl : k = 3 := by omega
        exact m.drop1
    · intro h14 m
      have r14 : row h14 bX 0 24 = some (fmc ⟨[x1, x2, x3, x4, x5, x6], [y1, y2, y3, y4, y5, y6], [z1, z2, z3, z4, z5, z6], tid, sq, rt, mo, eo, body⟩ (.slice sa body.length sc)) := m.row 0 rfl rfl (Nat.le_of_ble_eq_true rfl)
      refine ⟨_, r14, ⟨rfl, m.wrsb 1 rfl rfl, fmc_one _ _ _ _⟩, fun h15 g6 => ?_⟩
      have m15 := m.setr 1 rfl g6
      simp only [List.set_cons_zero, List.set_cons_succ] at m15
      rw [setL_all (show (fmc ⟨[x1, x2, x3, x4, x5, x6], [y1, y2, y3, y4, y5, y6], [z1, z2, z3, z4, z5, z6], tid, sq, rt, mo, eo, body⟩ (.slice sa body.length sc)).length = z24.length from rfl)] at m15
      have r15 : row h15 b1 0 24 = some (fmc ⟨[x1, x2, x3, x4, x5, x6], [y1, y2, y3, y4, y5, y6], [z1, z2, z3, z4, z5, z6], tid, sq, rt, mo, eo, body⟩ (.slice sa body.length sc)) := m15.row 1 rfl rfl (Nat.le_of_ble_eq_true rfl)
      exact ⟨_, r15, W', _, hle, rfl, ⟨_, rfl, hbs⟩, m15.drop1.drop1⟩
  · intro bX h9 g1 g2
    replace m := m.push g2 g1
    refine (cloneB_c m hbt (by omega)).mono ?_
    rintro _ h8 ⟨W', sa, sc, hle, rfl, m, hbs⟩
    refine ⟨_, _, _, rfl, m.wcell (wcell_le hle (hx 24 _ rfl)), m.wcell (wcell_le hle (hx 1 _ rfl)), m.wcell (wcell_le hle (hx 1 _ rfl)), m.wcell (wcell_le hle (hx 24 _ rfl)), ?_⟩
    rw [ef2, ef3, et2, show sq * 16 / 16 = sq by omega]
    refine ⟨⟨rfl, m.wrsb 0 rfl rfl, rdA_one ⟨[x1, x2, x3, x4, x5, x6], [y1, y2, y3, y4, y5, y6], [z1, z2, z3, z4, z5, z6], tid, sq, rt, mo, eo, body⟩ 0 _ _ _⟩, fun h10 g3 => ?_⟩
    replace m := m.setr 0 rfl g3
    simp only [List.set_cons_zero] at m
    replace m : Me W' h10 ([(bX, rdA ⟨[x1, x2, x3, x4, x5, x6], [y1, y2, y3, y4, y5, y6], [z1, z2, z3, z4, z5, z6], tid, sq, rt, mo, eo, body⟩ 0 (.slice sa body.length sc), 55)] :: [(b1, z24, 55)] :: G) := m
    refine ⟨fun h => Me W' h ([(bX, rdA ⟨[x1, x2, x3, x4, x5, x6], [y1, y2, y3, y4, y5, y6], [z1, z2, z3, z4, z5, z6], tid, sq, rt, mo, eo, body⟩ 3 (.slice sa body.length sc), 55)] :: [(b1, z24, 55)] :: G), ?_, fun _ => ?_⟩
    · intro b15 h11 g4 g5
      replace m := m.push g5 g4
      refine ⟨fun i h => ∃ k : Nat, i = k ∧ k ≤ 3 ∧ Me W' h ([(b15, [.pointer (some ⟨bX, 0, none⟩), .pointer (some ⟨bX, 6, none⟩), .pointer (some ⟨bX, 12, none⟩)], 115)] :: [(bX, rdA ⟨[x1, x2, x3, x4, x5, x6], [y1, y2, y3, y4, y5, y6], [z1, z2, z3, z4, z5, z6], tid, sq, rt, mo, eo, body⟩ k (.slice sa body.length sc), 55)] :: [(b1, z24, 55)] :: G), fun i _ => (3 - i).toNat, ⟨0, rfl, by omega, m⟩, fun _ => ?_⟩
      rintro _ h12 ⟨k, rfl, hk, m⟩
      refine dcase_intro (fun q => ?_) fun q => ?_
      · have : k = 0 ∨ k = 1 ∨ k = 2 := by omega
        rcases this with rfl | rfl | rfl
        · (refine ⟨⟨by decide, by decide⟩, _, m.cell 0 rfl rfl, ⟨by simp only [fits]; omega, by simp only [fits]; omega, ⟨by decide, by omega⟩, _, ⟨m.wsrc (wsrc_le hle (rd6 ha4 (by omega))), ints_one⟩, m.wrsb 1 rfl rfl, fun h13 g6 => ?_⟩⟩; have m13 := m.setr 1 rfl g6; exact ⟨by simp only [fits]; omega, ⟨0 + 1, rfl, by decide, m13⟩, by dsimp only; omega⟩)
        · (refine ⟨⟨by decide, by decide⟩, _, m.cell 0 rfl rfl, ⟨by simp only [fits]; omega, by simp only [fits]; omega, ⟨by decide, by omega⟩, _, ⟨m.wsrc (wsrc_le hle (rd6 ha10 (by omega))), ints_one⟩, m.wrsb 1 rfl rfl, fun h13 g6 => ?_⟩⟩; have m13 := m.setr 1 rfl g6; exact ⟨by simp only [fits]; omega, ⟨1 + 1, rfl, by decide, m13⟩, by dsimp only; omega⟩)
        · (refine ⟨⟨by decide, by decide⟩, _, m.cell 0 rfl rfl, ⟨by simp only [fits]; omega, by simp only [fits]; omega, ⟨by decide, by omega⟩, _, ⟨m.wsrc (wsrc_le hle (rd6 ha16 (by omega))), ints_one⟩, m.wrsb 1 rfl rfl, fun h13 g6 => ?_⟩⟩; have m13 := m.setr 1 rfl g6; exact ⟨by simp only [fits]; omega, ⟨2 + 1, rfl, by decide, m13⟩, by dsimp only; omega⟩)
      · obtain rfl : k = 3 := by omega
        exact m.drop1
    · intro h14 m
      have r14 : row h14 bX 0 24 = some (fmc ⟨[x1, x2, x3, x4, x5, x6], [y1, y2, y3, y4, y5, y6], [z1, z2, z3, z4, z5, z6], tid, sq, rt, mo, eo, body⟩ (.slice sa body.length sc)) := m.row 0 rfl rfl (Nat.le_of_ble_eq_true rfl)
      refine ⟨_, r14, ⟨rfl, m.wrsb 1 rfl rfl, fmc_one _ _ _ _⟩, fun h15 g6 => ?_⟩
      have m15 := m.setr 1 rfl g6
      simp only [List.set_cons_zero, List.set_cons_succ] at m15
      rw [setL_all (show (fmc ⟨[x1, x2, x3, x4, x5, x6], [y1, y2, y3, y4, y5, y6], [z1, z2, z3, z4, z5, z6], tid, sq, rt, mo, eo, body⟩ (.slice sa body.length sc)).length = z24.length from rfl)] at m15
      have r15 : row h15 b1 0 24 = some (fmc ⟨[x1, x2, x3, x4, x5, x6], [y1, y2, y3, y4, y5, y6], [z1, z2, z3, z4, z5, z6], tid, sq, rt, mo, eo, body⟩ (.slice sa body.length sc)) := m15.row 1 rfl rfl (Nat.le_of_ble_eq_true rfl)
      exact ⟨_, r15, W', _, hle, rfl, ⟨_, rfl, hbs⟩, m15.drop1.drop1⟩
end Go.Proofs.YthlacliefgliiaaDoor
