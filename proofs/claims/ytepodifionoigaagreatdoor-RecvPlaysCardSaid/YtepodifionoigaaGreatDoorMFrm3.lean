import Derived.Test.YtepodifionoigaaGreatDoorMFrm
set_option linter.unusedVariables false
set_option linter.unusedSimpArgs false
set_option maxRecDepth 8000
namespace Go.Proofs.YtepodifionoigaaGreatDoor
open Go.Vc
section
variable {W W' : Wd} {h h' : Heap} {G : List Grp} {E : Grp} {a b : Option Addr} {l r c d n k : Nat} {vs us : List Value} {bs xs ys : List Int}
theorem bts_opn (hb : Bts W (.slice a n c) xs) (hl : 0 < xs.length) : ∃ b o, a = some ⟨b, o, none⟩ ∧ n = xs.length ∧ n ≤ c ∧ ∀ (k : Nat) (x : Int), xs[k]? = some x → wcell W b (o + k) = some (.int .u8 x) := by
  obtain ⟨a', c', e, h1, h2⟩ := hb
  cases e
  unfold wsrc at h2
  split at h2
  · simp [ints] at h2; rw [h2] at hl; simp at hl
  · rename_i b o
    exact ⟨b, o, rfl, rfl, h1, fun k x hk => (wrow_iff.1 h2).2 k _ (ints_get hk)⟩
  · have := h2.1; omega
theorem bts_tail (hb : Bts W (.slice a n c) xs) (hk : k ≤ n) : Bts W (.slice (slcAddr a k c k) (n - k) (c - k)) (xs.drop k) := by
  obtain ⟨a', c', e, h1, h2⟩ := hb
  cases e
  refine ⟨slcAddr a k c k, c - k, ?_, ?_, ?_⟩
  · rw [List.length_drop]
  · rw [List.length_drop]; omega
  · unfold wsrc at h2
    split at h2
    · simp [ints] at h2; subst h2
      unfold slcAddr; split <;> simp [wsrc, ints]
    · rename_i b o
      obtain ⟨e1, e2⟩ := wrow_iff.1 h2
      unfold slcAddr
      split
      · have : xs.drop k = [] := List.drop_of_length_le (by omega)
        rw [this]; rfl
      · simp only [Option.map_some, add_eq]
        show wrow W b (o + k) (xs.drop k).length = _
        refine wrow_iff.2 ⟨by simp [ints], fun j v hj => ?_⟩
        have := e2 (k + j) v (by rw [← hj, ← ints_drop, List.getElem?_drop])
        rw [Nat.add_assoc]; exact this
    · obtain ⟨e1, e2⟩ := h2
      have : xs = [] := List.eq_nil_of_length_eq_zero e1
      subst this
      unfold slcAddr
      split
      · simp [wsrc, ints]
      · by_cases k0 : k = 0 <;> simp [wsrc, ints, Addr.add, k0, wrow]
theorem bts_src (hb : Bts W (.slice a n c) xs) : wsrc W a n (ints .u8 xs) ∧ xs.length = n ∧ n ≤ c := by
  obtain ⟨a', c', e, h1, h2⟩ := hb
  cases e
  exact ⟨h2, rfl, h1⟩
theorem wsrc_take {j : Nat} (hs : wsrc W a n vs) (hj : j ≤ n) (hn : vs.length = n) : wsrc W a j (vs.take j) := by
  unfold wsrc at hs ⊢
  split at hs
  · rw [hs]; simp
  · obtain ⟨e1, e2⟩ := wrow_iff.1 hs
    refine wrow_iff.2 ⟨by simp; omega, fun i v hi => e2 i v ?_⟩
    rw [List.getElem?_take] at hi
    split at hi
    · exact hi
    · cases hi
  · exact ⟨by omega, by rw [hs.2]; simp⟩
theorem six_c (m : Me W h G) (hb : Bts W (.slice a n c) xs) (hl : 6 ≤ xs.length) :
    Runs Tryz.prog 87 #[.slice a n c] h fun v h' => v = .agg (ints .u8 (xs.take 6)).toArray ∧ Me W h' G := by
  obtain ⟨b, o, rfl, hn, hc, hx⟩ := bts_opn hb (by omega)
  refine vc_muezzinref1_six _ _ _ _ _ ?_
  intro b1 h1 e1 e2 b2 h2 f1 f2
  replace m := (m.push e2 e1).push f2 f1
  refine ⟨fun i h => ∃ (k : Nat), i = k ∧ k ≤ 6 ∧ Me W h ([(b2, ints .u8 (xs.take k ++ List.replicate (6 - k) 0), 30)] :: [(b1, ints .u8 [0, 0, 0, 0, 0, 0], 30)] :: G), fun i _ => (6 - i).toNat, ⟨0, rfl, by omega, by rw [List.take_zero]; exact m⟩, fun _ => ?_⟩
  rintro _ h3 ⟨k, rfl, hk, m⟩
  refine dcase_intro (fun q => ?_) fun q => ?_
  · have hkl : k < xs.length := by omega
    refine ⟨⟨by omega, by omega⟩, xs[k], m.wcell (by simpa using hx k xs[k] (by simp [hkl])), ⟨by omega, by omega⟩, ?_⟩
    refine m.store 0 rfl (by simp [ints]; omega) fun h4 m4 => ?_
    refine ⟨by simp only [fits]; omega, ⟨k + 1, by omega, by omega, ?_⟩, by dsimp only; omega⟩
    have e : (ints .u8 (xs.take k ++ List.replicate (6 - k) 0)).set (0 + (k : Int).toNat) (.int .u8 xs[k]) = ints .u8 (xs.take (k + 1) ++ List.replicate (6 - (k + 1)) 0) := by
      rw [show 6 - k = (6 - (k + 1)) + 1 by omega, List.replicate_succ, Nat.zero_add, Int.toNat_natCast]
      simp only [ints]
      rw [← List.map_set]
      congr 1
      rw [List.set_append_right _ _ (by rw [List.length_take]; omega), List.length_take, Nat.min_eq_left (by omega), Nat.sub_self, List.set_cons_zero]
      rw [List.take_add_one, List.getElem?_eq_getElem hkl, List.append_assoc]; rfl
    rw [List.set_cons_zero, e] at m4
    exact m4
  · obtain rfl : k = 6 := by omega
    rw [show List.replicate (6 - 6) (0 : Int) = [] from rfl, List.append_nil] at m
    have hl6 : (ints .u8 (xs.take 6)).length = 6 := by rw [ints_len, List.length_take]; omega
    refine ⟨_, m.row 0 rfl (by rw [List.drop_zero]; exact List.take_of_length_le (by omega)) (by omega), ⟨hl6, m.wrsb 1 rfl rfl, ints_one⟩, fun h4 e4 => ?_⟩
    have m4 := m.setr 1 rfl e4
    simp only [List.set_cons_succ, List.set_cons_zero] at m4
    have e5 : setL (ints .u8 [0, 0, 0, 0, 0, 0]) 0 (ints .u8 (xs.take 6)) = ints .u8 (xs.take 6) := by
      rw [setL_eq (by rw [hl6]; exact Nat.le_of_ble_eq_true rfl), List.take_zero, List.nil_append, hl6, show (ints .u8 [0, 0, 0, 0, 0, 0]).drop (0 + 6) = [] from rfl, List.append_nil]
    rw [e5] at m4
    exact ⟨_, m4.row 1 rfl (by rw [List.drop_zero]; exact List.take_of_length_le (by omega)) (by omega), rfl, m4.drop1.drop1⟩
theorem num_c {x y : Int} (m : Me W h G) (hb : Bts W (.slice a n c) xs) (h0 : xs[0]? = some x) (h1 : xs[1]? = some y) (hx : 0 ≤ x ∧ x < 256) (hy : 0 ≤ y ∧ y < 256) :
    Runs Tryz.prog 85 #[.slice a n c] h fun v h' => v = .int .i64 (x + y * 256) ∧ h' = h := by
  have hl := (List.getElem?_eq_some_iff.1 h1).1
  obtain ⟨b, o, rfl, hn, hc, hcl⟩ := bts_opn hb (by omega)
  refine vc_muezzinref1_num _ _ _ _ _ ⟨⟨by decide, by omega⟩, x, m.wcell (by simpa using hcl 0 x h0), by simp only [fits]; omega, ⟨by decide, by omega⟩, y, m.wcell (hcl 1 y h1), by simp only [fits]; omega, by decide, by simp only [fits]; omega, ?_, rfl⟩
  rw [or_lo hx hy]
theorem sameAddr_c (m : Me W h G) (hx : xs.length = 6) (hy : ys.length = 6) :
    Runs Tryz.prog 57 #[.agg (ints .u8 xs).toArray, .agg (ints .u8 ys).toArray] h fun v h' => v = .bool (decide (xs = ys)) ∧ Me W h' G := by
  refine vc_muezzinref_SameAddr _ _ _ _ ?_
  intro b1 h1 e1 e2 b2 h2 f1 f2
  replace m := (m.push e2 e1).push f2 f1
  refine ⟨fun i h => h = h2 ∧ ∃ (k : Nat), i = k ∧ k ≤ 6 ∧ xs.take k = ys.take k, fun i _ => (6 - i).toNat, ⟨rfl, 0, rfl, by omega, rfl⟩, fun _ => ?_⟩
  rintro _ h3 ⟨rfl, k, rfl, hk, hn⟩
  refine dcase_intro (fun q => ?_) fun q => ?_
  · obtain ⟨x, hx'⟩ : ∃ y, xs[k]? = some y := ⟨_, List.getElem?_eq_getElem (by omega)⟩
    obtain ⟨y, hy'⟩ : ∃ y, ys[k]? = some y := ⟨_, List.getElem?_eq_getElem (by omega)⟩
    refine ⟨⟨by omega, by omega⟩, x, m.cell 1 rfl (by simpa using ints_get hx'), ⟨by omega, by omega⟩, y, m.cell 0 rfl (by simpa using ints_get hy'), bcase_intro (fun q1 => ⟨?_, m.drop1.drop1⟩) fun q1 => ⟨by simp only [fits]; omega, ⟨rfl, k + 1, by omega, by omega, ?_⟩, by dsimp only; omega⟩⟩
    · have : xs ≠ ys := fun e => by subst e; rw [hx'] at hy'; cases hy'; simp at q1
      simp [this]
    · rw [List.take_add_one, List.take_add_one, hx', hy', hn]
      simp at q1
      rw [q1]
  · obtain rfl : k = 6 := by omega
    rw [List.take_of_length_le (by omega), List.take_of_length_le (by omega)] at hn
    exact ⟨by simp [hn], m.drop1.drop1⟩
theorem sameBytes_c (ha : src h a l (ints .u8 xs)) (hla : xs.length = l) (hb : src h b r (ints .u8 ys)) (hlb : ys.length = r) (hl : l ≤ 4611686018427387904) :
    Runs Tryz.prog 31 #[.slice a l c, .slice b r d] h fun v h' => v = .bool (decide (xs = ys)) ∧ h' = h := by
  refine vc_muezzinref_SameBytes _ _ _ _ _ _ _ _ ?_
  refine bcase_intro (fun q => ⟨?_, rfl⟩) fun q => ?_
  · have : xs ≠ ys := fun e => by subst e; simp at q; omega
    simp [this]
  have hlr : l = r := by simp at q; omega
  subst hlr
  refine ⟨fun i h' => h' = h ∧ ∃ k : Nat, i = k ∧ k ≤ l ∧ xs.take k = ys.take k, fun i _ => ((l : Int) - i).toNat, ⟨rfl, 0, rfl, by omega, rfl⟩, fun _ => ?_⟩
  rintro _ h1 ⟨rfl, k, rfl, hk, hn⟩
  refine dcase_intro (fun q => ?_) fun q => ?_
  · obtain ⟨x, hx⟩ : ∃ y, xs[k]? = some y := ⟨_, List.getElem?_eq_getElem (by omega)⟩
    obtain ⟨y, hy⟩ : ∃ y, ys[k]? = some y := ⟨_, List.getElem?_eq_getElem (by omega)⟩
    obtain ⟨b1, o1, rfl, hc⟩ := src_cell ha (ints_get (k := .u8) hx)
    obtain ⟨b2, o2, rfl, hd⟩ := src_cell hb (ints_get (k := .u8) hy)
    refine ⟨⟨by omega, by omega⟩, x, by simpa using hc, ⟨by omega, by omega⟩, y, by simpa using hd, bcase_intro (fun q1 => ⟨?_, rfl⟩) fun q1 => ⟨by simp only [fits]; omega, ⟨rfl, k + 1, by omega, by omega, ?_⟩, by dsimp only; omega⟩⟩
    · have : xs ≠ ys := fun e => by subst e; rw [hx] at hy; cases hy; simp at q1
      simp [this]
    · rw [List.take_add_one, List.take_add_one, hx, hy, hn]
      simp at q1
      rw [q1]
  · obtain rfl : k = l := by omega
    rw [List.take_of_length_le (by omega), List.take_of_length_le (by omega)] at hn
    exact ⟨by simp [hn], rfl⟩
theorem cloneB_c (m : Me W h G) (hb : Bts W (.slice a n c) xs) (hn : n ≤ 140737488355328) :
    Runs Tryz.prog 74 #[.slice a n c] h (Bmade W G xs fun v => v) := by
  obtain ⟨h1, h2, h3⟩ := bts_src hb
  refine (clone_byte_c (m.wsrc h1) (by rw [ints_len]; exact h2) ints_one hn).mono ?_
  rintro _ h' ⟨a', c', E, rfl, m', o⟩
  have m2 := m.beside m'
  rw [← h2] at o ⊢
  obtain ⟨W', e1, e2, e3⟩ := ow_give o m2
  exact ⟨W', a', c', e1, rfl, e2, e3⟩
end
end Go.Proofs.YtepodifionoigaaGreatDoor
set_option linter.unusedVariables false
set_option linter.unusedSimpArgs false
set_option maxRecDepth 8000
namespace Go.Proofs.YtepodifionoigaaGreatDoor
open Go.Vc
def z24 : List Value := ints .u8 [0, 0, 0, 0, 0, 0, 0, 0, 0, 0, 0, 0, 0, 0, 0, 0, 0, 0] ++ [.int .i64 0, .int .i64 0, .bool false, .bool false, .bool false, .slice none 0 0]
def rdA (f : Fm) (k : Nat) (v : Value) : List Value :=
  ints .u8 (match k with | 0 => [0, 0, 0, 0, 0, 0] | _ => f.to) ++ (ints .u8 (match k with | 0 => [0, 0, 0, 0, 0, 0] | 1 => [0, 0, 0, 0, 0, 0] | _ => f.bss) ++ (ints .u8 (match k with | 3 => f.fr | _ => [0, 0, 0, 0, 0, 0]) ++ [.int .i64 f.tid, .int .i64 f.sq, .bool f.rt, .bool f.mo, .bool f.eo, v]))
theorem rdA_one (f : Fm) (k : Nat) (a : Option Addr) (l c : Nat) : ∀ u ∈ rdA f k (.slice a l c), u.oneCell' = true := by
  intro u hu
  unfold rdA at hu
  simp only [List.mem_append] at hu
  rcases hu with hu | hu | hu | hu
  · exact ints_one u hu
  · exact ints_one u hu
  · exact ints_one u hu
  · simp only [List.mem_cons, List.not_mem_nil, or_false] at hu
    rcases hu with rfl | rfl | rfl | rfl | rfl | rfl <;> rfl
theorem fmc_one (f : Fm) (a : Option Addr) (l c : Nat) : ∀ u ∈ fmc f (.slice a l c), u.oneCell' = true := rdA_one f 3 a l c
theorem setL_all {vs us : List Value} (h : us.length = vs.length) : setL vs 0 us = us := by
  rw [setL_eq (by omega), List.take_zero, List.nil_append, Nat.zero_add, h, List.drop_length, List.append_nil]
theorem rd6 {W : Wd} {a : Option Addr} {n : Nat} {vs : List Value} (hs : wsrc W a 6 vs) (hn : n * 1 = 6) : wsrc W a (n * 1) vs := by rw [hn]; exact hs
set_option maxHeartbeats 600000 in
theorem qosRead_c {W : Wd} {h : Heap} {G : List Grp} {f : Fm} {a : Option Addr} {n c : Nat} (m : Me W h G) (hb : Bts W (.slice a n c) (qosB f)) (hf : FmOk f) :
    Runs Tryz.prog 37 #[.slice a n c] h fun v h' => ∃ W' cs, W.le W' ∧ v = .tuple #[.agg cs.toArray, .nilIface] ∧ FmV W' f cs ∧ Me W' h' G := by
  obtain ⟨l1, l2, l3, t0, t7, s0, s1, bl⟩ := hf
  obtain ⟨to, bss, fr, tid, sq, rt, mo, eo, body⟩ := f
  dsimp only at l1 l2 l3 t0 t7 s0 s1 bl
  obtain ⟨x1, x2, x3, x4, x5, x6, rfl⟩ := six_of l1
  obtain ⟨y1, y2, y3, y4, y5, y6, rfl⟩ := six_of l2
  obtain ⟨z1, z2, z3, z4, z5, z6, rfl⟩ := six_of l3
  have hlen : (qosB ⟨[x1, x2, x3, x4, x5, x6], [y1, y2, y3, y4, y5, y6], [z1, z2, z3, z4, z5, z6], tid, sq, rt, mo, eo, body⟩).length = 26 + body.length := by simp [qosB]; omega
  obtain ⟨b, o, rfl, hn, hc, hx⟩ := bts_opn hb (by omega)
  rw [hlen] at hn
  have hbt := bts_tail hb (k := 26) (by omega)
  rw [show List.drop 26 (qosB ⟨[x1, x2, x3, x4, x5, x6], [y1, y2, y3, y4, y5, y6], [z1, z2, z3, z4, z5, z6], tid, sq, rt, mo, eo, body⟩) = body from rfl] at hbt
  obtain ⟨ha4, -, -⟩ := bts_src (bts_tail hb (k := 4) (by omega))
  obtain ⟨ha10, -, -⟩ := bts_src (bts_tail hb (k := 10) (by omega))
  obtain ⟨ha16, -, -⟩ := bts_src (bts_tail hb (k := 16) (by omega))
  replace ha4 : wsrc W (slcAddr (some ⟨b, o, none⟩) 4 c 4) 6 (ints .u8 [x1, x2, x3, x4, x5, x6]) := wsrc_take (j := 6) ha4 (by omega) (by rw [ints_len, List.length_drop]; omega)
  replace ha10 : wsrc W (slcAddr (some ⟨b, o, none⟩) 10 c 10) 6 (ints .u8 [y1, y2, y3, y4, y5, y6]) := wsrc_take (j := 6) ha10 (by omega) (by rw [ints_len, List.length_drop]; omega)
  replace ha16 : wsrc W (slcAddr (some ⟨b, o, none⟩) 16 c 16) 6 (ints .u8 [z1, z2, z3, z4, z5, z6]) := wsrc_take (j := 6) ha16 (by omega) (by rw [ints_len, List.length_drop]; omega)
  have eor : bits .or .i64 (sq * 16 % 256) (sq * 16 / 256 % 256 * 256) = sq * 16 := by
    rw [or_lo (by omega) (by omega)]; omega
  obtain ⟨ef1, ef2, ef3⟩ := flags_and rt mo
  obtain ⟨et1, et2⟩ := tid_and tid eo t0 t7
  refine vc_qos_Read _ _ _ _ _ ?_
  intro b1 h1 e1 e2
  replace m := m.push e2 e1
  refine dcase_neg (by omega) ⟨⟨by decide, by omega⟩, _, m.wcell (hx 0 _ rfl), bcase_false rfl ⟨⟨by decide, by omega⟩, _, m.wcell (hx 22 _ rfl), by simp only [fits]; omega, ⟨by decide, by omega⟩, _, m.wcell (hx 23 _ rfl), by simp only [fits]; omega, by decide, by simp only [fits]; omega, ?_⟩⟩
  rw [eor]
  refine ⟨fun h => h = h1, ⟨fun x h => x = false ∧ h = h1, ?_, fun _ => ?_⟩, fun _ => ?_⟩
  · refine ⟨⟨by decide, by omega⟩, _, m.wcell (hx 1 _ rfl), ?_⟩
    rw [ef1]
    refine bcase_false rfl ⟨⟨by decide, by omega⟩, _, m.wcell (hx 2 _ rfl), bcase_false rfl ⟨⟨by decide, by omega⟩, _, m.wcell (hx 3 _ rfl), bcase_false rfl ⟨⟨by decide, by omega⟩, _, m.wcell (hx 25 _ rfl), bcase_false rfl ⟨by decide, bcase_false ?_ ⟨⟨by decide, by omega⟩, _, m.wcell (hx 24 _ rfl), ?_, rfl⟩⟩⟩⟩⟩
    · rw [Int.tmod_eq_emod_of_nonneg (by omega)]; simp
    · rw [et1]; exact decide_eq_false (by omega)
  · rintro _ _ ⟨rfl, rfl⟩
    exact bcase_false rfl ⟨by simp only [fits]; omega, dcase_neg (by omega) rfl⟩
  rintro _ rfl
  refine ⟨⟨by decide, by omega⟩, _, m.wcell (hx 24 _ rfl), ?_⟩
  rw [et1]
  refine ⟨by simp only [fits]; omega, ⟨by omega, by decide, by simp only [fits]; omega⟩, ⟨by decide, by omega⟩, _, m.wcell (hx 1 _ rfl), ⟨by decide, by omega⟩, _, m.wcell (hx 1 _ rfl), ⟨by decide, by omega⟩, _, m.wcell (hx 24 _ rfl), ⟨by decide, by omega⟩, ?_, ?_⟩
  · refine (cloneB_c m hbt (by omega)).mono ?_
    rintro _ h8 ⟨W', sa, sc, hle, rfl, m, hbs⟩
    refine ⟨_, _, _, rfl, m.wcell (wcell_le hle (hx 24 _ rfl)), m.wcell (wcell_le hle (hx 1 _ rfl)), m.wcell (wcell_le hle (hx 1 _ rfl)), m.wcell (wcell_le hle (hx 24 _ rfl)), ?_⟩
    intro bX h9 g1 g2
    replace m := m.push g2 g1
    rw [ef2, ef3, et2, show sq * 16 / 16 = sq by omega]
    refine ⟨⟨rfl, m.wrsb 0 rfl rfl, rdA_one ⟨[x1, x2, x3, x4, x5, x6], [y1, y2, y3, y4, y5, y6], [z1, z2, z3, z4, z5, z6], tid, sq, rt, mo, eo, body⟩ 0 _ _ _⟩, fun h10 g3 => ?_⟩
    replace m := m.setr 0 rfl g3
    simp only [List.set_cons_zero] at m
    replace m : Me W' h10 ([(bX, rdA ⟨[x1, x2, x3, x4, x5, x6], [y1, y2, y3, y4, y5, y6], [z1, z2, z3, z4, z5, z6], tid, sq, rt, mo, eo, body⟩ 0 (.slice sa body.length sc), 67)] :: [(b1, z24, 67)] :: G) := m
    refine ⟨fun h => Me W' h ([(bX, rdA ⟨[x1, x2, x3, x4, x5, x6], [y1, y2, y3, y4, y5, y6], [z1, z2, z3, z4, z5, z6], tid, sq, rt, mo, eo, body⟩ 3 (.slice sa body.length sc), 67)] :: [(b1, z24, 67)] :: G), ?_, fun _ => ?_⟩
    · intro b15 h11 g4 g5
      replace m := m.push g5 g4
      refine ⟨fun i h => ∃ k : Nat, i = k ∧ k ≤ 3 ∧ Me W' h ([(b15, [.pointer (some ⟨bX, 0, none⟩), .pointer (some ⟨bX, 6, none⟩), .pointer (some ⟨bX, 12, none⟩)], 130)] :: [(bX, rdA ⟨[x1, x2, x3, x4, x5, x6], [y1, y2, y3, y4, y5, y6], [z1, z2, z3, z4, z5, z6], tid, sq, rt, mo, eo, body⟩ k (.slice sa body.length sc), 67)] :: [(b1, z24, 67)] :: G), fun i _ => (3 - i).toNat, ⟨0, rfl, by omega, m⟩, fun _ => ?_⟩
      rintro _ h12 ⟨k, rfl, hk, m⟩
      refine dcase_intro (fun q => ?_) fun q => ?_
      · have : k = 0 ∨ k = 1 ∨ k = 2 := by omega
        rcases this with rfl | rfl | rfl
        · (refine ⟨⟨by decide, by decide⟩, _, m.cell 0 rfl rfl, ⟨by simp only [fits]; omega, by simp only [fits]; omega, ⟨by decide, by omega⟩, _, ⟨m.wsrc (wsrc_le hle (rd6 ha4 (by omega))), ints_one⟩, m.wrsb 1 rfl rfl, fun h13 g6 => ?_⟩⟩; have m13 := m.setr 1 rfl g6; exact ⟨by simp only [fits]; omega, ⟨0 + 1, rfl, by decide, m13⟩, by dsimp only; omega⟩)
        · (refine ⟨⟨by decide, by decide⟩, _, m.cell 0 rfl rfl, ⟨by simp only [fits]; omega, by simp only [fits]; omega, ⟨by decide, by omega⟩, _, ⟨m.wsrc (wsrc_le hle (rd6 ha10 (by omega))), ints_one⟩, m.wrsb 1 rfl rfl, fun h13 g6 => ?_⟩⟩; have m13 := m.setr 1 rfl g6; exact ⟨by simp only [fits]; omega, ⟨1 + 1, rfl, by decide, m13⟩, by dsimp only; omega⟩)
        · (refine ⟨⟨by decide, by decide⟩, _, m.cell 0 rfl rfl, ⟨by simp only [fits]; omega, by simp only [fits]; omega, ⟨by decide, by omega⟩, _, ⟨m.wsrc (wsrc_le hle (rd6 ha16 (by omega))), ints_one⟩, m.wrsb 1 rfl rfl, fun h13 g6 => ?_⟩⟩; have m13 := m.setr 1 rfl g6; exact ⟨by simp only [fits]; omega, ⟨2 + 1, rfl, by decide, m13⟩, by dsimp only; omega⟩)
      · obtain rfl : k = 3 := by omega
        exact m.drop1
    · intro h14 m
      have r14 : row h14 bX 0 24 = some (fmc ⟨[x1, x2, x3, x4, x5, x6], [y1, y2, y3, y4, y5, y6], [z1, z2, z3, z4, z5, z6], tid, sq, rt, mo, eo, body⟩ (.slice sa body.length sc)) := m.row 0 rfl rfl (Nat.le_of_ble_eq_true rfl)
      refine ⟨_, r14, ⟨rfl, m.wrsb 1 rfl rfl, fmc_one _ _ _ _⟩, fun h15 g6 => ?_⟩
      have m15 := m.setr 1 rfl g6
      simp only [List.set_cons_zero, List.set_cons_succ] at m15
      rw [setL_all (show (fmc ⟨[x1, x2, x3, x4, x5, x6], [y1, y2, y3, y4, y5, y6], [z1, z2, z3, z4, z5, z6], tid, sq, rt, mo, eo, body⟩ (.slice sa body.length sc)).length = z24.length from rfl)] at m15
      have r15 : row h15 b1 0 24 = some (fmc ⟨[x1, x2, x3, x4, x5, x6], [y1, y2, y3, y4, y5, y6], [z1, z2, z3, z4, z5, z6], tid, sq, rt, mo, eo, body⟩ (.slice sa body.length sc)) := m15.row 1 rfl rfl (Nat.le_of_ble_eq_true rfl)
      exact ⟨_, r15, W', _, hle, rfl, ⟨_, rfl, hbs⟩, m15.drop1.drop1⟩
  · intro bX h9 g1 g2
    replace m := m.push g2 g1
    refine (cloneB_c m hbt (by omega)).mono ?_
    rintro _ h8 ⟨W', sa, sc, hle, rfl, m, hbs⟩
    refine ⟨_, _, _, rfl, m.wcell (wcell_le hle (hx 24 _ rfl)), m.wcell (wcell_le hle (hx 1 _ rfl)), m.wcell (wcell_le hle (hx 1 _ rfl)), m.wcell (wcell_le hle (hx 24 _ rfl)), ?_⟩
    rw [ef2, ef3, et2, show sq * 16 / 16 = sq by omega]
    refine ⟨⟨rfl, m.wrsb 0 rfl rfl, rdA_one ⟨[x1, x2, x3, x4, x5, x6], [y1, y2, y3, y4, y5, y6], [z1, z2, z3, z4, z5, z6], tid, sq, rt, mo, eo, body⟩ 0 _ _ _⟩, fun h10 g3 => ?_⟩
    replace m := m.setr 0 rfl g3
    simp only [List.set_cons_zero] at m
    replace m : Me W' h10 ([(bX, rdA ⟨[x1, x2, x3, x4, x5, x6], [y1, y2, y3, y4, y5, y6], [z1, z2, z3, z4, z5, z6], tid, sq, rt, mo, eo, body⟩ 0 (.slice sa body.length sc), 67)] :: [(b1, z24, 67)] :: G) := m
    refine ⟨fun h => Me W' h ([(bX, rdA ⟨[x1, x2, x3, x4, x5, x6], [y1, y2, y3, y4, y5, y6], [z1, z2, z3, z4, z5, z6], tid, sq, rt, mo, eo, body⟩ 3 (.slice sa body.length sc), 67)] :: [(b1, z24, 67)] :: G), ?_, fun _ => ?_⟩
    · intro b15 h11 g4 g5
      replace m := m.push g5 g4
      refine ⟨fun i h => ∃ k : Nat, i = k ∧ k ≤ 3 ∧ Me W' h ([(b15, [.pointer (some ⟨bX, 0, none⟩), .pointer (some ⟨bX, 6, none⟩), .pointer (some ⟨bX, 12, none⟩)], 130)] :: [(bX, rdA ⟨[x1, x2, x3, x4, x5, x6], [y1, y2, y3, y4, y5, y6], [z1, z2, z3, z4, z5, z6], tid, sq, rt, mo, eo, body⟩ k (.slice sa body.length sc), 67)] :: [(b1, z24, 67)] :: G), fun i _ => (3 - i).toNat, ⟨0, rfl, by omega, m⟩, fun _ => ?_⟩
      rintro _ h12 ⟨k, rfl, hk, m⟩
      refine dcase_intro (fun q => ?_) fun q => ?_
      · have : k = 0 ∨ k = 1 ∨ k = 2 := by omega
        rcases this with rfl | rfl | rfl
        · (refine ⟨⟨by decide, by decide⟩, _, m.cell 0 rfl rfl, ⟨by simp only [fits]; omega, by simp only [fits]; omega, ⟨by decide, by omega⟩, _, ⟨m.wsrc (wsrc_le hle (rd6 ha4 (by omega))), ints_one⟩, m.wrsb 1 rfl rfl, fun h13 g6 => ?_⟩⟩; have m13 := m.setr 1 rfl g6; exact ⟨by simp only [fits]; omega, ⟨0 + 1, rfl, by decide, m13⟩, by dsimp only; omega⟩)
        · (refine ⟨⟨by decide, by decide⟩, _, m.cell 0 rfl rfl, ⟨by simp only [fits]; omega, by simp only [fits]; omega, ⟨by decide, by omega⟩, _, ⟨m.wsrc (wsrc_le hle (rd6 ha10 (by omega))), ints_one⟩, m.wrsb 1 rfl rfl, fun h13 g6 => ?_⟩⟩; have m13 := m.setr 1 rfl g6; exact ⟨by simp only [fits]; omega, ⟨1 + 1, rfl, by decide, m13⟩, by dsimp only; omega⟩)
        · (refine ⟨⟨by decide, by decide⟩, _, m.cell 0 rfl rfl, ⟨by simp only [fits]; omega, by simp only [fits]; omega, ⟨by decide, by omega⟩, _, ⟨m.wsrc (wsrc_le hle (rd6 ha16 (by omega))), ints_one⟩, m.wrsb 1 rfl rfl, fun h13 g6 => ?_⟩⟩; have m13 := m.setr 1 rfl g6; exact ⟨by simp only [fits]; omega, ⟨2 + 1, rfl, by decide, m13⟩, by dsimp only; omega⟩)
      · obtain rfl : k = 3 := by omega
        exact m.drop1
    · intro h14 m
      have r14 : row h14 bX 0 24 = some (fmc ⟨[x1, x2, x3, x4, x5, x6], [y1, y2, y3, y4, y5, y6], [z1, z2, z3, z4, z5, z6], tid, sq, rt, mo, eo, body⟩ (.slice sa body.length sc)) := m.row 0 rfl rfl (Nat.le_of_ble_eq_true rfl)
      refine ⟨_, r14, ⟨rfl, m.wrsb 1 rfl rfl, fmc_one _ _ _ _⟩, fun h15 g6 => ?_⟩
      have m15 := m.setr 1 rfl g6
      simp only [List.set_cons_zero, List.set_cons_succ] at m15
      rw [setL_all (show (fmc ⟨[x1, x2, x3, x4, x5, x6], [y1, y2, y3, y4, y5, y6], [z1, z2, z3, z4, z5, z6], tid, sq, rt, mo, eo, body⟩ (.slice sa body.length sc)).length = z24.length from rfl)] at m15
      have r15 : row h15 b1 0 24 = some (fmc ⟨[x1, x2, x3, x4, x5, x6], [y1, y2, y3, y4, y5, y6], [z1, z2, z3, z4, z5, z6], tid, sq, rt, mo, eo, body⟩ (.slice sa body.length sc)) := m15.row 1 rfl rfl (Nat.le_of_ble_eq_true rfl)
      exact ⟨_, r15, W', _, hle, rfl, ⟨_, rfl, hbs⟩, m15.drop1.drop1⟩
end Go.Proofs.YtepodifionoigaaGreatDoor
