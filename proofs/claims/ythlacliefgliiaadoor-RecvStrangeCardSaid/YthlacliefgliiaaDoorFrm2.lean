/- Bytes that are read: a data frame by qos.Read; addresses, numbers, bytes compared. -/
import Derived.Test.YthlacliefgliiaaDoorFrm
set_option linter.unusedVariables false
set_option linter.unusedSimpArgs false
set_option maxRecDepth 8000
namespace Go.Proofs.YthlacliefgliiaaDoor
open Go.Vc
section
variable {W W' : Wd} {h h' : Heap} {G : List Grp} {E : Grp} {a b : Option Addr} {l r c d n k : Nat} {vs us : List Value} {bs xs ys : List Int}
/-- Bytes that stay: where they lie. -/
theorem bts_opn (hb : Bts W (.slice a n c) xs) (hl : 0 < xs.length) : ∃ b o, a = some ⟨b, o, none⟩ ∧ n = xs.length ∧ n ≤ c ∧ ∀ (k : Nat) (x : Int), xs[k]? = some x → wcell W b (o + k) = some (.int .u8 x) := by
  obtain ⟨a', c', e, h1, h2⟩ := hb
  cases e
  unfold wsrc at h2
  split at h2
  · simp [ints] at h2; rw [h2] at hl; simp at hl
  · rename_i b o
    exact ⟨b, o, rfl, rfl, h1, fun k x hk => (wrow_iff.1 h2).2 k _ (ints_get hk)⟩
  · have := h2.1; omega
theorem bts_tail (hb : Bts W (.slice a n c) xs) (hk : k ≤ n) : Bts W (.slice (slcAddr a k c k) (n - k) (c - k)) (xs.drop k) := by
  obtain ⟨a', c', e, h1, h2⟩ := hb
  cases e
  refine ⟨slcAddr a k c k, c - k, ?_, ?_, ?_⟩
  · rw [List.length_drop]
  · rw [List.length_drop]; omega
  · unfold wsrc at h2
    split at h2
    · simp [ints] at h2; subst h2
      unfold slcAddr; split <;> simp [wsrc, ints]
    · rename_i b o
      obtain ⟨e1, e2⟩ := wrow_iff.1 h2
      unfold slcAddr
      split
      · have : xs.drop k = [] := List.drop_of_length_le (by omega)
        rw [this]; rfl
      · simp only [Option.map_some, add_eq]
        show wrow W b (o + k) (xs.drop k).length = _
        refine wrow_iff.2 ⟨by simp [ints], fun j v hj => ?_⟩
        have := e2 (k + j) v (by rw [← hj, ← ints_drop, List.getElem?_drop])
        rw [Nat.add_assoc]; exact this
    · obtain ⟨e1, e2⟩ := h2
      have : xs = [] := List.eq_nil_of_length_eq_zero e1
      subst this
      unfold slcAddr
      split
      · simp [wsrc, ints]
      · by_cases k0 : k = 0 <;> simp [wsrc, ints, Addr.add, k0, wrow]
theorem bts_src (hb : Bts W (.slice a n c) xs) : wsrc W a n (ints .u8 xs) ∧ xs.length = n ∧ n ≤ c := by
  obtain ⟨a', c', e, h1, h2⟩ := hb
  cases e
  exact ⟨h2, rfl, h1⟩
theorem wsrc_take {j : Nat} (hs : wsrc W a n vs) (hj : j ≤ n) (hn : vs.length = n) : wsrc W a j (vs.take j) := by
  unfold wsrc at hs ⊢
  split at hs
  · rw [hs]; simp
  · obtain ⟨e1, e2⟩ := wrow_iff.1 hs
    refine wrow_iff.2 ⟨by simp; omega, fun i v hi => e2 i v ?_⟩
    rw [List.getElem?_take] at hi
    split at hi
    · exact hi
    · cases hi
  · exact ⟨by omega, by rw [hs.2]; simp⟩
theorem six_c (m : Me W h G) (hb : Bts W (.slice a n c) xs) (hl : 6 ≤ xs.length) :
    Runs Tryd.prog 37 #[.slice a n c] h fun v h' => v = .agg (ints .u8 (xs.take 6)).toArray ∧ Me W h' G := by
  obtain ⟨b, o, rfl, hn, hc, hx⟩ := bts_opn hb (by omega)
  refine vc_muezzinref1_six _ _ _ _ _ ?_
  intro b1 h1 e1 e2 b2 h2 f1 f2
  replace m := (m.push e2 e1).push f2 f1
  refine ⟨fun i h => ∃ (k : Nat), i = k ∧ k ≤ 6 ∧ Me W h ([(b2, ints .u8 (xs.take k ++ List.replicate (6 - k) 0), 31)] :: [(b1, ints .u8 [0, 0, 0, 0, 0, 0], 31)] :: G), fun i _ => (6 - i).toNat, ⟨0, rfl, by omega, by rw [List.take_zero]; exact m⟩, fun _ => ?_⟩
  rintro _ h3 ⟨k, rfl, hk, m⟩
  refine dcase_intro (fun q => ?_) fun q => ?_
  · have hkl : k < xs.length := by omega
    refine ⟨⟨by omega, by omega⟩, xs[k], m.wcell (by simpa using hx k xs[k] (by simp [hkl])), ⟨by omega, by omega⟩, ?_⟩
    refine m.store 0 rfl (by simp [ints]; omega) fun h4 m4 => ?_
    refine ⟨by simp only [fits]; omega, ⟨k + 1, by omega, by omega, ?_⟩, by dsimp only; omega⟩
    have e : (ints .u8 (xs.take k ++ List.replicate (6 - k) 0)).set (0 + (k : Int).toNat) (.int .u8 xs[k]) = ints .u8 (xs.take (k + 1) ++ List.replicate (6 - (k + 1)) 0) := by
      rw [show 6 - k = (6 - (k + 1)) + 1 by omega, List.replicate_succ, Nat.zero_add, Int.toNat_natCast]
      simp only [ints]
      rw [← List.map_set]
      congr 1
      rw [List.set_append_right _ _ (by rw [List.length_take]; omega), List.length_take, Nat.min_eq_left (by omega), Nat.sub_self, List.set_cons_zero]
      rw [List.take_add_one, List.getElem?_eq_getElem hkl, List.append_assoc]; rfl
    rw [List.set_cons_zero, e] at m4
    exact m4
  · obtain rfl : k = 6 := by omega
    rw [show List.replicate (6 - 6) (0 : Int) = [] from rfl, List.append_nil] at m
    have hl6 : (ints .u8 (xs.take 6)).length = 6 := by rw [ints_len, List.length_take]; omega
    refine ⟨_, m.row 0 rfl (by rw [List.drop_zero]; exact List.take_of_length_le (by omega)) (by omega), ⟨hl6, m.wrsb 1 rfl rfl, ints_one⟩, fun h4 e4 => ?_⟩
    have m4 := m.setr 1 rfl e4
    simp only [List.set_cons_succ, List.set_cons_zero] at m4
    have e5 : setL (ints .u8 [0, 0, 0, 0, 0, 0]) 0 (ints .u8 (xs.take 6)) = ints .u8 (xs.take 6) := by
      rw [setL_eq (by rw [hl6]; exact Nat.le_of_ble_eq_true rfl), List.take_zero, List.nil_append, hl6, show (ints .u8 [0, 0, 0, 0, 0, 0]).drop (0 + 6) = [] from rfl, List.append_nil]
    rw [e5] at m4
    exact ⟨_, m4.row 1 rfl (by rw [List.drop_zero]; exact List.take_of_length_le (by omega)) (by omega), rfl, m4.drop1.drop1⟩
theorem num_c {x y : Int} (m : Me W h G) (hb : Bts W (.slice a n c) xs) (h0 : xs[0]? = some x) (h1 : xs[1]? = some y) (hx : 0 ≤ x ∧ x < 256) (hy : 0 ≤ y ∧ y < 256) :
    Runs Tryd.prog 38 #[.slice a n c] h fun v h' => v = .int .i64 (x + y * 256) ∧ h' = h := by
  have hl := (List.getElem?_eq_some_iff.1 h1).1
  obtain ⟨b, o, rfl, hn, hc, hcl⟩ := bts_opn hb (by omega)
  refine vc_muezzinref1_num _ _ _ _ _ ⟨⟨by decide, by omega⟩, x, m.wcell (by simpa using hcl 0 x h0), by simp only [fits]; omega, ⟨by decide, by omega⟩, y, m.wcell (hcl 1 y h1), by simp only [fits]; omega, by decide, by simp only [fits]; omega, ?_, rfl⟩
  rw [or_lo hx hy]
theorem kind_c {first : Int} {N : Nat} (m : Me W h G) (hb : Bts W (.slice a n c) xs) (h0 : xs[0]? = some first) (hN : xs.length = N) :
    Runs Tryd.prog 36 #[.slice a n c, .int .u8 first, .int .i64 N] h fun v h' => v = .int .i64 0 ∧ h' = h := by
  have hl := (List.getElem?_eq_some_iff.1 h0).1
  obtain ⟨b, o, rfl, hn, hc, hcl⟩ := bts_opn hb (by omega)
  refine vc_muezzinref1_kind _ _ _ _ _ _ _ (dcase_pos (by omega) ⟨⟨by decide, by omega⟩, first, m.wcell (by simpa using hcl 0 _ h0), bcase_false (by simp) (dcase_neg (by omega) (dcase_neg (by omega) ⟨rfl, rfl⟩))⟩)
theorem sameAddr_c (m : Me W h G) (hx : xs.length = 6) (hy : ys.length = 6) :
    Runs Tryd.prog 17 #[.agg (ints .u8 xs).toArray, .agg (ints .u8 ys).toArray] h fun v h' => v = .bool (decide (xs = ys)) ∧ Me W h' G := by
  refine vc_muezzinref_SameAddr _ _ _ _ ?_
  intro b1 h1 e1 e2 b2 h2 f1 f2
  replace m := (m.push e2 e1).push f2 f1
  refine ⟨fun i h => h = h2 ∧ ∃ (k : Nat), i = k ∧ k ≤ 6 ∧ xs.take k = ys.take k, fun i _ => (6 - i).toNat, ⟨rfl, 0, rfl, by omega, rfl⟩, fun _ => ?_⟩
  rintro _ h3 ⟨rfl, k, rfl, hk, hn⟩
  refine dcase_intro (fun q => ?_) fun q => ?_
  · obtain ⟨x, hx'⟩ : ∃ y, xs[k]? = some y := ⟨_, List.getElem?_eq_getElem (by omega)⟩
    obtain ⟨y, hy'⟩ : ∃ y, ys[k]? = some y := ⟨_, List.getElem?_eq_getElem (by omega)⟩
    refine ⟨⟨by omega, by omega⟩, x, m.cell 1 rfl (by simpa using ints_get hx'), ⟨by omega, by omega⟩, y, m.cell 0 rfl (by simpa using ints_get hy'), bcase_intro (fun q1 => ⟨?_, m.drop1.drop1⟩) fun q1 => ⟨by simp only [fits]; omega, ⟨rfl, k + 1, by omega, by omega, ?_⟩, by dsimp only; omega⟩⟩
    · have : xs ≠ ys := fun e => by subst e; rw [hx'] at hy'; cases hy'; simp at q1
      simp [this]
    · rw [List.take_add_one, List.take_add_one, hx', hy', hn]
      simp at q1
      rw [q1]
  · obtain rfl : k = 6 := by omega
    rw [List.take_of_length_le (by omega), List.take_of_length_le (by omega)] at hn
    exact ⟨by simp [hn], m.drop1.drop1⟩
theorem sameBytes_c (ha : src h a l (ints .u8 xs)) (hla : xs.length = l) (hb : src h b r (ints .u8 ys)) (hlb : ys.length = r) (hl : l ≤ 4611686018427387904) :
    Runs Tryd.prog 40 #[.slice a l c, .slice b r d] h fun v h' => v = .bool (decide (xs = ys)) ∧ h' = h := by
  refine vc_muezzinref_SameBytes _ _ _ _ _ _ _ _ ?_
  refine bcase_intro (fun q => ⟨?_, rfl⟩) fun q => ?_
  · have : xs ≠ ys := fun e => by subst e; simp at q; omega
    simp [this]
  have hlr : l = r := by simp at q; omega
  subst hlr
  refine ⟨fun i h' => h' = h ∧ ∃ k : Nat, i = k ∧ k ≤ l ∧ xs.take k = ys.take k, fun i _ => ((l : Int) - i).toNat, ⟨rfl, 0, rfl, by omega, rfl⟩, fun _ => ?_⟩
  rintro _ h1 ⟨rfl, k, rfl, hk, hn⟩
  refine dcase_intro (fun q => ?_) fun q => ?_
  · obtain ⟨x, hx⟩ : ∃ y, xs[k]? = some y := ⟨_, List.getElem?_eq_getElem (by omega)⟩
    obtain ⟨y, hy⟩ : ∃ y, ys[k]? = some y := ⟨_, List.getElem?_eq_getElem (by omega)⟩
    obtain ⟨b1, o1, rfl, hc⟩ := src_cell ha (ints_get (k := .u8) hx)
    obtain ⟨b2, o2, rfl, hd⟩ := src_cell hb (ints_get (k := .u8) hy)
    refine ⟨⟨by omega, by omega⟩, x, by simpa using hc, ⟨by omega, by omega⟩, y, by simpa using hd, bcase_intro (fun q1 => ⟨?_, rfl⟩) fun q1 => ⟨by simp only [fits]; omega, ⟨rfl, k + 1, by omega, by omega, ?_⟩, by dsimp only; omega⟩⟩
    · have : xs ≠ ys := fun e => by subst e; rw [hx] at hy; cases hy; simp at q1
      simp [this]
    · rw [List.take_add_one, List.take_add_one, hx, hy, hn]
      simp at q1
      rw [q1]
  · obtain rfl : k = l := by omega
    rw [List.take_of_length_le (by omega), List.take_of_length_le (by omega)] at hn
    exact ⟨by simp [hn], rfl⟩
/-- A copy of bytes that stay, given to what stays. -/
theorem cloneB_c (m : Me W h G) (hb : Bts W (.slice a n c) xs) (hn : n ≤ 140737488355328) :
    Runs Tryd.prog 60 #[.slice a n c] h (Bmade W G xs fun v => v) := by
  obtain ⟨h1, h2, h3⟩ := bts_src hb
  refine (clone_byte_c (m.wsrc h1) (by rw [ints_len]; exact h2) ints_one hn).mono ?_
  rintro _ h' ⟨a', c', E, rfl, m', o⟩
  have m2 := m.beside m'
  rw [← h2] at o ⊢
  obtain ⟨W', e1, e2, e3⟩ := ow_give o m2
  exact ⟨W', a', c', e1, rfl, e2, e3⟩
end
end Go.Proofs.YthlacliefgliiaaDoor
