/- One frame that is packed as the document packs it, and found again. -/
import Derived.Test.YthlacliefgliiaaDoorCrc
import Derived.Test.YthlacliefgliiaaDoorAck
set_option linter.unusedVariables false
set_option linter.unusedSimpArgs false
set_option maxRecDepth 8000
namespace Go.Proofs.YthlacliefgliiaaDoor
open Go.Vc
section
variable {W W' : Wd} {h h' : Heap} {G : List Grp} {E : Grp} {a : Option Addr} {n c k : Nat} {xs : List Int}
theorem bts_take {j : Nat} (hb : Bts W (.slice a n c) xs) (hj : j ≤ n) : Bts W (.slice a j c) (xs.take j) := by
  obtain ⟨h1, h2, h3⟩ := bts_src hb
  have e : (xs.take j).length = j := by rw [List.length_take]; omega
  refine ⟨a, c, by rw [e], by omega, ?_⟩
  rw [e, ← ints_take]
  exact wsrc_take h1 hj (by rw [ints_len]; exact h2)
theorem fits_c {x y : Int} (m : Me W h G) (hb : Bts W (.slice a 3 c) [x, y, sumV [x, y]]) (hx : 0 ≤ x ∧ x < 256) (hy : 0 ≤ y ∧ y < 256) :
    Runs Tryd.prog 79 #[.slice a 3 c] h fun v h' => v = .bool true ∧ h' = h := by
  have hb0 := hb
  obtain ⟨b, o, rfl, -, hc, hcl⟩ := bts_opn hb (by show 0 < 3; decide)
  have hb2 : Bts W (.slice (slcAddr (some ⟨b, o, none⟩) 0 c 0) 2 c) [x, y] := bts_take (j := 2) (bts_tail hb0 (k := 0) (by omega)) (by omega)
  refine vc_crc_Fits _ _ _ _ _ (dcase_pos (by decide) ⟨by simp only [fits]; omega, ⟨by decide, by decide⟩, sumV [x, y], m.wcell (hcl 2 _ rfl), by simp only [fits]; omega, ⟨by decide, by decide, by omega⟩, ?_⟩)
  refine (crcSum_c m hb2 (fun u hu => ?_) (by show 2 ≤ 65535; decide)).ret ⟨_, rfl, m.wcell (hcl 2 _ rfl), by simp, rfl⟩
  simp only [List.mem_cons, List.not_mem_nil, or_false] at hu
  rcases hu with rfl | rfl
  · exact hx
  · exact hy
theorem glong_c {x y : Int} (m : Me W h G) (hb : Bts W (.slice a n c) xs) (h0 : xs[0]? = some x) (h1 : xs[1]? = some y) (hx : 0 ≤ x ∧ x < 256) (hy : 0 ≤ y ∧ y < 256) :
    Runs Tryd.prog 78 #[.slice a n c] h fun v h' => v = .tuple #[.int .i64 ((x + y * 256) / 16), .int .i64 ((x + y * 256) % 16)] ∧ h' = h := by
  have hl := (List.getElem?_eq_some_iff.1 h1).1
  obtain ⟨b, o, rfl, hn, hc, hcl⟩ := bts_opn hb (by omega)
  refine vc_ampdu_long _ _ _ _ _ ⟨⟨by decide, by omega⟩, x, m.wcell (by simpa using hcl 0 x h0), by simp only [fits]; omega, ⟨by decide, by omega⟩, y, m.wcell (hcl 1 y h1), by simp only [fits]; omega, by decide, by simp only [fits]; omega, ?_⟩
  rw [or_lo hx hy]
  exact ⟨⟨by omega, by decide, by simp only [fits]; omega⟩, ⟨by omega, by decide⟩, rfl, rfl⟩
/-- A frame in an aggregate, alone. -/
def packB (xs : List Int) : List Int := [(xs.length : Int) * 16 % 256, (xs.length : Int) * 16 / 256 % 256, sumV [(xs.length : Int) * 16 % 256, (xs.length : Int) * 16 / 256 % 256], 78] ++ xs
theorem packB_len : (packB xs).length = 4 + xs.length := by simp [packB]; omega
theorem lens1_c {b4 : Nat} {T : TypeId} {s : Option Addr} {sl sc : Nat} (m : Me W h ([(b4, [.slice s sl sc], T)] :: G)) :
    Runs Tryd.prog 48 #[.slice (some ⟨b4, 0, none⟩) 1 1] h fun v h' => ∃ a' c' E, v = .slice a' 1 c' ∧ Me W h' (E :: [(b4, [.slice s sl sc], T)] :: G) ∧ Ow a' 1 c' 1 (ints .i64 [(sl : Int)]) E := by
  refine vc_muezzinref1_lens _ _ _ _ _ ⟨fun a' l' c' i h' => ∃ E, Me W h' (E :: [(b4, [.slice s sl sc], T)] :: G) ∧ ((i = 0 ∧ l' = 0 ∧ Ow a' 0 c' 1 [] E) ∨ (i = 1 ∧ l' = 1 ∧ Ow a' 1 c' 1 (ints .i64 [(sl : Int)]) E)), fun _ _ _ i _ => (1 - i).toNat, ⟨[], m.nilI, .inl ⟨rfl, rfl, Ow.nil⟩⟩, fun _ => ?_⟩
  rintro a' l' c' i h1 ⟨E, m1, ⟨rfl, rfl, o⟩ | ⟨rfl, rfl, o⟩⟩
  · refine dcase_pos (by decide) ⟨by decide, s, sl, sc, m1.cell 1 rfl rfl, ?_⟩
    refine o.appn m1 (us := [.int .i64 (sl : Int)]) rfl (by simp [Value.oneCell']) (by decide) (by decide) fun a2 c2 E2 h2 m2 o2 => ?_
    exact ⟨by simp only [fits]; omega, ⟨E2, m2, .inr ⟨rfl, rfl, o2⟩⟩, by dsimp only; omega⟩
  · exact dcase_neg (by decide) ⟨a', c', E, rfl, m1, o⟩
theorem aggLen1_c {sl : Nat} (m : Me W h (E :: G)) (o : Ow a 1 c 1 (ints .i64 [(sl : Int)]) E) (hl : sl ≤ 65535) :
    Runs Tryd.prog 47 #[.slice a 1 c] h fun v h' => v = .int .i64 (4 + (sl : Int)) ∧ h' = h := by
  refine vc_muezzinref1_AggLen _ _ _ _ _ ⟨fun z i h' => h' = h ∧ ((i = 0 ∧ z = 0) ∨ (i = 1 ∧ z = 4 + (sl : Int))), fun _ i _ => (1 - i).toNat, ⟨rfl, .inl ⟨rfl, rfl⟩⟩, fun _ => ?_⟩
  rintro _ _ _ ⟨rfl, ⟨rfl, rfl⟩ | ⟨rfl, rfl⟩⟩
  · obtain ⟨b1, o1, rfl, hc⟩ := src_cell (o.src1 m 0 rfl) (k := 0) rfl
    refine dcase_pos (by decide) ⟨by simp only [fits]; omega, ⟨by decide, by decide, by simp only [fits]; omega⟩, by simp only [fits]; omega, by simp only [fits]; omega, by decide, _, hc, ?_⟩
    rw [Int.max_eq_left (by omega)]
    exact ⟨by simp only [fits]; omega, by simp only [fits]; omega, ⟨rfl, .inr ⟨rfl, rfl⟩⟩, by dsimp only; omega⟩
  · exact dcase_neg (by decide) ⟨rfl, rfl⟩
theorem pack_c {b4 : Nat} {T : TypeId} {s : Option Addr} {sl sc : Nat} (m : Me W h ([(b4, [.slice s sl sc], T)] :: G)) (hb : Bts W (.slice s sl sc) xs) (h1 : 1 ≤ sl) (h2 : sl ≤ 4095) :
    Runs Tryd.prog 23 #[.slice (some ⟨b4, 0, none⟩) 1 1] h (Bmade W ([(b4, [.slice s sl sc], T)] :: G) (packB xs) fun v => .tuple #[v, .int .i64 0]) := by
  obtain ⟨hs, hn, hc⟩ := bts_src hb
  have hL := packB_len (xs := xs)
  subst hn
  refine vc_muezzinref1_Pack _ _ _ _ _ (dcase_neg (by decide) ?_)
  refine ⟨fun i h' => h' = h ∧ (i = 0 ∨ i = 1), fun i _ => (1 - i).toNat, ⟨rfl, .inl rfl⟩, fun _ => ?_⟩
  rintro _ _ ⟨rfl, rfl | rfl⟩
  · exact dcase_pos (by decide) ⟨by decide, s, xs.length, sc, m.cell 0 rfl rfl, dcase_neg (by omega) ⟨by decide, s, xs.length, sc, m.cell 0 rfl rfl, dcase_neg (by omega) ⟨by simp only [fits]; omega, ⟨rfl, .inr rfl⟩, by dsimp only; omega⟩⟩⟩
  · refine dcase_neg (by decide) (dcase_neg (by decide) ?_)
    refine (lens1_c m).mono ?_
    rintro _ g1 ⟨a1, c1, E1, rfl, m1, o1⟩
    refine ⟨_, _, _, rfl, (aggLen1_c m1 o1 (by omega)).ret ⟨_, rfl, dcase_neg (by omega) ?_⟩⟩
    replace m1 := m1.drop1
    refine ⟨fun a' l' c' i h' => (i = 0 ∧ a' = none ∧ l' = 0 ∧ c' = 0 ∧ Me W h' ([(b4, [.slice s xs.length sc], T)] :: G)) ∨
      (i = 1 ∧ l' = 4 + xs.length ∧ ∃ W' E, W.le W' ∧ Me W' h' (E :: [(b4, [.slice s xs.length sc], T)] :: G) ∧ Ow a' (4 + xs.length) c' 1 (ints .u8 (packB xs)) E), fun _ _ _ i _ => (1 - i).toNat, .inl ⟨rfl, rfl, rfl, rfl, m1⟩, fun _ => ?_⟩
    rintro a' l' c' i g2 (⟨rfl, rfl, rfl, rfl, m2⟩ | ⟨rfl, rfl, W2, E2, hle2, m2, o2⟩)
    · refine dcase_pos (by decide) ⟨fun a' l' c' h' => a' = none ∧ l' = 0 ∧ c' = 0 ∧ h' = g2, fun _ _ _ _ => 0, ⟨rfl, rfl, rfl, rfl⟩, fun _ => ?_⟩
      rintro _ _ _ g2 ⟨rfl, rfl, rfl, rfl⟩
      refine ⟨⟨by decide, by decide⟩, bcase_false rfl ⟨by decide, s, xs.length, sc, m2.cell 0 rfl rfl, by simp only [fits]; omega, ?_⟩⟩
      refine (rtwo_c (bs := []) (a := none) (c := 0) ((xs.length : Int) * 16) Ow.nil m2.nilI (Nat.zero_le _)).mono ?_
      rintro _ g3 ⟨a3, c3, E3, rfl, m3, o3⟩
      obtain ⟨lo, hlo⟩ : ∃ lo, lo = (xs.length : Int) * 16 % 256 := ⟨_, rfl⟩
      obtain ⟨hi, hhi⟩ : ∃ hi, hi = (xs.length : Int) * 16 / 256 % 256 := ⟨_, rfl⟩
      rw [← hlo, ← hhi] at o3
      have hlb : 0 ≤ lo ∧ lo < 256 := by omega
      have hhb : 0 ≤ hi ∧ hi < 256 := by omega
      have o3' : Ow a3 [lo, hi].length c3 1 (ints .u8 [lo, hi]) E3 := o3
      obtain ⟨W4, hle4, m4, hb4⟩ := ow_give o3' m3
      have hb4' := hb4
      obtain ⟨b5, p5, rfl, -, -, hx5⟩ := bts_opn hb4 (by show 0 < 2; decide)
      refine ⟨_, _, _, rfl, ⟨by decide, by show (0 : Int) < ((2 : Nat) : Int); decide⟩, lo, m4.wcell (hx5 0 _ rfl), ⟨by decide, by show (1 : Int) < ((2 : Nat) : Int); decide⟩, hi, m4.wcell (hx5 1 _ rfl), ?_⟩
      refine (refSum_c m4 hb4' (fun u hu => ?_) (by show 2 ≤ 65535; decide)).ret ⟨_, rfl, m4.wcell (hx5 1 _ rfl), m4.wcell (hx5 0 _ rfl), ?_⟩
      · simp only [List.mem_cons, List.not_mem_nil, or_false] at hu
        rcases hu with rfl | rfl
        · exact hlb
        · exact hhb
      intro b7 g7 e1 e2
      have m7 := (m4.push e2 e1).nilI
      refine ⟨ints .u8 [lo, hi, sumV [lo, hi], 78], ⟨m7.row 1 rfl rfl (Nat.le_of_ble_eq_true rfl), ints_one⟩, ?_⟩
      refine (Ow.nil (sz := 1)).app m7 0 rfl rfl (by decide) (by decide) fun a8 c8 E8 g8 m8 o8 => ?_
      simp only [List.set_cons_zero] at m8
      have m9 := (me_swap m8).drop1
      refine ⟨by decide, s, xs.length, sc, m9.cell 1 rfl rfl, ints .u8 xs, ⟨by rw [Nat.mul_one]; exact m9.wsrc (wsrc_le hle4 hs), ints_one⟩, ?_⟩
      refine o8.app m9 0 rfl (by rw [ints_len, Nat.mul_one]) (by omega) (by decide) fun a10 c10 E10 g10 m10 o10 => ?_
      simp only [List.set_cons_zero] at m10
      refine ⟨by simp only [fits]; omega, .inr ⟨rfl, rfl, W4, E10, hle4, m10, ?_⟩, by dsimp only; omega⟩
      have e : ints .u8 (packB xs) = [] ++ ints .u8 [lo, hi, sumV [lo, hi], 78] ++ ints .u8 xs := by
        unfold packB; rw [← hlo, ← hhi, ints_app]; rfl
      rw [e]; exact o10
    · have o2' : Ow a' (packB xs).length c' 1 (ints .u8 (packB xs)) E2 := by rw [hL]; exact o2
      obtain ⟨W3, hle3, m3, hb3⟩ := ow_give o2' m2
      exact dcase_neg (by decide) ⟨W3, a', c', hle2.trans hle3, by rw [hL], m3, hb3⟩
theorem part_c (m : Me W h G) (hb : Bts W (.slice a n c) (packB xs)) (h1 : 1 ≤ xs.length) (h2 : xs.length ≤ 4095) :
    Runs Tryd.prog 58 #[.slice a n c] h (Bmade W G xs fun v => .tuple #[v, .nilIface]) := by
  have hL := packB_len (xs := xs)
  obtain ⟨hs, hn, hc⟩ := bts_src hb
  rw [hL] at hn
  subst hn
  have hb0 := hb
  obtain ⟨lo, hlo⟩ : ∃ lo, lo = (xs.length : Int) * 16 % 256 := ⟨_, rfl⟩
  obtain ⟨hi, hhi⟩ : ∃ hi, hi = (xs.length : Int) * 16 / 256 % 256 := ⟨_, rfl⟩
  have hP : packB xs = [lo, hi, sumV [lo, hi], 78] ++ xs := by unfold packB; rw [← hlo, ← hhi]
  rw [hP] at hb hb0
  have hlb : 0 ≤ lo ∧ lo < 256 := by omega
  have hhb : 0 ≤ hi ∧ hi < 256 := by omega
  obtain ⟨b, o, rfl, -, -, hcl⟩ := bts_opn hb (by simp)
  have hb3 : Bts W (.slice (slcAddr (some ⟨b, o, none⟩) 0 c 0) 3 c) [lo, hi, sumV [lo, hi]] := bts_take (j := 3) (bts_tail hb0 (k := 0) (by omega)) (by omega)
  have hb4 : Bts W (.slice (slcAddr (some ⟨b, o, none⟩) 4 c 4) (4 + xs.length - 4) (c - 4)) xs := bts_tail hb0 (k := 4) (by omega)
  have ev : lo + hi * 256 = (xs.length : Int) * 16 := by omega
  refine vc_ampdu_part _ _ _ _ _ (dcase_neg (by omega) ?_)
  refine (glong_c m hb0 rfl rfl hlb hhb).ret ⟨_, _, rfl, ⟨by decide, by decide, by omega⟩, ?_⟩
  rw [ev, show (xs.length : Int) * 16 / 16 = xs.length by omega, show (xs.length : Int) * 16 % 16 = 0 by omega]
  refine (fits_c m hb3 hlb hhb).ret ⟨_, rfl, bcase_false rfl ⟨⟨by decide, by omega⟩, 78, m.wcell (hcl 3 _ rfl), bcase_false rfl (bcase_false rfl (dcase_neg (by omega) ⟨by simp only [fits]; omega, dcase_neg (by omega) ⟨by simp only [fits]; omega, ⟨by decide, by omega, by omega⟩, ?_⟩⟩))⟩⟩
  rw [show ((4 : Int) + (xs.length : Int)).toNat - 4 = 4 + xs.length - 4 by omega]
  refine (cloneB_c m hb4 (by omega)).mono ?_
  rintro _ g1 ⟨W', a', c', hle, rfl, m', hb'⟩
  exact ⟨_, _, _, rfl, W', a', c', hle, rfl, m', hb'⟩
theorem up_c' {z : Nat} (hz : z ≤ 65535) (h : Heap) : Runs Tryd.prog 59 #[.int .i64 (z : Int)] h fun v h' => v = .int .i64 (((z : Int) + 4 - 1) / 4 * 4) ∧ h' = h :=
  vc_ampdu_up _ _ _ ⟨by simp only [fits]; omega, by simp only [fits]; omega, ⟨by omega, by decide, by simp only [fits]; omega⟩, by simp only [fits]; omega, rfl, rfl⟩
/-- What is found in an aggregate of one frame. -/
theorem unpack_c (m : Me W h G) (hb : Bts W (.slice a n c) (packB xs)) (h1 : 1 ≤ xs.length) (h2 : xs.length ≤ 4095) :
    Runs Tryd.prog 32 #[.slice a n c] h fun v h' => ∃ W' s sc a' c' E, W.le W' ∧ v = .slice a' 1 c' ∧ Ow a' 1 c' 1 [.slice s xs.length sc] E ∧ Bts W' (.slice s xs.length sc) xs ∧ Me W' h' (E :: G) := by
  have hL := packB_len (xs := xs)
  obtain ⟨hs, hn, hc⟩ := bts_src hb
  rw [hL] at hn
  subst hn
  refine vc_ampdu_Unpack _ _ _ _ _ ⟨fun b' l' c' o' ol oc h' => (b' = a ∧ l' = 4 + xs.length ∧ c' = c ∧ o' = none ∧ ol = 0 ∧ oc = 0 ∧ h' = h) ∨ (l' = 0 ∧ ol = 1 ∧ ∃ W' s sc E, W.le W' ∧ Ow o' 1 oc 1 [.slice s xs.length sc] E ∧ Bts W' (.slice s xs.length sc) xs ∧ Me W' h' (E :: G)), fun _ l' _ _ _ _ _ => l', .inl ⟨rfl, rfl, rfl, rfl, rfl, rfl, rfl⟩, fun _ => ?_⟩
  rintro b' l' c' o' ol oc h1' (⟨rfl, rfl, rfl, rfl, rfl, rfl, rfl⟩ | ⟨rfl, rfl, W2, s, sc, E, hle, o, hb2, m2⟩)
  · refine dcase_pos (by omega) ?_
    refine (part_c m hb h1 h2).mono ?_
    rintro _ g1 ⟨W1, s, sc, hle, rfl, m1, hb1⟩
    refine ⟨_, _, _, _, rfl, true, rfl, bcase_false rfl ?_⟩
    intro b3 g3 e1 e2
    have m3 := (m1.push e2 e1).nilI
    refine ⟨[.slice s xs.length sc], ⟨m3.row 1 rfl rfl (Nat.le_of_ble_eq_true rfl), by simp [Value.oneCell']⟩, ?_⟩
    refine (Ow.nil (sz := 1)).app m3 0 rfl rfl (by decide) (by decide) fun a4 c4 E4 g4 m4 o4 => ?_
    simp only [List.set_cons_zero] at m4
    refine (up_c' (by omega) _).ret ⟨_, rfl, by simp only [fits]; omega, ?_⟩
    have hmin : min (((4 + xs.length : Nat) : Nat) : Int) ((4 : Int) + ((xs.length : Int) + 4 - 1) / 4 * 4) = ((4 + xs.length : Nat) : Int) := by omega
    rw [hmin]
    refine ⟨⟨by omega, by omega⟩, .inr ⟨by omega, rfl, W1, s, sc, E4, hle, o4, hb1, (me_swap m4).drop1⟩, ?_⟩
    dsimp only; omega
  · exact dcase_neg (by decide) ⟨W2, s, sc, o', oc, E, hle, rfl, o, hb2, m2⟩
end
end Go.Proofs.YthlacliefgliiaaDoor
