import Derived.Test.YtepodifionoigaaGreatDoorMFrm3
import Derived.Test.YtepodifionoigaaGreatDoorGenAll2
import Derived.Test.YtepodifionoigaaGreatDoorMChunk
set_option linter.unusedVariables false
set_option linter.unusedSimpArgs false
set_option maxRecDepth 8000
namespace Go.Proofs.YtepodifionoigaaGreatDoor
open Go.Vc
theorem bxor_u8 {m n : Nat} (hm : m < 256) (hn : n < 256) : bits .xor .u8 (m : Int) (n : Int) = ((m ^^^ n : Nat) : Int) := by
  have e : bits .xor .u8 (m : Int) (n : Int) = IntKind.u8.wrap ((BitVec.ofInt 8 (m : Int) ^^^ BitVec.ofInt 8 (n : Int)).toNat : Int) := rfl
  have e2 : (BitVec.ofInt 8 (m : Int) ^^^ BitVec.ofInt 8 (n : Int)).toNat = m ^^^ n := by
    rw [BitVec.toNat_xor, BitVec.toNat_ofInt, BitVec.toNat_ofInt]
    rw [show ((m : Int) % (2 ^ 8 : Nat)).toNat = m by omega, show ((n : Int) % (2 ^ 8 : Nat)).toNat = n by omega]
  have h3 : m ^^^ n < 2 ^ 8 := Nat.xor_lt_two_pow (by omega) (by omega)
  rw [e, e2, wrap_fits (show fits .u8 _ by simp only [fits]; omega)]
theorem band_u8 {m n : Nat} (hm : m < 256) (hn : n < 256) : bits .and .u8 (m : Int) (n : Int) = ((m &&& n : Nat) : Int) := by
  have e : bits .and .u8 (m : Int) (n : Int) = IntKind.u8.wrap ((BitVec.ofInt 8 (m : Int) &&& BitVec.ofInt 8 (n : Int)).toNat : Int) := rfl
  have e2 : (BitVec.ofInt 8 (m : Int) &&& BitVec.ofInt 8 (n : Int)).toNat = m &&& n := by
    rw [BitVec.toNat_and, BitVec.toNat_ofInt, BitVec.toNat_ofInt]
    rw [show ((m : Int) % (2 ^ 8 : Nat)).toNat = m by omega, show ((n : Int) % (2 ^ 8 : Nat)).toNat = n by omega]
  have h3 : m &&& n ≤ m := Nat.and_le_left
  rw [e, e2, wrap_fits (show fits .u8 _ by simp only [fits]; omega)]
theorem bxor_i64 {m n : Nat} (hm : m < 9223372036854775808) (hn : n < 9223372036854775808) : bits .xor .i64 (m : Int) (n : Int) = ((m ^^^ n : Nat) : Int) := by
  have e : bits .xor .i64 (m : Int) (n : Int) = IntKind.i64.wrap ((BitVec.ofInt 64 (m : Int) ^^^ BitVec.ofInt 64 (n : Int)).toNat : Int) := rfl
  have e2 : (BitVec.ofInt 64 (m : Int) ^^^ BitVec.ofInt 64 (n : Int)).toNat = m ^^^ n := by
    rw [BitVec.toNat_xor, BitVec.toNat_ofInt, BitVec.toNat_ofInt]
    rw [show ((m : Int) % (2 ^ 64 : Nat)).toNat = m by omega, show ((n : Int) % (2 ^ 64 : Nat)).toNat = n by omega]
  have h3 : m ^^^ n < 2 ^ 63 := Nat.xor_lt_two_pow (by omega) (by omega)
  rw [e, e2, wrap_fits (show fits .i64 _ by simp only [fits]; omega)]
theorem band_i64 {m n : Nat} (hm : m < 9223372036854775808) (hn : n < 9223372036854775808) : bits .and .i64 (m : Int) (n : Int) = ((m &&& n : Nat) : Int) := by
  have e : bits .and .i64 (m : Int) (n : Int) = IntKind.i64.wrap ((BitVec.ofInt 64 (m : Int) &&& BitVec.ofInt 64 (n : Int)).toNat : Int) := rfl
  have e2 : (BitVec.ofInt 64 (m : Int) &&& BitVec.ofInt 64 (n : Int)).toNat = m &&& n := by
    rw [BitVec.toNat_and, BitVec.toNat_ofInt, BitVec.toNat_ofInt]
    rw [show ((m : Int) % (2 ^ 64 : Nat)).toNat = m by omega, show ((n : Int) % (2 ^ 64 : Nat)).toNat = n by omega]
  have h3 : m &&& n ≤ m := Nat.and_le_left
  rw [e, e2, wrap_fits (show fits .i64 _ by simp only [fits]; omega)]
theorem pow2_nat' {d : Nat} : pow2 (d : Int) = ((2 ^ d : Nat) : Int) := by
  unfold pow2; rw [Int.toNat_natCast, Int.natCast_pow]; rfl
def stp (r b : Nat) : Nat := if (r / 128 + b) % 2 = 1 then (r * 2 % 256) ^^^ 7 else r * 2 % 256
def crcK (r x : Nat) : Nat → Nat
  | 0 => r
  | k + 1 => stp (crcK r x k) (x / 2 ^ k % 2)
def crcL (xs : List Int) : Nat := xs.foldl (fun r x => crcK r x.toNat 8) 255
def finK (r : Nat) : Nat → Nat
  | 0 => 0
  | k + 1 => if r / 2 ^ k % 2 = 0 then finK r k ||| (128 / 2 ^ k) else finK r k
def sumV (xs : List Int) : Int := (finK (crcL xs) 8 : Nat)
theorem stp_lt (r b : Nat) : stp r b < 256 := by
  unfold stp
  have h : r * 2 % 256 < 2 ^ 8 := Nat.mod_lt _ (by decide)
  split
  · exact Nat.xor_lt_two_pow h (by decide)
  · exact h
theorem crcK_lt {r x : Nat} (hr : r < 256) : ∀ k, crcK r x k < 256
  | 0 => hr
  | k + 1 => stp_lt _ _
theorem foldl_lt : ∀ {xs : List Int} {r : Nat}, r < 256 → xs.foldl (fun r x => crcK r x.toNat 8) r < 256
  | [], r, h => h
  | x :: xs, r, h => foldl_lt (xs := xs) (crcK_lt h 8)
theorem crcL_lt (xs : List Int) : crcL xs < 256 := foldl_lt (by decide)
theorem crcL_snoc (xs : List Int) (x : Int) : crcL (xs ++ [x]) = crcK (crcL xs) x.toNat 8 := by unfold crcL; rw [List.foldl_append]; rfl
theorem finK_lt (r : Nat) : ∀ k, k ≤ 8 → finK r k < 256
  | 0, _ => by show 0 < 256; decide
  | k + 1, hk => by
    unfold finK
    have h := finK_lt r k (by omega)
    split
    · refine Nat.or_lt_two_pow (n := 8) h ?_
      have := Nat.div_le_self 128 (2 ^ k); omega
    · exact h
theorem sumV_bd (xs : List Int) : 0 ≤ sumV xs ∧ sumV xs < 256 := by
  have := finK_lt (crcL xs) 8 (by decide)
  unfold sumV; omega
theorem xor01 {a b : Nat} (ha : a < 2) (hb : b < 2) : a ^^^ b = (a + b) % 2 := by
  have h1 : a = 0 ∨ a = 1 := by omega
  have h2 : b = 0 ∨ b = 1 := by omega
  rcases h1 with rfl | rfl <;> rcases h2 with rfl | rfl <;> rfl
theorem bitC {r x : Nat} (hr : r < 256) (hx : x < 256) : bits .xor .u8 ((r : Int) / 128) (bits .and .u8 (x : Int) 1) = (((r / 128 + x % 2) % 2 : Nat) : Int) := by
  rw [show bits .and .u8 (x : Int) 1 = bits .and .u8 (x : Int) ((1 : Nat) : Int) from rfl, band_u8 hx (by decide), Nat.and_one_is_mod, show (r : Int) / 128 = ((r / 128 : Nat) : Int) by omega, bxor_u8 (by omega) (by omega), xor01 (by omega) (by omega)]
theorem bitD {r x : Nat} (hr : r < 256) (hx : x < 256) : bits .xor .i64 (bits .and .i64 ((r : Int) / 128) 1) (bits .and .i64 (x : Int) 1) = (((r / 128 + x % 2) % 2 : Nat) : Int) := by
  rw [show bits .and .i64 (x : Int) 1 = bits .and .i64 (x : Int) ((1 : Nat) : Int) from rfl, band_i64 (by omega) (by decide), Nat.and_one_is_mod, show (r : Int) / 128 = ((r / 128 : Nat) : Int) by omega,
    show bits .and .i64 ((r / 128 : Nat) : Int) 1 = bits .and .i64 ((r / 128 : Nat) : Int) ((1 : Nat) : Int) from rfl, band_i64 (by omega) (by decide), Nat.and_one_is_mod, bxor_i64 (by omega) (by omega), Nat.mod_eq_of_lt (by omega), xor01 (by omega) (by omega)]
theorem stpC {r b : Nat} (q : (r / 128 + b) % 2 = 1) : bits .xor .u8 (IntKind.u8.wrap ((r : Int) * 2)) 7 = (stp r b : Nat) := by
  rw [wrap8, show ((r : Int) * 2) % 256 = ((r * 2 % 256 : Nat) : Int) by omega, show bits .xor .u8 ((r * 2 % 256 : Nat) : Int) 7 = bits .xor .u8 ((r * 2 % 256 : Nat) : Int) ((7 : Nat) : Int) from rfl, bxor_u8 (by omega) (by decide)]
  unfold stp; rw [if_pos q]
theorem stpC' {r b : Nat} (q : ¬ (r / 128 + b) % 2 = 1) : IntKind.u8.wrap ((r : Int) * 2) = (stp r b : Nat) := by
  rw [wrap8, show ((r : Int) * 2) % 256 = ((r * 2 % 256 : Nat) : Int) by omega]
  unfold stp; rw [if_neg q]
theorem and255 {n : Nat} (h : n < 9223372036854775808) : bits .and .i64 (n : Int) 255 = ((n % 256 : Nat) : Int) := by
  rw [show bits .and .i64 (n : Int) 255 = bits .and .i64 (n : Int) ((255 : Nat) : Int) from rfl, band_i64 h (by decide), Nat.and_two_pow_sub_one_eq_mod n 8]
theorem stpD {r b : Nat} (hr : r < 256) (q : (r / 128 + b) % 2 = 1) : bits .xor .i64 (bits .and .i64 (IntKind.i64.wrap ((r : Int) * 2)) 255) 7 = (stp r b : Nat) := by
  rw [wrap_fits (show fits .i64 ((r : Int) * 2) by simp only [fits]; omega), show (r : Int) * 2 = ((r * 2 : Nat) : Int) by omega, and255 (by omega), show bits .xor .i64 ((r * 2 % 256 : Nat) : Int) 7 = bits .xor .i64 ((r * 2 % 256 : Nat) : Int) ((7 : Nat) : Int) from rfl, bxor_i64 (by omega) (by decide)]
  unfold stp; rw [if_pos q]
theorem stpD' {r b : Nat} (hr : r < 256) (q : ¬ (r / 128 + b) % 2 = 1) : bits .and .i64 (IntKind.i64.wrap ((r : Int) * 2)) 255 = (stp r b : Nat) := by
  rw [wrap_fits (show fits .i64 ((r : Int) * 2) by simp only [fits]; omega), show (r : Int) * 2 = ((r * 2 : Nat) : Int) by omega, and255 (by omega)]
  unfold stp; rw [if_neg q]
section
variable {W W' : Wd} {h h' : Heap} {G : List Grp} {a : Option Addr} {n c k : Nat} {xs : List Int}
theorem rev_c {r : Nat} (hr : r < 256) (h : Heap) : Runs Tryz.prog 120 #[.int .u8 (bits .xor .u8 255 (r : Int))] h fun v h' => v = .int .u8 ((finK r 8 : Nat) : Int) ∧ h' = h := by
  rw [show bits .xor .u8 255 (r : Int) = bits .xor .u8 ((255 : Nat) : Int) (r : Int) from rfl, bxor_u8 (by decide) hr]
  have h2 : 255 ^^^ r < 2 ^ 8 := Nat.xor_lt_two_pow (by decide) (by omega)
  refine vc_math_bits_Reverse8 _ _ _ ⟨⟨by omega, ?_⟩, ?_, rfl⟩
  · show ((255 ^^^ r : Nat) : Int) < ((256 : Nat) : Int)
    omega
  · congr 1
    rw [Int.toNat_natCast]
    clear h2
    revert r
    decide
theorem crcSum_c (m : Me W h G) (hb : Bts W (.slice a n c) xs) (hx : ∀ x ∈ xs, 0 ≤ x ∧ x < 256) (hl : xs.length ≤ 65535) :
    Runs Tryz.prog 115 #[.slice a n c] h fun v h' => v = .int .u8 (sumV xs) ∧ h' = h := by
  obtain ⟨hs, hn, hc⟩ := bts_src hb
  subst hn
  refine vc_crc_Sum _ _ _ _ _ ⟨fun r i h' => h' = h ∧ ∃ k : Nat, i = k ∧ k ≤ xs.length ∧ r = (crcL (xs.take k) : Nat), fun _ i _ => ((xs.length : Int) - i).toNat, ⟨rfl, 0, rfl, by omega, rfl⟩, fun _ => ?_⟩
  rintro _ _ h1 ⟨rfl, k, rfl, hk, rfl⟩
  obtain ⟨R, hR⟩ : ∃ R, R = crcL (xs.take k) := ⟨_, rfl⟩
  have hRl : R < 256 := by rw [hR]; exact crcL_lt _
  rw [← hR]
  refine dcase_intro (fun q => ?_) fun q => ?_
  · have hkl : k < xs.length := by omega
    obtain ⟨b, o, rfl, -, -, hcl⟩ := bts_opn hb (by omega)
    have hxk : xs[k]? = some xs[k] := List.getElem?_eq_getElem hkl
    have hxb := hx xs[k] (List.getElem_mem hkl)
    obtain ⟨y, hy⟩ : ∃ y : Nat, xs[k] = (y : Int) := ⟨xs[k].toNat, by omega⟩
    have hyl : y < 256 := by omega
    refine ⟨⟨by omega, by omega⟩, xs[k], m.wcell (by simpa using hcl k _ hxk), ?_⟩
    refine ⟨fun r z j h' => h' = h1 ∧ ∃ i : Nat, j = i ∧ i ≤ 8 ∧ r = (crcK R y i : Nat) ∧ z = (y / 2 ^ i : Nat), fun _ _ j _ => (8 - j).toNat, ⟨rfl, 0, rfl, by omega, rfl, by rw [hy]; simp⟩, fun _ => ?_⟩
    rintro _ _ _ h2 ⟨rfl, i, rfl, hi, rfl, rfl⟩
    obtain ⟨r, hr⟩ : ∃ r, r = crcK R y i := ⟨_, rfl⟩
    have hrl : r < 256 := by rw [hr]; exact crcK_lt hRl i
    rw [← hr]
    refine dcase_intro (fun q2 => ?_) fun q2 => ?_
    · have hz : y / 2 ^ i < 256 := Nat.lt_of_le_of_lt (Nat.div_le_self ..) hyl
      have e1 : crcK R y (i + 1) = stp r (y / 2 ^ i % 2) := by rw [hr]; rfl
      have e2 : ((y / 2 ^ i : Nat) : Int) / 2 = ((y / 2 ^ (i + 1) : Nat) : Int) := by
        rw [Nat.pow_succ, ← Nat.div_div_eq_div_mul]; omega
      have e3 : IntKind.i64.wrap ((i : Int) + 1) = ((i + 1 : Nat) : Int) := by rw [wrap_fits (show fits .i64 ((i : Int) + 1) by simp only [fits]; omega)]; omega
      rw [bitC hrl hz, e2, e3]
      refine ⟨by decide, by decide, dcase_intro (fun q3 => ?_) fun q3 => ?_⟩
      · rw [stpC (b := y / 2 ^ i % 2) (by omega)]
        exact ⟨by decide, ⟨rfl, i + 1, rfl, by omega, by rw [e1], rfl⟩, by dsimp only; omega⟩
      · rw [stpC' (b := y / 2 ^ i % 2) (by omega)]
        exact ⟨by decide, ⟨rfl, i + 1, rfl, by omega, by rw [e1], rfl⟩, by dsimp only; omega⟩
    · obtain rfl : i = 8 := by omega
      have e3 : IntKind.i64.wrap ((k : Int) + 1) = ((k + 1 : Nat) : Int) := by rw [wrap_fits (show fits .i64 ((k : Int) + 1) by simp only [fits]; have := hc; omega)]; omega
      rw [e3]
      refine ⟨⟨rfl, k + 1, rfl, by omega, ?_⟩, by dsimp only; omega⟩
      rw [List.take_add_one, hxk, Option.toList_some, crcL_snoc, ← hR, hr, hy]; rfl
  · obtain rfl : k = xs.length := by omega
    rw [List.take_length] at hR
    refine (rev_c hRl h1).ret ⟨_, rfl, ?_, rfl⟩
    rw [hR]; rfl
theorem refSum_c (m : Me W h G) (hb : Bts W (.slice a n c) xs) (hx : ∀ x ∈ xs, 0 ≤ x ∧ x < 256) (hl : xs.length ≤ 65535) :
    Runs Tryz.prog 46 #[.slice a n c] h fun v h' => v = .int .u8 (sumV xs) ∧ h' = h := by
  obtain ⟨hs, hn, hc⟩ := bts_src hb
  subst hn
  refine vc_muezzinref1_Sum _ _ _ _ _ ⟨fun r i h' => h' = h ∧ ∃ k : Nat, i = k ∧ k ≤ xs.length ∧ r = (crcL (xs.take k) : Nat), fun _ i _ => ((xs.length : Int) - i).toNat, ⟨rfl, 0, rfl, by omega, rfl⟩, fun _ => ?_⟩
  rintro _ _ h1 ⟨rfl, k, rfl, hk, rfl⟩
  obtain ⟨R, hR⟩ : ∃ R, R = crcL (xs.take k) := ⟨_, rfl⟩
  have hRl : R < 256 := by rw [hR]; exact crcL_lt _
  rw [← hR]
  refine dcase_intro (fun q => ?_) fun q => ?_
  · have hkl : k < xs.length := by omega
    obtain ⟨b, o, rfl, -, -, hcl⟩ := bts_opn hb (by omega)
    have hxk : xs[k]? = some xs[k] := List.getElem?_eq_getElem hkl
    have hxb := hx xs[k] (List.getElem_mem hkl)
    obtain ⟨y, hy⟩ : ∃ y : Nat, xs[k] = (y : Int) := ⟨xs[k].toNat, by omega⟩
    have hyl : y < 256 := by omega
    refine ⟨fun r j h' => h' = h1 ∧ ∃ i : Nat, j = i ∧ i ≤ 8 ∧ r = (crcK R y i : Nat), fun _ j _ => (8 - j).toNat, ⟨rfl, 0, rfl, by omega, rfl⟩, fun _ => ?_⟩
    rintro _ _ h2 ⟨rfl, i, rfl, hi, rfl⟩
    obtain ⟨r, hr⟩ : ∃ r, r = crcK R y i := ⟨_, rfl⟩
    have hrl : r < 256 := by rw [hr]; exact crcK_lt hRl i
    rw [← hr]
    refine dcase_intro (fun q2 => ?_) fun q2 => ?_
    · have hz : y / 2 ^ i < 256 := Nat.lt_of_le_of_lt (Nat.div_le_self ..) hyl
      have e1 : crcK R y (i + 1) = stp r (y / 2 ^ i % 2) := by rw [hr]; rfl
      have e3 : IntKind.i64.wrap ((i : Int) + 1) = ((i + 1 : Nat) : Int) := by rw [wrap_fits (show fits .i64 ((i : Int) + 1) by simp only [fits]; omega)]; omega
      have e4 : IntKind.u64.wrap (i : Int) = (i : Int) := wrap_fits (show fits .u64 (i : Int) by simp only [fits]; omega)
      have e5 : IntKind.i64.wrap xs[k] / pow2 (i : Int) = ((y / 2 ^ i : Nat) : Int) := by
        rw [wrap_fits (show fits .i64 xs[k] by simp only [fits]; omega), hy, pow2_nat']; simp
      rw [e4, e3]
      refine ⟨by decide, ⟨by omega, by omega⟩, xs[k], m.wcell (by simpa using hcl k _ hxk), ⟨by omega, by simp only [kbits]; omega⟩, by decide, ?_⟩
      rw [e5, bitD hrl hz]
      refine dcase_intro (fun q3 => ?_) fun q3 => ?_
      · rw [stpD (b := y / 2 ^ i % 2) hrl (by omega)]
        exact ⟨⟨rfl, i + 1, rfl, by omega, by rw [e1]⟩, by dsimp only; omega⟩
      · rw [stpD' (b := y / 2 ^ i % 2) hrl (by omega)]
        exact ⟨⟨rfl, i + 1, rfl, by omega, by rw [e1]⟩, by dsimp only; omega⟩
    · obtain rfl : i = 8 := by omega
      have e3 : IntKind.i64.wrap ((k : Int) + 1) = ((k + 1 : Nat) : Int) := by rw [wrap_fits (show fits .i64 ((k : Int) + 1) by simp only [fits]; have := hc; omega)]; omega
      rw [e3]
      refine ⟨⟨rfl, k + 1, rfl, by omega, ?_⟩, by dsimp only; omega⟩
      rw [List.take_add_one, hxk, Option.toList_some, crcL_snoc, ← hR, hr, hy]; rfl
  · obtain rfl : k = xs.length := by omega
    rw [List.take_length] at hR
    refine ⟨fun out j h' => h' = h1 ∧ ∃ i : Nat, j = i ∧ i ≤ 8 ∧ out = (finK R i : Nat), fun _ j _ => (8 - j).toNat, ⟨rfl, 0, rfl, by omega, rfl⟩, fun _ => ?_⟩
    rintro _ _ h2 ⟨rfl, i, rfl, hi, rfl⟩
    have hfl := finK_lt R i hi
    refine dcase_intro (fun q2 => ?_) fun q2 => ?_
    · have e3 : IntKind.i64.wrap ((i : Int) + 1) = ((i + 1 : Nat) : Int) := by rw [wrap_fits (show fits .i64 ((i : Int) + 1) by simp only [fits]; omega)]; omega
      have e4 : IntKind.u64.wrap (i : Int) = (i : Int) := wrap_fits (show fits .u64 (i : Int) by simp only [fits]; omega)
      have hz : R / 2 ^ i < 256 := Nat.lt_of_le_of_lt (Nat.div_le_self ..) hRl
      have e5 : bits .and .i64 ((R : Int) / pow2 (i : Int)) 1 = ((R / 2 ^ i % 2 : Nat) : Int) := by
        rw [pow2_nat', show (R : Int) / ((2 ^ i : Nat) : Int) = ((R / 2 ^ i : Nat) : Int) by simp, show bits .and .i64 ((R / 2 ^ i : Nat) : Int) 1 = bits .and .i64 ((R / 2 ^ i : Nat) : Int) ((1 : Nat) : Int) from rfl, band_i64 (by omega) (by decide), Nat.and_one_is_mod]
      rw [e3, e4, e5]
      refine ⟨⟨by omega, by simp only [kbits]; omega⟩, dcase_intro (fun q3 => ?_) fun q3 => ?_⟩
      · refine ⟨⟨by omega, by simp only [kbits]; omega⟩, ⟨rfl, i + 1, rfl, by omega, ?_⟩, by dsimp only; omega⟩
        have e6 : (128 : Int) / pow2 (i : Int) = ((128 / 2 ^ i : Nat) : Int) := by rw [pow2_nat']; simp
        have e7 : 128 / 2 ^ i ≤ 128 := Nat.div_le_self ..
        rw [e6, bor_i64 (by omega) (by omega)]
        have e8 : finK R (i + 1) = finK R i ||| 128 / 2 ^ i := by show (if _ then _ else _) = _; rw [if_pos (by omega)]
        rw [e8]
      · refine ⟨⟨rfl, i + 1, rfl, by omega, ?_⟩, by dsimp only; omega⟩
        have e8 : finK R (i + 1) = finK R i := by show (if _ then _ else _) = _; rw [if_neg (by omega)]
        rw [e8]
    · obtain rfl : i = 8 := by omega
      refine ⟨?_, rfl⟩
      have := finK_lt R 8 (by decide)
      rw [wrap8, show ((finK R 8 : Nat) : Int) % 256 = ((finK R 8 : Nat) : Int) by omega, hR]; rfl
end
end Go.Proofs.YtepodifionoigaaGreatDoor
set_option linter.unusedVariables false
set_option linter.unusedSimpArgs false
set_option maxRecDepth 8000
namespace Go.Proofs.YtepodifionoigaaGreatDoor
open Go.Vc
section
variable {W W' : Wd} {h h' : Heap} {G : List Grp} {E : Grp} {a : Option Addr} {n c k : Nat} {xs : List Int}
theorem bts_take {j : Nat} (hb : Bts W (.slice a n c) xs) (hj : j ≤ n) : Bts W (.slice a j c) (xs.take j) := by
  obtain ⟨h1, h2, h3⟩ := bts_src hb
  have e : (xs.take j).length = j := by rw [List.length_take]; omega
  refine ⟨a, c, by rw [e], by omega, ?_⟩
  rw [e, ← ints_take]
  exact wsrc_take h1 hj (by rw [ints_len]; exact h2)
theorem glong_c {x y : Int} (m : Me W h G) (hb : Bts W (.slice a n c) xs) (h0 : xs[0]? = some x) (h1 : xs[1]? = some y) (hx : 0 ≤ x ∧ x < 256) (hy : 0 ≤ y ∧ y < 256) :
    Runs Tryz.prog 103 #[.slice a n c] h fun v h' => v = .tuple #[.int .i64 ((x + y * 256) / 16), .int .i64 ((x + y * 256) % 16)] ∧ h' = h := by
  have hl := (List.getElem?_eq_some_iff.1 h1).1
  obtain ⟨b, o, rfl, hn, hc, hcl⟩ := bts_opn hb (by omega)
  refine vc_ampdu_long _ _ _ _ _ ⟨⟨by decide, by omega⟩, x, m.wcell (by simpa using hcl 0 x h0), by simp only [fits]; omega, ⟨by decide, by omega⟩, y, m.wcell (hcl 1 y h1), by simp only [fits]; omega, by decide, by simp only [fits]; omega, ?_⟩
  rw [or_lo hx hy]
  exact ⟨⟨by omega, by decide, by simp only [fits]; omega⟩, ⟨by omega, by decide⟩, rfl, rfl⟩
end
end Go.Proofs.YtepodifionoigaaGreatDoor
