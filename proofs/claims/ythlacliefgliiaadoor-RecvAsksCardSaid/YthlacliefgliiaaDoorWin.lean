/- A session near the beginning of its board: a frame comes. -/
import Derived.Test.YthlacliefgliiaaDoorOff2
import Derived.Test.YthlacliefgliiaaDoorOpnInts
set_option linter.unusedVariables false
set_option linter.unusedSimpArgs false
set_option maxRecDepth 8000
namespace Go.Proofs.YthlacliefgliiaaDoor
open Go.Vc
def B1 (k : Nat) : List Int := [(k : Int)]
theorem pow2_nat {d : Nat} : pow2 (d : Int) = ((2 ^ d : Nat) : Int) := by
  unfold pow2; rw [Int.toNat_natCast, Int.natCast_pow]; rfl
/-- A bit of a board, read. -/
theorem bit_at {n : Int} {d : Nat} (h0 : 0 ≤ n) (h1 : n < 18446744073709551616) : bits .and .u64 (n / pow2 (d : Int)) 1 = if n.toNat.testBit d then 1 else 0 := by
  obtain ⟨m, rfl⟩ := Int.eq_ofNat_of_zero_le h0
  rw [pow2_nat, show ((m : Int) / ((2 ^ d : Nat) : Int)) = ((m / 2 ^ d : Nat) : Int) by simp, show (1 : Int) = ((1 : Nat) : Int) from rfl]
  have hle : m / 2 ^ d ≤ m := Nat.div_le_self ..
  rw [band_u64 (by omega) (by decide), Int.toNat_natCast]
  have e : m / 2 ^ d &&& 1 = if m.testBit d then 1 else 0 := by
    rw [Nat.and_one_is_mod, Nat.testBit_eq_decide_div_mod_eq]
    have := Nat.mod_lt (m / 2 ^ d) (show 0 < 2 by decide)
    by_cases h : m / 2 ^ d % 2 = 1
    · simp [h]
    · simp [h]; omega
  rw [e]; split <;> rfl
theorem bit_or {n : Int} {q d : Nat} (h0 : 0 ≤ n) (h1 : n < 18446744073709551616) (hq : q < 64) : (bitO n (1 * pow2 (q : Int))).toNat.testBit d = (n.toNat.testBit d || decide (q = d)) := by
  obtain ⟨m, rfl⟩ := Int.eq_ofNat_of_zero_le h0
  have h2 := pow2_bd (d := (q : Int)) (by omega) (by omega)
  rw [pow2_nat] at h2 ⊢
  unfold bitO
  rw [Int.one_mul, bor_u64 (by omega) (by omega), Int.toNat_natCast, Int.toNat_natCast, Nat.testBit_or, Nat.testBit_two_pow]
section
variable {S : Int} {p q m z t : Nat} {ks : List Nat} {x : Ses} {B : Nat → List Int}
/-- A number near the board's beginning: it stands there, nothing else turns. -/
theorem stand_near {o : Nat} (hf : x.fr = pos S o) (h1 : o ≤ q) (h2 : q < o + 64) : x.stand (pos S q) = { x with bits := bitO x.bits (1 * pow2 (((q - o : Nat)) : Int)) } := by
  have hd : distZ x.fr (pos S q) = ((q - o : Nat) : Int) := by rw [hf, pos_dist h1 (by omega)]; omega
  have e1 : (if 64 ≤ distZ x.fr (pos S q) ∧ distZ x.fr (pos S q) < 2048 then x.move (addZ (pos S q) (-63)) else x) = x := if_neg (by omega)
  unfold Ses.stand
  rw [e1]
  unfold Ses.mark
  rw [if_pos (by rw [hd]; omega), hd]
/-- What is known of a session as its frames come. -/
structure Win (t : Nat) (B : Nat → List Int) (S : Int) (z p : Nat) (ks : List Nat) (x : Ses) : Prop where
  on : x.on = true
  ok : SesOk x
  st : x.start = pos S p
  kp : x.kept = ks.map (frO t S B)
  nd : ks.Nodup
  bd : ∀ k ∈ ks, k < 2000
  z : x.size = z
  fr : x.fr = pos S 0
/-- A frame near the board's beginning comes. -/
theorem Win.take (w : Win t B S z p ks x) (ht : t < 8) (hB : ∀ k, (B k).length ≤ 1500) (hz : z ≤ 64) (hq : q < 64) (hpq : q < p + z) (hp : p ≤ q + 2048) (hl : ks.length ≤ 4000) :
    ∃ m ks', (x.take (frO t S B q)).1 = (List.range' p m).map (frO t S B) ∧ Win t B S z (p + m) ks' (x.take (frO t S B q)).2 ∧ (x.take (frO t S B q)).2.bits = bitO x.bits (1 * pow2 (q : Int)) ∧
      (∀ i, i < m → p ≤ q ∧ p + i ∈ ins ks q) ∧ ((q < p ∧ m = 0 ∧ ks' = ks) ∨ (p ≤ q ∧ ks' = cut (ins ks q) p m ∧ p + m ∉ ins ks q)) := by
  have hsn := stand_near (q := q) w.fr (Nat.zero_le q) (by omega)
  rw [Nat.sub_zero] at hsn
  have hso := stand_ok' (n := pos S q) w.ok
  by_cases h : q < p
  · have e := take_late (q := q) w.on w.st w.kp h (by omega)
    refine ⟨0, ks, by rw [e]; rfl, ?_, by rw [e]; show (x.stand (pos S q)).bits = _; rw [hsn], fun i hi => by omega, .inl ⟨h, rfl, rfl⟩⟩
    rw [e]
    obtain ⟨k1, k2, k3, k4, k5⟩ := stand_kept x (pos S q)
    exact ⟨by rw [k4]; exact w.on, hso, by rw [k2]; exact w.st, by rw [k1]; exact w.kp, w.nd, w.bd, by rw [k3]; exact w.z, by rw [hsn]; exact w.fr⟩
  · obtain ⟨m, h1, h2, h3⟩ := take_in w.on w.st w.kp w.nd w.bd w.z (by omega) hpq (by omega) hz
    obtain ⟨k1, k2, k3, k4, k5⟩ := stand_kept x (pos S q)
    refine ⟨m, cut (ins ks q) p m, by rw [h1], ?_, by rw [h1]; show (x.stand (pos S q)).bits = _; rw [hsn], fun i hi => ⟨by omega, h2 i hi⟩, .inr ⟨by omega, rfl, h3⟩⟩
    rw [h1]
    have hlen : (cut (ins ks q) p m).length ≤ 4096 := by
      have := cut_len (ks := ins ks q) (p := p) (m := m)
      have := ins_len (ks := ks) (q := q)
      omega
    exact ⟨by show (x.stand (pos S q)).on = true; rw [k4]; exact w.on, wk_ok w.ok ht hB hlen, rfl, rfl, cut_nodup (ins_nodup w.nd), fun k hk => by
      rcases ins_mem.1 (cut_mem.1 hk).1 with h | h
      · exact w.bd k h
      · omega, by show (x.stand (pos S q)).size = _; rw [k3]; exact w.z, by show (x.stand (pos S q)).fr = _; rw [hsn]; exact w.fr⟩
theorem Win.ok_out (ht : t < 8) (hB : ∀ k, (B k).length ≤ 1500) {l : List Nat} : ∀ f ∈ l.map (frO t S B), FmOk f := by
  intro f hf
  obtain ⟨k, hk, rfl⟩ := List.mem_map.1 hf
  exact dfm_ok (by omega) pos_bd (hB k)
theorem newSes_win (hS : 0 ≤ S ∧ S ≤ 4095) (hz : z ≤ 64) : Win t B S z 0 [] (newSes z S) :=
  ⟨rfl, ⟨hS, hS, by show 0 ≤ (0 : Int) ∧ (0 : Int) ≤ 4095; decide, by show 0 ≤ (0 : Int) ∧ (0 : Int) < 18446744073709551616; decide, by show 0 ≤ (z : Int) ∧ (z : Int) ≤ 64; omega, by simp [newSes], by simp [newSes]⟩, by show S = _; unfold pos; omega, rfl, List.nodup_nil, by simp, rfl, by show S = _; unfold pos; omega⟩
end
end Go.Proofs.YthlacliefgliiaaDoor
