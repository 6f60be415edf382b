/- The mixing of two 32-bit numbers, as plain mathematics: it is injective in each argument, symmetric, zero on the diagonal. -/
import Derived.Laws.Entries
namespace Go.Proofs.YtpcilleldanfmaaDoor
def mixB (a b : BitVec 32) : BitVec 32 :=
  let x := a ^^^ b
  let x := (x ^^^ x >>> 16) * 73244475#32
  let x := (x ^^^ x >>> 16) * 73244475#32
  x ^^^ x >>> 16
def mixZ (a b : Int) : Int := ((mixB (BitVec.ofInt 32 a) (BitVec.ofInt 32 b)).toNat : Int)

theorem xs_invol (x : BitVec 32) : (x ^^^ x >>> 16) ^^^ (x ^^^ x >>> 16) >>> 16 = x := by
  ext i hi
  simp only [BitVec.getElem_xor, BitVec.getElem_ushiftRight, BitVec.getLsbD_xor, BitVec.getLsbD_ushiftRight]
  have : x.getLsbD (16 + (16 + i)) = false := BitVec.getLsbD_of_ge _ _ (by omega)
  rw [this]
  simp

theorem xs_inj {x y : BitVec 32} (h : x ^^^ x >>> 16 = y ^^^ y >>> 16) : x = y := by
  rw [← xs_invol x, ← xs_invol y, h]

theorem mul_inj {x y : BitVec 32} (h : x * 73244475#32 = y * 73244475#32) : x = y := by
  have := congrArg (· * 295559667#32) h
  simp only [BitVec.mul_assoc] at this
  have e : (73244475#32 : BitVec 32) * 295559667#32 = 1#32 := by decide
  rw [e, BitVec.mul_one, BitVec.mul_one] at this
  exact this

theorem mixB_inj {x y : BitVec 32} {a b : BitVec 32} (h : mixB x a = mixB y b) : x ^^^ a = y ^^^ b := by
  unfold mixB at h
  exact xs_inj (mul_inj (xs_inj (mul_inj (xs_inj h))))

theorem xor_inj_left {x y a : BitVec 32} (h : x ^^^ a = y ^^^ a) : x = y := by
  have := congrArg (· ^^^ a) h
  simpa [BitVec.xor_assoc] using this

theorem mixB_comm (a b : BitVec 32) : mixB a b = mixB b a := by
  unfold mixB; rw [BitVec.xor_comm a b]

theorem mixZ_comm (a b : Int) : mixZ a b = mixZ b a := by unfold mixZ; rw [mixB_comm]
theorem mixZ_self (a : Int) : mixZ a a = 0 := by unfold mixZ mixB; simp
theorem mixZ_bd (a b : Int) : 0 ≤ mixZ a b ∧ mixZ a b < 4294967296 := by
  unfold mixZ; have := (mixB (BitVec.ofInt 32 a) (BitVec.ofInt 32 b)).isLt; omega
theorem mixZ_inj {a b s : Int} (ha : 0 ≤ a) (ha2 : a < 4294967296) (hb : 0 ≤ b) (hb2 : b < 4294967296) (h : mixZ a s = mixZ b s) : a = b := by
  unfold mixZ at h
  have h1 : mixB (BitVec.ofInt 32 a) (BitVec.ofInt 32 s) = mixB (BitVec.ofInt 32 b) (BitVec.ofInt 32 s) := BitVec.eq_of_toNat_eq (by omega)
  have h2 := congrArg BitVec.toNat (xor_inj_left (mixB_inj h1))
  simp only [BitVec.toNat_ofInt] at h2
  omega

theorem bits_xor (a b : Int) : bits .xor .u32 a b = ((BitVec.ofInt 32 a ^^^ BitVec.ofInt 32 b).toNat : Int) := by
  unfold bits
  show IntKind.u32.wrap ((BitVec.ofInt 32 a ^^^ BitVec.ofInt 32 b).toNat : Int) = _
  have h := (BitVec.ofInt 32 a ^^^ BitVec.ofInt 32 b).isLt
  generalize (BitVec.ofInt 32 a ^^^ BitVec.ofInt 32 b).toNat = n at *
  unfold IntKind.wrap
  simp [IntKind.bits, IntKind.signed]
  omega
theorem ofInt_toNat (x : BitVec 32) : BitVec.ofInt 32 (x.toNat : Int) = x := by
  apply BitVec.eq_of_toNat_eq; rw [BitVec.toNat_ofInt]; have := x.isLt; omega
theorem ofInt_shr (x : BitVec 32) : BitVec.ofInt 32 ((x.toNat : Int) / 65536) = x >>> 16 := by
  apply BitVec.eq_of_toNat_eq; rw [BitVec.toNat_ofInt, BitVec.toNat_ushiftRight, Nat.shiftRight_eq_div_pow]; have := x.isLt; omega
theorem ofInt_mul (x : BitVec 32) : (x.toNat : Int) * 73244475 % 4294967296 = ((x * 73244475#32).toNat : Int) := by
  rw [BitVec.toNat_mul]; simp
/-- What the walk computes is 'mixZ'. -/
theorem mix_walk (a b : Int) : bits .xor .u32
    (bits .xor .u32 (bits .xor .u32 (bits .xor .u32 a b) (bits .xor .u32 a b / 65536) * 73244475 % 4294967296)
      (bits .xor .u32 (bits .xor .u32 a b) (bits .xor .u32 a b / 65536) * 73244475 % 4294967296 / 65536) * 73244475 % 4294967296)
    (bits .xor .u32 (bits .xor .u32 (bits .xor .u32 a b) (bits .xor .u32 a b / 65536) * 73244475 % 4294967296)
      (bits .xor .u32 (bits .xor .u32 a b) (bits .xor .u32 a b / 65536) * 73244475 % 4294967296 / 65536) * 73244475 % 4294967296 / 65536) = mixZ a b := by
  simp only [bits_xor, ofInt_mul, ofInt_shr, ofInt_toNat]
  rfl
end Go.Proofs.YtpcilleldanfmaaDoor
