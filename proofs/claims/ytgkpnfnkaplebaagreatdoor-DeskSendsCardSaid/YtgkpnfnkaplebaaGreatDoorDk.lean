/- Functions of the library that search a string for one byte, on the abstract machine: texts of their own, by the kit's contracts. -/
import Derived.Test.YtgkpnfnkaplebaaGreatDoorAb18
set_option linter.unusedVariables false
set_option linter.unusedSimpArgs false
set_option linter.constructorNameAsVariable false
namespace Go.Proofs.YtgkpnfnkaplebaaGreatDoor
open Go.Vc Go.Ab
noncomputable section
/-- A string of one byte. -/
def oneI (t : List Int) (K : Int → Option DV) : Option DV := List.rec (motive := fun _ => Option DV) none (fun c r _ => List.rec (motive := fun _ => Option DV) (K c) (fun _ _ _ => none) r) t
/-- How many of a list are x. -/
def cntI (x : Int) (l : List Int) : Nat → (Int → Option DV) → Option DV := List.rec (motive := fun _ => Nat → (Int → Option DV) → Option DV) (fun i K => K (.ofNat i)) (fun n _ ih i K => br (ieq n x) (ih (Nat.succ i) K) (ih i K)) l
/-- Where one byte is first; how often. -/
def gIndexS.G : G DV := fun R H K => lc R fun d R => lc R fun e R => ln R <| onV d fun v => isG v fun s => onV e fun w => isG w fun t => oneI t fun c => idxI c s 0 fun r => asI r fun r => K (.v (.i .i64 r)) H
def gCountS.G : G DV := fun R H K => lc R fun d R => lc R fun e R => ln R <| onV d fun v => isG v fun s => onV e fun w => isG w fun t => oneI t fun c => cntI c s 0 fun r => asI r fun r => K (.v (.i .i64 r)) H
end
section
variable {W : Wd} {ads : List Addr} {φ φ' : Phi} {H H' : AH} {h h' : Heap}
theorem oneI_spec {t : List Int} {K : Int → Option DV} {out : DV} (e : oneI t K = some out) : ∃ c, t = [c] ∧ K c = some out := by
  cases t with
  | nil => cases e
  | cons c r =>
    cases r with
    | nil => exact ⟨c, rfl, e⟩
    | cons d r => cases e
theorem strOf_one (c : Int) : strOf [c] = ⟨#[c.toNat.toUInt8]⟩ := rfl
theorem strOf_list (l : List Int) : (strOf l).data.toList = Lib.bytesOf l := by simp [strOf, Lib.bytesOf]
theorem cntI_spec {x : Int} (hx : 0 ≤ x ∧ x < 256) {out : DV} : ∀ {l : List Int} {i : Nat} {K : Int → Option DV}, (∀ y ∈ l, 0 ≤ y ∧ y < 256) → cntI x l i K = some out → K (.ofNat (i + Lib.countByte (Lib.bytesOf l) x.toNat.toUInt8)) = some out
  | [], i, K, hl, e => by
    have e1 : K (.ofNat i) = some out := e
    simpa [Lib.bytesOf, Lib.countByte] using e1
  | y :: l, i, K, hl, e => by
    have e1 : br (ieq y x) (cntI x l (Nat.succ i) K) (cntI x l i K) = some out := e
    have hy := hl y (by simp)
    have hbe : ((y.toNat.toUInt8 == x.toNat.toUInt8) = true) ↔ y = x := by
      rw [beq_iff_eq]
      constructor
      · intro h
        have h3 := congrArg UInt8.toNat h
        simp only [UInt8.toNat_ofNat'] at h3
        omega
      · rintro rfl; rfl
    have hc : Lib.countByte (Lib.bytesOf (y :: l)) x.toNat.toUInt8 = Lib.countByte (Lib.bytesOf l) x.toNat.toUInt8 + if (y.toNat.toUInt8 == x.toNat.toUInt8) = true then 1 else 0 := by
      show List.count _ (y.toNat.toUInt8 :: Lib.bytesOf l) = _
      rw [List.count_cons]; rfl
    rw [hc]
    cases hb : ieq y x with
    | true =>
      have h2 := cntI_spec hx (fun z hz => hl z (by simp [hz])) (br_t hb e1)
      rw [ieq_eq, decide_eq_true_eq] at hb
      rw [if_pos (hbe.2 hb), show i + (Lib.countByte (Lib.bytesOf l) x.toNat.toUInt8 + 1) = Nat.succ i + Lib.countByte (Lib.bytesOf l) x.toNat.toUInt8 by omega]
      exact h2
    | false =>
      have h2 := cntI_spec hx (fun z hz => hl z (by simp [hz])) (br_f hb e1)
      rw [ieq_eq, decide_eq_false_iff_not] at hb
      rw [if_neg (fun hh => hb (hbe.1 hh))]
      exact h2
theorem gIndexS.S : Snd Tryz.prog ads 28 gIndexS.G := by
  refine ⟨by kernel_rfl, fun W s φ H h args vs K out Post hr ha e hk => ?_⟩
  unfold gIndexS.G at e
  obtain ⟨d, R, w1, wr, rfl, rfl, hd, ha, e⟩ := lc_spec ha e
  obtain ⟨d2, R2, w2, wr2, rfl, rfl, hd2, ha, e⟩ := lc_spec ha e
  obtain ⟨rfl, e⟩ := ln_spec ha e
  obtain ⟨v, rfl, hv, e⟩ := onV_spec hd e
  obtain ⟨l, rfl, rfl, hl, e⟩ := isG_spec hv e
  obtain ⟨v2, rfl, hv2, e⟩ := onV_spec hd2 e
  obtain ⟨t, rfl, rfl, ht, e⟩ := isG_spec hv2 e
  obtain ⟨c, rfl, e⟩ := oneI_spec e
  have e := idxI_spec (ht c (by simp)) hl e
  have e := asI_spec e
  have hv : (if Lib.indexByte (Lib.bytesOf l) c.toNat.toUInt8 = -1 then (-1 : Int) else Lib.indexByte (Lib.bytesOf l) c.toNat.toUInt8 + (0 : Nat)) = Lib.indexByte (Lib.bytesOf l) c.toNat.toUInt8 := by
    split
    · rename_i h; exact h.symm
    · simp
  rw [hv] at e
  refine (runs_ofCalls (v := .int .i64 (Lib.indexByte (Lib.bytesOf l) c.toNat.toUInt8)) fun w hw => ?_).mono ?_
  · have := Tryz.strings_Index_one (strOf l) c.toNat.toUInt8 w
    rw [strOf_list] at this
    exact this
  · rintro _ g ⟨rfl, rfl⟩
    exact hk φ H _ _ _ (Phi.le.refl _) hr (RD.ofI (n := Lib.indexByte (Lib.bytesOf l) c.toNat.toUInt8)) e
theorem gCountS.S : Snd Tryz.prog ads 53 gCountS.G := by
  refine ⟨by kernel_rfl, fun W s φ H h args vs K out Post hr ha e hk => ?_⟩
  unfold gCountS.G at e
  obtain ⟨d, R, w1, wr, rfl, rfl, hd, ha, e⟩ := lc_spec ha e
  obtain ⟨d2, R2, w2, wr2, rfl, rfl, hd2, ha, e⟩ := lc_spec ha e
  obtain ⟨rfl, e⟩ := ln_spec ha e
  obtain ⟨v, rfl, hv, e⟩ := onV_spec hd e
  obtain ⟨l, rfl, rfl, hl, e⟩ := isG_spec hv e
  obtain ⟨v2, rfl, hv2, e⟩ := onV_spec hd2 e
  obtain ⟨t, rfl, rfl, ht, e⟩ := isG_spec hv2 e
  obtain ⟨c, rfl, e⟩ := oneI_spec e
  have e := cntI_spec (ht c (by simp)) hl e
  have e := asI_spec e
  rw [Nat.zero_add] at e
  refine (runs_ofCalls (v := .int .i64 (Lib.countByte (Lib.bytesOf l) c.toNat.toUInt8 : Nat)) fun w hw => ?_).mono ?_
  · have := Tryz.strings_Count_one (strOf l) c.toNat.toUInt8 w
    rw [strOf_list] at this
    exact this
  · rintro _ g ⟨rfl, rfl⟩
    exact hk φ H _ _ _ (Phi.le.refl _) hr (RD.ofI (n := (Lib.countByte (Lib.bytesOf l) c.toNat.toUInt8 : Nat))) e
end
end Go.Proofs.YtgkpnfnkaplebaaGreatDoor
