/- The abstract machine: functions that have a text of their own: a number below a bound (of one that is not known, but for what it leaves), the library's comparison of bytes, its search for a byte. -/
import Derived.Test.YtgkpnfnkaplebaaGreatDoorAb15
import Derived.Test.YtgkpnfnkaplebaaGreatDoorNum
import Derived.Test.YtgkpnfnkaplebaaGreatDoorShelf
set_option linter.unusedVariables false
set_option linter.unusedSimpArgs false
set_option linter.constructorNameAsVariable false
namespace Go.Proofs.YtgkpnfnkaplebaaGreatDoor
open Go.Vc Go.Ab
/-- The empty tree. -/
abbrev te : T4 AV := .e
noncomputable section
/-- What is known of a number: what it leaves by b. -/
def findT (b : Nat) (l : List (Nat × Nat)) (K : Nat → Option DV) : Option DV := List.rec (motive := fun _ => Option DV) none (fun p _ ih => Prod.rec (motive := fun _ => Option DV) (fun x r => br (Nat.beq x b) (K r) ih) p) l
def numV (m : Nat) (v : AV) (K : Int → Option DV) : Option DV :=
  AV.rec (motive := fun _ => Option DV) none (fun k n => must (kqR k .i64) (asI (imod n (.ofNat m)) K)) (fun _ => none) (fun _ => none) (fun _ => none) none (fun _ => none) (fun _ _ _ => none) (fun _ _ => none) none (fun _ => none)
    (fun n l => findT m l fun r => K (.ofNat r)) (fun _ => none) (fun _ _ => none) v
def gNumber.G : G DV := fun R H K => lc R fun d R => lc R fun e R => ln R <| onV d fun v => onV e fun w => isI .i64 w fun b => natK b fun m => must (Nat.ble 1 m) <| must (Nat.ble m 4611686018427387904) <| numV m v fun r => K (.v (.i .i64 r)) H
def gEqual.G : G DV := fun R H K => lc R fun d R => lc R fun e R => ln R <| onV d fun v => isS v fun s => onV e fun w => isS w fun t => lenA s fun n => lenA t fun m => rdS H s n fun l => rdS H t m fun r =>
  intsK .u8 l fun xs => intsK .u8 r fun ys => must (allU8 xs) <| must (allU8 ys) <| frcB (leqI xs ys) fun t => K (.v (.b t)) H
/-- Where the first one of a list is that is x. -/
def idxI (x : Int) (l : List Int) : Nat → (Int → Option DV) → Option DV := List.rec (motive := fun _ => Nat → (Int → Option DV) → Option DV) (fun _ K => K (.negSucc 0)) (fun n _ ih i K => br (ieq n x) (K (.ofNat i)) (ih (Nat.succ i) K)) l
def gIndexByte.G : G DV := fun R H K => lc R fun d R => lc R fun e R => ln R <| onV d fun v => isS v fun s => onV e fun w => isI .u8 w fun x => must (allU8 [x]) <| lenA s fun n => must (bnot (isNilS s)) <| rdS H s n fun l => intsK .u8 l fun xs => must (allU8 xs) <|
  idxI x xs 0 fun r => asI r fun r => K (.v (.i .i64 r)) H
end
section
variable {W : Wd} {ads : List Addr} {φ φ' : Phi} {H H' : AH} {h h' : Heap}
theorem lc_spec {l : List DV} {vs : List Value} {f : DV → List DV → Option DV} {out : DV} (ha : RAs ads φ l vs) (e : lc l f = some out) : ∃ d r w wr, l = d :: r ∧ vs = w :: wr ∧ RD ads φ d w ∧ RAs ads φ r wr ∧ f d r = some out := by
  cases l with
  | nil => cases e
  | cons d r => obtain ⟨w, wr, rfl, h1, h2⟩ := ha; exact ⟨d, r, w, wr, rfl, rfl, h1, h2, e⟩
theorem ln_spec {l : List DV} {vs : List Value} {K : Option DV} {out : DV} (ha : RAs ads φ l vs) (e : ln l K = some out) : vs = [] ∧ K = some out := by
  cases l with
  | nil => exact ⟨ha, e⟩
  | cons d r => cases e
theorem findT_spec {b : Nat} {K : Nat → Option DV} {out : DV} : ∀ {l : List (Nat × Nat)}, findT b l K = some out → ∃ r, (b, r) ∈ l ∧ K r = some out
  | [], e => by cases e
  | (x, r) :: l, e => by
    have e1 : br (Nat.beq x b) (K r) (findT b l K) = some out := e
    cases hb : Nat.beq x b with
    | true =>
      have := beq_true hb
      subst this
      exact ⟨r, List.mem_cons_self, br_t hb e1⟩
    | false =>
      obtain ⟨r', h1, h2⟩ := findT_spec (br_f hb e1)
      exact ⟨r', List.mem_cons_of_mem _ h1, h2⟩
theorem numV_spec {m : Nat} {v : AV} {w : Value} {K : Int → Option DV} {out : DV} (hv : RV ads φ v w) (e : numV m v K = some out) : ∃ n r : Int, w = .int .i64 n ∧ n % (m : Int) = r ∧ K r = some out := by
  cases hv with
  | i k n =>
    obtain ⟨h3, e⟩ := must_spec (show must (kqR k .i64) (asI (imod n (.ofNat m)) K) = some out from e)
    have h3 := kqR_spec h3
    subst h3
    have e := asI_spec e
    rw [imod_eq] at e
    exact ⟨n, _, rfl, rfl, e⟩
  | y hl =>
    rename_i n l
    obtain ⟨r, h3, e⟩ := findT_spec (show findT m l (fun r => K (.ofNat r)) = some out from e)
    exact ⟨n, (r : Int), rfl, hl _ h3, e⟩
  | b t => cases e
  | p h => cases e
  | s h => cases e
  | ni => cases e
  | er h => cases e
  | ifc h => cases e
  | fn h => cases e
  | nf => cases e
  | g s => cases e
  | mp h => cases e
  | bm h => cases e
theorem gNumber.S : Snd Tryz.prog ads 5 gNumber.G := by
  refine ⟨by kernel_rfl, fun W s φ H h args vs K out Post hr ha e hk => ?_⟩
  unfold gNumber.G at e
  obtain ⟨d, R, w1, wr, rfl, rfl, hd, ha, e⟩ := lc_spec ha e
  obtain ⟨d2, R2, w2, wr2, rfl, rfl, hd2, ha, e⟩ := lc_spec ha e
  obtain ⟨rfl, e⟩ := ln_spec ha e
  obtain ⟨v, rfl, hv, e⟩ := onV_spec hd e
  obtain ⟨v2, rfl, hv2, e⟩ := onV_spec hd2 e
  obtain ⟨b, rfl, rfl, e⟩ := isI_spec hv2 e
  obtain ⟨m, rfl, e⟩ := natK_spec e
  obtain ⟨h1, e⟩ := must_spec e
  obtain ⟨h2, e⟩ := must_spec e
  have h1 := Nat.le_of_ble_eq_true h1
  have h2 := Nat.le_of_ble_eq_true h2
  obtain ⟨n, r, rfl, hn, e⟩ := numV_spec hv e
  refine (number_c n m h (by omega) (by omega)).mono fun u g hu => ?_
  obtain ⟨rfl, rfl⟩ := hu
  rw [hn]
  exact hk φ H _ _ _ (Phi.le.refl _) hr (RD.ofI (n := r)) e
theorem bytes_inj : ∀ {l m : List Int}, (∀ x ∈ l, 0 ≤ x ∧ x < 256) → (∀ x ∈ m, 0 ≤ x ∧ x < 256) → Lib.bytesOf l = Lib.bytesOf m → l = m
  | [], [], _, _, _ => rfl
  | [], y :: m, _, _, e => by simp [Lib.bytesOf] at e
  | x :: l, [], _, _, e => by simp [Lib.bytesOf] at e
  | x :: l, y :: m, hl, hm, e => by
    simp only [Lib.bytesOf, List.map_cons, List.cons.injEq] at e
    have h1 := hl x (by simp)
    have h2 := hm y (by simp)
    have h3 := congrArg UInt8.toNat e.1
    simp only [UInt8.toNat_ofNat'] at h3
    rw [show x = y by omega, bytes_inj (l := l) (m := m) (fun z hz => hl z (by simp [hz])) (fun z hz => hm z (by simp [hz])) e.2]
theorem bytesEq {l m : List Int} (hl : ∀ x ∈ l, 0 ≤ x ∧ x < 256) (hm : ∀ x ∈ m, 0 ≤ x ∧ x < 256) : (Lib.bytesOf l == Lib.bytesOf m) = decide (l = m) := by
  by_cases h : l = m
  · subst h; simp
  · rw [decide_eq_false h]; exact beq_false_of_ne fun e => h (bytes_inj hl hm e)
theorem bytesIn_src {w : World} {a : Option Addr} {n : Nat} {xs : List Int} (hs : src w.heap a n (xs.map (Value.int .u8))) (hn : xs.length = n) : Lib.BytesIn w a n xs := by
  intro h0
  unfold src at hs
  split at hs
  · simp only [List.map_eq_nil_iff] at hs; subst hs; simp at hn; omega
  · rename_i b o
    refine ⟨b, o, rfl, fun i hi => ?_⟩
    have hx : xs[i]? = some xs[i] := List.getElem?_eq_getElem (by omega)
    rw [cell?_eq, (row_cells hs).2 i (.int .u8 xs[i]) (by rw [List.getElem?_map, hx]; rfl), List.getD_eq_getElem?_getD, hx]; rfl
  · omega
theorem src_length {a : Option Addr} {n : Nat} {ws : List Value} {s : AS} {len cap : Nat} (hs : RS φ s a len cap) (hr : src h a n ws) (hn : n = len) : ws.length = n := by
  subst hn
  unfold src at hr
  split at hr
  · rename_i ws' 
    subst hr
    cases s with
    | nil => obtain ⟨_, rfl, _⟩ := hs; rfl
    | sl p o l c => obtain ⟨L, _, h2, _⟩ := hs; cases h2
    | su p o e l y => obtain ⟨L, _, h2, _⟩ := hs; cases h2
    | se p o e l z => obtain ⟨_, _, _, _, rfl, _⟩ := hs; rfl
  · exact (row_cells hr).1
  · rw [hr.2, hr.1]; rfl
theorem runs_ofCalls {P : Program} {f : FuncId} {args : Array Value} {h : Heap} {v : Value} (hc : ∀ w : World, w.heap = h → Calls P f args w fun e w' => e = .returned v ∧ w' = w) :
    Runs P f args h fun u h' => u = v ∧ h' = h :=
  fun w hw => (hc w hw).mono fun e w' ⟨he, hw'⟩ => ⟨v, he, ⟨rfl, by rw [hw', hw]⟩, by rw [hw']; exact Same.refl w⟩
theorem gEqual.S : Snd Tryz.prog ads 76 gEqual.G := by
  refine ⟨by kernel_rfl, fun W s φ H h args vs K out Post hr ha e hk => ?_⟩
  unfold gEqual.G at e
  obtain ⟨d, R, w1, wr, rfl, rfl, hd, ha, e⟩ := lc_spec ha e
  obtain ⟨d2, R2, w2, wr2, rfl, rfl, hd2, ha, e⟩ := lc_spec ha e
  obtain ⟨rfl, e⟩ := ln_spec ha e
  obtain ⟨v, rfl, hv, e⟩ := onV_spec hd e
  obtain ⟨s1, a1, l1, c1, rfl, rfl, hs1, e⟩ := isS_spec hv e
  obtain ⟨v2, rfl, hv2, e⟩ := onV_spec hd2 e
  obtain ⟨s2, a2, l2, c2, rfl, rfl, hs2, e⟩ := isS_spec hv2 e
  have e := lenA_spec hs1 e
  have e := lenA_spec hs2 e
  obtain ⟨L1, ws1, q1, e, r1⟩ := rdS_spec hr hs1 e
  obtain ⟨L2, ws2, q2, e, r2⟩ := rdS_spec hr hs2 e
  obtain ⟨xs, rfl, e⟩ := intsK_spec q1 e
  obtain ⟨ys, rfl, e⟩ := intsK_spec q2 e
  obtain ⟨h1, e⟩ := must_spec e
  obtain ⟨h2, e⟩ := must_spec e
  have e := frcB_spec e
  rw [leqI_eq] at e
  have n1 := src_length hs1 r1 rfl
  have n2 := src_length hs2 r2 rfl
  simp only [List.length_map] at n1 n2
  refine (runs_ofCalls (v := .bool (decide (xs = ys))) fun w hw => ?_).mono ?_
  · subst hw
    have := Tryz.bytes_Equal_all a1 a2 l1 c1 l2 c2 xs ys w n1 n2 (bytesIn_src r1 n1) (bytesIn_src r2 n2)
    rwa [bytesEq (allU8_spec h1) (allU8_spec h2)] at this
  · rintro _ g ⟨rfl, rfl⟩
    exact hk φ H _ _ _ (Phi.le.refl _) hr (RD.ofB (c := decide (xs = ys))) e
theorem idxI_spec {x : Int} (hx : 0 ≤ x ∧ x < 256) {out : DV} : ∀ {l : List Int} {i : Nat} {K : Int → Option DV}, (∀ y ∈ l, 0 ≤ y ∧ y < 256) → idxI x l i K = some out → K (if Lib.indexByte (Lib.bytesOf l) x.toNat.toUInt8 = -1 then -1 else Lib.indexByte (Lib.bytesOf l) x.toNat.toUInt8 + i) = some out
  | [], i, K, hl, e => by
    have e1 : K (.negSucc 0) = some out := e
    simpa [Lib.bytesOf, Lib.indexByte] using e1
  | y :: l, i, K, hl, e => by
    have e1 : br (ieq y x) (K (.ofNat i)) (idxI x l (Nat.succ i) K) = some out := e
    have hy := hl y (by simp)
    have hbe : ((y.toNat.toUInt8 == x.toNat.toUInt8) = true) ↔ y = x := by
      rw [beq_iff_eq]
      constructor
      · intro h
        have h3 := congrArg UInt8.toNat h
        simp only [UInt8.toNat_ofNat'] at h3
        omega
      · rintro rfl; rfl
    have hge := Lib.indexByte_ge (Lib.bytesOf l) x.toNat.toUInt8
    cases hb : ieq y x with
    | true =>
      have h2 := br_t hb e1
      rw [ieq_eq, decide_eq_true_eq] at hb
      have : Lib.indexByte (Lib.bytesOf (y :: l)) x.toNat.toUInt8 = 0 := by
        show (if (y.toNat.toUInt8 == x.toNat.toUInt8) = true then (0 : Int) else _) = 0
        rw [if_pos (hbe.2 hb)]
      rw [this, if_neg (by decide)]
      simpa using h2
    | false =>
      have h2 := idxI_spec hx (fun z hz => hl z (by simp [hz])) (br_f hb e1)
      rw [ieq_eq, decide_eq_false_iff_not] at hb
      have : Lib.indexByte (Lib.bytesOf (y :: l)) x.toNat.toUInt8 = if Lib.indexByte (Lib.bytesOf l) x.toNat.toUInt8 == -1 then -1 else Lib.indexByte (Lib.bytesOf l) x.toNat.toUInt8 + 1 := by
        show (if (y.toNat.toUInt8 == x.toNat.toUInt8) = true then (0 : Int) else _) = _
        rw [if_neg (fun hh => hb (hbe.1 hh))]
        rfl
      rw [this]
      by_cases hm : Lib.indexByte (Lib.bytesOf l) x.toNat.toUInt8 = -1
      · rw [if_pos hm] at h2
        simpa [hm] using h2
      · rw [if_neg hm] at h2
        have hm2 : (Lib.indexByte (Lib.bytesOf l) x.toNat.toUInt8 == -1) = false := beq_false_of_ne hm
        rw [hm2]
        simp only [Bool.false_eq_true, if_false]
        rw [if_neg (by omega)]
        rw [show Lib.indexByte (Lib.bytesOf l) x.toNat.toUInt8 + 1 + (i : Int) = Lib.indexByte (Lib.bytesOf l) x.toNat.toUInt8 + ((i + 1 : Nat) : Int) by push_cast; omega]
        exact h2
theorem gIndexByte.S : Snd Tryz.prog ads 304 gIndexByte.G := by
  refine ⟨by kernel_rfl, fun W s φ H h args vs K out Post hr ha e hk => ?_⟩
  unfold gIndexByte.G at e
  obtain ⟨d, R, w1, wr, rfl, rfl, hd, ha, e⟩ := lc_spec ha e
  obtain ⟨d2, R2, w2, wr2, rfl, rfl, hd2, ha, e⟩ := lc_spec ha e
  obtain ⟨rfl, e⟩ := ln_spec ha e
  obtain ⟨v, rfl, hv, e⟩ := onV_spec hd e
  obtain ⟨s1, a1, l1, c1, rfl, rfl, hs1, e⟩ := isS_spec hv e
  obtain ⟨v2, rfl, hv2, e⟩ := onV_spec hd2 e
  obtain ⟨x, rfl, rfl, e⟩ := isI_spec hv2 e
  obtain ⟨hx, e⟩ := must_spec e
  have hx := allU8_spec hx x (by simp)
  have e := lenA_spec hs1 e
  obtain ⟨hnn, e⟩ := must_spec e
  obtain ⟨L1, ws1, q1, e, r1⟩ := rdS_spec hr hs1 e
  obtain ⟨xs, rfl, e⟩ := intsK_spec q1 e
  obtain ⟨h1, e⟩ := must_spec e
  have e := idxI_spec hx (allU8_spec h1) e
  have e := asI_spec e
  have n1 := src_length hs1 r1 rfl
  simp only [List.length_map] at n1
  have hv : (if Lib.indexByte (Lib.bytesOf xs) x.toNat.toUInt8 = -1 then (-1 : Int) else Lib.indexByte (Lib.bytesOf xs) x.toNat.toUInt8 + (0 : Nat)) = Lib.indexByte (Lib.bytesOf xs) x.toNat.toUInt8 := by
    split
    · rename_i h; exact h.symm
    · simp
  rw [hv] at e
  refine (runs_ofCalls (v := .int .i64 (Lib.indexByte (Lib.bytesOf xs) x.toNat.toUInt8)) fun w hw => ?_).mono ?_
  · subst hw
    unfold src at r1
    split at r1
    · rw [show isNilS s1 = true by rw [← isNilS_eq hs1]; rfl] at hnn; cases hnn
    · rename_i b o
      refine Tryz.bytes_IndexByte b o l1 c1 xs x w n1 fun i hi => ?_
      have hxi : xs[i]? = some xs[i] := List.getElem?_eq_getElem (by omega)
      rw [cell?_eq, (row_cells r1).2 i (.int .u8 xs[i]) (by rw [List.getElem?_map, hxi]; rfl), List.getD_eq_getElem?_getD, hxi]; rfl
    · rename_i b o sp
      exfalso
      cases s1 with
      | nil => obtain ⟨h2, _⟩ := hs1; cases h2
      | sl p o l c => obtain ⟨L, _, h2, _⟩ := hs1; cases h2
      | su p o e l y => obtain ⟨L, _, h2, _⟩ := hs1; cases h2
      | se p o e l z =>
        obtain ⟨L, _, _, h2, _⟩ := hs1
        unfold slcAddr at h2
        split at h2
        · cases h2
        · rw [show (some (⟨L.b, L.δ + o, none⟩ : Addr)).map (·.add z) = some (Addr.add ⟨L.b, L.δ + o, none⟩ z) from rfl] at h2
          rw [add_eq] at h2; cases h2
  · rintro _ g ⟨rfl, rfl⟩
    exact hk φ H _ _ _ (Phi.le.refl _) hr (RD.ofI (n := Lib.indexByte (Lib.bytesOf xs) x.toNat.toUInt8)) e
end
end Go.Proofs.YtgkpnfnkaplebaaGreatDoor
