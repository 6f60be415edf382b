/- Strings as lists of numbers. No program is named here. -/
import Derived.Test.YtgkpnfnkaplebaaGreatDoorVc
set_option linter.unusedVariables false
set_option linter.unusedSimpArgs false
namespace Go.Ab
open Go.Vc
/-- The string of some bytes. -/
def strOf (l : List Int) : ByteArray := ⟨(l.map fun n => UInt8.ofNat n.toNat).toArray⟩
def bytesOk (l : List Int) : Prop := ∀ n ∈ l, 0 ≤ n ∧ n < 256
/-- A string's bytes. -/
def bytesI (s : ByteArray) : List Int := s.data.toList.map fun b => Int.ofNat b.toNat
noncomputable section
variable {β : Type}
def appI (m n : List Int) : (List Int → Option β) → Option β := List.rec (motive := fun _ => (List Int → Option β) → Option β) (fun K => K n) (fun a _ ih K => ih fun r => K (a :: r)) m
def dropI (k : Nat) : List Int → List Int := Nat.rec (motive := fun _ => List Int → List Int) (fun l => l) (fun _ ih l => List.rec (motive := fun _ => List Int) [] (fun _ r _ => ih r) l) k
def takeI (k : Nat) : List Int → (List Int → Option β) → Option β :=
  Nat.rec (motive := fun _ => List Int → (List Int → Option β) → Option β) (fun _ K => K []) (fun _ ih l K => List.rec (motive := fun _ => Option β) (K []) (fun a r _ => ih r fun r' => K (a :: r')) l) k
def getI (k : Nat) : List Int → (Int → Option β) → Option β :=
  Nat.rec (motive := fun _ => List Int → (Int → Option β) → Option β) (fun l K => List.rec (motive := fun _ => Option β) none (fun a _ _ => K a) l) (fun _ ih l K => List.rec (motive := fun _ => Option β) none (fun _ r _ => ih r K) l) k
end
section
variable {β : Type} {out : β}
theorem appI_eq : ∀ (m n : List Int) (K : List Int → Option β), appI m n K = K (m ++ n)
  | [], n, K => rfl
  | a :: m, n, K => (appI_eq m n fun r => K (a :: r)).trans rfl
theorem dropI_eq : ∀ (k : Nat) (l : List Int), dropI k l = l.drop k
  | 0, l => rfl
  | k + 1, [] => rfl
  | k + 1, a :: l => (dropI_eq k l).trans rfl
theorem takeI_eq : ∀ (k : Nat) (l : List Int) (K : List Int → Option β), takeI k l K = K (l.take k)
  | 0, l, K => rfl
  | k + 1, [], K => rfl
  | k + 1, a :: l, K => (takeI_eq k l fun r => K (a :: r)).trans rfl
theorem getI_spec : ∀ {k : Nat} {l : List Int} {K : Int → Option β}, getI k l K = some out → ∃ a, l[k]? = some a ∧ K a = some out
  | 0, [], K, e => by cases e
  | 0, a :: l, K, e => ⟨a, rfl, e⟩
  | k + 1, [], K, e => by cases e
  | k + 1, a :: l, K, e => by
    obtain ⟨b, h1, e⟩ := getI_spec (k := k) (l := l) (K := K) e
    exact ⟨b, by simpa using h1, e⟩
theorem strOf_size (l : List Int) : (strOf l).size = l.length := by
  show (strOf l).data.size = _
  simp [strOf]
theorem strOf_app (m n : List Int) : strOf m ++ strOf n = strOf (m ++ n) := by
  apply ByteArray.ext
  simp [strOf]
theorem strOf_extract (l : List Int) (i j : Nat) : (strOf l).extract i j = strOf ((l.drop i).take (j - i)) := by
  apply ByteArray.ext
  rw [ByteArray.data_extract]
  apply Array.ext'
  simp [strOf, List.extract_eq_take_drop]
theorem toNat_byte {n : Int} (h : 0 ≤ n ∧ n < 256) : ((UInt8.ofNat n.toNat).toNat : Int) = n := by
  rw [UInt8.toNat_ofNat']
  omega
theorem strAt_strOf {l : List Int} {i : Nat} {a : Int} (hl : bytesOk l) (h : l[i]? = some a) : strAt (strOf l) i = a := by
  unfold strAt strOf
  have hm := List.mem_of_getElem? h
  rw [List.getD_eq_getElem?_getD]
  simp only [List.getElem?_map, h, Option.map_some, Option.getD_some]
  exact toNat_byte (hl a hm)
theorem bytes_inj : ∀ {m n : List Int}, bytesOk m → bytesOk n → (m.map fun n => UInt8.ofNat n.toNat) = (n.map fun n => UInt8.ofNat n.toNat) → m = n
  | [], [], _, _, _ => rfl
  | [], _ :: _, _, _, h => by cases h
  | _ :: _, [], _, _, h => by cases h
  | a :: m, b :: n, h1, h2, h => by
    simp only [List.map_cons, List.cons.injEq] at h
    have h3 := toNat_byte (h1 a List.mem_cons_self)
    rw [h.1, toNat_byte (h2 b List.mem_cons_self)] at h3
    rw [h3, bytes_inj (fun x hx => h1 x (List.mem_cons_of_mem _ hx)) (fun x hx => h2 x (List.mem_cons_of_mem _ hx)) h.2]
theorem toList_loop (bs : ByteArray) : ∀ (k i : Nat) (r : List UInt8), bs.size - i = k → ByteArray.toList.loop bs i r = r.reverse ++ bs.data.toList.drop i
  | 0, i, r, hk => by
    unfold ByteArray.toList.loop
    have h1 : ¬ i < bs.size := by omega
    rw [if_neg h1, List.drop_eq_nil_of_le (by show bs.data.size ≤ i; have : bs.size = bs.data.size := rfl; omega), List.append_nil]
  | k + 1, i, r, hk => by
    unfold ByteArray.toList.loop
    have h1 : i < bs.size := by omega
    have h2 : i < bs.data.toList.length := h1
    rw [if_pos h1, toList_loop bs k (i + 1) _ (by omega), List.drop_eq_getElem_cons h2]
    have h3 : bs.get! i = bs.data.toList[i] := by
      show bs.data[i]! = _
      rw [getElem!_pos bs.data i h1]; rfl
    rw [h3]; simp
theorem toList_data (bs : ByteArray) : bs.toList = bs.data.toList := by
  unfold ByteArray.toList
  rw [toList_loop bs _ 0 [] rfl]; simp
theorem strOf_eq {m n : List Int} (h1 : bytesOk m) (h2 : bytesOk n) : ((strOf m).toList == (strOf n).toList) = decide (m = n) := by
  rw [toList_data, toList_data]
  by_cases h : m = n
  · subst h; simp
  · rw [decide_eq_false h]
    simp only [beq_eq_false_iff_ne, ne_eq]
    intro hx
    exact h (bytes_inj h1 h2 (by simpa [strOf] using hx))
theorem bytesOk_app {m n : List Int} (h1 : bytesOk m) (h2 : bytesOk n) : bytesOk (m ++ n) := fun x hx => (List.mem_append.1 hx).elim (h1 x) (h2 x)
theorem bytesOk_sub {l : List Int} (h : bytesOk l) (i j : Nat) : bytesOk ((l.drop i).take j) := fun x hx => h x (List.mem_of_mem_drop (List.mem_of_mem_take hx))
theorem bytesI_ok (s : ByteArray) : bytesOk (bytesI s) := fun x hx => by
  obtain ⟨b, _, rfl⟩ := List.mem_map.1 hx
  have := b.toNat_lt
  have h2 : Int.ofNat b.toNat = (b.toNat : Int) := rfl
  omega
theorem strOf_bytesI (s : ByteArray) : strOf (bytesI s) = s := by
  apply ByteArray.ext
  apply Array.ext'
  show ((bytesI s).map fun n => UInt8.ofNat n.toNat) = _
  unfold bytesI
  rw [List.map_map]
  have : s.data.toList.map ((fun n => UInt8.ofNat n.toNat) ∘ fun b => Int.ofNat b.toNat) = s.data.toList.map id := List.map_congr_left fun b _ => by simp
  rw [this, List.map_id]
theorem bytesV_strOf : ∀ {l : List Int}, bytesOk l → (strOf l).data.toList.map byteV = l.map (Value.int .u8)
  | [], _ => rfl
  | a :: l, h => by
    have := bytesV_strOf (l := l) fun x hx => h x (List.mem_cons_of_mem _ hx)
    simp only [strOf, List.map_cons, List.cons.injEq] at this ⊢
    exact ⟨by unfold byteV; rw [toNat_byte (h a List.mem_cons_self)], this⟩
theorem bytesV_of {l : List Int} (h : bytesOk l) : (l.map fun n => UInt8.ofNat n.toNat).map byteV = l.map (Value.int .u8) := bytesV_strOf h
end
end Go.Ab
