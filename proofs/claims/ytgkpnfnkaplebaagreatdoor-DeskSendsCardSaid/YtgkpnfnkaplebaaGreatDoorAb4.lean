/- The abstract machine: lists, slices, values by their types, interfaces. -/
import Derived.Test.YtgkpnfnkaplebaaGreatDoorAb3
set_option linter.unusedVariables false
set_option linter.unusedSimpArgs false
set_option linter.constructorNameAsVariable false
namespace Go.Ab
open Go.Vc Go.Proofs.YtgkpnfnkaplebaaGreatDoor
noncomputable section
variable {β : Type}
def ldrop (n : Nat) (l : List AV) : List AV := Nat.rec (motive := fun _ => List AV → List AV) (fun l => l) (fun _ ih l => List.rec (motive := fun _ => List AV) [] (fun _ r _ => ih r) l) n l
def ltake (n : Nat) (l : List AV) : List AV := Nat.rec (motive := fun _ => List AV → List AV) (fun _ => []) (fun _ ih l => List.rec (motive := fun _ => List AV) [] (fun v r _ => v :: ih r) l) n l
def lapp (l m : List AV) : List AV := List.rec (motive := fun _ => List AV) m (fun v _ ih => v :: ih) l
def lgetK (n : Nat) (l : List AV) (K : AV → Option β) : Option β := Nat.rec (motive := fun _ => List AV → Option β) (fun l => List.rec (motive := fun _ => Option β) none (fun v _ _ => K v) l) (fun _ ih l => List.rec (motive := fun _ => Option β) none (fun _ r _ => ih r) l) n l
/-- A place in a slice. -/
def ixA (s : AS) (n : Int) (f : Nat → Nat) (K : P4 → Nat → Option β) : Option β :=
  AS.rec (motive := fun _ => Option β) none (fun p o l _ => rng n l (K p (Nat.add o (f (itn n))))) (fun p o _ l _ => rng n l (K p (Nat.add o (f (itn n))))) (fun _ _ _ _ _ => none) s
/-- s[l:m], l and m whole numbers. -/
def slA (s : AS) (l m : Nat) (f : Nat → Nat) (K : AS → Option β) : Option β :=
  must (Nat.ble l m) (AS.rec (motive := fun _ => Option β) (must (Nat.beq m 0) (K .nil))
    (fun p o n c => must (Nat.ble m c) (br (Nat.beq c l) (K (.sl p o (Nat.sub m l) (Nat.sub c l))) (K (.sl p (Nat.add o (f l)) (Nat.sub m l) (Nat.sub c l)))))
    (fun p o e _ b => must (Nat.ble m b) (br (Nat.beq l 0) (K (.su p o e m b)) (br (Nat.ble (Nat.succ l) b) (K (.su p (Nat.add o (f l)) (Nat.add e l) (Nat.sub m l) (Nat.sub b l))) (K (.se p o e l (f l))))))
    (fun p o e n z => must (Nat.beq m 0) (K (.se p o e n z))) s)
/-- s[l:m:x] -/
def slA3 (s : AS) (l m x : Nat) (f : Nat → Nat) (K : AS → Option β) : Option β :=
  must (Nat.ble l m) (must (Nat.ble m x) (AS.rec (motive := fun _ => Option β) (must (Nat.beq x 0) (K .nil))
    (fun p o n c => must (Nat.ble x c) (br (Nat.beq x l) (K (.sl p o (Nat.sub m l) (Nat.sub x l))) (K (.sl p (Nat.add o (f l)) (Nat.sub m l) (Nat.sub x l)))))
    (fun p o e _ b => must (Nat.ble x b) (br (Nat.beq x l) (K (.sl p o (Nat.sub m l) (Nat.sub x l))) (K (.sl p (Nat.add o (f l)) (Nat.sub m l) (Nat.sub x l)))))
    (fun _ _ _ _ _ => none) s))
abbrev natK (n : Int) (K : Nat → Option β) : Option β := Int.rec (motive := fun _ => Option β) K (fun _ => none) n
/-- A value by its type. -/
abbrev oneD (d : TypeDesc) (v : AV) (K : DV → Option β) : Option β :=
  match d with
  | .int k => isI k v fun n => K (.v (.i k n))
  | .bool => isB v fun t => K (.v (.b t))
  | .pointer _ => isP v fun a => K (.v (.p a))
  | .slice _ => isS v fun s => K (.v (.s s))
  | .string => isG v fun s => K (.v (.g s))
  | _ => K (.v v)
def castD (P : Program) (t : TypeId) (d : DV) (K : DV → Option β) : Option β :=
  match P.underlying t with
  | some (.struct _) => onL d fun l => K (.a l)
  | some (.array _ _) => onL d fun l => K (.a l)
  | some ty => onV d fun v => oneD ty v K
  | none => none
def tupD (P : Program) : List TypeId → DV → (DV → Option β) → Option β
  | [], d, K => onN d (K .n)
  | t :: r, d, K => onC d fun x y => castD P t x fun x' => tupD P r y fun y' => K (.c x' y')
/-- What a call yields, by its type. -/
def typD (P : Program) (t : TypeId) (d : DV) (K : DV → Option β) : Option β :=
  match P.underlying t with
  | some (.tuple ts) => match ts.toList with
    | [] => K .u
    | t1 :: r => tupD P (t1 :: r) d K
  | _ => castD P t d K
def errT : TypeId := 410
/-- The types whose methods are called through an interface. -/
def invT : List TypeId := [222]
/-- Are two interface values the same? -/
def ifA (st c : Bool) (a b : AV) (K : Bool → Option β) : Option β :=
  AV.rec (motive := fun _ => Option β) none (fun _ _ => none) (fun _ => none) (fun _ => none) (fun _ => none)
    (AV.rec (motive := fun _ => Option β) none (fun _ _ => none) (fun _ => none) (fun _ => none) (fun _ => none) (must c (K true)) (fun _ => K false) (fun _ _ _ => K false) (fun _ _ => none) none (fun _ => none) (fun _ _ => none) (fun _ => none) (fun _ _ => none) b)
    (fun i => AV.rec (motive := fun _ => Option β) none (fun _ _ => none) (fun _ => none) (fun _ => none) (fun _ => none) (K false) (fun j => must st (frcB (Nat.beq i j) K)) (fun t _ _ => must st (must (bnot (Nat.beq errT t)) (K false))) (fun _ _ => none) none (fun _ => none) (fun _ _ => none) (fun _ => none) (fun _ _ => none) b)
    (fun t _ _ => AV.rec (motive := fun _ => Option β) none (fun _ _ => none) (fun _ => none) (fun _ => none) (fun _ => none) (K false) (fun _ => must st (must (bnot (Nat.beq t errT)) (K false))) (fun u _ _ => must st (must (bnot (Nat.beq t u)) (K false))) (fun _ _ => none) none (fun _ => none) (fun _ _ => none) (fun _ => none) (fun _ _ => none) b)
    (fun _ _ => none) none (fun _ => none) (fun _ _ => none) (fun _ => none) (fun _ _ => none) a
/-- A list of numbers of one kind. -/
def intsK (k : IntKind) (l : List AV) : (List Int → Option β) → Option β := List.rec (motive := fun _ => (List Int → Option β) → Option β) (fun K => K []) (fun v _ ih K => isI k v fun n => ih fun r => K (n :: r)) l
def leqI (l : List Int) : List Int → Bool := List.rec (motive := fun _ => List Int → Bool) (fun m => List.rec (motive := fun _ => Bool) true (fun _ _ _ => false) m)
  (fun a _ ih m => List.rec (motive := fun _ => Bool) false (fun b r _ => Bool.rec (motive := fun _ => Bool) false (ih r) (ieq a b)) m) l
def leni (l : List Int) : Nat := List.rec (motive := fun _ => Nat) 0 (fun _ _ ih => Nat.succ ih) l
end
section
variable {W : Wd} {ads : List Addr} {φ φ' : Phi} {H H' : AH} {h h' : Heap} {β : Type} {out : β} {p : P4} {o n : Nat} {l : Loc} {v : AV} {w : Value} {P : Program}
theorem ldrop_eq : ∀ (n : Nat) (l : List AV), ldrop n l = l.drop n
  | 0, l => rfl
  | n + 1, [] => rfl
  | n + 1, v :: r => (ldrop_eq n r).trans rfl
theorem ltake_eq : ∀ (n : Nat) (l : List AV), ltake n l = l.take n
  | 0, l => rfl
  | n + 1, [] => rfl
  | n + 1, v :: r => by show v :: ltake n r = _; rw [ltake_eq n r]; rfl
theorem lapp_eq (l m : List AV) : lapp l m = l ++ m := by
  induction l with
  | nil => rfl
  | cons v l ih => show v :: lapp l m = _; rw [ih]; rfl
theorem lgetK_spec : ∀ {n : Nat} {l : List AV} {K : AV → Option β}, lgetK n l K = some out → ∃ v, l[n]? = some v ∧ K v = some out
  | 0, [], K, e => by cases e
  | 0, v :: r, K, e => ⟨v, rfl, e⟩
  | n + 1, [], K, e => by cases e
  | n + 1, v :: r, K, e => by
    obtain ⟨v', h1, e⟩ := lgetK_spec (n := n) (l := r) (K := K) e
    exact ⟨v', by simpa using h1, e⟩
theorem natK_spec {n : Int} {K : Nat → Option β} (e : natK n K = some out) : ∃ m : Nat, n = (m : Int) ∧ K m = some out := by
  cases n with
  | ofNat m => exact ⟨m, rfl, e⟩
  | negSucc m => cases e
theorem ixA_spec {s : AS} {a : Option Addr} {m c : Nat} {i : Int} {f : Nat → Nat} {K : P4 → Nat → Option β} (hs : RS φ s a m c) (e : ixA s i f K = some out) :
    (0 ≤ i ∧ i < ((m : Nat) : Int)) ∧ ∃ p o L, φ p = some L ∧ a = some ⟨L.b, L.δ + o, none⟩ ∧ K p (o + f i.toNat) = some out := by
  cases s with
  | nil => cases e
  | sl p o n z =>
    obtain ⟨L, h1, h2, rfl, _⟩ := hs
    obtain ⟨h3, e⟩ := rng_spec (show rng i _ (K p (Nat.add o (f (itn i)))) = some out from e)
    rw [itn_eq] at e
    exact ⟨h3, p, o, L, h1, h2, e⟩
  | su p o x n y =>
    obtain ⟨L, h1, h2, rfl, _⟩ := hs
    obtain ⟨h3, e⟩ := rng_spec (show rng i _ (K p (Nat.add o (f (itn i)))) = some out from e)
    rw [itn_eq] at e
    exact ⟨h3, p, o, L, h1, h2, e⟩
  | se p o x n z => cases e
theorem beq_true {m n : Nat} (h : Nat.beq m n = true) : m = n := Nat.eq_of_beq_eq_true h
theorem beq_false {m n : Nat} (h : Nat.beq m n = false) : m ≠ n := fun hx => by subst hx; rw [Nat.beq_refl] at h; cases h
theorem slA_spec {s : AS} {a : Option Addr} {len cap i j : Nat} {f : Nat → Nat} {K : AS → Option β} (hf : f 0 = 0) (hs : RS φ s a len cap) (e : slA s i j f K = some out) :
    i ≤ j ∧ j ≤ cap ∧ ∃ s', RS φ s' (slcAddr a i cap (f i)) (j - i) (cap - i) ∧ K s' = some out := by
  obtain ⟨h1, e⟩ := must_spec e
  have hij := Nat.le_of_ble_eq_true h1
  refine ⟨hij, ?_⟩
  cases s with
  | nil =>
    obtain ⟨rfl, rfl, rfl⟩ := hs
    obtain ⟨h2, e⟩ := must_spec (show must (Nat.beq j 0) (K .nil) = some out from e)
    have hj := beq_true h2
    subst hj
    have hi : i = 0 := by omega
    subst hi
    exact ⟨Nat.le_refl _, .nil, ⟨rfl, rfl, rfl⟩, e⟩
  | sl p o n c =>
    obtain ⟨L, g1, rfl, rfl, rfl⟩ := hs
    obtain ⟨h2, e⟩ := must_spec (show must (Nat.ble j cap) (br (Nat.beq cap i) (K (.sl p o (Nat.sub j i) (Nat.sub cap i))) (K (.sl p (Nat.add o (f i)) (Nat.sub j i) (Nat.sub cap i)))) = some out from e)
    refine ⟨Nat.le_of_ble_eq_true h2, ?_⟩
    cases hb : Nat.beq cap i with
    | true =>
      rw [hb] at e
      have hx := beq_true hb
      subst hx
      exact ⟨.sl p o (j - cap) (cap - cap), ⟨L, g1, by unfold slcAddr; rw [if_pos rfl], rfl, rfl⟩, e⟩
    | false =>
      rw [hb] at e
      refine ⟨.sl p (o + f i) (j - i) (cap - i), ⟨L, g1, ?_, rfl, rfl⟩, e⟩
      unfold slcAddr
      rw [if_neg (beq_false hb)]
      show some (Addr.add ⟨L.b, L.δ + o, none⟩ (f i)) = some ⟨L.b, L.δ + (o + f i), none⟩
      rw [add_eq, ← Nat.add_assoc]
  | su p o x n y =>
    obtain ⟨L, g1, rfl, rfl, rfl, g2⟩ := hs
    obtain ⟨h2, e⟩ := must_spec (show must (Nat.ble j y) (br (Nat.beq i 0) (K (.su p o x j y)) (br (Nat.ble (Nat.succ i) y) (K (.su p (Nat.add o (f i)) (Nat.add x i) (Nat.sub j i) (Nat.sub y i))) (K (.se p o x i (f i))))) = some out from e)
    have hj := Nat.le_of_ble_eq_true h2
    refine ⟨by omega, ?_⟩
    cases hb : Nat.beq i 0 with
    | true =>
      rw [hb] at e
      have hx := beq_true hb
      subst hx
      refine ⟨.su p o x j y, ⟨L, g1, ?_, by omega, by omega, by omega⟩, e⟩
      unfold slcAddr
      rw [hf]
      split <;> rfl
    | false =>
      rw [hb] at e
      have hx := beq_false hb
      cases hc : Nat.ble (Nat.succ i) y with
      | true =>
        have e := br_t hc (br_f rfl e)
        have hlt := Nat.le_of_ble_eq_true hc
        have hi : i < y := hlt
        refine ⟨.su p (o + f i) (x + i) (j - i) (y - i), ⟨L, g1, ?_, rfl, ?_, ?_⟩, e⟩
        · unfold slcAddr
          rw [if_neg (by omega)]
          show some (Addr.add ⟨L.b, L.δ + o, none⟩ (f i)) = some ⟨L.b, L.δ + (o + f i), none⟩
          rw [add_eq, ← Nat.add_assoc]
        · show L.κ - x - i = L.κ - (x + i); omega
        · show x + i + (y - i) ≤ L.κ; omega
      | false =>
        have e := br_f hc (br_f rfl e)
        have hge : ¬ i < y := fun hlt => by rw [Nat.ble_eq_true_of_le (show Nat.succ i ≤ y from hlt)] at hc; cases hc
        exact ⟨.se p o x i (f i), ⟨L, g1, by omega, rfl, by omega, rfl⟩, e⟩
  | se p o x n z =>
    obtain ⟨L, g1, g2, rfl, rfl, rfl⟩ := hs
    obtain ⟨h2, e⟩ := must_spec (show must (Nat.beq j 0) (K (.se p o x n z)) = some out from e)
    have hj := beq_true h2
    subst hj
    have hi : i = 0 := by omega
    subst hi
    refine ⟨by omega, .se p o x n z, ⟨L, g1, g2, ?_, rfl, by omega⟩, e⟩
    rw [hf]
    unfold slcAddr
    split <;> split <;> rfl
theorem slA3_spec {s : AS} {a : Option Addr} {len cap i j x : Nat} {f : Nat → Nat} {K : AS → Option β} (hs : RS φ s a len cap) (e : slA3 s i j x f K = some out) :
    i ≤ j ∧ j ≤ x ∧ x ≤ cap ∧ ∃ s', RS φ s' (slcAddr a i x (f i)) (j - i) (x - i) ∧ K s' = some out := by
  obtain ⟨h1, e⟩ := must_spec e
  obtain ⟨h2, e⟩ := must_spec e
  have hij := Nat.le_of_ble_eq_true h1
  have hjx := Nat.le_of_ble_eq_true h2
  have key : ∀ {p : P4} {o : Nat} {L : Loc}, φ p = some L → br (Nat.beq x i) (K (.sl p o (Nat.sub j i) (Nat.sub x i))) (K (.sl p (Nat.add o (f i)) (Nat.sub j i) (Nat.sub x i))) = some out →
      ∃ s', RS φ s' (slcAddr (some ⟨L.b, L.δ + o, none⟩) i x (f i)) (j - i) (x - i) ∧ K s' = some out := by
    intro p o L g1 e
    cases hb : Nat.beq x i with
    | true =>
      have hx := beq_true hb
      have e := br_t hb e
      exact ⟨.sl p o (j - i) (x - i), ⟨L, g1, by unfold slcAddr; rw [if_pos hx], rfl, rfl⟩, e⟩
    | false =>
      have e := br_f hb e
      refine ⟨.sl p (o + f i) (j - i) (x - i), ⟨L, g1, ?_, rfl, rfl⟩, e⟩
      unfold slcAddr
      rw [if_neg (beq_false hb)]
      show some (Addr.add ⟨L.b, L.δ + o, none⟩ (f i)) = some ⟨L.b, L.δ + (o + f i), none⟩
      rw [add_eq, ← Nat.add_assoc]
  cases s with
  | nil =>
    obtain ⟨rfl, rfl, rfl⟩ := hs
    obtain ⟨h3, e⟩ := must_spec (show must (Nat.beq x 0) (K .nil) = some out from e)
    have hx := beq_true h3
    subst hx
    obtain rfl : j = 0 := by omega
    obtain rfl : i = 0 := by omega
    exact ⟨Nat.le_refl _, Nat.le_refl _, Nat.le_refl _, .nil, ⟨rfl, rfl, rfl⟩, e⟩
  | sl p o n c =>
    obtain ⟨L, g1, rfl, rfl, rfl⟩ := hs
    obtain ⟨h3, e⟩ := must_spec (show must (Nat.ble x cap) (br (Nat.beq x i) (K (.sl p o (Nat.sub j i) (Nat.sub x i))) (K (.sl p (Nat.add o (f i)) (Nat.sub j i) (Nat.sub x i)))) = some out from e)
    exact ⟨hij, hjx, Nat.le_of_ble_eq_true h3, key g1 e⟩
  | su p o z n y =>
    obtain ⟨L, g1, rfl, rfl, rfl, g2⟩ := hs
    obtain ⟨h3, e⟩ := must_spec (show must (Nat.ble x y) (br (Nat.beq x i) (K (.sl p o (Nat.sub j i) (Nat.sub x i))) (K (.sl p (Nat.add o (f i)) (Nat.sub j i) (Nat.sub x i)))) = some out from e)
    have := Nat.le_of_ble_eq_true h3
    exact ⟨hij, hjx, by omega, key g1 e⟩
  | se p o z n w => cases e
theorem RE.ofV (h : RV ads φ v w) : RE ads φ (.v v) w := h
theorem RE.ofL {L : List AV} {ws : List Value} (h : RL ads φ L ws) : RE ads φ (.a L) (.agg ws.toArray) := ⟨ws, rfl, h⟩
theorem oneD_sound {d : TypeDesc} {k : DV → Option β} {K : Value → Prop} {c : Option Value} (hv : RV ads φ v w) (hc : c = some w) (e : oneD d v k = some out) (hk : ∀ d, RE ads φ d w → k d = some out → K w) : one d c K := by
  unfold oneD at e
  split at e
  · obtain ⟨n, rfl, rfl, e⟩ := isI_spec hv e; exact ⟨n, hc, hk _ (RE.ofV hv) e⟩
  · obtain ⟨n, rfl, rfl, e⟩ := isB_spec hv e; exact ⟨n, hc, hk _ (RE.ofV hv) e⟩
  · obtain ⟨n, a, rfl, rfl, _, e⟩ := isP_spec hv e; exact ⟨a, hc, hk _ (RE.ofV hv) e⟩
  · obtain ⟨s, a, l, m, rfl, rfl, _, e⟩ := isS_spec hv e; exact ⟨a, l, m, hc, hk _ (RE.ofV hv) e⟩
  · obtain ⟨n, rfl, rfl, _, e⟩ := isG_spec hv e; exact ⟨_, hc, hk _ (RE.ofV hv) e⟩
  · rename_i n1 n2 n3 n4 n5
    cases d <;> first | exact (n1 _ rfl).elim | exact (n2 rfl).elim | exact (n3 _ rfl).elim | exact (n4 _ rfl).elim | exact (n5 rfl).elim | exact ⟨w, hc, hk _ (RE.ofV hv) e⟩
/-- A value of a type, of which this holds. -/
theorem castD_spec {t : TypeId} {d : DV} {k : DV → Option β} (hd : RD ads φ d w) (e : castD P t d k = some out) : ∃ d', RE ads φ d' w ∧ k d' = some out ∧ ∀ K : Value → Prop, K w → anyOf P t fun u => w = u ∧ K u := by
  unfold castD at e
  unfold anyOf
  split at e
  · rename_i fs hu
    obtain ⟨l, ws, rfl, rfl, h1, e⟩ := onL_spec hd e
    refine ⟨_, RE.ofL h1, e, fun K hK => ?_⟩
    simp only [hu]
    exact ⟨ws, rfl, hK⟩
  · rename_i n et hu
    obtain ⟨l, ws, rfl, rfl, h1, e⟩ := onL_spec hd e
    refine ⟨_, RE.ofL h1, e, fun K hK => ?_⟩
    simp only [hu]
    exact ⟨ws, rfl, hK⟩
  · rename_i ty hns hna hu
    obtain ⟨v, rfl, hv, e⟩ := onV_spec hd e
    unfold oneD at e
    split at e
    · obtain ⟨n, rfl, rfl, e⟩ := isI_spec hv e; exact ⟨_, RE.ofV hv, e, fun K hK => by simp only [hu]; exact ⟨n, rfl, hK⟩⟩
    · obtain ⟨n, rfl, rfl, e⟩ := isB_spec hv e; exact ⟨_, RE.ofV hv, e, fun K hK => by simp only [hu]; exact ⟨n, rfl, hK⟩⟩
    · obtain ⟨n, a, rfl, rfl, _, e⟩ := isP_spec hv e; exact ⟨_, RE.ofV hv, e, fun K hK => by simp only [hu]; exact ⟨a, rfl, hK⟩⟩
    · obtain ⟨s, a, l, m, rfl, rfl, _, e⟩ := isS_spec hv e; exact ⟨_, RE.ofV hv, e, fun K hK => by simp only [hu]; exact ⟨a, l, m, rfl, hK⟩⟩
    · obtain ⟨n, rfl, rfl, _, e⟩ := isG_spec hv e; exact ⟨_, RE.ofV hv, e, fun K hK => by simp only [hu]; exact ⟨_, rfl, hK⟩⟩
    · rename_i n1 n2 n3 n4 n5
      refine ⟨_, RE.ofV hv, e, fun K hK => ?_⟩
      simp only [hu]
      cases ty <;> first | exact (n1 _ rfl).elim | exact (n2 rfl).elim | exact (n3 _ rfl).elim | exact (n4 _ rfl).elim | exact (n5 rfl).elim | exact (hns _ rfl).elim | exact (hna _ _ rfl).elim | exact ⟨w, rfl, hK⟩
  · cases e
end
end Go.Ab
