/- A session in numbers counted from where it was asked for: what is handed up, what stays. -/
import Derived.Test.YthlacliefgliiaaDoorOther
set_option linter.unusedVariables false
set_option linter.unusedSimpArgs false
namespace Go.Proofs.YthlacliefgliiaaDoor
open Go.Vc
def pos (S : Int) (k : Nat) : Int := (S + (k : Int)) % 4096
/-- The frame so many on. -/
def frO (t : Nat) (S : Int) (B : Nat → List Int) (k : Nat) : Fm := dfm t (pos S k) false (B k)
section
variable {t : Nat} {S : Int} {B : Nat → List Int} {ks : List Nat} {p q d m n k : Nat}
theorem pos_bd : 0 ≤ pos S k ∧ pos S k ≤ 4095 := by unfold pos; omega
theorem pos_inj (hk : k < 4096) (hq : q < 4096) (h : pos S k = pos S q) : k = q := by unfold pos at h; omega
theorem pos_add (z : Int) (hz : (p : Int) + z = q) : addZ (pos S p) z = pos S q := by unfold addZ pos; omega
theorem pos_dist (h : p ≤ q) (hq : q < p + 4096) : distZ (pos S p) (pos S q) = (q : Int) - p := by unfold distZ pos; omega
theorem pos_distB (h : q < p) (hq : p < q + 4096) : distZ (pos S p) (pos S q) = 4096 + (q : Int) - p := by unfold distZ pos; omega
theorem kfind_map (hk : ∀ k ∈ ks, k < 4096) (hq : q < 4096) : kfind (ks.map (frO t S B)) (pos S q) = if q ∈ ks then some (frO t S B q) else none := by
  induction ks with
  | nil => rfl
  | cons k r ih =>
    have ih := ih fun j hj => hk j (List.mem_cons_of_mem _ hj)
    have hkk := hk k (List.mem_cons_self ..)
    unfold kfind at ih ⊢
    rw [List.map_cons, List.find?_cons]
    by_cases hkq : k = q
    · subst hkq
      have : ((frO t S B k).sq == pos S k) = true := by simp [frO, dfm]
      rw [this]; simp
    · have : ((frO t S B k).sq == pos S q) = false := by
        simp only [frO, dfm, beq_eq_false_iff_ne]
        exact fun e => hkq (pos_inj hkk hq e)
      rw [this, ih]
      simp [Ne.symm hkq]
theorem kdel_map (hk : ∀ k ∈ ks, k < 4096) (hq : q < 4096) : kdel (ks.map (frO t S B)) (pos S q) = (ks.erase q).map (frO t S B) := by
  induction ks with
  | nil => rfl
  | cons k r ih =>
    have ih := ih fun j hj => hk j (List.mem_cons_of_mem _ hj)
    have hkk := hk k (List.mem_cons_self ..)
    unfold kdel at ih ⊢
    rw [List.map_cons, List.eraseP_cons, List.erase_cons]
    by_cases hkq : k = q
    · subst hkq
      have : ((frO t S B k).sq == pos S k) = true := by simp [frO, dfm]
      rw [this]; simp
    · have : ((frO t S B k).sq == pos S q) = false := by
        simp only [frO, dfm, beq_eq_false_iff_ne]
        exact fun e => hkq (pos_inj hkk hq e)
      have e2 : (k == q) = false := by simp [hkq]
      rw [this, e2, ih]; rfl
/-- Those that are not among so many from p on. -/
def cut (ks : List Nat) (p m : Nat) : List Nat := ks.filter fun k => decide (k < p ∨ p + m ≤ k)
theorem cut_mem : k ∈ cut ks p m ↔ k ∈ ks ∧ (k < p ∨ p + m ≤ k) := by simp [cut]
theorem cut_zero : cut ks p 0 = ks := by
  unfold cut
  refine List.filter_eq_self.2 fun k _ => ?_
  simp; omega
theorem cut_erase (hn : ks.Nodup) : cut (ks.erase p) (p + 1) m = cut ks p (m + 1) := by
  unfold cut
  rw [hn.erase_eq_filter, List.filter_filter]
  refine List.filter_congr fun k _ => ?_
  by_cases h : k = p
  · subst h; simp
  · have e : (k < p + 1 ∨ p + 1 + m ≤ k) ↔ (k < p ∨ p + (m + 1) ≤ k) := by omega
    have e2 : (k != p) = true := by simp [h]
    rw [e2, Bool.and_true]
    exact decide_eq_decide.2 e
theorem cut_none (h : p ∉ ks) : cut ks (p + 1) m = cut ks p (m + 1) := by
  unfold cut
  refine List.filter_congr fun k hk => ?_
  have : k ≠ p := fun e => h (e ▸ hk)
  exact decide_eq_decide.2 (by omega)
theorem run_off : ∀ (n : Nat) {ks : List Nat} {p : Nat}, ks.Nodup → (∀ k ∈ ks, k < 2000) → p ≤ 2000 → ks.length < n →
    ∃ m, runP n (ks.map (frO t S B)) (pos S p) = ((List.range' p m).map (frO t S B), (cut ks p m).map (frO t S B), pos S (p + m)) ∧ (∀ i, i < m → p + i ∈ ks) ∧ p + m ∉ ks
  | 0, ks, p, _, _, _, h => by omega
  | n + 1, ks, p, hn, hk, hp, hl => by
    by_cases hm : p ∈ ks
    · have hpl := hk p hm
      have hf : kfind (ks.map (frO t S B)) (pos S p) = some (frO t S B p) := by rw [kfind_map (fun k hk' => Nat.lt_trans (hk k hk') (by decide)) (by omega), if_pos hm]
      have hle : (ks.erase p).length + 1 = ks.length := by rw [List.length_erase_of_mem hm]; have := List.length_pos_of_mem hm; omega
      obtain ⟨m, h1, h2, h3⟩ := run_off n (ks := ks.erase p) (p := p + 1) (hn.erase p) (fun k hk' => hk k (List.mem_of_mem_erase hk')) (by omega) (by omega)
      refine ⟨m + 1, ?_, fun i hi => ?_, ?_⟩
      · have : runP (n + 1) (ks.map (frO t S B)) (pos S p) = (frO t S B p :: (runP n (kdel (ks.map (frO t S B)) (pos S p)) (addZ (pos S p) 1)).1, (runP n (kdel (ks.map (frO t S B)) (pos S p)) (addZ (pos S p) 1)).2) := by rw [runP, hf]
        rw [this, kdel_map (fun k hk' => Nat.lt_trans (hk k hk') (by decide)) (by omega), pos_add (q := p + 1) 1 (by omega), h1, cut_erase hn]
        rw [show p + (m + 1) = p + 1 + m by omega]; rfl
      · cases i with
        | zero => exact hm
        | succ i => have := h2 i (by omega); rw [show p + (i + 1) = p + 1 + i by omega]; exact List.mem_of_mem_erase this
      · intro hc
        rw [show p + (m + 1) = p + 1 + m by omega] at hc
        exact h3 ((List.mem_erase_of_ne (by omega)).2 hc)
    · have hf : kfind (ks.map (frO t S B)) (pos S p) = none := by rw [kfind_map (fun k hk' => Nat.lt_trans (hk k hk') (by decide)) (by omega), if_neg hm]
      refine ⟨0, ?_, fun i hi => by omega, hm⟩
      rw [runP, hf, cut_zero]; rfl
theorem up_off : ∀ (d : Nat) {ks : List Nat} {p : Nat}, ks.Nodup → (∀ k ∈ ks, k < 2000) → p + d ≤ 4000 →
    upP d (ks.map (frO t S B)) (pos S p) = (((List.range' p d).filter fun k => decide (k ∈ ks)).map (frO t S B), (cut ks p d).map (frO t S B))
  | 0, ks, p, _, _, _ => by rw [upP, cut_zero]; rfl
  | d + 1, ks, p, hn, hk, hd => by
    rw [upP, List.length_map]
    by_cases h0 : ks.length = 0
    · have : ks = [] := List.eq_nil_of_length_eq_zero h0
      subst this
      simp [cut]
    · rw [if_neg h0, List.range'_succ]
      by_cases hm : p ∈ ks
      · have hf : kfind (ks.map (frO t S B)) (pos S p) = some (frO t S B p) := by rw [kfind_map (fun k hk' => Nat.lt_trans (hk k hk') (by decide)) (by omega), if_pos hm]
        have ih := up_off d (ks := ks.erase p) (p := p + 1) (hn.erase p) (fun k hk' => hk k (List.mem_of_mem_erase hk')) (by omega)
        rw [hf]
        dsimp only
        rw [kdel_map (fun k hk' => Nat.lt_trans (hk k hk') (by decide)) (by omega), pos_add (q := p + 1) 1 (by omega), ih, cut_erase hn, List.filter_cons, if_pos (decide_eq_true hm)]
        have e : (List.range' (p + 1) d).filter (fun k => decide (k ∈ ks.erase p)) = (List.range' (p + 1) d).filter (fun k => decide (k ∈ ks)) := List.filter_congr fun k hk' => by
          have := List.mem_range'_1.1 hk'
          exact decide_eq_decide.2 (List.mem_erase_of_ne (by omega))
        rw [e]; rfl
      · have hf : kfind (ks.map (frO t S B)) (pos S p) = none := by rw [kfind_map (fun k hk' => Nat.lt_trans (hk k hk') (by decide)) (by omega), if_neg hm]
        have ih := up_off d (ks := ks) (p := p + 1) hn hk (by omega)
        rw [hf]
        dsimp only
        rw [pos_add (q := p + 1) 1 (by omega), ih, cut_none hm, List.filter_cons, if_neg (by simp [hm])]
end
end Go.Proofs.YthlacliefgliiaaDoor
