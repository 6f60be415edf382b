/- Paths, and trees by paths, made so that the kernel reckons with them fast. No program is named here. -/
import Derived.Test.YtgkpnfnkaplebaaGreatDoorVc
set_option linter.unusedVariables false
set_option linter.unusedSimpArgs false
namespace Go.Ab
inductive P4 where
  | h | a (p : P4) | b (p : P4) | c (p : P4) | d (p : P4)
inductive T4 (α : Type) where
  | e | n (v : α) (a b c d : T4 α)
/-- A tree of one value. -/
abbrev T4.l {α : Type} (v : α) : T4 α := .n v .e .e .e .e
noncomputable section
variable {α β : Type}
def P4.num : P4 → Nat
  | .h => 0
  | .a p => 4 * p.num + 1
  | .b p => 4 * p.num + 2
  | .c p => 4 * p.num + 3
  | .d p => 4 * p.num + 4
theorem P4.num_inj : ∀ {p q : P4}, p.num = q.num → p = q
  | .h, q, hq => by cases q <;> simp only [P4.num] at hq <;> first | rfl | omega
  | .a p, q, hq => by cases q <;> simp only [P4.num] at hq <;> first | omega | (congr 1; exact P4.num_inj (by omega))
  | .b p, q, hq => by cases q <;> simp only [P4.num] at hq <;> first | omega | (congr 1; exact P4.num_inj (by omega))
  | .c p, q, hq => by cases q <;> simp only [P4.num] at hq <;> first | omega | (congr 1; exact P4.num_inj (by omega))
  | .d p, q, hq => by cases q <;> simp only [P4.num] at hq <;> first | omega | (congr 1; exact P4.num_inj (by omega))
def P4.succ : P4 → P4
  | .h => .a .h
  | .a p => .b p
  | .b p => .c p
  | .c p => .d p
  | .d p => .a p.succ
theorem P4.num_succ : ∀ p : P4, p.succ.num = p.num + 1
  | .h => rfl
  | .a p => rfl
  | .b p => rfl
  | .c p => rfl
  | .d p => by simp only [P4.succ, P4.num, P4.num_succ p]; omega
def P4.succK (p : P4) : (P4 → β) → β :=
  P4.rec (motive := fun _ => (P4 → β) → β) (fun k => k (.a .h)) (fun p _ k => k (.b p)) (fun p _ k => k (.c p)) (fun p _ k => k (.d p)) (fun _ ih k => ih fun q => k (.a q)) p
theorem P4.succK_eq : ∀ (p : P4) (k : P4 → β), p.succK k = k p.succ
  | .h, k => rfl
  | .a p, k => rfl
  | .b p, k => rfl
  | .c p, k => rfl
  | .d p, k => P4.succK_eq p _
def T4.get (z : α) (p : P4) : T4 α → α :=
  P4.rec (motive := fun _ => T4 α → α)
    (fun t => T4.rec (motive := fun _ => α) z (fun v _ _ _ _ _ _ _ _ => v) t)
    (fun _ ih t => T4.rec (motive := fun _ => α) z (fun _ a _ _ _ _ _ _ _ => ih a) t)
    (fun _ ih t => T4.rec (motive := fun _ => α) z (fun _ _ b _ _ _ _ _ _ => ih b) t)
    (fun _ ih t => T4.rec (motive := fun _ => α) z (fun _ _ _ c _ _ _ _ _ => ih c) t)
    (fun _ ih t => T4.rec (motive := fun _ => α) z (fun _ _ _ _ d _ _ _ _ => ih d) t) p
def T4.set (z : α) (p : P4) (v : α) : T4 α → T4 α :=
  P4.rec (motive := fun _ => T4 α → T4 α)
    (fun t => T4.rec (motive := fun _ => T4 α) (.n v .e .e .e .e) (fun _ a b c d _ _ _ _ => .n v a b c d) t)
    (fun _ ih t => T4.rec (motive := fun _ => T4 α) (.n z (ih .e) .e .e .e) (fun w a b c d _ _ _ _ => .n w (ih a) b c d) t)
    (fun _ ih t => T4.rec (motive := fun _ => T4 α) (.n z .e (ih .e) .e .e) (fun w a b c d _ _ _ _ => .n w a (ih b) c d) t)
    (fun _ ih t => T4.rec (motive := fun _ => T4 α) (.n z .e .e (ih .e) .e) (fun w a b c d _ _ _ _ => .n w a b (ih c) d) t)
    (fun _ ih t => T4.rec (motive := fun _ => T4 α) (.n z .e .e .e (ih .e)) (fun w a b c d _ _ _ _ => .n w a b c (ih d)) t) p
def T4.setK (z : α) (p : P4) (v : α) : T4 α → (T4 α → β) → β :=
  P4.rec (motive := fun _ => T4 α → (T4 α → β) → β)
    (fun t k => T4.rec (motive := fun _ => β) (k (.n v .e .e .e .e)) (fun _ a b c d _ _ _ _ => k (.n v a b c d)) t)
    (fun _ ih t k => T4.rec (motive := fun _ => β) (ih .e fun x => k (.n z x .e .e .e)) (fun w a b c d _ _ _ _ => ih a fun x => k (.n w x b c d)) t)
    (fun _ ih t k => T4.rec (motive := fun _ => β) (ih .e fun x => k (.n z .e x .e .e)) (fun w a b c d _ _ _ _ => ih b fun x => k (.n w a x c d)) t)
    (fun _ ih t k => T4.rec (motive := fun _ => β) (ih .e fun x => k (.n z .e .e x .e)) (fun w a b c d _ _ _ _ => ih c fun x => k (.n w a b x d)) t)
    (fun _ ih t k => T4.rec (motive := fun _ => β) (ih .e fun x => k (.n z .e .e .e x)) (fun w a b c d _ _ _ _ => ih d fun x => k (.n w a b c x)) t) p
theorem T4.get_e (z : α) (p : P4) : T4.get z p .e = z := by cases p <;> rfl
theorem T4.setK_eq (z : α) (v : α) : ∀ (p : P4) (t : T4 α) (k : T4 α → β), T4.setK z p v t k = k (T4.set z p v t)
  | .h, t, k => by cases t <;> rfl
  | .a p, t, k => by cases t <;> exact T4.setK_eq z v p _ _
  | .b p, t, k => by cases t <;> exact T4.setK_eq z v p _ _
  | .c p, t, k => by cases t <;> exact T4.setK_eq z v p _ _
  | .d p, t, k => by cases t <;> exact T4.setK_eq z v p _ _
theorem T4.get_set_same (z v : α) : ∀ (p : P4) (t : T4 α), T4.get z p (T4.set z p v t) = v
  | .h, t => by cases t <;> rfl
  | .a p, t => by cases t <;> exact T4.get_set_same z v p _
  | .b p, t => by cases t <;> exact T4.get_set_same z v p _
  | .c p, t => by cases t <;> exact T4.get_set_same z v p _
  | .d p, t => by cases t <;> exact T4.get_set_same z v p _
theorem T4.get_set_ne (z v : α) : ∀ (p q : P4) (t : T4 α), q ≠ p → T4.get z q (T4.set z p v t) = T4.get z q t
  | .h, .h, t, hq => absurd rfl hq
  | .h, .a q, t, hq => by cases t <;> first | rfl | exact T4.get_e z q
  | .h, .b q, t, hq => by cases t <;> first | rfl | exact T4.get_e z q
  | .h, .c q, t, hq => by cases t <;> first | rfl | exact T4.get_e z q
  | .h, .d q, t, hq => by cases t <;> first | rfl | exact T4.get_e z q
  | .a p, .a q, t, hq => by cases t <;> first | exact T4.get_set_ne z v p q _ (fun ee => hq (by rw [ee])) | exact (T4.get_set_ne z v p q .e (fun ee => hq (by rw [ee]))).trans (T4.get_e z q)
  | .b p, .b q, t, hq => by cases t <;> first | exact T4.get_set_ne z v p q _ (fun ee => hq (by rw [ee])) | exact (T4.get_set_ne z v p q .e (fun ee => hq (by rw [ee]))).trans (T4.get_e z q)
  | .c p, .c q, t, hq => by cases t <;> first | exact T4.get_set_ne z v p q _ (fun ee => hq (by rw [ee])) | exact (T4.get_set_ne z v p q .e (fun ee => hq (by rw [ee]))).trans (T4.get_e z q)
  | .d p, .d q, t, hq => by cases t <;> first | exact T4.get_set_ne z v p q _ (fun ee => hq (by rw [ee])) | exact (T4.get_set_ne z v p q .e (fun ee => hq (by rw [ee]))).trans (T4.get_e z q)
  | .a p, .h, t, hq | .b p, .h, t, hq | .c p, .h, t, hq | .d p, .h, t, hq => by cases t <;> rfl
  | .a p, .b q, t, hq | .a p, .c q, t, hq | .a p, .d q, t, hq | .b p, .a q, t, hq | .b p, .c q, t, hq | .b p, .d q, t, hq | .c p, .a q, t, hq | .c p, .b q, t, hq | .c p, .d q, t, hq | .d p, .a q, t, hq | .d p, .b q, t, hq | .d p, .c q, t, hq => by
    cases t <;> first | rfl | exact T4.get_e z q
/-- A choice of four. -/
def sel (d : Nat) (A B C D : β) : β := Nat.rec (motive := fun _ => β) A (fun d' _ => Nat.rec (motive := fun _ => β) B (fun d'' _ => Nat.rec (motive := fun _ => β) C (fun _ _ => D) d'') d') d
/-- The path of a number, for the kernel to keep. -/
def pathF (f : Nat) : Nat → P4 :=
  Nat.rec (motive := fun _ => Nat → P4) (fun _ => .h)
    (fun _ ih n => Nat.rec (motive := fun _ => P4) .h (fun m _ => sel (Nat.mod m 4) (.a (ih (Nat.div m 4))) (.b (ih (Nat.div m 4))) (.c (ih (Nat.div m 4))) (.d (ih (Nat.div m 4)))) n) f
def pth (n : Nat) : P4 := pathF n n
theorem pathF_num : ∀ {f n : Nat}, n ≤ f → (pathF f n).num = n
  | 0, 0, _ => rfl
  | f + 1, 0, _ => rfl
  | f + 1, m + 1, h => by
    show (sel (m % 4) (P4.a (pathF f (m / 4))) (P4.b (pathF f (m / 4))) (P4.c (pathF f (m / 4))) (P4.d (pathF f (m / 4)))).num = m + 1
    have ih := pathF_num (f := f) (n := m / 4) (by omega)
    have hd : m % 4 = 0 ∨ m % 4 = 1 ∨ m % 4 = 2 ∨ m % 4 = 3 := by omega
    rcases hd with hd | hd | hd | hd <;> rw [hd]
    · show 4 * (pathF f (m / 4)).num + 1 = _; omega
    · show 4 * (pathF f (m / 4)).num + 2 = _; omega
    · show 4 * (pathF f (m / 4)).num + 3 = _; omega
    · show 4 * (pathF f (m / 4)).num + 4 = _; omega
theorem pth_num (n : Nat) : (pth n).num = n := pathF_num (Nat.le_refl n)
theorem pth_of {p : P4} {n : Nat} (h : p.num = n) : pth n = p := P4.num_inj (by rw [pth_num, h])
end
end Go.Ab
