import Derived.Test.YtepodifionoigaaGreatDoorVcCode
set_option linter.unusedVariables false
set_option linter.unusedSimpArgs false
namespace Go.Vc
variable {P : Program}

structure Rel (N : Nat) (t : Env) (a : Act) : Prop where
  defers : a.defers = []
  size : a.tmps.size = N
  read : ∀ n, a.tmps.getD n undef = t n
def Agr (ds : List Nat) (t t' : Env) : Prop := ∀ n, memB n ds = false → t' n = t n
theorem Agr.refl (ds : List Nat) (t : Env) : Agr ds t t := fun _ _ => rfl
theorem memB_append {n : Nat} : ∀ {a b : List Nat}, memB n (a ++ b) = false ↔ memB n a = false ∧ memB n b = false
  | [], b => by simp [memB]
  | m :: a, b => by
    simp only [List.cons_append, memB]
    split
    · simp
    · exact memB_append
theorem Agr.left {a b : List Nat} {t t' : Env} (h : Agr a t t') : Agr (a ++ b) t t' := fun n hn => h n (memB_append.1 hn).1
theorem Agr.right {a b : List Nat} {t t' : Env} (h : Agr b t t') : Agr (a ++ b) t t' := fun n hn => h n (memB_append.1 hn).2
theorem Agr.trans {ds : List Nat} {a b c : Env} (h : Agr ds a b) (k : Agr ds b c) : Agr ds a c := fun n hn => (k n hn).trans (h n hn)

theorem Rel.eval {N : Nat} {t : Env} {a : Act} (h : Rel N t a) : a.eval = ev t := by
  funext x
  cases x <;> simp [Act.eval, ev, h.read]
theorem Rel.congr {N : Nat} {t t' : Env} {a : Act} (h : Rel N t a) (e : ∀ n, t' n = t n) : Rel N t' a := ⟨h.defers, h.size, fun n => (h.read n).trans (e n).symm⟩
theorem upd_same {t : Env} {d : Nat} {v : Value} (h : t d = v) : ∀ n, upd t d v n = t n := by
  intro n
  unfold upd
  by_cases e : n = d
  · subst e; simp [h]
  · have : Nat.beq n d = false := by exact Bool.eq_false_iff.2 fun k => e (Nat.eq_of_beq_eq_true k)
    simp [this]
theorem upd_ne {t : Env} {d n : Nat} {v : Value} (h : n ≠ d) : upd t d v n = t n := by
  unfold upd
  have : Nat.beq n d = false := by exact Bool.eq_false_iff.2 fun k => h (Nat.eq_of_beq_eq_true k)
  simp [this]
theorem Rel.put {N : Nat} {t : Env} {a : Act} {d : Nat} {v : Value} (h : Rel N t a) (hd : d < N) : Rel N (upd t d v) (a.put (some d) v) := by
  refine ⟨h.defers, by simp [Act.put, h.size], fun n => ?_⟩
  have hs := h.size
  have hr := h.read n
  simp only [Act.put]
  by_cases e : n = d
  · subst e
    have : upd t n v n = v := by simp [upd]
    rw [this, Array.getD_eq_getD_getElem?]
    simp [show n < a.tmps.size by omega]
  · rw [upd_ne e, ← hr, Array.getD_eq_getD_getElem?, Array.getD_eq_getD_getElem?, Array.getElem?_setIfInBounds_ne (Ne.symm e)]
theorem put_sound {N : Nat} {t : Env} {a : Act} {dst : Option Nat} {v : Value} {K : Env → Prop} (hr : Rel N t a) (h : put N t dst v K) :
    ∃ t', K t' ∧ Rel N t' (a.put dst v) ∧ ∀ n, dst ≠ some n → t' n = t n := by
  unfold put at h
  split at h
  · exact ⟨t, h, by simpa [Act.put] using hr, fun _ _ => rfl⟩
  · rename_i d
    split at h
    · rename_i hd
      have hlt : d < N := by simpa [Nat.blt_eq] using hd
      exact ⟨_, h, hr.put hlt, fun n hn => upd_ne (fun e => hn (by rw [e]))⟩
    · exact h.elim

theorem yielded_eq {N : Nat} {t : Env} {a : Act} (hr : Rel N t a) (ops : List Oper) (j : Nat) :
    yielded ops.toArray a.tmps j = match ops[j]? with
      | some oj => (match oj.dst with | some d => (match t d with | .bool b => some b | _ => none) | none => none)
      | none => none := by
  unfold yielded
  simp only [List.getElem?_toArray]
  cases hj : ops[j]? with
  | none => rfl
  | some oj =>
    simp only [Option.bind_some]
    cases hd : oj.dst with
    | none => rfl
    | some d =>
      simp only [Option.bind_some]
      have := hr.read d
      rw [Array.getD_eq_getD_getElem?] at this
      cases hx : a.tmps[d]? with
      | none => rw [hx] at this; simp at this; rw [← this]; rfl
      | some v => rw [hx] at this; simp at this; subst this; cases t d <;> rfl
theorem guarded_sound {N : Nat} {t : Env} {a : Act} {ops : List Oper} {o : Oper} {run skip : Env → Prop} (hr : Rel N t a) (h : guarded ops o.guard t run skip) :
    ∃ t', (∀ n, t' n = t n) ∧ Rel N t' a ∧ ((Region.wanted o (yielded ops.toArray a.tmps) = true ∧ run t') ∨ (Region.wanted o (yielded ops.toArray a.tmps) = false ∧ skip t')) := by
  unfold guarded at h
  unfold Region.wanted
  split at h
  · rename_i hg
    exact ⟨t, fun _ => rfl, hr, .inl ⟨by simp [hg], h⟩⟩
  · rename_i j want hg
    simp only [hg, yielded_eq hr]
    split at h
    · rename_i oj hj
      simp only [hj]
      split at h
      · rename_i d hd
        simp only [hd]
        split at h
        · rename_i b hb
          simp only [hb]
          have e1 : b = true → ∀ n, upd t d (.bool true) n = t n := fun e => upd_same (by rw [hb, e])
          have e2 : b = false → ∀ n, upd t d (.bool false) n = t n := fun e => upd_same (by rw [hb, e])
          split at h
          · rcases bcase_spec h with ⟨hb1, h1⟩ | ⟨hb1, h1⟩
            · exact ⟨_, e1 hb1, hr.congr (e1 hb1), .inl ⟨by simp [hb1], h1⟩⟩
            · exact ⟨_, e2 hb1, hr.congr (e2 hb1), .inr ⟨by simp [hb1], h1⟩⟩
          · rcases bcase_spec h with ⟨hb1, h1⟩ | ⟨hb1, h1⟩
            · exact ⟨_, e1 hb1, hr.congr (e1 hb1), .inr ⟨by simp [hb1], h1⟩⟩
            · exact ⟨_, e2 hb1, hr.congr (e2 hb1), .inl ⟨by simp [hb1], h1⟩⟩
        · rename_i vs hb
          simp only [hb]
          exact ⟨t, fun _ => rfl, hr, .inr ⟨rfl, h⟩⟩
        · exact h.elim
      · rename_i hd
        simp only [hd]
        exact ⟨t, fun _ => rfl, hr, .inr ⟨rfl, h⟩⟩
    · rename_i hj
      simp only [hj]
      exact ⟨t, fun _ => rfl, hr, .inr ⟨rfl, h⟩⟩

theorem opv_sound {x : Md} {N : Nat} {ops : List Oper} {o : Oper} {t : Env} {h : Heap} {K : Env → Heap → Prop} {a : Act} {w : World} {next : Act → World → Prop} {Q : Exit → Act → World → Prop}
    (hv : opv P x N ops o t h K) (hr : Rel N t a) (hw : w.heap = h)
    (hn : ∀ t' a' w', Rel N t' a' → Same w w' → (∀ n, o.dst ≠ some n → t' n = t n) → K t' w'.heap → next a' w') :
    if Region.wanted o (yielded ops.toArray a.tmps) then o.wp P a w next Q else next (a.put o.dst undef) w := by
  unfold opv at hv
  obtain ⟨t1, e1, hr1, hc⟩ := guarded_sound hr hv
  rcases hc with ⟨hw1, hc⟩ | ⟨hw1, hc⟩
  · rw [if_pos hw1]
    split at hc
    · rw [← hr1.eval] at hc
      obtain ⟨v, h1, h2⟩ := rdh_sound (P := P) hc
      obtain ⟨t2, h3, h4, h5⟩ := put_sound hr1 h1
      unfold Oper.wp
      rw [h2 w hw]
      exact hn t2 _ w h4 (Same.refl w) (fun n hne => (h5 n hne).trans (e1 n)) (hw ▸ h3)
    · rw [← hr1.eval] at hc
      refine ef_sound (P := P) hc hw fun v w' hs hk => ?_
      obtain ⟨t2, h3, h4, h5⟩ := put_sound hr1 hk
      exact hn t2 _ w' h4 hs (fun n hne => (h5 n hne).trans (e1 n)) h3
  · rw [if_neg (by simp [hw1])]
    obtain ⟨t2, h3, h4, h5⟩ := put_sound hr1 hc
    exact hn t2 _ w h4 (Same.refl w) (fun n hne => (h5 n hne).trans (e1 n)) (hw ▸ h3)

theorem memB_dsts {n : Nat} {o : Oper} {r : List Oper} (h : memB n (dstsOps (o :: r)) = false) : o.dst ≠ some n ∧ memB n (dstsOps r) = false := by
  unfold dstsOps at h
  split at h
  · rename_i d hd
    unfold memB at h
    split at h
    · cases h
    · rename_i hb
      refine ⟨fun e => ?_, h⟩
      rw [hd] at e
      cases e
      simp at hb
  · rename_i hd
    exact ⟨fun e => (by rw [hd] at e; cases e), h⟩
theorem opsv_sound {x : Md} {N : Nat} {ops : List Oper} {Q : Exit → Act → World → Prop} (rest : List Oper) : ∀ {l : List Oper} {t : Env} {h : Heap} {K : Env → Heap → Prop} {a : Act} {w : World},
    opsv P x N ops l t h K → Rel N t a → w.heap = h →
    (∀ t' a' w', Rel N t' a' → Same w w' → Agr (dstsOps l) t t' → K t' w'.heap → wpList P ops.toArray Q rest a' w') → wpList P ops.toArray Q (l ++ rest) a w
  | [], t, h, K, a, w, hv, hr, hw, hn => hn t a w hr (Same.refl w) (Agr.refl _ _) (hw ▸ hv)
  | o :: r, t, h, K, a, w, hv, hr, hw, hn => by
    unfold opsv at hv
    have := opv_sound (P := P) (next := wpList P ops.toArray Q (r ++ rest)) (Q := Q) hv hr hw fun t' a' w' hr' hs he hk =>
      opsv_sound rest (l := r) hk hr' rfl fun t2 a2 w2 hr2 hs2 ha2 hk2 => hn t2 a2 w2 hr2 (hs.trans hs2) (fun n hm => by
        obtain ⟨m1, m2⟩ := memB_dsts hm
        exact (ha2 n m2).trans (he n m1)) hk2
    simp only [List.cons_append]
    unfold wpList
    split
    · rename_i hw1; rw [if_pos hw1] at this; exact .inl this
    · rename_i hw1; rw [if_neg hw1] at this; exact this

def lift (N : Nat) (ds : List Nat) (t0 : Env) (w0 : World) (Q : Ex → Env → Heap → Prop) : Exit → Act → World → Prop
  | .normal, a, w => ∃ t, Rel N t a ∧ Same w0 w ∧ Agr ds t0 t ∧ Q .normal t w.heap
  | .exit id, a, w => ∃ t, Rel N t a ∧ Same w0 w ∧ Agr ds t0 t ∧ Q (.exit id) t w.heap
  | .ret, a, w => ∃ t, Rel N t a ∧ Same w0 w ∧ Agr ds t0 t ∧ Q .ret t w.heap
  | _, _, _ => False
def DrawnOk (P : Program) (N : Nat) (d : (id : Nat) → (ops : List Oper) → Env → Heap → (Env → Heap → Prop) → Prop) : Prop :=
  ∀ (id : Nat) (ops : List Oper) (t : Env) (h : Heap) (K : Env → Heap → Prop) (a : Act) (w : World) (Q : Exit → Act → World → Prop), d id ops t h K → Rel N t a → w.heap = h → (∀ c a w, ¬ Q (.panic c) a w) →
    (∀ t' a' w', Rel N t' a' → Same w w' → Agr (dstsOps ops) t t' → K t' w'.heap → Q .normal a' w') → (Code.region id ops.toArray true).wp P Q a w

theorem slotsIn_cons {ds : List Nat} {n : Nat} {s : Sh} {r : List (Nat × Sh)} (h : slotsIn ds ((n, s) :: r) = true) : memB n ds = true ∧ slotsIn ds r = true := by
  unfold slotsIn at h
  split at h
  · rename_i hm; exact ⟨hm, h⟩
  · cases h
theorem Agr.upd {ds : List Nat} {t E : Env} {n : Nat} {v : Value} (h : Agr ds t E) (hn : memB n ds = true) : Agr ds t (upd E n v) := fun k hk => by
  have : k ≠ n := fun e => by subst e; rw [hn] at hk; cases hk
  rw [upd_ne this]; exact h k hk
theorem upd_read {E t' : Env} {n : Nat} {v : Value} (h : ∀ k, E k = t' k) (hv : t' n = v) : ∀ k, upd E n v k = t' k := by
  intro k
  by_cases e : k = n
  · subst e; simp [Vc.upd, hv]
  · rw [upd_ne e]; exact h k

theorem fam_meet {ds : List Nat} {t' : Env} {h : Heap} {n0 : Nat} {B : Env → Heap → Nat → Prop} : ∀ {ss : List (Nat × Sh)} {I : Fam Prop ss} {m : Fam Nat ss} {E : Env},
    slotsIn ds ss = true → (∀ k, E k = t' k) → famBack ss I m t' h n0 → famAll ss I m E B → ∃ E' n, (∀ k, E' k = t' k) ∧ n < n0 ∧ B E' h n
  | [], I, m, E, _, he, hb, ha => ⟨E, m h, he, hb.2, ha h hb.1⟩
  | (n, s) :: r, I, m, E, hs, he, hb, ha => by
    obtain ⟨_, hs2⟩ := slotsIn_cons hs
    cases s with
    | int k =>
      simp only [famBack] at hb
      split at hb
      · rename_i k' x hx
        split at hb
        · rename_i hk; have := keq_eq hk; subst this; exact fam_meet hs2 (upd_read he hx) hb (ha x)
        · exact hb.elim
      · exact hb.elim
    | bool =>
      simp only [famBack] at hb
      split at hb
      · rename_i x hx; exact fam_meet hs2 (upd_read he hx) hb (ha x)
      · exact hb.elim
    | ptr =>
      simp only [famBack] at hb
      split at hb
      · rename_i x hx; exact fam_meet hs2 (upd_read he hx) hb (ha x)
      · exact hb.elim
    | slice =>
      simp only [famBack] at hb
      split at hb
      · rename_i x l c hx; exact fam_meet hs2 (upd_read he hx) hb (ha x l c)
      · exact hb.elim
    | str =>
      simp only [famBack] at hb
      split at hb
      · rename_i x hx; exact fam_meet hs2 (upd_read he hx) hb (ha x)
      · exact hb.elim
    | any =>
      simp only [famBack] at hb
      exact fam_meet hs2 (upd_read he rfl) hb (ha (t' n))
theorem famEnt_back {t' : Env} {h : Heap} : ∀ {ss : List (Nat × Sh)} {I : Fam Prop ss} (m : Fam Nat ss), famEnt ss I t' h → ∃ n0, famBack ss I m t' h n0
  | [], I, m, he => ⟨m h + 1, he, Nat.lt_succ_self _⟩
  | (n, s) :: r, I, m, he => by
    cases s with
    | int k =>
      simp only [famEnt] at he
      simp only [famBack]
      generalize t' n = v at he ⊢
      cases v <;> first | exact he.elim | skip
      rename_i k' x
      dsimp only at he ⊢
      generalize keq k' k = bb at he ⊢
      cases bb
      · exact he.elim
      · exact famEnt_back (m x) he
    | bool =>
      simp only [famEnt] at he
      simp only [famBack]
      generalize t' n = v at he ⊢
      cases v <;> first | exact he.elim | skip
      rename_i x
      exact famEnt_back (m x) he
    | ptr =>
      simp only [famEnt] at he
      simp only [famBack]
      generalize t' n = v at he ⊢
      cases v <;> first | exact he.elim | skip
      rename_i x
      exact famEnt_back (m x) he
    | slice =>
      simp only [famEnt] at he
      simp only [famBack]
      generalize t' n = v at he ⊢
      cases v <;> first | exact he.elim | skip
      rename_i x l c
      exact famEnt_back (m x l c) he
    | str =>
      simp only [famEnt] at he
      simp only [famBack]
      generalize t' n = v at he ⊢
      cases v <;> first | exact he.elim | skip
      rename_i x
      exact famEnt_back (m x) he
    | any =>
      simp only [famEnt] at he
      simp only [famBack]
      exact famEnt_back (m (t' n)) he
theorem hav_self {ds : List Nat} {t0 t' : Env} (h : Agr ds t0 t') : ∀ k, hav ds t' t0 k = t' k := by
  intro k
  unfold hav
  cases hm : memB k ds with
  | true => rfl
  | false => simp [h k hm]

theorem dstsOps_append {a b : List Oper} : dstsOps (a ++ b) = dstsOps a ++ dstsOps b := by
  induction a with
  | nil => rfl
  | cons o r ih =>
    simp only [List.cons_append, dstsOps]
    split
    · rw [ih]; rfl
    · exact ih
theorem segv_sound {x : Md} {N : Nat} {ops : List Oper} {Q : Exit → Act → World → Prop} : ∀ {sg : List (Nat × List (Nat × Sh))} {l : List Oper} {t : Env} {h : Heap} {K : Env → Heap → Prop} {a : Act} {w : World},
    segv P x N ops sg l t h K → Rel N t a → w.heap = h →
    (∀ t' a' w', Rel N t' a' → Same w w' → Agr (dstsOps l) t t' → K t' w'.heap → Q .normal a' w') → wpList P ops.toArray Q l a w
  | [], l, t, h, K, a, w, hv, hr, hw, hn => by
    have := opsv_sound (P := P) (Q := Q) [] hv hr hw hn
    simpa using this
  | (n, ss) :: r, l, t, h, K, a, w, hv, hr, hw, hn => by
    unfold segv at hv
    split at hv
    · rename_i hss
      obtain ⟨J, h1, h2⟩ := hv
      have := opsv_sound (P := P) (Q := Q) (l.drop n) h1 hr hw fun t' a' w' k1 k2 k3 k4 => by
        obtain ⟨n0, k5⟩ := famEnt_back (famZero ss) k4
        obtain ⟨E', m, k6, _, k7⟩ := fam_meet hss (hav_self k3) k5 (h2 t')
        have e : dstsOps l = dstsOps (l.take n) ++ dstsOps (l.drop n) := by rw [← dstsOps_append, List.take_append_drop]
        refine segv_sound k7 (k1.congr k6) rfl fun t2 a2 w2 l1 l2 l3 l4 => hn t2 a2 w2 l1 (k2.trans l2) ?_ l4
        rw [e]
        exact Agr.trans (Agr.left fun n hn => (k6 n).trans (k3 n hn)) l3.right
      rwa [List.take_append_drop] at this
    · exact hv.elim

theorem lift_seq {N : Nat} {a b : List Nat} {t0 t1 : Env} {w0 w1 : World} {Q : Ex → Env → Heap → Prop} (ha : Agr a t0 t1) (hs : Same w0 w1) :
    ∀ e x w, lift N b t1 w1 Q e x w → lift N (a ++ b) t0 w0 Q e x w := by
  intro e x w h
  cases e <;> simp only [lift] at h ⊢
  all_goals
    obtain ⟨t, h1, h2, h3, h4⟩ := h
    exact ⟨t, h1, hs.trans h2, (ha.left).trans h3.right, h4⟩

theorem vc_sound {N : Nat} {A : Ann} (hd : DrawnOk P N A.drawn) : ∀ (c : Code) (cur : Nat) (Q : Ex → Env → Heap → Prop) (t : Env) (h : Heap) (a : Act) (w : World),
    vc P N A c cur Q t h → Rel N t a → w.heap = h → c.wp P (lift N (dsts c) t w Q) a w := by
  intro c
  induction c with
  | skip => intro cur Q t h a w hv hr hw; exact wp_skip ⟨t, hr, Same.refl w, Agr.refl _ _, hw ▸ hv⟩
  | region id ops d =>
    intro cur Q t h a w hv hr hw
    cases d with
    | false =>
      refine wp_region_list ?_
      have := segv_sound (P := P) (Q := lift N (dsts (.region id ops false)) t w Q) hv hr hw fun t' a' w' h1 h2 h3 h4 => ⟨t', h1, h2, h3, h4⟩
      simpa using this
    | true =>
      have := hd id ops.toList t h (Q .normal) a w (lift N (dsts (.region id ops true)) t w Q) hv hr hw (fun _ _ _ hq => hq) fun t' a' w' h1 h2 h3 h4 => ⟨t', h1, h2, h3, h4⟩
      simpa using this
  | seq x y ihx ihy =>
    intro cur Q t h a w hv hr hw
    refine wp_seq ?_
    unfold vc at hv
    split at hv
    · refine wp_mono (ihx _ _ _ _ _ _ hv hr hw) fun e a' w' hl => ?_
      cases e <;> simp only [lift] at hl
      case normal =>
        obtain ⟨t', h1, h2, h3, h4⟩ := hl
        exact wp_mono (ihy _ _ _ _ _ _ h4 h1 rfl) (lift_seq h3 h2)
      case exit => obtain ⟨t', h1, h2, h3, h4⟩ := hl; exact ⟨t', h1, h2, h3.left, h4⟩
      case ret => obtain ⟨t', h1, h2, h3, h4⟩ := hl; exact ⟨t', h1, h2, h3.left, h4⟩
    · rename_i ss _
      split at hv
      · rename_i hss
        obtain ⟨J, h1, h2⟩ := hv
        refine wp_mono (ihx _ _ _ _ _ _ h1 hr hw) fun e a' w' hl => ?_
        cases e <;> simp only [lift] at hl
        case normal =>
          obtain ⟨t', k1, k2, k3, k4⟩ := hl
          obtain ⟨n0, k5⟩ := famEnt_back (famZero ss) k4
          obtain ⟨E', n, k6, _, k7⟩ := fam_meet hss (hav_self k3) k5 (h2 t')
          exact wp_mono (ihy _ _ _ _ _ _ k7 (k1.congr k6) rfl) (lift_seq (fun n hn => (k6 n).trans (k3 n hn)) k2)
        case exit => obtain ⟨t', k1, k2, k3, k4⟩ := hl; exact ⟨t', k1, k2, k3.left, k4⟩
        case ret => obtain ⟨t', k1, k2, k3, k4⟩ := hl; exact ⟨t', k1, k2, k3.left, k4⟩
      · exact hv.elim
  | cond c x y ihx ihy =>
    intro cur Q t h a w hv hr hw
    unfold vc at hv
    split at hv
    · rename_i b hb
      have hc : a.eval c = .bool b := by rw [hr.eval]; exact hb
      rcases bcase_spec hv with ⟨rfl, h1⟩ | ⟨rfl, h1⟩
      · refine wp_cond_true hc (wp_mono (ihx _ _ _ _ _ _ h1 hr hw) fun e a' w' hl => ?_)
        cases e <;> simp only [lift] at hl ⊢
        all_goals obtain ⟨t', k1, k2, k3, k4⟩ := hl; exact ⟨t', k1, k2, k3.left, k4⟩
      · refine wp_cond_false hc (wp_mono (ihy _ _ _ _ _ _ h1 hr hw) fun e a' w' hl => ?_)
        cases e <;> simp only [lift] at hl ⊢
        all_goals obtain ⟨t', k1, k2, k3, k4⟩ := hl; exact ⟨t', k1, k2, k3.right, k4⟩
    · exact hv.elim
  | block id b ih =>
    intro cur Q t h a w hv hr hw
    refine wp_block (wp_mono (ih _ _ _ _ _ _ hv hr hw) fun e a' w' hl => ?_)
    cases e <;> simp only [lift] at hl
    case normal => exact hl
    case ret => exact hl
    case exit k =>
      obtain ⟨t', k1, k2, k3, k4⟩ := hl
      simp only [Exit.inBlock]
      split at k4
      · rename_i hk
        rw [if_pos (Nat.eq_of_beq_eq_true hk)]
        exact ⟨t', k1, k2, k3, k4⟩
      · rename_i hk
        rw [if_neg (fun e => by subst e; simp at hk)]
        exact ⟨t', k1, k2, k3, k4⟩
  | loop b ih =>
    intro cur Q t h a w hv hr hw
    unfold vc at hv
    split at hv
    · rename_i hss
      obtain ⟨I, m, h1, h2⟩ := hv
      obtain ⟨n0, k5⟩ := famEnt_back m h1
      subst hw
      refine wp_loop_ghost (fun n a' w' => ∃ t' , Rel N t' a' ∧ Same w w' ∧ Agr (dsts b) t t' ∧ famBack (A.loop cur) I m t' w'.heap n) n0 ⟨t, hr, Same.refl w, Agr.refl _ _, k5⟩ ?_
      intro n a' w' ⟨t', r1, r2, r3, r4⟩
      obtain ⟨E', n', k6, k8, k7⟩ := fam_meet hss (hav_self r3) r4 (h2 t')
      refine wp_mono (ih _ _ _ _ _ _ k7 (r1.congr k6) rfl) fun e a2 w2 hl => ?_
      have ag : Agr (dsts b) t E' := fun n hn => (k6 n).trans (r3 n hn)
      cases e <;> simp only [lift] at hl
      case normal =>
        obtain ⟨t2, l1, l2, l3, l4⟩ := hl
        exact ⟨n', k8, t2, l1, r2.trans l2, ag.trans l3, l4⟩
      case exit => obtain ⟨t2, l1, l2, l3, l4⟩ := hl; exact ⟨t2, l1, r2.trans l2, ag.trans l3, l4⟩
      case ret => obtain ⟨t2, l1, l2, l3, l4⟩ := hl; exact ⟨t2, l1, r2.trans l2, ag.trans l3, l4⟩
    · exact hv.elim
  | exit id => intro cur Q t h a w hv hr hw; exact wp_exit ⟨t, hr, Same.refl w, Agr.refl _ _, hw ▸ hv⟩
  | ret => intro cur Q t h a w hv hr hw; exact wp_ret ⟨t, hr, Same.refl w, Agr.refl _ _, hw ▸ hv⟩
  | _ => intro cur Q t h a w hv hr hw; exact hv.elim
end Go.Vc
