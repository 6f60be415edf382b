/- The walks of the statements of chapter 11. -/
import Derived.Test.YtpecigkicmgbdaaCodelA
set_option linter.unusedVariables false
set_option linter.unusedSimpArgs false
namespace Go.Proofs.Ytpecigkicmgbdaa
open Go.Vc

section
variable {now target interval bytes : Int} {a : Option Addr} {cap : Nat} {l : List (Int × Int)} {c : CSt} {h : Heap}
theorem Right.en (r : Right c now l) (target interval : Int) : CEn now (clampZ target 1073741824) (clampZ interval 1073741824) l := by
  obtain ⟨t0, t1⟩ := clampZ_bd target (show (0 : Int) ≤ 1073741824 by decide)
  obtain ⟨i0, i1⟩ := clampZ_bd interval (show (0 : Int) ≤ 1073741824 by decide)
  have := r.n1
  have := r.len
  exact ⟨r.n0, by omega, t0, t1, i0, i1, by omega, fun x hx => by obtain ⟨h1, h2, h3⟩ := r.a x hx; exact ⟨h1, by omega, h3⟩⟩
theorem Right.cin (r : Right c now l) (c0 : 0 ≤ c.count) (c1 : c.count < 4294967296) (l0 : 0 ≤ c.last) (l1 : c.last < 4294967296) (b0 : 0 ≤ bytes) (b1 : bytes ≤ 1099511627776) : CIn { c with bytes := bytes, pos := 0 } := by
  have := r.f1
  have := r.d1
  exact ⟨r.f0, by dsimp only; omega, r.d0, by dsimp only; omega, c0, c1, l0, l1, b0, b1, rfl⟩
theorem codelSays_r (hs : Itm h a l) (c0 : 0 ≤ c.count) (c1 : c.count < 4294967296) (l0 : 0 ≤ c.last) (l1 : c.last < 4294967296) :
    Runs Try.prog 7 #[.agg (cV c).toArray, .int .i64 now, .int .i64 target, .int .i64 interval, .int .i64 bytes, .slice a l.length cap] h fun v h' => v = .bool true ∧ Kept h h' := by
  refine vc_muezzinlaw11_CodelSays _ _ _ _ _ _ _ _ _ _ ?_
  intro b1 h1 e1 e2
  have m := (Mem.start h).push e2 e1
  clear e1 e2
  refine (first11_c _).mono ?_
  rintro _ h2 ⟨rfl, k⟩
  replace m := m.call0 (Mem.ofKept k)
  clear k
  refine ⟨_, rfl, bcase_false rfl ?_⟩
  obtain ⟨T1, m⟩ : ∃ T1, Mem h h2 [] [(b1, cV c, T1)] := ⟨_, m⟩
  refine ⟨fun x h' => Mem h h' [] [(b1, cV c, T1)] ∧ (x = false → Right c now l ∧ 0 ≤ bytes), ?_, fun _ => ?_⟩
  · refine ⟨_, (m.blk 0 rfl).row_eq rfl (Nat.le_of_ble_eq_true rfl), ?_⟩
    refine (right_c c now a cap l _ (hs.mem m (by simp))).mono ?_
    rintro _ h3 ⟨r, rfl, k, hr⟩
    replace m := m.call0 (Mem.ofKept k)
    refine ⟨_, rfl, bcase_intro (fun _ => ⟨m, fun h => by cases h⟩) fun q => ⟨m, fun q2 => ⟨hr (by simpa using q), by simpa using q2⟩⟩⟩
  · clear m
    rintro x h4 ⟨m, hx⟩
    refine bcase_intro (fun _ => ⟨rfl, m.kept⟩) fun q => ?_
    obtain ⟨hr, b0⟩ := hx q
    refine dcase_intro (fun _ => ⟨rfl, m.kept⟩) fun q2 => ?_
    refine ⟨_, (m.blk 0 rfl).row_eq rfl (Nat.le_of_ble_eq_true rfl), ?_⟩
    refine (pull_c (c := c) (l := l) (hr.en target interval) (hs.mem m (by simp)) (hr.cin c0 c1 l0 l1 b0 (by omega))).mono ?_
    rintro _ h5 ⟨rfl, k⟩
    replace m := m.call0 (Mem.ofKept k)
    refine ⟨_, _, _, rfl, ?_⟩
    (intro bv hv ev1 ev2; replace m := m.push ev2 ev1; clear ev1 ev2; refine ⟨⟨rfl, (m.blk 0 rfl).wrs (Nat.le_of_ble_eq_true rfl), by simp [cV, Value.oneCell']⟩, ?_⟩; intro hv ev3; replace m := m.setr 0 rfl ev3; clear ev3; simp only [List.set_cons_zero, List.set_cons_succ, setL, cV, List.drop_zero, List.take_succ_cons, List.take_zero] at m)
    refine ⟨_, (m.blk 1 rfl).row_eq rfl (Nat.le_of_ble_eq_true rfl), ?_⟩
    refine (other_c c _).mono ?_
    rintro _ h8 ⟨rfl, k⟩
    replace m := m.call0 (Mem.ofKept k)
    refine ⟨_, rfl, ?_⟩
    refine (refpull_c (c := c) (l := l) (hr.en target interval) (hs.mem m (by simp)) (hr.cin c0 c1 l0 l1 b0 (by omega))).mono ?_
    rintro _ h9 ⟨rfl, k⟩
    replace m := m.call0 (Mem.ofKept k)
    refine ⟨_, _, _, rfl, ?_⟩
    (intro bv hv ev1 ev2; replace m := m.push ev2 ev1; clear ev1 ev2; refine ⟨⟨rfl, (m.blk 0 rfl).wrs (Nat.le_of_ble_eq_true rfl), by simp [cV, Value.oneCell']⟩, ?_⟩; intro hv ev3; replace m := m.setr 0 rfl ev3; clear ev3; simp only [List.set_cons_zero, List.set_cons_succ, setL, cV, List.drop_zero, List.take_succ_cons, List.take_zero] at m)
    generalize runZ now (clampZ target 1073741824) (clampZ interval 1073741824) l { c with bytes := bytes, pos := 0 } = R at *
    refine ⟨fun x h' => x = true ∧ Kept h h', bcase_true rfl ?_, fun _ => ?_⟩
    · refine ⟨_, (m.blk 1 rfl).row_eq rfl (Nat.le_of_ble_eq_true rfl), ?_⟩
      refine ⟨_, (m.blk 0 rfl).row_eq rfl (Nat.le_of_ble_eq_true rfl), ?_⟩
      refine (same_c R.1 R.1 _).mono ?_
      rintro _ h12 ⟨rfl, k⟩
      exact ⟨_, rfl, sameZ_refl _, m.kept.trans k⟩
    · rintro _ h13 ⟨rfl, k⟩
      exact seg1 (h := h13) (bcase_true rfl ⟨by simp, rfl⟩) (bcase_true rfl ⟨by simp, k⟩)
theorem codelFirst_r (hs : Itm h a l) (c0 : 0 ≤ c.count) (c1 : c.count < 4294967296) (l0 : 0 ≤ c.last) (l1 : c.last < 4294967296) :
    Runs Try.prog 5 #[.agg (cV c).toArray, .int .i64 now, .int .i64 target, .int .i64 interval, .int .i64 bytes, .slice a l.length cap] h fun v h' => v = .bool true ∧ Kept h h' := by
  refine vc_muezzinlaw11_CodelFirst _ _ _ _ _ _ _ _ _ _ ?_
  intro b1 h1 e1 e2
  have m := (Mem.start h).push e2 e1
  clear e1 e2
  refine (first11_c _).mono ?_
  rintro _ h2 ⟨rfl, k⟩
  replace m := m.call0 (Mem.ofKept k)
  clear k
  refine ⟨_, rfl, bcase_false rfl ?_⟩
  obtain ⟨T1, m⟩ : ∃ T1, Mem h h2 [] [(b1, cV c, T1)] := ⟨_, m⟩
  refine ⟨fun x h' => Mem h h' [] [(b1, cV c, T1)] ∧ (x = false → Right c now l ∧ 0 ≤ bytes), ?_, fun _ => ?_⟩
  · refine ⟨_, (m.blk 0 rfl).row_eq rfl (Nat.le_of_ble_eq_true rfl), ?_⟩
    refine (right_c c now a cap l _ (hs.mem m (by simp))).mono ?_
    rintro _ h3 ⟨r, rfl, k, hr⟩
    replace m := m.call0 (Mem.ofKept k)
    refine ⟨_, rfl, bcase_intro (fun _ => ⟨m, fun h => by cases h⟩) fun q => ⟨m, fun q2 => ⟨hr (by simpa using q), by simpa using q2⟩⟩⟩
  · clear m
    rintro x h4 ⟨m, hx⟩
    refine bcase_intro (fun _ => ⟨rfl, m.kept⟩) fun q => ?_
    obtain ⟨hr, b0⟩ := hx q
    refine dcase_intro (fun _ => ⟨rfl, m.kept⟩) fun q2 => ?_
    refine ⟨_, (m.blk 0 rfl).row_eq rfl (Nat.le_of_ble_eq_true rfl), ?_⟩
    refine (pull_c (c := c) (l := l) (hr.en target interval) (hs.mem m (by simp)) (hr.cin c0 c1 l0 l1 b0 (by omega))).mono ?_
    rintro _ h5 ⟨rfl, k⟩
    replace m := m.call0 (Mem.ofKept k)
    refine ⟨_, _, _, rfl, ?_⟩
    (intro bv hv ev1 ev2; replace m := m.push ev2 ev1; clear ev1 ev2; refine ⟨⟨rfl, (m.blk 0 rfl).wrs (Nat.le_of_ble_eq_true rfl), by simp [cV, Value.oneCell']⟩, ?_⟩; intro hv ev3; replace m := m.setr 0 rfl ev3; clear ev3; simp only [List.set_cons_zero, List.set_cons_succ, setL, cV, List.drop_zero, List.take_succ_cons, List.take_zero] at m)
    have hf := runZ_facts (now := now) (tg := clampZ target 1073741824) (iv := clampZ interval 1073741824) (l := l) (s := { c with bytes := bytes, pos := 0 }) rfl rfl
    have hp : ∀ h', Itm h' a l → Runs Try.prog 11 #[.agg (cV c).toArray, .int .i64 now, .int .i64 target, .int .i64 interval, .int .i64 bytes, .slice a l.length cap] h' fun v h'' => v = outV (runZ now (clampZ target 1073741824) (clampZ interval 1073741824) l { c with bytes := bytes, pos := 0 }).1
        (runZ now (clampZ target 1073741824) (clampZ interval 1073741824) l { c with bytes := bytes, pos := 0 }).1.pos
        (runZ now (clampZ target 1073741824) (clampZ interval 1073741824) l { c with bytes := bytes, pos := 0 }).2 ∧ Kept h' h'' :=
      fun h' hs' => pull_c (c := c) (l := l) (hr.en target interval) hs' (hr.cin c0 c1 l0 l1 b0 (by omega))
    generalize runZ now (clampZ target 1073741824) (clampZ interval 1073741824) l { c with bytes := bytes, pos := 0 } = R at *
    obtain ⟨t, is⟩ := R
    obtain ⟨f1, f2, f3⟩ := hf
    dsimp only at *
    refine ⟨fun h' => h' = hv, ?_, fun _ => ?_⟩
    · refine ⟨fun x h' => x = false ∧ h' = hv, dcase_neg (by omega) ⟨by simp; omega, rfl⟩, fun _ => ?_⟩
      intro x6 h6 he
      rw [he.1, he.2]
      clear he x6 h6
      refine ⟨fun x h' => x = false ∧ h' = hv, bcase_false rfl (bcase_intro (fun q3 => ⟨?_, rfl⟩) fun q3 => ⟨rfl, rfl⟩), fun _ => ?_⟩
      · have : is = false := by simpa using q3
        rw [this] at f1; simp at f1; simp; omega
      intro x6 h6 he
      rw [he.1, he.2]
      clear he x6 h6
      exact bcase_false rfl (bcase_intro (fun q3 => dcase_neg (by rw [q3] at f1; simp at f1; omega) rfl) fun q3 => rfl)
    intro h6 he
    rw [he]
    clear he h6
    refine ⟨_, (m.blk 1 rfl).row_eq rfl (Nat.le_of_ble_eq_true rfl), ?_⟩
    refine (hp _ (hs.mem m (by simp))).mono ?_
    rintro _ h10 ⟨rfl, k⟩
    replace m := m.call0 (Mem.ofKept k)
    refine ⟨_, _, _, rfl, ?_⟩
    (intro bv hv ev1 ev2; replace m := m.push ev2 ev1; clear ev1 ev2; refine ⟨⟨rfl, (m.blk 0 rfl).wrs (Nat.le_of_ble_eq_true rfl), by simp [cV, Value.oneCell']⟩, ?_⟩; intro hv ev3; replace m := m.setr 0 rfl ev3; clear ev3; simp only [List.set_cons_zero, List.set_cons_succ, setL, cV, List.drop_zero, List.take_succ_cons, List.take_zero] at m)
    refine bcase_true rfl ?_
    refine ⟨_, (m.blk 1 rfl).row_eq rfl (Nat.le_of_ble_eq_true rfl), ?_⟩
    refine ⟨_, (m.blk 0 rfl).row_eq rfl (Nat.le_of_ble_eq_true rfl), ?_⟩
    refine (other_c t _).mono ?_
    rintro _ h13 ⟨rfl, k⟩
    replace m := m.call0 (Mem.ofKept k)
    refine ⟨_, rfl, (m.blk 1 rfl).row_eq rfl (Nat.le_of_ble_eq_true rfl), ?_⟩
    refine (same_c t t _).mono ?_
    rintro _ h14 ⟨rfl, k⟩
    replace m := m.call0 (Mem.ofKept k)
    refine ⟨_, rfl, bcase_true (sameZ_refl _) (dcase_pos rfl (bcase_true (by simp) (bcase_intro (fun _ => ⟨rfl, m.kept⟩) fun q3 => ?_)))⟩
    refine ⟨_, Mem.cell m 1 rfl rfl, ?_⟩
    refine bcase_intro (fun _ => ⟨rfl, m.kept⟩) fun q4 => ⟨?_, m.kept⟩
    rcases f3 with f3 | f3 | f3
    · rw [q3] at f3; cases f3
    · rw [f3] at q4; cases q4
    · simp; omega
end
theorem walk_CodelSays (w : World) (x0_0 : Int) (w0_0 : (Lit.int .i64 x0_0).wf = true) (x0_1 : Int) (w0_1 : (Lit.int .i64 x0_1).wf = true) (x0_2 : Int) (w0_2 : (Lit.int .u32 x0_2).wf = true) (x0_3 : Int) (w0_3 : (Lit.int .u32 x0_3).wf = true) (x0_4 : Bool) (a1 : Int) (w1 : (Lit.int .i64 a1).wf = true) (a2 : Int) (w2 : (Lit.int .i64 a2).wf = true) (a3 : Int) (w3 : (Lit.int .i64 a3).wf = true) (a4 : Int) (w4 : (Lit.int .i64 a4).wf = true) (a5 : Option Addr) (len5 cap5 : Nat) (z5 : List (Int × Int)) (zl5 : z5.length = len5) (lc5 : len5 ≤ cap5) (hz5 : ∀ (i : Nat) (x : Int × Int), z5[i]? = some x → (∃ b o, a5 = some ⟨b, o, none⟩ ∧ row w.heap b (o + i * 2) 2 = some [.int .i64 (x.1), .int .i64 (x.2)]) ∧ (Lit.int .i64 x.1).wf = true ∧ (Lit.int .i64 x.2).wf = true) :
    Calls Try.prog 7 #[.agg #[.int .i64 x0_0, .int .i64 x0_1, .int .u32 x0_2, .int .u32 x0_3, .bool x0_4], .int .i64 a1, .int .i64 a2, .int .i64 a3, .int .i64 a4, .slice a5 len5 cap5] w fun e w' => e = .returned (.bool true) ∧ Go.RowKit.Below w.heap.size w w' := by
  subst zl5
  exact calls_of_runs (codelSays_r (c := ⟨x0_0, x0_1, x0_2, x0_3, x0_4, 0, 0⟩) (fun i x hx => (hz5 i x hx).1) (wf_u32 w0_2).1 (wf_u32 w0_2).2 (wf_u32 w0_3).1 (wf_u32 w0_3).2)
theorem walk_CodelFirst (w : World) (x0_0 : Int) (w0_0 : (Lit.int .i64 x0_0).wf = true) (x0_1 : Int) (w0_1 : (Lit.int .i64 x0_1).wf = true) (x0_2 : Int) (w0_2 : (Lit.int .u32 x0_2).wf = true) (x0_3 : Int) (w0_3 : (Lit.int .u32 x0_3).wf = true) (x0_4 : Bool) (a1 : Int) (w1 : (Lit.int .i64 a1).wf = true) (a2 : Int) (w2 : (Lit.int .i64 a2).wf = true) (a3 : Int) (w3 : (Lit.int .i64 a3).wf = true) (a4 : Int) (w4 : (Lit.int .i64 a4).wf = true) (a5 : Option Addr) (len5 cap5 : Nat) (z5 : List (Int × Int)) (zl5 : z5.length = len5) (lc5 : len5 ≤ cap5) (hz5 : ∀ (i : Nat) (x : Int × Int), z5[i]? = some x → (∃ b o, a5 = some ⟨b, o, none⟩ ∧ row w.heap b (o + i * 2) 2 = some [.int .i64 (x.1), .int .i64 (x.2)]) ∧ (Lit.int .i64 x.1).wf = true ∧ (Lit.int .i64 x.2).wf = true) :
    Calls Try.prog 5 #[.agg #[.int .i64 x0_0, .int .i64 x0_1, .int .u32 x0_2, .int .u32 x0_3, .bool x0_4], .int .i64 a1, .int .i64 a2, .int .i64 a3, .int .i64 a4, .slice a5 len5 cap5] w fun e w' => e = .returned (.bool true) ∧ Go.RowKit.Below w.heap.size w w' := by
  subst zl5
  exact calls_of_runs (codelFirst_r (c := ⟨x0_0, x0_1, x0_2, x0_3, x0_4, 0, 0⟩) (fun i x hx => (hz5 i x hx).1) (wf_u32 w0_2).1 (wf_u32 w0_2).2 (wf_u32 w0_3).1 (wf_u32 w0_3).2)
end Go.Proofs.Ytpecigkicmgbdaa
