/- The walk of CodelCalm. -/
import Derived.Test.YtpecigkicmgbdaaCodelS
import Derived.Test.YtpecigkicmgbdaaApp
set_option linter.unusedVariables false
set_option linter.unusedSimpArgs false
namespace Go.Proofs.Ytpecigkicmgbdaa
open Go.Vc

def sumI : List (Int × Int) → Int
  | [] => 0
  | x :: r => x.2 + sumI r
theorem sumI_append (a b : List (Int × Int)) : sumI (a ++ b) = sumI a + sumI b := by
  induction a with
  | nil => simp [sumI]
  | cons x a ih => simp only [List.cons_append, sumI, ih]; omega
theorem flatI_append (a b : List (Int × Int)) : flatI (a ++ b) = flatI a ++ flatI b := by
  induction a with
  | nil => rfl
  | cons x a ih => simp only [List.cons_append, flatI, ih]
theorem flatI_drop : ∀ (l : List (Int × Int)) (i : Nat), (flatI l).drop (i * 2) = flatI (l.drop i)
  | l, 0 => by simp
  | [], i + 1 => by simp [flatI]
  | x :: r, i + 1 => by
    rw [show (i + 1) * 2 = i * 2 + 2 by omega]
    simp only [flatI, List.drop_succ_cons]
    exact flatI_drop r i
/-- A packet that does not wait too long, or of a short queue. -/
def calm (short : Bool) (t : Int) (x : Int × Int) : Prop := (short = true ∧ x = (0, 30)) ∨ (short = false ∧ x.1 = t ∧ 0 ≤ x.2 ∧ x.2 < 3000)
theorem sumI_bd {short : Bool} {t : Int} : ∀ {l : List (Int × Int)}, (∀ x ∈ l, calm short t x) → 0 ≤ sumI l ∧ sumI l ≤ 3000 * l.length ∧ (short = true → sumI l = 30 * l.length)
  | [], _ => by simp [sumI]
  | x :: r, h => by
    obtain ⟨h1, h2, h3⟩ := sumI_bd (l := r) fun y hy => h y (by simp [hy])
    have hx := h x (by simp)
    simp only [sumI, List.length_cons]
    rcases hx with ⟨s1, rfl⟩ | ⟨s1, e, e0, e1⟩
    · have := h3 s1
      exact ⟨by dsimp only; omega, by dsimp only; omega, fun _ => by dsimp only; omega⟩
    · exact ⟨by omega, by omega, fun s2 => by rw [s1] at s2; cases s2⟩
theorem runZ_calm {short : Bool} {now tg : Int} {x : Int × Int} {r : List (Int × Int)} {b : Int} (hx : calm short (now - tg + 1) x) (hb : short = true → b ≤ 1200) :
    runZ now tg 100 (x :: r) ⟨0, 0, 0, 0, false, b, 0⟩ = (⟨0, 0, 0, 0, false, b - x.2, 0⟩, true) := by
  have e : lookZ now tg 100 (x :: r) ⟨0, 0, 0, 0, false, b, 0⟩ = (⟨0, 0, 0, 0, false, b - x.2, 0⟩, true, false) := by
    unfold lookZ
    simp only [List.getElem?_cons_zero]
    rcases hx with ⟨s1, rfl⟩ | ⟨s1, e, e0, e1⟩
    · have := hb s1
      dsimp only
      rw [if_pos (.inr (by omega))]
      rw [show max (30 : Int) 0 = 30 by decide]
    · rw [if_pos (.inl (by omega)), show max x.2 0 = x.2 by omega]
  unfold runZ
  rw [e]
  simp
theorem own_itm {h0 h : Heap} {S : List Nat} {L E : List (Nat × List Value × TypeId)} {a : Option Addr} {l c k : Nat} {its : List (Int × Int)} (ho : Own a l c 2 (flatI its) E) (m : Mem h0 h S (E ++ L)) (hl : its.length = l) (hk : k < l) :
    Itm h (slcAddr a k c (k * 2)) (its.drop k) := by
  intro j x hx
  rw [List.getElem?_drop] at hx
  have hj := (List.getElem?_eq_some_iff.1 hx).1
  have hlen := ho.len
  obtain ⟨b, rfl, hr⟩ := ho.row m (i := (k + j) * 2) (n := 2) (by decide) (by rw [flatI_len]; omega)
  have hc : ¬ c = k := by
    rcases ho with ⟨h, _⟩ | ⟨b', rest, T, _, h1, _⟩
    · cases h
    · omega
  refine ⟨b, 0 + k * 2, by unfold slcAddr; rw [if_neg hc]; simp only [Option.map_some, add_eq], ?_⟩
  rw [show 0 + k * 2 + j * 2 = (k + j) * 2 by omega, hr]
  have key : ∀ {l : List (Int × Int)} {i : Nat}, l[i]? = some x → ((flatI l).drop (i * 2)).take 2 = [.int .i64 x.1, .int .i64 x.2] := by
    intro l i h
    rw [flatI_drop]
    have : l.drop i = x :: l.drop (i + 1) := by
      rw [List.drop_eq_getElem_cons (List.getElem?_eq_some_iff.1 h).1, (List.getElem?_eq_some_iff.1 h).2]
    rw [this]; rfl
  rw [key hx]
def z0 : CSt := ⟨0, 0, 0, 0, false, 0, 0⟩
section
variable {now target : Int} {a : Option Addr} {cap : Nat} {l : List (Int × Int)} {short : Bool} {h : Heap}
theorem codelCalm_r (hs : Itm h a l) : Runs Try.prog 3 #[.slice a l.length cap, .int .i64 now, .int .i64 target, .bool short] h fun v h' => v = .bool true ∧ Kept h h' := by
  refine vc_muezzinlaw11_CodelCalm _ _ _ _ _ _ _ _ ((first11_c _).mono ?_)
  rintro _ h1 ⟨rfl, k⟩
  have m := Mem.ofKept k
  refine ⟨_, rfl, bcase_false rfl ?_⟩
  refine ⟨fun x h' => h' = h1 ∧ (x = false → 1 ≤ target ∧ target ≤ 1073741824), dcase_intro (fun _ => ⟨rfl, fun h => by cases h⟩) (fun q => ⟨rfl, fun q2 => by simp at q2; omega⟩), fun _ => ?_⟩
  rintro x1 h2 ⟨rfl, hx1⟩
  refine ⟨fun x h' => h' = h2 ∧ (x = false → 1 ≤ target ∧ target ≤ 1073741824 ∧ target ≤ now), bcase_intro (fun _ => ⟨rfl, fun h => by cases h⟩) (fun q => ⟨rfl, fun q2 => by have := hx1 q; simp at q2; omega⟩), fun _ => ?_⟩
  rintro x2 h3 ⟨rfl, hx2⟩
  refine ⟨fun x h' => h' = h3 ∧ (x = false → 1 ≤ target ∧ target ≤ 1073741824 ∧ target ≤ now ∧ now ≤ 1125899906842624), bcase_intro (fun _ => ⟨rfl, fun h => by cases h⟩) (fun q => ⟨rfl, fun q2 => by have := hx2 q; simp at q2; omega⟩), fun _ => ?_⟩
  rintro x3 h4 ⟨rfl, hx3⟩
  refine bcase_intro (fun _ => ⟨rfl, m.kept⟩) fun q => ?_
  obtain ⟨t0, t1, n0, n1⟩ := hx3 q
  refine dcase_intro (fun _ => ⟨rfl, m.kept⟩) fun hlen => ?_
  clear hx1 hx2 hx3 q
  refine ⟨fun qa ql qc bytes i h' => ∃ its E, Mem h h' [] E ∧ Own qa ql qc 2 (flatI its) E ∧ its.length = ql ∧ (ql : Int) = i ∧ i ≤ l.length ∧ bytes = sumI its ∧ ∀ x ∈ its, calm short (now - target + 1) x,
    fun _ ql _ _ _ _ => l.length - ql, ⟨[], [], m, Own.nil, rfl, rfl, by omega, rfl, by simp⟩, fun _ => ?_⟩
  clear m k
  rintro qa ql qc bytes i h5 ⟨its, E, m, ho, hl, rfl, hil, rfl, hc⟩
  obtain ⟨u0, u1, u2⟩ := sumI_bd hc
  refine dcase_intro (fun q => ?_) fun q => ?_
  · obtain ⟨x, hx⟩ : ∃ x, l[ql]? = some x := ⟨_, List.getElem?_eq_getElem (by omega)⟩
    obtain ⟨b, o, rfl, hrow⟩ := hs.mem m (by simp) ql x hx
    have hc1 := (row_iff.1 hrow).2 1 _ rfl
    refine ⟨by simp only [fits]; omega, by simp only [fits]; omega, ⟨by omega, by omega⟩, ?_⟩
    simp only [onAddr, Int.toNat_natCast]
    refine ⟨_, hc1, (number_c _ _ _ (by decide) (by decide)).ret ⟨_, rfl, ?_⟩⟩
    have nn : 0 ≤ x.2 % 3000 ∧ x.2 % 3000 < 3000 := by omega
    generalize x.2 % 3000 = n2 at *
    (intro bv hv ev1 ev2; replace m := m.push ev2 ev1; clear ev1 ev2; refine ⟨⟨rfl, (m.blk 0 rfl).wrs (Nat.le_of_ble_eq_true rfl), by simp [cV, Value.oneCell']⟩, ?_⟩; intro hv ev3; replace m := m.setr 0 rfl ev3; clear ev3; simp only [List.set_cons_zero, List.set_cons_succ, setL, cV, List.drop_zero, List.take_succ_cons, List.take_zero] at m)
    rename_i b2 _ _
    obtain ⟨T2, m⟩ : ∃ T2, Mem h hv [] ((bv, [Value.int IntKind.i64 (now - target + 1), Value.int IntKind.i64 n2], T2) :: E) := ⟨_, m⟩
    refine ⟨fun h' => ∃ y, calm short (now - target + 1) y ∧ Mem h h' [] ((bv, [Value.int IntKind.i64 y.1, Value.int IntKind.i64 y.2], T2) :: E), ?_, fun _ => ?_⟩
    · refine bcase_intro (fun s => ?_) fun s => ?_
      · refine ⟨⟨rfl, (m.blk 0 rfl).wrs (Nat.le_of_ble_eq_true rfl), by simp [Value.oneCell']⟩, ?_⟩
        intro h9 e9
        replace m := m.setr 0 rfl e9
        simp only [List.set_cons_zero, setL, List.set_cons_succ] at m
        exact ⟨(0, 30), .inl ⟨s, rfl⟩, m⟩
      · exact ⟨(now - target + 1, n2), .inr ⟨s, rfl, nn.1, nn.2⟩, m⟩
    · clear m
      rintro h10 ⟨y, hy, m⟩
      refine ⟨fun a' l' c' h' => l' = ql + 1 ∧ ∃ E', Mem h h' [] (E' ++ [(bv, [Value.int IntKind.i64 y.1, Value.int IntKind.i64 y.2], T2)]) ∧ Own a' (ql + 1) c' 2 (flatI (its ++ [y])) E', ?_, fun _ => ?_⟩
      · refine ⟨_, (m.blk 0 rfl).row_eq rfl (Nat.le_of_ble_eq_true rfl), ?_⟩
        refine ⟨rfl, ?_⟩
        intro b3 h11 e1 e2
        replace m := m.push e2 e1
        refine ⟨_, ⟨(m.blk 0 rfl).row_eq rfl (Nat.le_of_ble_eq_true rfl), by simp [Value.oneCell']⟩, ?_⟩
        have m2 : Mem h h11 [] (E ++ [(bv, [Value.int IntKind.i64 y.1, Value.int IntKind.i64 y.2], T2)]) := m.sub ⟨[_], by
          refine (List.perm_append_comm (l₁ := [_, _]) (l₂ := E)).trans ?_
          rw [List.append_assoc]
          exact List.Perm.append_left E (List.Perm.swap ..)⟩
        rw [flatI_append]
        exact ho.append (k := 1) (us := [Value.int IntKind.i64 y.1, Value.int IntKind.i64 y.2]) (bytes := 16) (Q := fun a' c' h' => ql + 1 = ql + 1 ∧ ∃ E', Mem h h' [] (E' ++ [(bv, [Value.int IntKind.i64 y.1, Value.int IntKind.i64 y.2], T2)]) ∧ Own a' (ql + 1) c' 2 (flatI its ++ flatI [y]) E') m2 rfl (by omega) (by decide) fun a' c' E' h' m' o' => ⟨rfl, E', m', o'⟩
      · clear m
        rintro a' l' c' h14 ⟨rfl, E', m, ho'⟩
        have m2 := m.sub (L' := [(bv, [Value.int IntKind.i64 y.1, Value.int IntKind.i64 y.2], T2)]) ⟨E', List.perm_append_comm⟩
        have yb : 0 ≤ y.2 ∧ y.2 < 3000 := by rcases hy with ⟨_, rfl⟩ | ⟨_, _, h1, h2⟩ <;> simp_all
        refine ⟨_, m2.cell 0 rfl rfl, by simp only [fits]; omega, by simp only [fits]; omega, ⟨its ++ [y], E', m.sub ⟨_, List.Perm.refl _⟩, ho', by simp [hl], by omega, by omega, by rw [sumI_append]; simp [sumI], ?_⟩, by omega⟩
        intro z hz
        rcases List.mem_append.1 hz with hz | hz
        · exact hc z hz
        · simp at hz; subst hz; exact hy
  · have hql : ql = l.length := by omega
    have t2 : clampZ target 1073741824 = target := by unfold clampZ; omega
    have t3 : clampZ 100 1073741824 = 100 := by decide
    intro b6 h15 e1 e2
    replace m := m.push e2 e1
    obtain ⟨T6, m⟩ : ∃ T6, Mem h h15 [] ((b6, cV z0, T6) :: E) := ⟨_, m⟩
    refine ⟨fun bytes i h' => ∃ k : Nat, i = k ∧ k ≤ ql ∧ bytes = sumI (its.drop k) ∧ Mem h h' [] ((b6, cV z0, T6) :: E), fun _ i _ => (((l.length : Nat) : Int) - i).toNat, ⟨0, rfl, by omega, rfl, m⟩, fun _ => ?_⟩
    clear m e1 e2 q
    rintro _ _ h16 ⟨k, rfl, hk, rfl, m⟩
    refine dcase_intro (fun q => ?_) fun q => ?_
    · have hkl : k < ql := by omega
      have hE : Mem h h16 [] (E ++ [(b6, cV z0, T6)]) := m.sub ⟨[], by rw [List.append_nil]; exact List.perm_append_comm (l₁ := [_]) (l₂ := E)⟩
      have hd : ∃ y r, its.drop k = y :: r ∧ its[k]? = some y ∧ its.drop (k + 1) = r := ⟨its[k], its.drop (k + 1), List.drop_eq_getElem_cons (by omega), List.getElem?_eq_getElem (by omega), rfl⟩
      obtain ⟨y, r, hd, hy, hr⟩ := hd
      have hcd : ∀ x ∈ its.drop k, calm short (now - target + 1) x := fun x hx => hc x (List.mem_of_mem_drop hx)
      obtain ⟨v0, v1, v2⟩ := sumI_bd hcd
      have hdl : (its.drop k).length = ql - k := by simp [hl]
      have hcy : calm short (now - target + 1) y := hc y (List.mem_of_getElem? hy)
      have yb : 0 ≤ y.2 ∧ y.2 < 3000 := by rcases hcy with ⟨_, rfl⟩ | ⟨_, _, h1, h2⟩ <;> simp_all
      have hp : ∀ h', Itm h' (slcAddr qa k qc (k * 2)) (its.drop k) → Runs Try.prog 11 #[.agg (cV z0).toArray, .int .i64 now, .int .i64 target, .int .i64 100, .int .i64 (sumI (its.drop k)), .slice (slcAddr qa k qc (k * 2)) (ql - k) (qc - k)] h' fun v h'' => v = outV z0 0 true ∧ Kept h' h'' := by
        intro h' hi
        have p := pull_c (now := now) (target := target) (interval := 100) (bytes := sumI (its.drop k)) (cap := qc - k) (c := z0) (h := h') (l := its.drop k)
          ⟨by omega, by omega, by omega, by omega, by decide, by decide, by omega, fun x hx => by
            rcases hcd x hx with ⟨_, rfl⟩ | ⟨_, e, e0, e1⟩
            · exact ⟨by decide, by decide, by decide⟩
            · exact ⟨by omega, by omega, by omega⟩⟩ hi (by constructor <;> first | rfl | (simp only [z0]; omega))
        rw [t2, t3, hdl] at p
        rw [hd] at p ⊢
        simp only [z0] at p ⊢
        rw [runZ_calm hcy (fun s => by have h1 := v2 s; rw [hdl] at h1; rw [hd] at h1; omega)] at p
        exact p
      simp only [Int.toNat_natCast]
      refine ⟨fun d n is h' => n = 0 ∧ is = true ∧ ∃ bd Td, d = some ⟨bd, 0, none⟩ ∧ Mem h h' [] ((bd, cV z0, Td) :: (b6, cV z0, T6) :: E), ?_, fun _ => ?_⟩
      · refine ⟨_, (m.blk 0 rfl).row_eq rfl (Nat.le_of_ble_eq_true rfl), ?_⟩
        refine ⟨⟨by omega, by omega⟩, ?_, ?_⟩
        · refine (hp _ (own_itm ho hE hl hkl)).mono ?_
          rintro _ h17 ⟨rfl, k'⟩
          replace m := m.call0 (Mem.ofKept k')
          refine ⟨_, _, _, rfl, ?_⟩
          intro b7 h18 e1 e2
          replace m := m.push e2 e1
          refine ⟨⟨rfl, (m.blk 0 rfl).wrs (Nat.le_of_ble_eq_true rfl), by simp [cV, Value.oneCell']⟩, ?_⟩
          intro h19 e3
          replace m := m.setr 0 rfl e3
          exact ⟨rfl, rfl, _, _, rfl, m⟩
        · intro b8 h20 e1 e2
          replace m := m.push e2 e1
          have hE2 : Mem h h20 [] (E ++ [(b6, cV z0, T6)]) := m.sub ⟨[_], (List.perm_append_comm (l₁ := [_, _]) (l₂ := E)).trans (by rw [List.append_assoc]; exact List.Perm.append_left E (List.Perm.swap ..))⟩
          refine (hp _ (own_itm ho hE2 hl hkl)).mono ?_
          rintro _ h17 ⟨rfl, k'⟩
          replace m := m.call0 (Mem.ofKept k')
          refine ⟨_, _, _, rfl, ?_⟩
          refine ⟨⟨rfl, (m.blk 0 rfl).wrs (Nat.le_of_ble_eq_true rfl), by simp [cV, Value.oneCell']⟩, ?_⟩
          intro h19 e3
          replace m := m.setr 0 rfl e3
          exact ⟨rfl, rfl, _, _, rfl, m⟩
      · clear m hE
        rintro _ _ _ h23 ⟨rfl, rfl, bd, Td, rfl, m⟩
        refine segF (h := h23) (bcase_false rfl ⟨rfl, rfl⟩) (segF (h := h23) (bcase_false rfl ?_) (bcase_false rfl ?_))
        · simp only [onAddr, Nat.zero_add]
          exact ⟨_, m.cell 0 rfl rfl, rfl, trivial⟩
        · simp only [onAddr, Nat.zero_add]
          refine ⟨_, m.cell 0 rfl rfl, bcase_false rfl ⟨⟨by omega, by omega⟩, ?_⟩⟩
          have hE3 : Mem h h23 [] (E ++ [(bd, cV z0, Td), (b6, cV z0, T6)]) := m.sub ⟨[], by rw [List.append_nil]; exact List.perm_append_comm (l₁ := [_, _]) (l₂ := E)⟩
          have hlen := ho.len
          obtain ⟨b, rfl, hrow⟩ := ho.row hE3 (i := k * 2) (n := 2) (by decide) (by rw [hlen]; omega)
          have hcell := (row_iff.1 hrow).2 1 (.int .i64 y.2) (by rw [flatI_drop, hd]; rfl)
          simp only [onAddr, Nat.zero_add]
          refine ⟨_, hcell, ?_⟩
          have hs1 : sumI (its.drop k) = y.2 + sumI r := by rw [hd]; rfl
          refine ⟨by simp only [fits]; omega, _, (m.blk 0 rfl).row_eq rfl (Nat.le_of_ble_eq_true rfl), ⟨rfl, (m.blk 1 rfl).wrs (Nat.le_of_ble_eq_true rfl), by simp [cV, Value.oneCell']⟩, ?_⟩
          intro h26 e3
          replace m := m.setr 1 rfl e3
          refine ⟨by simp only [fits]; omega, ⟨k + 1, by omega, by omega, by rw [hr, hs1]; omega, ?_⟩, by omega⟩
          exact m.forget 0
    · refine ⟨_, (m.blk 0 rfl).row_eq rfl (Nat.le_of_ble_eq_true rfl), ?_⟩
      have p := pull_c (now := now) (target := target) (interval := 100) (bytes := 0) (a := none) (cap := 0) (c := z0) (h := h16) (l := [])
        ⟨by omega, by omega, by omega, by omega, by decide, by decide, by simp, by simp⟩ (Itm.nil _ _) (by constructor <;> first | rfl | (simp only [z0]; omega))
      refine p.mono ?_
      rintro _ h17 ⟨rfl, k'⟩
      replace m := m.call0 (Mem.ofKept k')
      have hR : runZ now (clampZ target 1073741824) (clampZ 100 1073741824) [] { z0 with bytes := 0, pos := 0 } = (z0, false) := rfl
      rw [hR]
      refine ⟨_, _, _, rfl, ?_⟩
      intro b13 h28 e1 e2
      replace m := m.push e2 e1
      refine ⟨⟨rfl, (m.blk 0 rfl).wrs (Nat.le_of_ble_eq_true rfl), by simp [cV, Value.oneCell']⟩, ?_⟩
      intro h29 e3
      replace m := m.setr 0 rfl e3
      exact seg1 (h := h29) (bcase_true rfl ⟨rfl, rfl⟩) (bcase_true rfl ⟨rfl, m.kept⟩)
end
theorem walk_CodelCalm (w : World) (a0 : Option Addr) (len0 cap0 : Nat) (z0 : List (Int × Int)) (zl0 : z0.length = len0) (lc0 : len0 ≤ cap0) (hz0 : ∀ (i : Nat) (x : Int × Int), z0[i]? = some x → (∃ b o, a0 = some ⟨b, o, none⟩ ∧ row w.heap b (o + i * 2) 2 = some [.int .i64 (x.1), .int .i64 (x.2)]) ∧ (Lit.int .i64 x.1).wf = true ∧ (Lit.int .i64 x.2).wf = true) (a1 : Int) (_ : (Lit.int .i64 a1).wf = true) (a2 : Int) (_ : (Lit.int .i64 a2).wf = true) (a3 : Bool) :
    Calls Try.prog 3 #[.slice a0 len0 cap0, .int .i64 a1, .int .i64 a2, .bool a3] w fun e w' => e = .returned (.bool true) ∧ Go.RowKit.Below w.heap.size w w' := by
  subst zl0
  exact calls_of_runs (codelCalm_r fun i x hx => (hz0 i x hx).1)
end Go.Proofs.Ytpecigkicmgbdaa
