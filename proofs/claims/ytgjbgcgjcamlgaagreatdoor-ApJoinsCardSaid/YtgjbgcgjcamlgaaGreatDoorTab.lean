/- The table of who is there, within an access point; an access point of nobody sends nothing. -/
import Derived.Test.YtgjbgcgjcamlgaaGreatDoorAp
set_option linter.unusedVariables false
set_option linter.unusedSimpArgs false
set_option maxRecDepth 8000
namespace Go.Proofs.YtgjbgcgjcamlgaaGreatDoor
open Go.Vc
/-- A number: whether somebody has it, who, how many have had it. -/
structure On where
  th : Bool
  a : List Int
  ep : Int
def onC (o : On) : List Value := .bool o.th :: (ints .u8 o.a ++ [.int .i64 o.ep])
def on0 : On := ⟨false, [0, 0, 0, 0, 0, 0], 0⟩
structure TbW (tm : List On) : Prop where
  n : tm.length = 16
  a : ∀ o ∈ tm, o.a.length = 6
def allL : List On → Int → List Int
  | [], _ => []
  | o :: r, i => if o.th then (i + 1) :: allL r (i + 1) else allL r (i + 1)
theorem allL_app : ∀ {l r : List On} {i : Int}, allL (l ++ r) i = allL l i ++ allL r (i + l.length)
  | [], r, i => by simp [allL]
  | o :: l, r, i => by
    have := allL_app (l := l) (r := r) (i := i + 1)
    rw [List.cons_append]
    simp only [allL]
    rw [this, show i + 1 + (l.length : Int) = i + ((o :: l).length : Nat) by simp; omega]
    split <;> simp
theorem allL_len : ∀ {l : List On} {i : Int}, (allL l i).length ≤ l.length
  | [], i => by simp [allL]
  | o :: l, i => by
    have := allL_len (l := l) (i := i + 1)
    simp only [allL]
    split <;> simp <;> omega
section
variable {W W' : Wd} {h h' : Heap} {G : List Grp} {E : Grp} {ads : List Addr} {n k i j b o : Nat} {vs us A B cs : List Value} {x : Ap} {v : Value} {tm : List On} {T : TypeId} {l : List Int}
theorem onC_len {o : On} (h : o.a.length = 6) : (onC o).length = 8 := by simp [onC, ints, h]
theorem onC_one {o : On} : ∀ u ∈ onC o, u.oneCell' = true := by
  intro u hu
  unfold onC at hu
  rcases List.mem_cons.1 hu with rfl | hu
  · rfl
  rcases List.mem_append.1 hu with hu | hu
  · exact ints_one u hu
  · simp at hu; subst hu; rfl
theorem TbW.c8 (w : TbW tm) : ∀ c ∈ tm.map onC, c.length = 8 := fun c hc => by
  obtain ⟨o, ho, rfl⟩ := List.mem_map.1 hc
  exact onC_len (w.a o ho)
theorem TbW.at (w : TbW tm) {q : On} (hk : tm[k]? = some q) : ((tm.map onC).flatten.drop (k * 8)).take 8 = onC q := by
  have hq := List.mem_of_getElem? hk
  rw [flat_drop w.c8 (cs := onC q) (by rw [List.getElem?_map, hk]; rfl), List.take_append_of_le_length (by rw [onC_len (w.a q hq)]; decide)]
  exact List.take_of_length_le (by rw [onC_len (w.a q hq)]; decide)
theorem me_swap' {A B : Grp} (m : Me W h (A :: B :: G)) : Me W h (B :: A :: G) := me_swap m
/-- All who are there. -/
theorem all_c (w : TbW tm) (m : Me W h G) (hr : row h b o 128 = some (tm.map onC).flatten) :
    Runs Tryz.prog 20 #[.pointer (some ⟨b, o, none⟩)] h fun v h' => ∃ a c E, v = .slice a (allL tm 0).length c ∧ Ow a (allL tm 0).length c 1 (ints .i64 (allL tm 0)) E ∧ Me W h' (E :: G) := by
  refine vc_sta_Table_All _ _ _ ⟨_, hr, ?_⟩
  refine ⟨fun a' l' c' x h => ∃ (k : Nat) (E : Grp), x = k ∧ k ≤ 16 ∧ l' = (allL (tm.take k) 0).length ∧ Ow a' (allL (tm.take k) 0).length c' 1 (ints .i64 (allL (tm.take k) 0)) E ∧ Me W h (E :: G), fun _ _ _ x _ => (16 - x).toNat, ⟨0, [], rfl, by omega, rfl, Ow.nil, m.nilI⟩, fun _ => ?_⟩
  rintro a' _ c' _ h1 ⟨k, E, rfl, hk, rfl, ow, m1⟩
  refine dcase_intro (fun q => ?_) fun q => ?_
  · have hkl : k < tm.length := by rw [w.n]; omega
    have hq := List.getElem?_eq_getElem hkl
    have hq6 := w.a _ (List.getElem_mem hkl)
    have hb := allL_len (l := tm.take k) (i := 0)
    rw [List.length_take] at hb
    have htk : allL (tm.take (k + 1)) 0 = allL (tm.take k) 0 ++ allL [tm[k]] k := by
      rw [List.take_add_one, hq, Option.toList_some, allL_app, List.length_take, Nat.min_eq_left (by omega)]; simp
    refine ⟨⟨by omega, by omega⟩, ?_⟩
    rw [show ((k : Int)).toNat = k from rfl, w.at hq]
    intro b2 h2 e1 e2
    have m2 := m1.push e2 e1
    refine ⟨⟨onC_len hq6, m2.wrsb 0 rfl rfl, onC_one⟩, fun h3 e3 => ?_⟩
    have m3 := me_setAll (us := onC tm[k]) m2 (by rw [onC_len hq6]; rfl) e3
    refine ⟨tm[k].th, m3.cell 0 rfl rfl, bcase_intro (fun q2 => ?_) fun q2 => ?_⟩
    · have e5 : allL [tm[k]] (k : Int) = [(k : Int) + 1] := by simp [allL, q2]
      refine ⟨by simp only [fits]; omega, ?_⟩
      intro b3 h4 f1 f2
      have m5 := (m3.drop1).push f2 f1
      refine ⟨[.int .i64 ((k : Int) + 1)], ⟨m5.row 0 rfl rfl (Nat.le_of_ble_eq_true rfl), by simp [Value.oneCell']⟩, ?_⟩
      refine ow.app m5 1 rfl rfl (by omega) (by decide) fun a7 c7 E7 h7 m7 o7 => ?_
      simp only [List.set_cons_zero, List.set_cons_succ] at m7
      refine ⟨by simp only [fits]; omega, ⟨k + 1, E7, by omega, by omega, ?_, ?_, m7.drop1⟩, by dsimp only; omega⟩
      · rw [htk, e5, List.length_append]; rfl
      · rw [htk, e5, List.length_append, ints_app]; exact o7
    · have e5 : allL [tm[k]] (k : Int) = [] := by simp [allL, q2]
      exact ⟨by simp only [fits]; omega, ⟨k + 1, E, by omega, by omega, by rw [htk, e5, List.append_nil], by rw [htk, e5, List.append_nil]; exact ow, m3.drop1⟩, by dsimp only; omega⟩
  · obtain rfl : k = 16 := by omega
    rw [List.take_of_length_le (by rw [w.n]; decide)] at ow ⊢
    exact ⟨a', c', E, rfl, ow, m1⟩
/-- Whether somebody of an address is there. -/
theorem find_c (w : TbW tm) (m : Me W h G) (hr : ∀ {h : Heap} {X : Grp}, Me W h (X :: G) → row h b o 128 = some (tm.map onC).flatten) (hl : l.length = 6) :
    Runs Tryz.prog 68 #[.pointer (some ⟨b, o, none⟩), .agg (ints .u8 l).toArray] h fun v h' => (∃ z : Int, v = .tuple #[.int .i64 z, .bool (tm.any fun q => q.th && q.a == l)]) ∧ Me W h' G := by
  obtain ⟨x1, x2, x3, x4, x5, x6, rfl⟩ := six_of' hl
  refine vc_sta_Table_Find _ _ _ _ ?_
  intro b1 h1 e1 e2
  have m1 := m.push e2 e1
  refine ⟨_, hr m1, ?_⟩
  refine ⟨fun x h => ∃ (k : Nat), x = k ∧ k ≤ 16 ∧ (∀ q ∈ tm.take k, (q.th && q.a == [x1, x2, x3, x4, x5, x6]) = false) ∧ Me W h ([(b1, ints .u8 [x1, x2, x3, x4, x5, x6], 24)] :: G), fun x _ => (16 - x).toNat, ⟨0, rfl, by omega, by simp, m1⟩, fun _ => ?_⟩
  rintro _ h2 ⟨k, rfl, hk, hno, m2⟩
  refine dcase_intro (fun q => ?_) fun q => ?_
  · have hkl : k < tm.length := by rw [w.n]; omega
    have hq := List.getElem?_eq_getElem hkl
    have hq6 := w.a _ (List.getElem_mem hkl)
    refine ⟨⟨by omega, by omega⟩, ?_⟩
    rw [show ((k : Int)).toNat = k from rfl, w.at hq]
    obtain ⟨o, ho⟩ : ∃ o, o = tm[k] := ⟨_, rfl⟩
    rw [← ho] at hq hq6 ⊢
    have hmo : o ∈ tm := List.mem_of_getElem? hq
    obtain ⟨th, oa, ep⟩ := o
    dsimp only at hq6
    obtain ⟨y1, y2, y3, y4, y5, y6, rfl⟩ := six_of' hq6
    intro b3 h3 f1 f2
    have m3 := m2.push f2 f1
    refine ⟨⟨rfl, m3.wrsb 0 rfl rfl, onC_one⟩, fun h4 f3 => ?_⟩
    have m4 := me_setAll (us := onC ⟨th, [y1, y2, y3, y4, y5, y6], ep⟩) m3 rfl f3
    have hnext : (th && [y1, y2, y3, y4, y5, y6] == [x1, x2, x3, x4, x5, x6]) = false → ∀ q ∈ tm.take (k + 1), (q.th && q.a == [x1, x2, x3, x4, x5, x6]) = false := fun hf q hm => by
      rw [List.take_add_one, hq] at hm
      rcases List.mem_append.1 hm with h | h
      · exact hno q h
      · simp at h; subst h; exact hf
    refine ⟨th, m4.cell 0 rfl rfl, bcase_intro (fun q2 => ?_) fun q2 => ?_⟩
    · refine ⟨_, m4.row 0 rfl rfl (Nat.le_of_ble_eq_true rfl), _, m4.row 1 rfl rfl (Nat.le_of_ble_eq_true rfl), [y1, y2, y3, y4, y5, y6], [x1, x2, x3, x4, x5, x6], rfl, rfl, ⟨rfl, rfl⟩, dcase_intro (fun q3 => ?_) fun q3 => ?_⟩
      · refine ⟨by simp only [fits]; omega, ⟨(k : Int) + 1, ?_⟩, m4.drop1.drop1⟩
        have : (tm.any fun q => q.th && q.a == [x1, x2, x3, x4, x5, x6]) = true := List.any_eq_true.2 ⟨_, hmo, by
          dsimp only
          rw [q2, q3]; simp⟩
        rw [this]
      · exact ⟨by simp only [fits]; omega, ⟨k + 1, by omega, by omega, hnext (by rw [beq_false_of_ne q3, Bool.and_false]), m4.drop1⟩, by dsimp only; omega⟩
    · exact ⟨by simp only [fits]; omega, ⟨k + 1, by omega, by omega, hnext (by rw [q2]; rfl), m4.drop1⟩, by dsimp only; omega⟩
  · obtain rfl : k = 16 := by omega
    rw [List.take_of_length_le (by rw [w.n]; decide)] at hno
    refine ⟨⟨0, ?_⟩, m2.drop1⟩
    have : (tm.any fun q => q.th && q.a == [x1, x2, x3, x4, x5, x6]) = false := List.any_eq_false.2 fun q hq => by
      have := hno q hq
      rw [this]; decide
    rw [this]
end
end Go.Proofs.YtgjbgcgjcamlgaaGreatDoor
