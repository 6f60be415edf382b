/- RecvStrange: what is for another one, from another one, or bent in its head, changes nothing, and is not answered. -/
import Derived.Test.YthlacliefgliiaaDoorAgg
import Derived.Test.YthlacliefgliiaaDoorBad
import Derived.Test.YthlacliefgliiaaDoorOpnInts
import Derived.Test.YthlacliefgliiaaDoorGenLStrange
set_option linter.unusedVariables false
set_option linter.unusedSimpArgs false
set_option maxRecDepth 8000
namespace Go.Proofs.YthlacliefgliiaaDoor
open Go.Vc
def Byt (l : List Int) : Prop := ∀ x ∈ l, 0 ≤ x ∧ x < 256
theorem Byt.app {l r : List Int} (h1 : Byt l) (h2 : Byt r) : Byt (l ++ r) := fun x hx => by
  rcases List.mem_append.1 hx with h | h
  · exact h1 x h
  · exact h2 x h
theorem Byt.cons {x : Int} {r : List Int} (h1 : 0 ≤ x ∧ x < 256) (h2 : Byt r) : Byt (x :: r) := fun y hy => by
  rcases List.mem_cons.1 hy with rfl | h
  · exact h1
  · exact h2 y h
theorem Byt.nil : Byt [] := fun x hx => by cases hx
structure FmB (f : Fm) : Prop where
  ok : FmOk f
  bt : Byt f.to
  bb : Byt f.bss
  bf : Byt f.fr
  bd : Byt f.body
theorem qosB_byt {f : Fm} (h : FmB f) : Byt (qosB f) := by
  obtain ⟨⟨l1, l2, l3, t0, t7, s0, s1, bl⟩, ht, hb, hf, hd⟩ := h
  unfold qosB
  refine Byt.app (Byt.cons (by decide) (Byt.cons ?_ (Byt.cons (by decide) (Byt.cons (by decide) Byt.nil)))) (ht.app (hb.app (hf.app (Byt.app (Byt.cons (by omega) (Byt.cons (by omega) (Byt.cons ?_ (Byt.cons (by decide) Byt.nil)))) hd))))
  · split <;> split <;> omega
  · split <;> omega
theorem qosB_len {f : Fm} (h : FmOk f) : (qosB f).length = 26 + f.body.length := by simp [qosB, h.l1, h.l2, h.l3]; omega
theorem packB_byt {xs : List Int} (h : Byt xs) : Byt (packB xs) := by
  unfold packB
  exact Byt.app (Byt.cons (by omega) (Byt.cons (by omega) (Byt.cons (sumV_bd _) (Byt.cons (by decide) Byt.nil)))) h
/-- What comes: alone, or in an aggregate. -/
def rawB (agg : Bool) (f : Fm) : List Int := if agg then packB (qosB f) else qosB f
section
variable {W W' : Wd} {h h' : Heap} {b t j n c : Nat} {a : Option Addr} {T : TypeId} {size : Int} {css : List (List Value)} {cs us vs : List Value} {G G' : List Grp} {v : Value} {f : Fm} {mv : Option Nat} {E : Grp} {xs : List Int}
/-- Nothing is handed up, nothing answered, nothing changed. -/
def NoneV (W : Wd) (b : Nat) (T : TypeId) (size : Int) (css : List (List Value)) (t : Nat) (cs : List Value) (G : List Grp) (v : Value) (h' : Heap) : Prop :=
  v = .tuple #[.slice none 0 0, .slice none 0 0] ∧ ∃ W', W.le W' ∧ St W' h' b T size css t cs G
theorem strangeData_c (agg : Bool) (s : St W h b T size css t cs G) (hb : Bts W (.slice a n c) (rawB agg f)) (hf : FmOk f) (hno : ¬ (f.to = meL ∧ f.bss = bssL)) :
    Runs Tryd.prog 14 #[.pointer (some ⟨b, 0, none⟩), .bool agg, .slice a n c] h (NoneV W b T size css t cs G) := by
  have hL := qosB_len hf
  have hbl := hf.bl
  have hf0 := hf
  obtain ⟨l1, l2, l3, t0, t7, s0, s1, bl⟩ := hf
  obtain ⟨to, bss, fr, tid, sq, rt, mo, eo, body⟩ := f
  dsimp only at l1 l2 l3 t0 t7 s0 s1 bl hno hbl hL
  obtain ⟨x1, x2, x3, x4, x5, x6, rfl⟩ := six_of l1
  obtain ⟨y1, y2, y3, y4, y5, y6, rfl⟩ := six_of l2
  obtain ⟨z1, z2, z3, z4, z5, z6, rfl⟩ := six_of l3
  refine vc_recv_Station_Data _ _ _ _ _ _ _ ?_
  intro b1 h1 e1 e2
  replace s := s.push e1 e2
  cases agg with
  | true =>
    refine bcase_true rfl ?_
    replace hb : Bts W (.slice a n c) (packB (qosB ⟨[x1, x2, x3, x4, x5, x6], [y1, y2, y3, y4, y5, y6], [z1, z2, z3, z4, z5, z6], tid, sq, rt, mo, eo, body⟩)) := hb
    refine (unpack_c s.m hb (by omega) (by omega)).mono ?_
    rintro _ g1 ⟨W1, s1', sc1, a1, c1, E1, hle1, rfl, o1, hb1, m1⟩
    refine ⟨_, _, _, rfl, ?_⟩
    refine ⟨fun a' l' c' last i h2 => a' = none ∧ l' = 0 ∧ c' = 0 ∧ last = -1 ∧ (i = 0 ∧ h2 = g1 ∨ i = 1 ∧ ∃ W', W.le W' ∧ St W' h2 b T size css t cs G), fun _ _ _ _ i _ => (1 - i).toNat, ⟨rfl, rfl, rfl, rfl, .inl ⟨rfl, rfl⟩⟩, fun _ => ?_⟩
    rintro _ _ _ _ i g2 ⟨rfl, rfl, rfl, rfl, ⟨rfl, rfl⟩ | ⟨rfl, W2, hle2, s2⟩⟩
    · obtain ⟨bp, op, rfl, hcp⟩ := src_cell (o1.src1 m1 0 rfl) (k := 0) rfl
      refine dcase_pos (by decide) ⟨by decide, _, _, _, by simpa using hcp, ?_⟩
      have s3 : St W1 g2 b T size css t cs (E1 :: [(b1, [.slice a n c], 35)] :: G) := s.mem (me_swap m1)
      have hle := hle1
      refine (qosRead_c s3.m hb1 hf0).mono ?_
      rintro _ g3 ⟨W3, cs3, hle3, rfl, hv, m3⟩
      replace s3 := s3.mem m3
      obtain ⟨v, rfl, hvb⟩ := hv
      refine ⟨_, _, rfl, ?_⟩
      intro b4 g4 f1 f2
      replace s3 := s3.push f1 f2
      refine ⟨⟨fmc_len hf0, s3.m.wrsb 1 rfl rfl, FmV.one' ⟨v, rfl, hvb⟩⟩, fun g5 e5 => ?_⟩
      have m5 := s3.m.setr 1 rfl e5
      replace m5 : Me W3 g5 ([(b, stC size css t cs, T)] :: [(b4, fmc ⟨[x1, x2, x3, x4, x5, x6], [y1, y2, y3, y4, y5, y6], [z1, z2, z3, z4, z5, z6], tid, sq, rt, mo, eo, body⟩ v, 55)] :: E1 :: [(b1, [.slice a n c], 35)] :: G) := by
        have e : setL z24 0 (fmc ⟨[x1, x2, x3, x4, x5, x6], [y1, y2, y3, y4, y5, y6], [z1, z2, z3, z4, z5, z6], tid, sq, rt, mo, eo, body⟩ v) = fmc ⟨[x1, x2, x3, x4, x5, x6], [y1, y2, y3, y4, y5, y6], [z1, z2, z3, z4, z5, z6], tid, sq, rt, mo, eo, body⟩ v := setL_all (by rw [fmc_len hf0]; rfl)
        simp only [List.set_cons_succ, List.set_cons_zero] at m5
        rw [← e]; exact m5
      replace s3 := s3.mem m5
      have s6 : St W3 g5 b T size css t cs G := s3.drop.drop.drop
      refine ⟨true, rfl, bcase_false rfl ?_⟩
      refine ⟨_, s3.m.row 1 rfl rfl (Nat.le_of_ble_eq_true rfl), _, s3.rme, [x1, x2, x3, x4, x5, x6], meL, rfl, rfl, ⟨rfl, rfl⟩, ?_⟩
      by_cases hto : [x1, x2, x3, x4, x5, x6] = meL
      · refine bcase_false (by simp [hto]) ?_
        refine ⟨_, s3.m.row 1 rfl rfl (Nat.le_of_ble_eq_true rfl), _, s3.rbss, [y1, y2, y3, y4, y5, y6], bssL, rfl, rfl, ⟨rfl, rfl⟩, ?_⟩
        have hbs : ¬ [y1, y2, y3, y4, y5, y6] = bssL := fun e => hno ⟨hto, e⟩
        exact bcase_true (by rw [decide_eq_false hbs]; rfl) ⟨by simp only [fits]; omega, ⟨rfl, rfl, rfl, rfl, .inr ⟨rfl, W3, hle.trans hle3, s6⟩⟩, by dsimp only; omega⟩
      · exact bcase_true (by rw [decide_eq_false hto]; rfl) ⟨by simp only [fits]; omega, ⟨rfl, rfl, rfl, rfl, .inr ⟨rfl, W3, hle.trans hle3, s6⟩⟩, by dsimp only; omega⟩
    · exact dcase_neg (by decide) (dcase_pos (by decide) ⟨rfl, W2, hle2, s2⟩)
  | false =>
    refine bcase_false rfl ?_
    refine ⟨fun a' l' c' last i h2 => a' = none ∧ l' = 0 ∧ c' = 0 ∧ last = -1 ∧ (i = 0 ∧ h2 = h1 ∨ i = 1 ∧ ∃ W', W.le W' ∧ St W' h2 b T size css t cs G), fun _ _ _ _ i _ => (1 - i).toNat, ⟨rfl, rfl, rfl, rfl, .inl ⟨rfl, rfl⟩⟩, fun _ => ?_⟩
    rintro _ _ _ _ i g2 ⟨rfl, rfl, rfl, rfl, ⟨rfl, rfl⟩ | ⟨rfl, W2, hle2, s2⟩⟩
    · refine dcase_pos (by decide) ⟨by decide, _, _, _, s.m.cell 1 rfl rfl, ?_⟩
      obtain ⟨W1, E1, hle, s3, hb1⟩ : ∃ W1 E1, W.le W1 ∧ St W1 g2 b T size css t cs (E1 :: [(b1, [.slice a n c], 35)] :: G) ∧ Bts W1 (.slice a n c) (qosB ⟨[x1, x2, x3, x4, x5, x6], [y1, y2, y3, y4, y5, y6], [z1, z2, z3, z4, z5, z6], tid, sq, rt, mo, eo, body⟩) := ⟨W, [], Wd.le.refl W, s.mem (me_swap s.m.nilI), hb⟩
      refine (qosRead_c s3.m hb1 hf0).mono ?_
      rintro _ g3 ⟨W3, cs3, hle3, rfl, hv, m3⟩
      replace s3 := s3.mem m3
      obtain ⟨v, rfl, hvb⟩ := hv
      refine ⟨_, _, rfl, ?_⟩
      intro b4 g4 f1 f2
      replace s3 := s3.push f1 f2
      refine ⟨⟨fmc_len hf0, s3.m.wrsb 1 rfl rfl, FmV.one' ⟨v, rfl, hvb⟩⟩, fun g5 e5 => ?_⟩
      have m5 := s3.m.setr 1 rfl e5
      replace m5 : Me W3 g5 ([(b, stC size css t cs, T)] :: [(b4, fmc ⟨[x1, x2, x3, x4, x5, x6], [y1, y2, y3, y4, y5, y6], [z1, z2, z3, z4, z5, z6], tid, sq, rt, mo, eo, body⟩ v, 55)] :: E1 :: [(b1, [.slice a n c], 35)] :: G) := by
        have e : setL z24 0 (fmc ⟨[x1, x2, x3, x4, x5, x6], [y1, y2, y3, y4, y5, y6], [z1, z2, z3, z4, z5, z6], tid, sq, rt, mo, eo, body⟩ v) = fmc ⟨[x1, x2, x3, x4, x5, x6], [y1, y2, y3, y4, y5, y6], [z1, z2, z3, z4, z5, z6], tid, sq, rt, mo, eo, body⟩ v := setL_all (by rw [fmc_len hf0]; rfl)
        simp only [List.set_cons_succ, List.set_cons_zero] at m5
        rw [← e]; exact m5
      replace s3 := s3.mem m5
      have s6 : St W3 g5 b T size css t cs G := s3.drop.drop.drop
      refine ⟨true, rfl, bcase_false rfl ?_⟩
      refine ⟨_, s3.m.row 1 rfl rfl (Nat.le_of_ble_eq_true rfl), _, s3.rme, [x1, x2, x3, x4, x5, x6], meL, rfl, rfl, ⟨rfl, rfl⟩, ?_⟩
      by_cases hto : [x1, x2, x3, x4, x5, x6] = meL
      · refine bcase_false (by simp [hto]) ?_
        refine ⟨_, s3.m.row 1 rfl rfl (Nat.le_of_ble_eq_true rfl), _, s3.rbss, [y1, y2, y3, y4, y5, y6], bssL, rfl, rfl, ⟨rfl, rfl⟩, ?_⟩
        have hbs : ¬ [y1, y2, y3, y4, y5, y6] = bssL := fun e => hno ⟨hto, e⟩
        exact bcase_true (by rw [decide_eq_false hbs]; rfl) ⟨by simp only [fits]; omega, ⟨rfl, rfl, rfl, rfl, .inr ⟨rfl, W3, hle.trans hle3, s6⟩⟩, by dsimp only; omega⟩
      · exact bcase_true (by rw [decide_eq_false hto]; rfl) ⟨by simp only [fits]; omega, ⟨rfl, rfl, rfl, rfl, .inr ⟨rfl, W3, hle.trans hle3, s6⟩⟩, by dsimp only; omega⟩
    · exact dcase_neg (by decide) (dcase_pos (by decide) ⟨rfl, W2, hle2, s2⟩)
theorem strangeOther_c {x : Int} (hE : Snt5 W) (s : St W h b T size css t cs G) (hb : Bts W (.slice a n c) xs) (hx : Byt xs) (hl : 26 ≤ xs.length) (h0 : xs[0]? = some x) (h1 : x ≠ 132) (h2 : x ≠ 208 ∨ (xs[1]? ≠ some 0 ∧ xs.length ≠ 30)) :
    Runs Tryd.prog 24 #[.pointer (some ⟨b, 0, none⟩), .slice a n c] h (NoneV W b T size css t cs G) := by
  have k1 : xs[0]? ≠ some 208 ∨ xs[1]? ≠ some 0 := by
    rcases h2 with h | h
    · left; rw [h0]; intro e; exact h (Option.some.inj e)
    · exact .inr h.1
  have k2 : xs[0]? ≠ some 208 ∨ xs.length ≠ 30 := by
    rcases h2 with h | h
    · left; rw [h0]; intro e; exact h (Option.some.inj e)
    · exact .inr h.2
  refine vc_recv_Station_Other _ _ _ _ _ _ ?_
  refine (readBar_no hE s.m hb h0 h1).mono ?_
  rintro _ g1 ⟨⟨e, rfl⟩, m1⟩
  replace s := s.mem m1
  refine ⟨_, _, rfl, ?_⟩
  intro b1 g2 e1 e2
  replace s := s.push e1 e2
  refine ⟨⟨rfl, s.m.wrsb 1 rfl rfl, z14_one⟩, fun g3 e3 => ?_⟩
  replace s := (s.mem (s.m.setr 1 rfl e3)).drop
  refine ⟨false, rfl, bcase_false rfl ?_⟩
  refine (addBad_c hE s.m hb hx hl k1).mono ?_
  rintro _ g4 ⟨e', W2, rfl, hle2, m4⟩
  replace s := s.mem m4
  refine ⟨_, _, rfl, ?_⟩
  intro b2 g5 e5 e6
  replace s := s.push e5 e6
  refine ⟨⟨rfl, s.m.wrsb 1 rfl rfl, addC_one _ _ _ _ _ _ _ _⟩, fun g6 e7 => ?_⟩
  replace s := (s.mem (s.m.setr 1 rfl e7)).drop
  refine ⟨false, rfl, bcase_false rfl ?_⟩
  refine (delBad_c (hE.cl fun b o v h => wcell_le hle2 h) s.m (hb.le hle2) hl k2).mono ?_
  rintro _ g7 ⟨e'', rfl, m7⟩
  replace s := s.mem m7
  refine ⟨_, _, rfl, ?_⟩
  intro b3 g8 e8 e9
  replace s := s.push e8 e9
  refine ⟨⟨rfl, s.m.wrsb 1 rfl rfl, z21_one⟩, fun g9 e10 => ?_⟩
  replace s := (s.mem (s.m.setr 1 rfl e10)).drop
  exact ⟨false, rfl, bcase_false rfl ⟨rfl, W2, hle2, s⟩⟩
/-- A data frame's bytes, packed or not, are nothing else. -/
theorem strangeRaw_c (agg : Bool) (hE : Snt5 W) (s : St W h b T size css t cs G) (hb : Bts W (.slice a n c) (rawB agg f)) (hf : FmB f) (hl : f.body.length ≤ 100) :
    Runs Tryd.prog 24 #[.pointer (some ⟨b, 0, none⟩), .slice a n c] h (NoneV W b T size css t cs G) := by
  have hL := qosB_len hf.ok
  cases agg with
  | false => exact strangeOther_c hE s hb (qosB_byt hf) (by show 26 ≤ (qosB f).length; omega) (x := 136) rfl (by decide) (.inl (by decide))
  | true =>
    have hP := packB_len (xs := qosB f)
    refine strangeOther_c (x := ((qosB f).length : Int) * 16 % 256) hE s hb (packB_byt (qosB_byt hf)) (by show 26 ≤ (packB (qosB f)).length; omega) rfl (by omega) ?_
    by_cases h8 : ((qosB f).length : Int) * 16 % 256 = 208
    · right
      refine ⟨?_, by show (packB (qosB f)).length ≠ 30; omega⟩
      show some (((qosB f).length : Int) * 16 / 256 % 256) ≠ some 0
      intro e
      have := Option.some.inj e
      omega
    · exact .inl h8
end
theorem opn_arr {k : IntKind} {W : Wd} {m : Nat} {cs : List Value} (o : Opn (.arr m (.int k)) W cs) : ∃ l : List Int, l.length = m ∧ cs = ints k l ∧ ∀ x ∈ l, (Lit.int k x).wf = true := by
  obtain ⟨h3, h5⟩ := o
  simp only [Sh1.size, Nat.mul_one] at h3 h5
  obtain ⟨l, hl, hx⟩ := choose_l m fun i hi => h5 i hi
  have hv : cs = ints k l := by
    apply List.ext_getElem?
    intro i
    by_cases hi : i < m
    · obtain ⟨x, hx1⟩ : ∃ x, l[i]? = some x := ⟨_, List.getElem?_eq_getElem (by omega)⟩
      have h6 := (hx i x hx1).1
      have h7 : ((cs.drop i).take 1)[0]? = cs[i]? := by rw [List.getElem?_take_of_lt (by decide), List.getElem?_drop]; rfl
      rw [← h7, h6, ints_get hx1]; rfl
    · rw [List.getElem?_eq_none (by omega), List.getElem?_eq_none (by rw [ints_len]; omega)]
  exact ⟨l, hl, hv, fun x hm => by
    obtain ⟨i, hi⟩ := List.mem_iff_getElem?.1 hm
    exact (hx i x hi).2⟩
theorem wf_byt {l : List Int} (h : ∀ x ∈ l, (Lit.int .u8 x).wf = true) : Byt l := fun x hx => by
  have := h x hx
  simp only [Lit.wf, Bool.and_eq_true, decide_eq_true_eq] at this
  exact ⟨this.1, Int.lt_of_le_of_lt this.2 (by decide)⟩
/-- A frame that comes in. -/
theorem opn_fm {W : Wd} {cs : List Value} (o : Opn (.con (.arr 6 (.int .u8)) (.con (.arr 6 (.int .u8)) (.con (.arr 6 (.int .u8)) (.con (.int .i64) (.con (.int .i64) (.con .bool (.con .bool (.con .bool (.con (.slc (.int .u8)) .nil))))))))) W cs) :
    ∃ f : Fm, FmV W f cs ∧ (f.to.length = 6 ∧ f.bss.length = 6 ∧ f.fr.length = 6) ∧ Byt f.to ∧ Byt f.bss ∧ Byt f.fr ∧ Byt f.body := by
  obtain ⟨-, o1, o⟩ := o
  obtain ⟨to, l1, e1, w1⟩ := opn_arr o1
  obtain ⟨-, o2, o⟩ := o
  obtain ⟨bss, l2, e2, w2⟩ := opn_arr o2
  obtain ⟨-, o3, o⟩ := o
  obtain ⟨fr, l3, e3, w3⟩ := opn_arr o3
  obtain ⟨-, ⟨tid, e4, w4⟩, o⟩ := o
  obtain ⟨-, ⟨sq, e5, w5⟩, o⟩ := o
  obtain ⟨-, ⟨rt, e6⟩, o⟩ := o
  obtain ⟨-, ⟨mo, e7⟩, o⟩ := o
  obtain ⟨-, ⟨eo, e8⟩, o⟩ := o
  obtain ⟨hl9, o9, o⟩ := o
  simp only [Sh1.size, Nat.reduceMul] at e1 e2 e3 e4 e5 e6 e7 e8 o9 o hl9
  have ho : _ = [] := o
  obtain ⟨v, e9⟩ : ∃ v, (List.drop 1 (List.drop 1 (List.drop 1 (List.drop 1 (List.drop 1 (List.drop 6 (List.drop 6 (List.drop 6 cs)))))))) = [v] := by
    obtain ⟨v, hv⟩ := List.length_eq_one_iff.1 hl9
    exact ⟨v, hv⟩
  rw [e9] at o9
  obtain ⟨a, cap, body, ev, hlc, -, hsrc, hwf⟩ := opn_ints o9
  refine ⟨⟨to, bss, fr, tid, sq, rt, mo, eo, body⟩, ⟨v, ?_, a, cap, ev, hlc, hsrc⟩, ⟨l1, l2, l3⟩, wf_byt w1, wf_byt w2, wf_byt w3, wf_byt hwf⟩
  have q : ∀ (k : Nat) (l : List Value), l = l.take k ++ l.drop k := fun k l => (List.take_append_drop k l).symm
  rw [q 6 cs, e1, q 6 (List.drop 6 cs), e2, q 6 (List.drop 6 (List.drop 6 cs)), e3, q 1 (List.drop 6 (List.drop 6 (List.drop 6 cs))), e4, q 1 (List.drop 1 (List.drop 6 (List.drop 6 (List.drop 6 cs)))), e5, q 1 (List.drop 1 (List.drop 1 (List.drop 6 (List.drop 6 (List.drop 6 cs))))), e6,
    q 1 (List.drop 1 (List.drop 1 (List.drop 1 (List.drop 6 (List.drop 6 (List.drop 6 cs)))))), e7, q 1 (List.drop 1 (List.drop 1 (List.drop 1 (List.drop 1 (List.drop 6 (List.drop 6 (List.drop 6 cs))))))), e8, e9]
  rfl
end Go.Proofs.YthlacliefgliiaaDoor
