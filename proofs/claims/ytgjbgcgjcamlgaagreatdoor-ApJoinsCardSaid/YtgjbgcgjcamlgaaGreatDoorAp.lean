/- An access point in memory; one that is made. -/
import Derived.Test.YtgjbgcgjcamlgaaGreatDoorMade
set_option linter.unusedVariables false
set_option linter.unusedSimpArgs false
set_option maxRecDepth 8000
namespace Go.Proofs.YtgjbgcgjcamlgaaGreatDoor
open Go.Vc
def one8 : List Value := [.bool false, .int .u8 0, .int .u8 0, .int .u8 0, .int .u8 0, .int .u8 0, .int .u8 0, .int .i64 0]
def one10 : List Value := [.bool false, .bool false, .bool false, .bool false, .bool false, .bool false, .bool false, .bool false, .int .i64 0, .int .i64 0]
def ed0 : List Value := [.bool false, .int .i64 0, .int .i64 0, .bool false, .int .i64 0, .int .i64 0, .bool false, .int .i64 0, .int .i64 0, .bool false, .int .i64 0, .int .i64 0]
/-- An access point's cells. -/
structure Ap where
  cc : List Value
  now : Int
  tb : List (List Value)
  pw : List (List Value)
  mid : List Value
  ts : List Value
  ed : List Value
  ls : List Value
  num : Int
  wy : Value
def Ap.C (x : Ap) : List Value := x.cc ++ (.int .i64 x.now :: (x.tb.flatten ++ (x.pw.flatten ++ (x.mid ++ (x.ts ++ (x.ed ++ (x.ls ++ [.int .i64 x.num, x.wy])))))))
structure ApW (x : Ap) : Prop where
  cc : x.cc.length = 21
  t16 : x.tb.length = 16
  t8 : ∀ c ∈ x.tb, c.length = 8
  p16 : x.pw.length = 16
  p10 : ∀ c ∈ x.pw, c.length = 10
  mid : x.mid.length = 3
  ts : x.ts.length = 4
  ed : x.ed.length = 12
  ls : x.ls.length = 16
/-- A scheduler: its block, its turns', who is there. -/
structure Sc where
  b : Nat
  t : Nat
  l : List Value
def Sc.g (s : Sc) : Grp := [(s.b, s.l ++ [.pointer (some ⟨s.t, 0, none⟩)], 167)]
def ap0 (c : Cf) (p : Addr) (bl : Nat) (ts : List Value) : Ap := ⟨cfC c, 0, List.replicate 16 one8, List.replicate 16 one10, [.slice none 0 0, .pointer (some p), .pointer (some ⟨bl, 0, none⟩)], ts, ed0, List.replicate 16 (.pointer none), 0, .slice none 0 0⟩
section
variable {W W' : Wd} {h h' : Heap} {G : List Grp} {E : Grp} {ads : List Addr} {a : Option Addr} {n k i : Nat} {vs us A B : List Value} {x : Ap} {v : Value}
theorem at_r (hA : A.length = n) : (A ++ B)[n + k]? = B[k]? := by rw [List.getElem?_append_right (by omega), hA, Nat.add_sub_cancel_left]
theorem set_r (hA : A.length = n) : (A ++ B).set (n + k) v = A ++ B.set k v := by rw [List.set_append_right _ _ (by omega), hA, Nat.add_sub_cancel_left]
theorem drop_r (hA : A.length = n) : (A ++ B).drop (n + k) = B.drop k := by subst hA; rw [List.drop_append]; simp
theorem ApW.tl (w : ApW x) : x.tb.flatten.length = 128 := by rw [flat_len w.t8, w.t16]
theorem ApW.pl (w : ApW x) : x.pw.flatten.length = 160 := by rw [flat_len w.p10, w.p16]
theorem ApW.len (w : ApW x) : x.C.length = 347 := by
  unfold Ap.C
  simp only [List.length_append, List.length_cons, w.cc, w.tl, w.pl, w.mid, w.ts, w.ed, w.ls, List.length_nil]
/-- Ahead of the turns; ahead of the stations. -/
theorem ApW.c313 (w : ApW x) : ∃ P, P.length = 313 ∧ x.C = P ++ (x.ts ++ (x.ed ++ (x.ls ++ [.int .i64 x.num, x.wy]))) ∧ ∀ ts', ({ x with ts := ts' } : Ap).C = P ++ (ts' ++ (x.ed ++ (x.ls ++ [.int .i64 x.num, x.wy]))) := by
  refine ⟨x.cc ++ (.int .i64 x.now :: (x.tb.flatten ++ (x.pw.flatten ++ x.mid))), ?_, ?_, fun ts' => ?_⟩
  · simp only [List.length_append, List.length_cons, w.cc, w.tl, w.pl, w.mid]
  · unfold Ap.C; simp only [List.append_assoc, List.cons_append]
  · unfold Ap.C; simp only [List.append_assoc, List.cons_append]
theorem ApW.c329 (w : ApW x) : ∃ P, P.length = 329 ∧ x.C = P ++ (x.ls ++ [.int .i64 x.num, x.wy]) ∧ ∀ ls', ({ x with ls := ls' } : Ap).C = P ++ (ls' ++ [.int .i64 x.num, x.wy]) := by
  refine ⟨x.cc ++ (.int .i64 x.now :: (x.tb.flatten ++ (x.pw.flatten ++ (x.mid ++ (x.ts ++ x.ed))))), ?_, ?_, fun ts' => ?_⟩
  · simp only [List.length_append, List.length_cons, w.cc, w.tl, w.pl, w.mid, w.ts, w.ed]
  · unfold Ap.C; simp only [List.append_assoc, List.cons_append]
  · unfold Ap.C; simp only [List.append_assoc, List.cons_append]
theorem ApW.c317 (w : ApW x) : ∃ P, P.length = 317 ∧ x.C = P ++ (x.ed ++ (x.ls ++ [.int .i64 x.num, x.wy])) ∧ ∀ ed', ({ x with ed := ed' } : Ap).C = P ++ (ed' ++ (x.ls ++ [.int .i64 x.num, x.wy])) := by
  refine ⟨x.cc ++ (.int .i64 x.now :: (x.tb.flatten ++ (x.pw.flatten ++ (x.mid ++ x.ts)))), ?_, ?_, fun ts' => ?_⟩
  · simp only [List.length_append, List.length_cons, w.cc, w.tl, w.pl, w.mid, w.ts]
  · unfold Ap.C; simp only [List.append_assoc, List.cons_append]
  · unfold Ap.C; simp only [List.append_assoc, List.cons_append]
theorem ApW.ts_at (w : ApW x) {v : Value} (hv : x.ts[k]? = some v) : x.C[313 + k]? = some v := by
  obtain ⟨P, h1, h2, -⟩ := w.c313
  have hk := (List.getElem?_eq_some_iff.1 hv).1
  rw [h2, at_r h1, List.getElem?_append_left hk]; exact hv
theorem ApW.ts_set (w : ApW x) (hk : k < 4) : x.C.set (313 + k) v = ({ x with ts := x.ts.set k v } : Ap).C := by
  obtain ⟨P, h1, h2, h3⟩ := w.c313
  rw [h2, set_r h1, h3, List.set_append_left _ _ (by rw [w.ts]; exact hk)]
theorem ApW.ts_row (w : ApW x) : (x.C.drop 313).take 4 = x.ts := by
  obtain ⟨P, h1, h2, -⟩ := w.c313
  rw [h2, show 313 = 313 + 0 from rfl, drop_r h1, List.drop_zero, ← w.ts, List.take_left]
theorem ApW.ls_at (w : ApW x) {v : Value} (hv : x.ls[k]? = some v) : x.C[329 + k]? = some v := by
  obtain ⟨P, h1, h2, -⟩ := w.c329
  have hk := (List.getElem?_eq_some_iff.1 hv).1
  rw [h2, at_r h1, List.getElem?_append_left hk]; exact hv
theorem ApW.ls_set (w : ApW x) (hk : k < 16) : x.C.set (329 + k) v = ({ x with ls := x.ls.set k v } : Ap).C := by
  obtain ⟨P, h1, h2, h3⟩ := w.c329
  rw [h2, set_r h1, h3, List.set_append_left _ _ (by rw [w.ls]; exact hk)]
theorem ApW.cc_at (w : ApW x) {v : Value} (hv : x.cc[k]? = some v) : x.C[k]? = some v := by
  have hk := (List.getElem?_eq_some_iff.1 hv).1
  unfold Ap.C; rw [List.getElem?_append_left hk]; exact hv
theorem ApW.cc_row (w : ApW x) {j m : Nat} (hj : j + m ≤ 21) : (x.C.drop j).take m = (x.cc.drop j).take m := by
  have := w.cc
  unfold Ap.C
  rw [List.drop_append_of_le_length (by omega), List.take_append_of_le_length (by rw [List.length_drop]; omega)]
theorem ApW.now_at (w : ApW x) : x.C[21]? = some (.int .i64 x.now) := by
  unfold Ap.C; rw [show 21 = 21 + 0 from rfl, at_r w.cc]; rfl
theorem ApW.now_set (w : ApW x) (z : Int) : x.C.set 21 (.int .i64 z) = ({ x with now := z } : Ap).C := by
  unfold Ap.C; rw [show 21 = 21 + 0 from rfl, set_r w.cc]; rfl
theorem ApW.tbC (w : ApW x) : x.C = ck (x.cc ++ [.int .i64 x.now]) x.tb (x.pw.flatten ++ (x.mid ++ (x.ts ++ (x.ed ++ (x.ls ++ [.int .i64 x.num, x.wy]))))) := by
  unfold Ap.C ck; simp only [List.append_assoc, List.cons_append, List.nil_append]
theorem ApW.pwC (w : ApW x) : x.C = ck (x.cc ++ (.int .i64 x.now :: x.tb.flatten)) x.pw (x.mid ++ (x.ts ++ (x.ed ++ (x.ls ++ [.int .i64 x.num, x.wy])))) := by
  unfold Ap.C ck; simp only [List.append_assoc, List.cons_append]
theorem ApW.tb_row (w : ApW x) : (x.C.drop 22).take 128 = x.tb.flatten := by
  rw [w.tbC]; unfold ck
  rw [show 22 = 22 + 0 from rfl, drop_r (by simp [w.cc]), List.drop_zero, ← w.tl, List.take_left]
/-- What is taken in turn from queues is numbered so. -/
theorem schedNew_c (m : Me W h G) : Runs Tryz.prog 28 #[] h fun v h' => ∃ s t, v = .pointer (some ⟨s, 0, none⟩) ∧ Me W h' ((⟨s, t, List.replicate 16 (.pointer none)⟩ : Sc).g :: G) := by
  refine vc_sched_New _ _ ?_
  intro b1 h1 e1 e2 b2 h2 e3 e4
  exact ⟨b2, b1, rfl, (me_swap ((m.push e2 e1).push e4 e3)).drop1⟩
theorem me_put {X Y : Grp} {A : List Grp} (m : Me W h (X :: Y :: (A ++ G))) : Me W h (Y :: ((A ++ [X]) ++ G)) := m.perm (by
  simp only [List.flatten_cons, List.flatten_append, List.flatten_nil, List.append_nil]
  rw [← List.append_assoc X Y]
  refine (List.perm_append_comm.append_right _).trans ?_
  rw [List.append_assoc]
  refine List.Perm.append_left _ ?_
  rw [← List.append_assoc]
  exact List.perm_append_comm.append_right _)
/-- What an access point is that was made. -/
def NewV (W : Wd) (G : List Grp) (R : Addr → Grp → Prop) (c : Cf) (v : Value) (h' : Heap) : Prop :=
  ∃ b p bl E, ∃ ss : List Sc, v = .tuple #[.pointer (some ⟨b, 0, none⟩), .nilIface] ∧ R p E ∧ ss.length = 4 ∧ (∀ s ∈ ss, s.l = List.replicate 16 (.pointer none)) ∧
    Me W h' ([(b, (ap0 c p bl (ss.map fun s => .pointer (some ⟨s.b, 0, none⟩))).C, 101)] :: ((ss.map Sc.g) ++ ([(bl, limC c.st c.al (List.replicate 16 0), 158)] :: E :: G)))
theorem ap0_w {c : Cf} {p : Addr} {bl : Nat} {ts : List Value} (h1 : c.bss.length = 6) (h2 : c.tx.length = 4) (h4 : ts.length = 4) : ApW (ap0 c p bl ts) :=
  ⟨by simp [ap0, cfC, ints, h1, h2], by simp [ap0], by intro c hc; rw [List.eq_of_mem_replicate hc]; rfl, by simp [ap0], by intro c hc; rw [List.eq_of_mem_replicate hc]; rfl, rfl, h4, rfl, by simp [ap0]⟩
set_option maxHeartbeats 400000 in
theorem new_c (s : Snt W ads) {c : Cf} (m : Me W h G) (R : Addr → Grp → Prop) (h6 : c.bss.length = 6) (h4 : c.tx.length = 4)
    (hp : ∀ {h : Heap} {G : List Grp}, Me W h G → Runs Tryz.prog 22 #[.int .u32 c.seed, .int .i64 c.tg, .int .i64 c.iv, .int .i64 c.pk, .int .i64 c.bt] h fun v h' => (okPool c.pk c.bt ∧ ∃ p E, v = .tuple #[.pointer (some p), .nilIface] ∧ Me W h' (E :: G) ∧ R p E) ∨ (¬ okPool c.pk c.bt ∧ v = .tuple #[.pointer none, erV ads (some 2)] ∧ h' = h)) :
    Runs Tryz.prog 8 #[.agg (cfC c).toArray] h fun v h' => (CfOk c ∧ NewV W G R c v h') ∨ (¬ CfOk c ∧ v = .tuple #[.pointer none, erV ads (some 2)] ∧ Me W h' G) := by
  have hcl : (cfC c).length = 21 := by simp [cfC, ints, h6, h4]
  obtain ⟨bss, seed, pk, bt, tg, iv, wn, rt, lf, ag, tx, st, al⟩ := c
  dsimp only at h6 h4 hp
  obtain ⟨x1, x2, x3, x4, x5, x6, rfl⟩ := six_of' h6
  obtain ⟨t1, t2, t3, t4, rfl⟩ := four_of h4
  obtain ⟨e, he⟩ : ∃ e, erV ads (some 2) = ptE e := by
    obtain ⟨e, -, h2⟩ := s.get (i := 2) (by decide)
    exact ⟨e, h2⟩
  refine vc_ap_New _ _ _ ?_
  intro b1 g1 e1 e2
  replace m := m.push e2 e1
  refine ⟨seed, m.cell 0 rfl rfl, tg, m.cell 0 rfl rfl, iv, m.cell 0 rfl rfl, pk, m.cell 0 rfl rfl, bt, m.cell 0 rfl rfl, (hp m).mono ?_⟩
  rintro _ g2 (⟨okp, p, E, rfl, m, hR⟩ | ⟨nop, rfl, rfl⟩)
  rotate_left
  · refine ⟨_, _, rfl, false, by rw [he]; rfl, bcase_true rfl (.inr ⟨fun h => nop h.p, rfl, m.drop1⟩)⟩
  refine ⟨_, _, rfl, true, rfl, bcase_false rfl ?_⟩
  refine ⟨wn, m.cell 1 rfl rfl, rt, m.cell 1 rfl rfl, lf, m.cell 1 rfl rfl, ?_⟩
  by_cases okb : okBa wn rt lf
  rotate_left
  · refine (baNew_no s m okb).ret ⟨_, _, rfl, false, by rw [he]; rfl, bcase_true rfl (.inr ⟨fun h => okb h.b, rfl, m.drop1.drop1⟩)⟩
  refine (baNew_c m okb).mono ?_
  rintro _ g3 ⟨ba, bw, rfl, m⟩
  replace m := m.drop1
  refine ⟨_, _, rfl, true, rfl, bcase_false rfl ?_⟩
  refine ⟨st, m.cell 1 rfl rfl, al, m.cell 1 rfl rfl, ?_⟩
  by_cases oka : okAql st al
  rotate_left
  · refine (aqlNew_no s m oka).ret ⟨_, _, rfl, false, by rw [he]; rfl, bcase_true rfl (.inr ⟨fun h => oka h.a, rfl, m.drop1.drop1⟩)⟩
  refine (aqlNew_c m oka).mono ?_
  rintro _ g4 ⟨bl, rfl, m⟩
  refine ⟨_, _, rfl, true, rfl, bcase_false rfl ?_⟩
  refine ⟨fun x h => h = g4 ∧ (x = false ↔ 0 ≤ tg ∧ tg ≤ 1073741824), ⟨tg, m.cell 2 rfl rfl, dcase_intro (fun q => ⟨rfl, ⟨(fun h => by cases h), fun h => by omega⟩⟩) fun q => ⟨tg, m.cell 2 rfl rfl, rfl, ⟨fun h => by have := of_decide_eq_false h; omega, fun h => decide_eq_false (by omega)⟩⟩⟩, fun _ => ?_⟩
  rintro y1 g4 ⟨rfl, hy1⟩
  refine ⟨fun x h => h = g4 ∧ (x = false ↔ (0 ≤ tg ∧ tg ≤ 1073741824) ∧ 0 ≤ iv), bcase_intro (fun q => ⟨rfl, ⟨(fun h => by cases h), fun h => by rw [hy1.2 h.1] at q; cases q⟩⟩) (fun q => ⟨iv, m.cell 2 rfl rfl, rfl, ⟨fun h => ⟨hy1.1 q, by have := of_decide_eq_false h; omega⟩, fun h => decide_eq_false (by omega)⟩⟩), fun _ => ?_⟩
  rintro y2 g4 ⟨rfl, hy2⟩
  refine ⟨fun x h => h = g4 ∧ (x = false ↔ ((0 ≤ tg ∧ tg ≤ 1073741824) ∧ 0 ≤ iv) ∧ iv ≤ 1073741824), bcase_intro (fun q => ⟨rfl, ⟨(fun h => by cases h), fun h => by rw [hy2.2 h.1] at q; cases q⟩⟩) (fun q => ⟨iv, m.cell 2 rfl rfl, rfl, ⟨fun h => ⟨hy2.1 q, by have := of_decide_eq_false h; omega⟩, fun h => decide_eq_false (by omega)⟩⟩), fun _ => ?_⟩
  rintro y3 g4 ⟨rfl, hy3⟩
  refine ⟨fun x h => h = g4 ∧ (x = false ↔ (((0 ≤ tg ∧ tg ≤ 1073741824) ∧ 0 ≤ iv) ∧ iv ≤ 1073741824) ∧ 1 ≤ ag), bcase_intro (fun q => ⟨rfl, ⟨(fun h => by cases h), fun h => by rw [hy3.2 h.1] at q; cases q⟩⟩) (fun q => ⟨ag, m.cell 2 rfl rfl, rfl, ⟨fun h => ⟨hy3.1 q, by have := of_decide_eq_false h; omega⟩, fun h => decide_eq_false (by omega)⟩⟩), fun _ => ?_⟩
  rintro y4 g4 ⟨rfl, hy4⟩
  refine ⟨fun x h => h = g4 ∧ (x = false ↔ ((((0 ≤ tg ∧ tg ≤ 1073741824) ∧ 0 ≤ iv) ∧ iv ≤ 1073741824) ∧ 1 ≤ ag) ∧ ag ≤ 65535), bcase_intro (fun q => ⟨rfl, ⟨(fun h => by cases h), fun h => by rw [hy4.2 h.1] at q; cases q⟩⟩) (fun q => ⟨ag, m.cell 2 rfl rfl, rfl, ⟨fun h => ⟨hy4.1 q, by have := of_decide_eq_false h; omega⟩, fun h => decide_eq_false (by omega)⟩⟩), fun _ => ?_⟩
  rintro y5 g4 ⟨rfl, hy5⟩
  refine ⟨fun x h => h = g4 ∧ (x = false ↔ (((((0 ≤ tg ∧ tg ≤ 1073741824) ∧ 0 ≤ iv) ∧ iv ≤ 1073741824) ∧ 1 ≤ ag) ∧ ag ≤ 65535) ∧ okTx [t1, t2, t3, t4]), bcase_intro (fun q => ⟨rfl, ⟨(fun h => by cases h), fun h => by rw [hy5.2 h.1] at q; cases q⟩⟩) (fun q => ?_), fun _ => ?_⟩
  · refine (longs_c (tx := [t1, t2, t3, t4]) m 2 rfl rfl (fun k x hk => ?_)).mono ?_
    · have hk4 := (List.getElem?_eq_some_iff.1 hk).1
      have : k = 0 ∨ k = 1 ∨ k = 2 ∨ k = 3 := by simp at hk4; omega
      rcases this with rfl | rfl | rfl | rfl <;> (simp at hk; subst hk; rfl)
    · rintro _ _ ⟨⟨t, rfl, ht⟩, rfl⟩
      exact ⟨t, rfl, rfl, ⟨fun h => ⟨hy5.1 q, ht.1 h⟩, fun h => ht.2 h.2⟩⟩
  rintro y6 g4 ⟨rfl, hy6⟩
  refine bcase_intro (fun q => ?_) fun q => ?_
  · obtain ⟨e', he', hc'⟩ := rangeE s m
    refine ⟨_, hc', .inr ⟨fun h => ?_, by rw [he'], m.drop1.drop1.drop1⟩⟩
    rw [hy6.2 ⟨h.n, h.t⟩] at q; cases q
  have hnt := hy6.1 q
  refine ⟨_, m.row 2 rfl rfl (Nat.le_of_ble_eq_true rfl), ?_⟩
  refine (fair_c (l := [x1, x2, x3, x4, x5, x6]) m rfl).mono ?_
  rintro _ g5 ⟨rfl, m⟩
  refine ⟨_, rfl, bcase_intro (fun q2 => ?_) fun q2 => ?_⟩
  · obtain ⟨e', he', hc'⟩ := rangeE s m
    refine ⟨_, hc', .inr ⟨fun h => ?_, by rw [he'], m.drop1.drop1.drop1⟩⟩
    have := h.f
    dsimp only at this
    rw [this] at q2; cases q2
  have hfair : fairB [x1, x2, x3, x4, x5, x6] = true := by simpa using q2
  obtain ⟨c, hc⟩ : ∃ c : Cf, c = ⟨[x1, x2, x3, x4, x5, x6], seed, pk, bt, tg, iv, wn, rt, lf, ag, [t1, t2, t3, t4], st, al⟩ := ⟨_, rfl⟩
  have hok : CfOk c := by rw [hc]; exact ⟨okp, okb, oka, hnt.1, hnt.2, hfair⟩
  have hst : st = c.st ∧ al = c.al := by rw [hc]; exact ⟨rfl, rfl⟩
  have hc6 : c.bss.length = 6 := by rw [hc]; rfl
  have hc4 : c.tx.length = 4 := by rw [hc]; rfl
  rw [← hc] at hcl m ⊢
  refine ⟨cfC c, m.row 2 rfl (by rw [List.drop_zero]; exact List.take_of_length_le (by omega)) (by omega), hcl, ?_⟩
  intro b2 g6 e3 e4
  replace e4 : g6 = g5.push (.cells (ap0 c p bl (List.replicate 4 (.pointer none))).C.toArray 101) := e4.trans (by kernel_rfl)
  replace m := m.push e4 e3
  have hmv : Me W g6 ([(b2, (ap0 c p bl (List.replicate 4 (.pointer none))).C, 101)] :: (([] : List Sc).map Sc.g ++ ([(bl, limC c.st c.al (List.replicate 16 0), 158)] :: E :: G))) := by
    rw [← hst.1, ← hst.2]
    have m2 : Me W g6 ([(b2, (ap0 c p bl (List.replicate 4 (.pointer none))).C, 101)] :: [(bl, limC st al (List.replicate 16 0), 158)] :: E :: [(b1, cfC c, 28)] :: G) := m
    exact m2.sub ⟨[(b1, cfC c, 28)], by
      simp only [List.map_nil, List.nil_append, List.flatten_cons, List.append_assoc]
      exact List.Perm.append_left _ (List.Perm.append_left _ (List.Perm.append_left _ List.perm_append_comm))⟩
  rw [show List.replicate 4 (Value.pointer none) = ([] : List Sc).map (fun s => Value.pointer (some ⟨s.b, 0, none⟩)) ++ List.replicate (4 - 0) (.pointer none) from rfl] at hmv
  have hl0 : ∀ s ∈ ([] : List Sc), s.l = List.replicate 16 (.pointer none) := fun s hs => by cases hs
  refine ⟨fun x h => ∃ (k : Nat) (ss : List Sc), x = k ∧ k ≤ 4 ∧ ss.length = k ∧ (∀ s ∈ ss, s.l = List.replicate 16 (.pointer none)) ∧
      Me W h ([(b2, (ap0 c p bl (ss.map (fun s => Value.pointer (some ⟨s.b, 0, none⟩)) ++ List.replicate (4 - k) (.pointer none))).C, 101)] :: (ss.map Sc.g ++ ([(bl, limC c.st c.al (List.replicate 16 0), 158)] :: E :: G))),
    fun x _ => (4 - x).toNat, ?_, ?_⟩
  · refine ⟨0, [], rfl, Nat.zero_le 4, rfl, hl0, ?_⟩
    simp only [List.map_nil, List.nil_append, Nat.sub_zero] at hmv ⊢
    exact hmv
  intro _
  clear hmv m
  rintro _ g7 ⟨k, ss, rfl, hk, hss, hsl, m⟩
  refine dcase_intro (fun q3 => ?_) fun q3 => ?_
  · refine (schedNew_c m).mono ?_
    rintro _ g8 ⟨sb, stt, rfl, m8⟩
    have hw : ApW (ap0 c p bl (ss.map (fun s => Value.pointer (some ⟨s.b, 0, none⟩)) ++ List.replicate (4 - k) (.pointer none))) := ap0_w hc6 hc4 (by simp; omega)
    refine ⟨_, rfl, ⟨by omega, by omega⟩, ?_⟩
    rw [show ((k : Int)).toNat = k from rfl]
    refine m8.store 1 rfl (by rw [hw.len]; omega) fun g9 m9 => ?_
    simp only [List.set_cons_zero, List.set_cons_succ] at m9
    rw [hw.ts_set (by omega)] at m9
    have ets : (ss.map (fun (s : Sc) => Value.pointer (some ⟨s.b, 0, none⟩)) ++ List.replicate (4 - k) (Value.pointer none)).set k (.pointer (some ⟨sb, 0, none⟩)) = (ss ++ [(⟨sb, stt, List.replicate 16 (Value.pointer none)⟩ : Sc)]).map (fun (s : Sc) => Value.pointer (some ⟨s.b, 0, none⟩)) ++ List.replicate (4 - (k + 1)) (Value.pointer none) := by
      have hl : (ss.map (fun (s : Sc) => Value.pointer (some ⟨s.b, 0, none⟩))).length = k := by simp [hss]
      have := set_r (A := ss.map (fun (s : Sc) => Value.pointer (some ⟨s.b, 0, none⟩))) (B := List.replicate (4 - k) (Value.pointer none)) (k := 0) (v := .pointer (some ⟨sb, 0, none⟩)) hl
      rw [Nat.add_zero] at this
      rw [this, show 4 - k = (4 - (k + 1)) + 1 by omega, List.replicate_succ, List.set_cons_zero, List.map_append, List.append_assoc]; rfl
    refine ⟨by simp only [fits]; omega, ⟨k + 1, ss ++ [⟨sb, stt, List.replicate 16 (.pointer none)⟩], rfl, by omega, by simp [hss], ?_, ?_⟩, by dsimp only; omega⟩
    · intro s hs
      rcases List.mem_append.1 hs with h | h
      · exact hsl s h
      · simp at h; subst h; rfl
    · have m10 := me_put m9
      have em : (ss ++ [(⟨sb, stt, List.replicate 16 (.pointer none)⟩ : Sc)]).map Sc.g = ss.map Sc.g ++ [(⟨sb, stt, List.replicate 16 (.pointer none)⟩ : Sc).g] := by rw [List.map_append]; rfl
      rw [em, ← ets]
      exact m10
  · obtain rfl : k = 4 := by omega
    rw [show 4 - 4 = 0 from rfl, List.replicate_zero, List.append_nil] at m
    exact .inl ⟨hok, b2, p, bl, E, ss, rfl, hR, hss, hsl, m⟩
end
end Go.Proofs.YtgjbgcgjcamlgaaGreatDoor
