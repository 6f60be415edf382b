/- A station that joins an access point. -/
import Derived.Test.YtgjbgcgjcamlgaaGreatDoorJoin
set_option linter.unusedVariables false
set_option linter.unusedSimpArgs false
set_option maxRecDepth 8000
namespace Go.Proofs.YtgjbgcgjcamlgaaGreatDoor
open Go.Vc
def oneS (aid weight : Int) : List Value := [.int .i64 aid, .int .i64 weight, .int .i64 0, .bool false, .int .i64 0]
def Sc.put (s : Sc) (k o : Nat) : Sc := { s with l := s.l.set k (.pointer (some ⟨o, 0, none⟩)) }
def Ap.setLs (x : Ap) (ls : List Value) : Ap := { x with ls := ls }
def pwC (us : List Value) (most : Int) : List Value := [.bool true, .bool false, .bool false, .bool false] ++ (us ++ [.int .i64 most, .int .i64 0])
/-- A station's line; its cells, of so many sessions. -/
def lineC (p : Option Addr) : List Value := [.pointer p, .int .i64 0, .bool false, .bool false, .bool false]
def airZ : List Value := [.int .i64 0, .int .i64 0, .int .i64 0, .int .i64 0]
def stC (r : List Value) (ps : List (Option Addr)) : List Value := ck (r ++ [.int .i64 0]) (ps.map lineC) airZ
section
variable {W W' : Wd} {h h' : Heap} {G : List Grp} {E : Grp} {ads : List Addr} {n k i j b o : Nat} {vs us cs : List Value} {x : Ap} {v : Value} {tm : List On} {T : TypeId} {l : List Int} {q : On}
theorem there_c {aid : Int} (h1 : 1 ≤ aid ∧ aid ≤ 16) (h : Heap) : Runs Tryz.prog 69 #[.int .i64 aid] h fun v h' => v = .bool true ∧ h' = h :=
  vc_sched_there _ _ _ (dcase_pos h1.1 ⟨by rw [decide_eq_true h1.2], rfl⟩)
theorem schedAdd_c {s : Sc} {weight : Int} (m : Me W h G) (i : Nat) (hi : G[i]? = some s.g) (hl : s.l.length = 16) (hk : k < 16) (hn : s.l[k]? = some (.pointer none)) (hw : 1 ≤ weight ∧ weight ≤ 100) :
    Runs Tryz.prog 33 #[.pointer (some ⟨s.b, 0, none⟩), .int .i64 ((k : Int) + 1), .int .i64 weight] h fun v h' => v = .nilIface ∧ ∃ W' o, W.le W' ∧ W' o = some (.cells (oneS ((k : Int) + 1) weight).toArray 179) ∧ Me W' h' (G.set i (s.put k o).g) := by
  refine vc_sched_Sched_Add _ _ _ _ _ ((there_c (by omega) _).ret ⟨_, rfl, bcase_false rfl ?_⟩)
  refine vc_sched_fair _ _ _ (dcase_pos hw.1 ⟨_, rfl, ?_⟩)
  rw [decide_eq_true hw.2]
  refine bcase_false rfl (vc_sched_Sched_of _ _ _ _ ((there_c (by omega) _).ret ⟨_, rfl, bcase_false rfl ⟨by simp only [fits]; omega, on_addr ⟨by omega, none, ?_, ⟨_, rfl, bcase_false rfl ?_⟩⟩⟩⟩))
  · refine m.cell i hi ?_
    rw [show 0 + ((k : Int) + 1 - 1).toNat = k by omega, List.getElem?_append_left (by omega)]; exact hn
  refine ⟨by simp only [fits]; omega, ?_⟩
  intro b1 h1 e1 e2
  have m1 := m.push e2 e1
  refine ⟨by omega, ?_⟩
  rw [show 0 + ((k : Int) + 1 - 1).toNat = k by omega]
  refine m1.store (i + 1) (by rw [List.getElem?_cons_succ]; exact hi) (by simp; omega) fun h2 m2 => ?_
  rw [List.set_cons_succ] at m2
  obtain ⟨W', hle, hx, m3⟩ := m2.give
  refine ⟨rfl, W', b1, hle, hx _ (List.mem_singleton.2 rfl), ?_⟩
  have e : (s.l ++ [Value.pointer (some ⟨s.t, 0, none⟩)]).set k (.pointer (some ⟨b1, 0, none⟩)) = (s.put k b1).l ++ [.pointer (some ⟨(s.put k b1).t, 0, none⟩)] := List.set_append_left _ _ (by omega)
  rw [e] at m3
  exact m3
theorem powerAdd_c (w : ApW x) {most : Int} (hi : i < 16) (hcs : x.pw[i]? = some cs) (h0 : cs[0]? = some (.bool false)) (hu : us.length = 4) (hu1 : ∀ u ∈ us, u.oneCell' = true) (hm : 0 ≤ most ∧ most ≤ 8) (m : Me W h ([(b, x.C, T)] :: G)) :
    Runs Tryz.prog 34 #[.pointer (some ⟨b, 0 + 150, none⟩), .int .i64 ((i : Int) + 1), .agg us.toArray, .int .i64 most] h fun v h' => v = .nilIface ∧ Me W h' ([(b, (x.setPw (x.pw.set i (pwC us most))).C, T)] :: G) := by
  have hlen := w.len
  have ea : 0 + 150 + ((i : Int) + 1 - 1).toNat * 10 = 150 + i * 10 := by omega
  refine vc_ps_Power_Add _ _ _ _ _ _ ?_
  intro b1 h1 e1 e2
  replace m := me_swap (m.push e2 e1)
  refine dcase_neg (by omega) (dcase_neg (by omega) (dcase_neg (by omega) (dcase_neg (by omega) ?_)))
  refine vc_ps_Power_of _ _ _ _ (dcase_neg (by omega) (dcase_neg (by omega) ⟨by simp only [fits]; omega, on_addr ⟨by omega, false, ?_, bcase_true rfl ⟨_, rfl, bcase_false rfl ⟨by simp only [fits]; omega, us, ?_, hu, ?_⟩⟩⟩⟩))
  · rw [ea]
    exact m.cell 0 rfl (w.pw_at (j := 0) hcs h0)
  · exact m.row 1 rfl (by rw [List.drop_zero]; exact List.take_of_length_le (by omega)) (by omega)
  refine on_addr ⟨by omega, ?_⟩
  rw [ea]
  refine ⟨⟨by simp [hu], m.wrs 0 rfl (by omega), ?_⟩, fun h2 e3 => ?_⟩
  · intro u hu'
    simp only [List.mem_append, List.mem_cons, List.not_mem_nil, or_false] at hu'
    rcases hu' with (rfl | rfl | rfl | rfl) | hu' | rfl | rfl
    · rfl
    · rfl
    · rfl
    · rfl
    · exact hu1 u hu'
    · rfl
    · rfl
  · have m2 := m.setr (us := pwC us most) 0 rfl e3
    simp only [List.set_cons_zero] at m2
    rw [w.pw_setL hcs (by simp [pwC, hu])] at m2
    exact ⟨rfl, (me_swap m2).drop1⟩
theorem cf_at {c : Cf} (h6 : c.bss.length = 6) : (cfC c)[11]? = some (.int .i64 c.wn) ∧ (cfC c)[12]? = some (.int .i64 c.rt) ∧ (cfC c)[13]? = some (.int .i64 c.lf) := by
  obtain ⟨bss, seed, pk, bt, tg, iv, wn, rt, lf, ag, tx, st, al⟩ := c
  dsimp only at h6
  obtain ⟨x1, x2, x3, x4, x5, x6, rfl⟩ := six_of' h6
  exact ⟨rfl, rfl, rfl⟩
theorem cf_row {c : Cf} (h6 : c.bss.length = 6) : ((cfC c).drop 0).take 6 = ints .u8 c.bss := by
  unfold cfC
  rw [List.drop_zero, List.take_append_of_le_length (by rw [ints_len, h6]; decide)]
  exact List.take_of_length_le (by rw [ints_len, h6]; decide)
theorem line_len {ps : List (Option Addr)} : ∀ c ∈ ps.map lineC, c.length = 5 := by
  intro c hc
  obtain ⟨p, -, rfl⟩ := List.mem_map.1 hc
  rfl
theorem stC_set {r : List Value} {ps : List (Option Addr)} {p : Option Addr} (hr : r.length = 5) (hk : ps[k]? = some none) : (stC r ps).set (6 + k * 5) (.pointer p) = stC r (ps.set k p) := by
  unfold stC
  rw [ck_set (n := 5) (k := k) (j := 0) (cs := lineC none) line_len (by rw [List.getElem?_map, hk]; rfl) (by simp [hr]) (by decide), List.map_set]
  rfl
theorem stC_len {r : List Value} {ps : List (Option Addr)} (hr : r.length = 5) (hp : ps.length = 8) : (stC r ps).length = 50 := by
  unfold stC
  rw [ck_len (n := 5) line_len, List.length_map, hp]; simp [hr, airZ]
end
end Go.Proofs.YtgjbgcgjcamlgaaGreatDoor
