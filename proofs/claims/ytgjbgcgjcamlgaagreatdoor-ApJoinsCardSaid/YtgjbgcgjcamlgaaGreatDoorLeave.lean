/- A station that leaves an access point of nothing. -/
import Derived.Test.YtgjbgcgjcamlgaaGreatDoorPl
set_option linter.unusedVariables false
set_option linter.unusedSimpArgs false
set_option maxRecDepth 8000
namespace Go.Proofs.YtgjbgcgjcamlgaaGreatDoor
open Go.Vc
def Sc.cut (s : Sc) (k : Nat) : Sc := { s with l := s.l.set k (.pointer none) }
section
variable {W W' : Wd} {h h' : Heap} {G : List Grp} {E Q : Grp} {ads : List Addr} {n k i j b o : Nat} {vs us cs : List Value} {x : Ap} {v : Value} {tm : List On} {T : TypeId} {l : List Int} {q : On} {ss : List Sc} {c : Cf}
theorem wcell_of {e : TypeId} {r : Nat × Nat} (hW : W b = some (.cells cs.toArray e r)) (hv : cs[o]? = some v) : wcell W b o = some v := by
  unfold wcell
  rw [hW]
  simpa using hv
theorem ApW.mid_at (w : ApW x) (hv : x.mid[k]? = some v) : x.C[310 + k]? = some v := by
  have hk := (List.getElem?_eq_some_iff.1 hv).1
  have e : x.C = (x.cc ++ (.int .i64 x.now :: (x.tb.flatten ++ x.pw.flatten))) ++ (x.mid ++ (x.ts ++ (x.ed ++ (x.ls ++ [.int .i64 x.num, x.wy])))) := by
    unfold Ap.C; simp only [List.append_assoc, List.cons_append]
  rw [e, at_r (by simp only [List.length_append, List.length_cons, w.cc, w.tl, w.pl]), List.getElem?_append_left hk]; exact hv
theorem ApW.wy_at (w : ApW x) : x.C[346]? = some x.wy := by
  obtain ⟨P, h1, h2, -⟩ := w.c329
  rw [h2, show 346 = 329 + (16 + 1) from rfl, at_r h1, at_r w.ls]; rfl
theorem Ap.C345 (x : Ap) : x.C = (x.cc ++ (.int .i64 x.now :: (x.tb.flatten ++ (x.pw.flatten ++ (x.mid ++ (x.ts ++ (x.ed ++ x.ls))))))) ++ [.int .i64 x.num, x.wy] := by
  unfold Ap.C; simp only [List.append_assoc, List.cons_append]
def Ap.setWy (x : Ap) (v : Value) : Ap := { x with wy := v }
theorem ApW.wy_set (w : ApW x) : x.C.set 346 v = (x.setWy v).C := by
  rw [Ap.C345, Ap.C345, show 346 = 345 + 1 from rfl, set_r (by simp only [List.length_append, List.length_cons, w.cc, w.tl, w.pl, w.mid, w.ts, w.ed, w.ls])]
  rfl
theorem apOf_c (w : ApW x) (m : Me W h G) (i : Nat) (hi : G[i]? = some [(b, x.C, T)]) (hk : k < 16) {p : Option Addr} (hp : x.ls[k]? = some (.pointer p)) :
    Runs Tryz.prog 35 #[.pointer (some ⟨b, 0, none⟩), .int .i64 ((k : Int) + 1)] h fun v h' => v = .pointer p ∧ h' = h :=
  vc_ap_AP_of _ _ _ _ (dcase_neg (by omega) (dcase_neg (by omega) ⟨by simp only [fits]; omega, on_addr ⟨by omega, p, by
    rw [show 0 + 329 + ((k : Int) + 1 - 1).toNat = 329 + k by omega]
    exact m.cell i hi (w.ls_at hp), rfl, rfl⟩⟩))
theorem out0_c {p w : Nat} {wn rt lf : Int} {e : TypeId} {r : Nat × Nat} (m : Me W h G) (hs : W p = some (.cells (baC w wn rt lf).toArray e r)) :
    Runs Tryz.prog 40 #[.pointer (some ⟨p, 0, none⟩)] h fun v h' => v = .slice none 0 0 ∧ h' = h := by
  refine vc_ba_Session_Out _ _ _ (vc_ba_Session_list _ _ _ _ (on_addr ⟨none, 0, 0, m.wcell (wcell_of hs rfl), ?_⟩))
  refine ⟨fun a l c z h' => a = none ∧ l = 0 ∧ c = 0 ∧ z = 0 ∧ h' = h, fun _ _ _ _ _ => 0, ⟨rfl, rfl, rfl, rfl, rfl⟩, fun _ => ?_⟩
  rintro _ _ _ _ h2 ⟨rfl, rfl, rfl, rfl, rfl⟩
  exact dcase_neg (by decide) ⟨none, 0, 0, rfl, rfl, rfl⟩
theorem drop0_c {a s : Option Addr} {c : Nat} (r : Int) (h : Heap) : Runs Tryz.prog 38 #[.pointer a, .int .i64 r, .slice s 0 c] h fun v h' => h' = h := by
  refine vc_ap_AP_drop _ _ _ _ _ _ _ ⟨fun z h' => z = 0 ∧ h' = h, fun _ _ => 0, ⟨rfl, rfl⟩, fun _ => ?_⟩
  rintro _ h2 ⟨rfl, rfl⟩
  exact dcase_neg (by decide) rfl
theorem del0_c (f : Value) (h : Heap) : Runs Tryz.prog 41 #[.slice none 0 0, f] h fun v h' => v = .slice none 0 0 ∧ h' = h := by
  refine vc_slices_DeleteFunc_under _ _ _ _ _ _ (vc_slices_IndexFunc_under _ _ _ _ _ _ ?_)
  refine ⟨fun z h' => z = 0 ∧ h' = h, fun _ _ => 0, ⟨rfl, rfl⟩, fun _ => ?_⟩
  rintro _ h2 ⟨rfl, rfl⟩
  exact dcase_neg (by decide) ⟨-1, rfl, dcase_pos rfl ⟨rfl, rfl⟩⟩
theorem clear_c (m : Me W h G) (i : Nat) (hi : G[i]? = some [(b, vs, T)]) (hl : vs.length = 18) :
    Runs Tryz.prog 43 #[.pointer (some ⟨b, 0, none⟩), .int .i64 1] h fun v h' => ∃ vs', Me W h' (G.set i [(b, vs', T)]) := by
  refine vc_aql_Limit_Clear _ _ _ _ (vc_aql_there _ _ _ (dcase_pos (by decide) ⟨true, rfl, bcase_true rfl ⟨by simp only [fits]; omega, on_addr ⟨by decide, ?_⟩⟩⟩))
  exact m.store i hi (by show 0 + 2 + 0 < vs.length; omega) fun h2 m2 => ⟨_, m2⟩
theorem schedDel_c {s : Sc} {weight : Int} {e : TypeId} {r : Nat × Nat} (m : Me W h G) (i : Nat) (hi : G[i]? = some s.g) (hl : s.l.length = 16) (hk : k < 16) (ho : s.l[k]? = some (.pointer (some ⟨o, 0, none⟩))) (hW : W o = some (.cells (oneS ((k : Int) + 1) weight).toArray e r)) :
    Runs Tryz.prog 44 #[.pointer (some ⟨s.b, 0, none⟩), .int .i64 ((k : Int) + 1)] h fun v h' => v = .nilIface ∧ Me W h' (G.set i (s.cut k).g) := by
  refine vc_sched_Sched_Del _ _ _ _ (vc_sched_Sched_of _ _ _ _ ((there_c (by omega) _).ret ⟨_, rfl, bcase_false rfl ⟨by simp only [fits]; omega, on_addr ⟨by omega, some ⟨o, 0, none⟩, ?_, ⟨_, rfl, bcase_false rfl (on_addr ⟨false, m.wcell (wcell_of hW rfl), bcase_false rfl ⟨by simp only [fits]; omega, on_addr ⟨by omega, ?_⟩⟩⟩)⟩⟩⟩⟩))
  · refine m.cell i hi ?_
    rw [show 0 + ((k : Int) + 1 - 1).toNat = k by omega, List.getElem?_append_left (by omega)]; exact ho
  · rw [show 0 + ((k : Int) + 1 - 1).toNat = k by omega]
    refine m.store i hi (by simp; omega) fun h2 m2 => ⟨rfl, ?_⟩
    have e : (s.l ++ [Value.pointer (some ⟨s.t, 0, none⟩)]).set k (.pointer none) = (s.cut k).l ++ [.pointer (some ⟨(s.cut k).t, 0, none⟩)] := List.set_append_left _ _ (by omega)
    rw [e] at m2
    exact m2
theorem powerDel_c (w : ApW x) (hi : i < 16) (hcs : x.pw[i]? = some cs) (h0 : cs[0]? = some (.bool true)) (m : Me W h ([(b, x.C, T)] :: G)) :
    Runs Tryz.prog 45 #[.pointer (some ⟨b, 0 + 150, none⟩), .int .i64 ((i : Int) + 1)] h fun v h' => Me W h' ([(b, (x.setPw (x.pw.set i one10)).C, T)] :: G) := by
  have hlen := w.len
  have ea : 0 + 150 + ((i : Int) + 1 - 1).toNat * 10 = 150 + i * 10 := by omega
  refine vc_ps_Power_Del _ _ _ _ (vc_ps_Power_of _ _ _ _ (dcase_neg (by omega) (dcase_neg (by omega) ⟨by simp only [fits]; omega, on_addr ⟨by omega, true, ?_, bcase_false rfl ⟨by simp only [fits]; omega, on_addr ⟨by omega, _, rfl, bcase_true rfl (on_addr ?_)⟩⟩⟩⟩)))
  · rw [ea]; exact m.cell 0 rfl (w.pw_at (j := 0) hcs h0)
  · rw [ea]
    refine ⟨⟨rfl, m.wrs 0 rfl (by omega), ?_⟩, fun h2 e3 => ?_⟩
    · intro u hu
      simp only [List.mem_cons, List.not_mem_nil, or_false] at hu
      rcases hu with rfl | rfl | rfl | rfl | rfl | rfl | rfl | rfl | rfl | rfl <;> rfl
    · have m2 := m.setr (us := one10) 0 rfl e3
      simp only [List.set_cons_zero] at m2
      rw [w.pw_setL hcs rfl] at m2
      exact m2
theorem tabDel_c (w : ApW x) (tw : TbW tm) (ht : x.tb = tm.map onC) (hi : i < 16) (hq : tm[i]? = some q) (hqt : q.th = true) (m : Me W h ([(b, x.C, T)] :: G)) :
    Runs Tryz.prog 46 #[.pointer (some ⟨b, 0 + 22, none⟩), .int .i64 ((i : Int) + 1)] h fun v h' => v = .nilIface ∧ Me W h' ([(b, (x.setTb ((tm.set i ⟨false, [0, 0, 0, 0, 0, 0], q.ep⟩).map onC)).C, T)] :: G) := by
  have hlen := w.len
  have ea : 0 + 22 + ((i : Int) + 1 - 1).toNat * 8 = 22 + i * 8 := by omega
  have hcs : x.tb[i]? = some (onC q) := by rw [ht, List.getElem?_map, hq]; rfl
  have hq6 := tw.a q (List.mem_of_getElem? hq)
  obtain ⟨th, qa, ep⟩ := q
  dsimp only at hq6 hqt hcs
  subst hqt
  obtain ⟨y1, y2, y3, y4, y5, y6, rfl⟩ := six_of' hq6
  refine vc_sta_Table_Del _ _ _ _ (vc_sta_Table_of _ _ _ _ (dcase_neg (by omega) (dcase_neg (by omega) ⟨by simp only [fits]; omega, on_addr ⟨by omega, true, ?_, bcase_false rfl ⟨by simp only [fits]; omega, on_addr ⟨by omega, _, rfl, bcase_false rfl (on_addr ?_)⟩⟩⟩⟩)))
  · rw [ea, ← Nat.add_zero (22 + i * 8)]; exact m.cell 0 rfl (w.tb_at hcs rfl)
  rw [ea]
  refine m.store 0 rfl (by omega) fun h4 m => ?_
  simp only [List.set_cons_zero, List.set_cons_succ] at m
  rw [show x.C.set (22 + i * 8) (.bool false) = x.C.set (22 + i * 8 + 0) (.bool false) from rfl, w.tb_set hcs (by decide)] at m
  have w4 := w.tbw (k := i) (cs := (onC ⟨true, [y1, y2, y3, y4, y5, y6], ep⟩).set 0 (.bool false)) rfl
  obtain ⟨A4, hA4⟩ : ∃ A, A = x.tb.set i ((onC ⟨true, [y1, y2, y3, y4, y5, y6], ep⟩).set 0 (.bool false)) := ⟨_, rfl⟩
  rw [← hA4] at m w4
  have hcs4 : A4[i]? = some (onC ⟨false, [y1, y2, y3, y4, y5, y6], ep⟩) := by rw [hA4]; exact set_at hcs
  refine on_addr ⟨⟨rfl, m.wrs 0 rfl (by rw [w4.len]; omega), ints_one (k := .u8) (l := [0, 0, 0, 0, 0, 0])⟩, fun h5 e5 => ⟨rfl, ?_⟩⟩
  have m5 := m.setr (us := ints .u8 [0, 0, 0, 0, 0, 0]) 0 rfl e5
  simp only [List.set_cons_zero, List.set_cons_succ] at m5
  rw [w4.tb_setL (us := ints .u8 [0, 0, 0, 0, 0, 0]) hcs4 (by show 1 + 6 ≤ 8; decide)] at m5
  have e : A4.set i (setL (onC ⟨false, [y1, y2, y3, y4, y5, y6], ep⟩) 1 (ints .u8 [0, 0, 0, 0, 0, 0])) = (tm.set i ⟨false, [0, 0, 0, 0, 0, 0], ep⟩).map onC := by
    rw [hA4, List.set_set, List.map_set, ht]; rfl
  rw [← e]
  exact m5
theorem me_pull {A : List Grp} {X : Grp} (m : Me W h (A ++ (X :: E :: G))) : Me W h (E :: (A ++ (X :: G))) := m.perm (by
  simp only [List.flatten_append, List.flatten_cons]
  refine (List.Perm.append_left _ (List.perm_append_comm_assoc X E G.flatten)).trans ?_
  exact (List.perm_append_comm_assoc _ _ _))
end
end Go.Proofs.YtgjbgcgjcamlgaaGreatDoor
