/- The chapter's examples (recv) hold. -/
import Derived.Test.YthlacliefgliiaaDoorAll
set_option linter.unusedVariables false
set_option linter.unusedSimpArgs false
set_option maxRecDepth 8000
namespace Go.Proofs.YthlacliefgliiaaDoor
open Go.Vc
section
variable {W W' : Wd} {h h' : Heap} {b t j n c : Nat} {a : Option Addr} {T : TypeId} {size : Int} {css : List (List Value)} {cs us vs : List Value} {G G' : List Grp} {v : Value} {x : Ses} {f : Fm} {mv : Option Nat} {Q : Heap → Prop} {E : Grp}
theorem gr_none (h : W.gr W' none) : W.le W' := fun b x e => h b x (by simp) e
theorem readNil_c (hE : Snt5 W) (m : Me W h G) : Runs Tryd.prog 33 #[.slice none 0 0] h fun v h' => (∃ a, v = .tuple #[.agg z24.toArray, ptE a]) ∧ Me W h' G := by
  obtain ⟨a, hc⟩ := hE 1 (by decide)
  refine vc_qos_Read _ _ _ _ _ ?_
  intro b1 h1 e1 e2
  have m1 := m.push e2 e1
  refine dcase_pos (by decide) ⟨ptE a, m1.wcell hc, ⟨rfl, m1.wrsb 0 rfl rfl, (z24_fm (W := W)).one'⟩, fun h2 e3 => ?_⟩
  have m2 := m1.setr 0 rfl e3
  exact ⟨m2.wcell hc, z24, m2.row 0 rfl rfl (Nat.le_of_ble_eq_true rfl), ⟨a, rfl⟩, m2.drop1⟩
theorem dataNil_c (hE : Snt5 W) (s : St W h b T size css t cs G) : Runs Tryd.prog 14 #[.pointer (some ⟨b, 0, none⟩), .bool false, .slice none 0 0] h fun v h' => v = .tuple #[.slice none 0 0, .slice none 0 0] ∧ St W h' b T size css t cs G := by
  refine vc_recv_Station_Data _ _ _ _ _ _ _ ?_
  intro b1 h1 e1 e2
  replace s := s.push e1 e2
  refine bcase_false rfl ?_
  refine ⟨fun a' l' c' last i h2 => a' = none ∧ l' = 0 ∧ c' = 0 ∧ last = -1 ∧ (i = 0 ∨ i = 1) ∧ St W h2 b T size css t cs ([(b1, [.slice none 0 0], 35)] :: G), fun _ _ _ _ i _ => (1 - i).toNat, ⟨rfl, rfl, rfl, rfl, .inl rfl, s⟩, fun _ => ?_⟩
  rintro a' l' c' last i h2 ⟨rfl, rfl, rfl, rfl, rfl | rfl, s⟩
  · refine dcase_pos (by decide) ⟨by decide, _, _, _, s.m.cell 1 rfl rfl, ?_⟩
    refine (readNil_c hE s.m).mono ?_
    rintro _ h3 ⟨⟨a, rfl⟩, m3⟩
    replace s := s.mem m3
    refine ⟨_, _, rfl, ?_⟩
    intro b4 h4 f1 f2
    replace s := s.push f1 f2
    refine ⟨⟨rfl, s.m.wrsb 1 rfl rfl, (z24_fm (W := W)).one'⟩, fun h5 e5 => ?_⟩
    have s5 := s.mem (s.m.setr 1 rfl e5)
    exact ⟨false, rfl, bcase_true rfl ⟨by simp only [fits]; omega, ⟨rfl, rfl, rfl, rfl, .inr rfl, s5.drop⟩, by dsimp only; omega⟩⟩
  · exact dcase_neg (by decide) (dcase_pos (by decide) ⟨rfl, s.drop⟩)
theorem bts_one {b : Nat} {T : TypeId} {i : Int} (m : Me W h ([(b, [.int .u8 i], T)] :: G)) : ∃ W', W.le W' ∧ Me W' h G ∧ Bts W' (.slice (some ⟨b, 0, none⟩) 1 1) [i] :=
  ow_give (l := [i]) (Ow.fresh0 rfl) m
theorem first24_c (hE : Snt5 W) (m : Me W h G) : Runs Tryd.prog 9 #[] h fun v h' => v = .bool true ∧ ∃ W', W.le W' ∧ Me W' h' G := by
  refine vc_muezzinlaw24_first _ _ ?_
  refine (me_c m).mono ?_
  rintro _ h1 ⟨rfl, m⟩
  refine ⟨_, rfl, (bss_c m).mono ?_⟩
  rintro _ h2 ⟨rfl, m⟩
  refine ⟨_, rfl, (rnew_c m (by decide)).mono ?_⟩
  rintro _ h3 ⟨b, T, rfl, hs⟩
  have s := hs 0 (by decide)
  refine ⟨_, _, rfl, bcase_false rfl ⟨true, rfl, bcase_false rfl ?_⟩⟩
  refine (dataNil_c hE s).mono ?_
  rintro _ h4 ⟨rfl, s⟩
  refine ⟨_, _, _, _, _, _, rfl, ?_⟩
  intro b1 h5 e1 e2
  have m5 := (s.push e1 e2).m
  obtain ⟨W1, hle1, m6, hb1⟩ := bts_one (me_swap m5)
  replace s := s.mem m6
  refine (data_c (tid := 0) s.m hb1 (by decide) (by decide)).mono ?_
  rintro _ h6 ⟨W2, a2, c2, hle2, rfl, m7, hb2⟩
  replace s := s.mem m7
  refine ⟨_, _, _, rfl, ?_⟩
  refine (recvData_c (x := ses0) (mv := none) (t := 0) s rfl (fun q => by cases q) hb2 (by decide) (by decide) (take_off rfl) (takeOff_ok ses0_ok (dfm_ok (by decide) (by decide) (by decide))) (by decide)).mono ?_
  rintro _ h7 ⟨W3, a3, c3, E3, vs3, a4, c4, hg, rfl, o3, hs3, hk3, hb3, s3⟩
  refine ⟨_, _, _, _, _, _, rfl, dcase_pos (by decide) (dcase_pos (by decide) (dcase_pos (by decide) (dcase_pos (by decide) ?_)))⟩
  refine (got_c (t := 0) s3 3).ret ⟨_, rfl, ?_, W3, hle1.trans (hle2.trans (gr_none hg)), s3.m.drop1.drop1⟩
  rfl
end
end Go.Proofs.YthlacliefgliiaaDoor
