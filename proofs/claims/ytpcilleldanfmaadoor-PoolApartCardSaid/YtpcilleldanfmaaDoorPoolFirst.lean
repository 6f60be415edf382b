/- The chapter's examples (pool) hold. -/
import Derived.Test.YtpcilleldanfmaaDoorPool3
import Derived.Test.YtpcilleldanfmaaDoorSee
import Derived.Test.YtpcilleldanfmaaDoorNum
import Derived.Test.YtpcilleldanfmaaDoorGenAll1
set_option linter.unusedVariables false
set_option linter.unusedSimpArgs false
set_option maxRecDepth 8000
namespace Go.Proofs.YtpcilleldanfmaaDoor
open Go.Vc
section
variable {W : Wd} {h : Heap} {R : List Grp} {a : Addr} {P : Po} {p : Pk} {k : Nat}
theorem ptrnil (b : Nat) : isNilAddr (some (⟨b, 0, none⟩ : Addr)) = false := rfl
theorem put_none (hP : PoOk P) (hk : k < 128) (h0 : p.at_ = 0) (hl : p.body.length ≤ 1048576) (hc : (P.len : Int) + 1 ≤ P.mp) (hb : P.byt + p.body.length ≤ P.mb) : P.put k p = (P.put1 k p, []) ∧ (P.put1 k p).byt = P.byt + p.body.length := by
  have hp1 := hP.p1
  obtain ⟨a1, a2, a3, a4⟩ := put1_spec hP hk (p := p) (by omega) (by omega) hl (by omega)
  have hbt : (P.put1 k p).byt = P.byt + p.body.length := by
    have := bytP_perm a3
    rw [Po.byt_all, Po.byt_all]
    simp only [bytP] at this
    omega
  refine ⟨?_, hbt⟩
  unfold Po.put
  refine shrN_done fun hc => ?_
  rw [a2.mp, a2.mb] at hc
  rcases hc with hc | hc <;> omega
theorem byt0 (seed tg iv mp mb : Int) : (po0 seed tg iv mp mb).byt = 0 := by
  have e := len0 seed tg iv mp mb
  rw [Po.len_all] at e
  rw [Po.byt_all, List.eq_nil_of_length_eq_zero e]
  rfl
theorem put1_cnt (hP : PoOk P) (hk : k < 128) (h0 : p.at_ = 0) (hl : p.body.length ≤ 1048576) (hc : P.len < 1048576) : ((P.put1 k p).qu k).cnt = (P.qu k).cnt + 1 := by
  show ((P.set k ((P.qu k).put p)).qu k).cnt = _
  rw [qu_set hP hk]
  have := hP.cnt hk
  exact ((hP.qu hk).2.ok.put (by omega) (by omega) hl (by omega)).2
theorem first14_c (m : Me W h R) (hg : wcell W 0 0 = some (ptE a)) : Runs Tryd.prog 7 #[] h fun v h' => v = .bool true ∧ ∃ W', W.le W' ∧ Me W' h' R := by
  refine vc_muezzinlaw14_first _ _ ((poNew_c m hg 1 5 100 2 100).mono ?_)
  rintro _ h1 ⟨-, hok⟩
  obtain ⟨b, L, rfl, hv, m⟩ := hok ⟨by decide, by decide, by decide, by decide⟩
  have hP : PoOk (po0 1 5 100 2 100) := pok0 _ _ _ (by decide) (by decide) (by decide) (by decide)
  refine ⟨_, _, rfl, fun x h' => x = false ∧ h' = h1, bcase_false rfl ⟨true, rfl, rfl, rfl⟩, fun _ => ?_⟩
  rintro _ _ ⟨rfl, rfl⟩
  refine bcase_false rfl ((poHas_c m hv hP 1 0).mono ?_)
  rintro _ h2 ⟨rfl, rfl⟩
  have e0 : (thereZ 1 0 && decide (0 < ((po0 1 5 100 2 100).qu (pix 1 0)).cnt)) = false := by rw [po0_qu]; rfl
  rw [e0]
  refine ⟨_, rfl, bcase_false rfl ?_⟩
  have hp : PkV W ⟨3, 0, 0, 0, []⟩ [.int .i64 3, .int .u32 0, .int .i64 0, .int .i64 0, .slice none 0 0] := ⟨none, 0, rfl, Bts.nil⟩
  refine (poPut_c (aid := 1) m hv hP (by rw [len0]; decide) hp (Int.le_refl _) (by decide) (by decide) hg).mono ?_
  rintro _ h3 ⟨oa, oc, vs, E, W1, L1, rfl, o, hle, hs, hv1, m⟩
  obtain ⟨e1, e2⟩ := put_none hP (k := 0) (p := ⟨3, 0, 0, 0, []⟩) (by decide) rfl (by decide) (by rw [len0]; decide) (by rw [byt0]; decide)
  have e3 : (po0 1 5 100 2 100).putZ 1 ⟨3, 0, 0, 0, []⟩ = ((po0 1 5 100 2 100).put1 0 ⟨3, 0, 0, 0, []⟩, []) := e1
  have e4 : (if thereZ 1 (⟨3, 0, 0, 0, []⟩ : Pk).tid = true then Value.nilIface else ptE a) = .nilIface := rfl
  rw [e3] at hv1 ⊢
  rw [e4]
  dsimp only at hv1 ⊢
  obtain ⟨hP1, _, _, hl1⟩ := put1_spec hP (k := 0) (p := ⟨3, 0, 0, 0, []⟩) (by decide) (Int.le_refl _) (by decide) (by decide) (by rw [len0]; decide)
  have hc1 := put1_cnt hP (k := 0) (p := ⟨3, 0, 0, 0, []⟩) (by decide) rfl (by decide) (by rw [len0]; decide)
  rw [len0] at hl1
  rw [po0_qu] at hc1
  replace m := m.drop1
  refine ⟨_, _, _, _, rfl, fun x h' => x = true ∧ h' = h3, ⟨true, rfl, bcase_true rfl ⟨rfl, rfl⟩⟩, fun _ => ?_⟩
  rintro _ _ ⟨rfl, rfl⟩
  refine ⟨fun x h' => x = true ∧ Me W1 h' (L1 :: R), bcase_true rfl ((poLen_c m hv1 hP1 (by omega)).mono ?_), fun _ => ?_⟩
  · rintro _ h4 ⟨rfl, m⟩
    exact ⟨_, rfl, by rw [hl1]; decide, m⟩
  rintro _ h5 ⟨rfl, m⟩
  refine bcase_true rfl ((poHas_c m hv1 hP1 1 0).mono ?_)
  rintro _ h6 ⟨rfl, rfl⟩
  have e5 : (thereZ 1 0 && decide (0 < (((po0 1 5 100 2 100).put1 0 ⟨3, 0, 0, 0, []⟩).qu (pix 1 0)).cnt)) = true := by
    have : pix 1 0 = 0 := by decide
    rw [this, hc1]; rfl
  exact ⟨_, rfl, by rw [e5], W1, hle, m.drop1⟩
end
end Go.Proofs.YtpcilleldanfmaaDoor
