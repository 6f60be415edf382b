/- What a station is told besides data: an Add. -/
import Derived.Test.YthlacliefgliiaaDoorAdd
set_option linter.unusedVariables false
set_option linter.unusedSimpArgs false
set_option maxRecDepth 8000
namespace Go.Proofs.YthlacliefgliiaaDoor
open Go.Vc
section
variable {W W' : Wd} {h h' : Heap} {b t j n c : Nat} {a : Option Addr} {T : TypeId} {size : Int} {css : List (List Value)} {cs us vs : List Value} {G G' : List Grp} {v : Value} {x : Ses} {f : Fm} {mv : Option Nat} {Q : Heap → Prop} {E : Grp} {l : List Fm} {token sz sq : Int}
theorem Snt5.le (hE : Snt5 W) (hl : W.le W') : Snt5 W' := hE.cl fun b o v h => wcell_le hl h
theorem AddV.le {W0 : Wd} {kept : List Fm} (hl : W0.le W) (h : AddV W b T size css t G kept token sz sq v h') : AddV W0 b T size css t G kept token sz sq v h' := by
  obtain ⟨W', r, a, c, E, vs, a2, c2, h1, h2, h3⟩ := h
  refine ⟨W', r, a, c, E, vs, a2, c2, hl.trans h1, ?_, h3⟩
  cases hW : W0 r with
  | none => rfl
  | some y => have := hl r y hW; rw [h2] at this; cases this
theorem other_add (hE : Snt5 W) (s : St W h b T size css t (sesC x mv) G) (hk : KeptV W mv x.kept) (hok : SesOk x) (h1 : x.kept.length ≤ 1) (hz : 1 ≤ size ∧ size ≤ 64) (ha : AdOk token t sz sq) (hb : Bts W (.slice a n c) (askAdd meL bssL bssL token t sz sq)) :
    Runs Tryd.prog 24 #[.pointer (some ⟨b, 0, none⟩), .slice a n c] h (AddV W b T size css t G x.kept token sz sq) := by
  refine vc_recv_Station_Other _ _ _ _ _ _ ?_
  refine (readBar_no (x := 208) hE s.m hb rfl (by decide)).mono ?_
  rintro _ g1 ⟨⟨e, rfl⟩, m1⟩
  replace s := s.mem m1
  refine ⟨_, _, rfl, ?_⟩
  intro b1 g2 e1 e2
  replace s := s.push e1 e2
  refine ⟨⟨rfl, s.m.wrsb 1 rfl rfl, z14_one⟩, fun g3 e3 => ?_⟩
  replace s := (s.mem (s.m.setr 1 rfl e3)).drop
  refine ⟨false, rfl, bcase_false rfl ?_⟩
  refine (readAdd_c s.m hb rfl rfl rfl ha).mono ?_
  rintro _ g4 ⟨rfl, W2, hle2, m4⟩
  replace s := s.mem m4
  refine ⟨_, _, rfl, ?_⟩
  intro b2 g5 e5 e6
  replace s := s.push e5 e6
  refine ⟨⟨rfl, s.m.wrsb 1 rfl rfl, addC_one _ _ _ _ _ _ _ _⟩, fun g6 e7 => ?_⟩
  have m6 := s.m.setr 1 rfl e7
  replace m6 : Me W2 g6 ([(b, stC size css t (sesC x mv), T)] :: [(b2, addC meL bssL bssL false token t sz sq, 65)] :: G) := m6
  have s6 := s.mem m6
  refine ⟨true, rfl, bcase_true rfl ?_⟩
  refine ⟨addC meL bssL bssL false token t sz sq, s6.m.row 1 rfl rfl (Nat.le_of_ble_eq_true rfl), ?_⟩
  refine (add_c' s6.drop (hk.le hle2) hok h1 hz ha).mono ?_
  intro v h' hv
  have hv0 := hv
  obtain ⟨W', r, a', c', E', vs', a2, c2, e1', e2', rfl, -⟩ := hv0
  exact ⟨_, _, _, _, _, _, rfl, hv.le hle2⟩
end
end Go.Proofs.YthlacliefgliiaaDoor
