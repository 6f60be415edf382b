/- A station that is asked for a session. -/
import Derived.Test.YthlacliefgliiaaDoorTake
set_option linter.unusedVariables false
set_option linter.unusedSimpArgs false
set_option maxRecDepth 8000
namespace Go.Proofs.YthlacliefgliiaaDoor
open Go.Vc
def newSes (size sq : Int) : Ses := ⟨true, sq, size, sq, 0, [], false, 0⟩
def addSize (own sz : Int) : Int := if 0 < sz then min own sz else own
/-- What an Add that asks yields. -/
def AddV (W : Wd) (b : Nat) (T : TypeId) (size : Int) (css : List (List Value)) (t : Nat) (G : List Grp) (kept : List Fm) (token sz sq : Int) (v : Value) (h' : Heap) : Prop :=
  ∃ W' r a c E vs a2 c2, W.le W' ∧ W r = none ∧ v = .tuple #[.slice a kept.length c, .slice a2 33 c2] ∧ Ow a kept.length c 24 vs E ∧ Sq (FmV W') kept vs ∧ KeptV W' (some r) [] ∧
    Bts W' (.slice a2 33 c2) (ansAdd bssL meL bssL token t (addSize size sz)) ∧ St W' h' b T size css t (sesC (newSes (addSize size sz) sq) (some r)) (E :: G)
section
variable {W W' : Wd} {h h' : Heap} {b t j n c : Nat} {a : Option Addr} {T : TypeId} {size : Int} {css : List (List Value)} {cs us vs : List Value} {G G' : List Grp} {v : Value} {x : Ses} {f : Fm} {mv : Option Nat} {Q : Heap → Prop} {E : Grp} {l : List Fm} {token sz sq : Int}
theorem add_c' (s : St W h b T size css t (sesC x mv) G) (hk : KeptV W mv x.kept) (hok : SesOk x) (h1 : x.kept.length ≤ 1) (hz : 1 ≤ size ∧ size ≤ 64) (ha : AdOk token t sz sq) :
    Runs Tryd.prog 53 #[.pointer (some ⟨b, 0, none⟩), .agg (addC meL bssL bssL false token t sz sq).toArray] h (AddV W b T size css t G x.kept token sz sq) := by
  have ht := s.ht
  obtain ⟨k1, k2, k3, k4⟩ := ha
  refine vc_recv_Station_add _ _ _ _ ?_
  intro b1 g1 e1 e2
  replace s := s.push e1 e2
  refine ⟨false, s.m.cell 1 rfl rfl, bcase_false rfl ?_⟩
  refine ⟨_, s.m.row 1 rfl rfl (Nat.le_of_ble_eq_true rfl), _, s.rme, meL, meL, rfl, rfl, ⟨rfl, rfl⟩, bcase_false (by decide) ?_⟩
  refine ⟨_, s.m.row 1 rfl rfl (Nat.le_of_ble_eq_true rfl), _, s.rbss, bssL, bssL, rfl, rfl, ⟨rfl, rfl⟩, bcase_false (by decide) ?_⟩
  refine ⟨(t : Int), s.m.cell 1 rfl rfl, ⟨by omega, by omega⟩, ?_⟩
  rw [show (t : Int).toNat = t from rfl]
  refine (all1_c s hk hok h1).mono ?_
  rintro _ g2 ⟨W2, a2, c2, E2, vs2, hle2, rfl, o2, hs2, s2⟩
  refine ⟨_, _, _, rfl, size, s2.rsize, sz, s2.m.cell 2 rfl rfl, ?_⟩
  refine dcase_intro (fun q => ?_) fun q => ?_
  · have eS : addSize size sz = min size sz := if_pos q
    have hzz : 0 ≤ min size sz ∧ min size sz ≤ 1023 := by omega
    refine ⟨sz, s2.m.cell 2 rfl rfl, sq, s2.m.cell 2 rfl rfl, sq, s2.m.cell 2 rfl rfl, ?_⟩
    obtain ⟨z, hze⟩ : ∃ z, z = min size sz := ⟨_, rfl⟩
    rw [← hze] at eS hzz ⊢
    intro b3 g3 e3 e4
    obtain ⟨m3, hn3⟩ := me_pushO s2.m e4 e3
    have s3 := s2.mem m3
    have hle3 : W2.le (W2.upd b3 (.map #[] 0)) := upd_le hn3
    refine ⟨⟨rfl, s3.wrs, by simp [Value.oneCell']⟩, fun g4 e5 => ?_⟩
    have s4 : St (W2.upd b3 (.map #[] 0)) g4 b T size css t (sesC (newSes z sq) (some b3)) (E2 :: [(b1, addC meL bssL bssL false token t sz sq, 65)] :: G) := s3.setr rfl e5
    have hk4 : KeptV (W2.upd b3 (.map #[] 0)) (some b3) [] := ⟨[], 0, upd_at, rfl, by simp, by simp⟩
    refine ⟨_, s4.rbss, _, s4.rme, _, s4.rbss, token, s4.m.cell 2 rfl rfl, (t : Int), s4.m.cell 2 rfl rfl, rfl, rfl, rfl, ?_⟩
    refine (addBytesA_c (to := bssL) (fr := meL) (bss := bssL) (token := token) (tid := t) (size := z) (sq := 0) s4.m rfl rfl rfl ⟨k1, k2, hzz, by decide⟩ true (fun _ => rfl)).mono ?_
    rintro _ g5 ⟨W5, a5, c5, hle5, rfl, m5, hb5⟩
    have s5 := s4.mem m5
    have e33 : (if true = true then ansAdd bssL meL bssL token t z else askAdd bssL meL bssL token t z 0) = ansAdd bssL meL bssL token t z := if_pos rfl
    rw [e33] at hb5 ⊢
    rw [ansAdd_len rfl rfl rfl] at hb5 ⊢
    refine ⟨_, _, _, _, rfl, s5.m.cell 2 rfl rfl, s5.m.cell 2 rfl rfl, s5.rbss, s5.rme, s5.rbss, true, rfl, bcase_false rfl ?_⟩
    refine ⟨W5, b3, a2, c2, E2, vs2, a5, c5, hle2.trans (hle3.trans hle5), ?_, rfl, o2, hs2.mono fun f cs hv => (hv.le hle3).le hle5, hk4.le hle5, by rw [eS]; exact hb5, by rw [eS]; exact s5.mem (s5.m.sub ⟨[(b1, addC meL bssL bssL false token t sz sq, 65)], by
      simp only [List.flatten_cons, List.append_assoc]
      exact List.Perm.append_left _ (List.Perm.append_left _ List.perm_append_comm)⟩)⟩
    cases hW : W b3 with
    | none => rfl
    | some y => have := hle2 b3 y hW; rw [hn3] at this; cases this
  · have eS : addSize size sz = size := if_neg q
    have hzz : 0 ≤ size ∧ size ≤ 1023 := by omega
    refine ⟨sq, s2.m.cell 2 rfl rfl, sq, s2.m.cell 2 rfl rfl, ?_⟩
    intro b3 g3 e3 e4
    obtain ⟨m3, hn3⟩ := me_pushO s2.m e4 e3
    have s3 := s2.mem m3
    have hle3 : W2.le (W2.upd b3 (.map #[] 0)) := upd_le hn3
    refine ⟨⟨rfl, s3.wrs, by simp [Value.oneCell']⟩, fun g4 e5 => ?_⟩
    have s4 : St (W2.upd b3 (.map #[] 0)) g4 b T size css t (sesC (newSes size sq) (some b3)) (E2 :: [(b1, addC meL bssL bssL false token t sz sq, 65)] :: G) := s3.setr rfl e5
    have hk4 : KeptV (W2.upd b3 (.map #[] 0)) (some b3) [] := ⟨[], 0, upd_at, rfl, by simp, by simp⟩
    refine ⟨_, s4.rbss, _, s4.rme, _, s4.rbss, token, s4.m.cell 2 rfl rfl, (t : Int), s4.m.cell 2 rfl rfl, rfl, rfl, rfl, ?_⟩
    refine (addBytesA_c (to := bssL) (fr := meL) (bss := bssL) (token := token) (tid := t) (size := size) (sq := 0) s4.m rfl rfl rfl ⟨k1, k2, hzz, by decide⟩ true (fun _ => rfl)).mono ?_
    rintro _ g5 ⟨W5, a5, c5, hle5, rfl, m5, hb5⟩
    have s5 := s4.mem m5
    have e33 : (if true = true then ansAdd bssL meL bssL token t size else askAdd bssL meL bssL token t size 0) = ansAdd bssL meL bssL token t size := if_pos rfl
    rw [e33] at hb5 ⊢
    rw [ansAdd_len rfl rfl rfl] at hb5 ⊢
    refine ⟨_, _, _, _, rfl, s5.m.cell 2 rfl rfl, s5.m.cell 2 rfl rfl, s5.rbss, s5.rme, s5.rbss, true, rfl, bcase_false rfl ?_⟩
    refine ⟨W5, b3, a2, c2, E2, vs2, a5, c5, hle2.trans (hle3.trans hle5), ?_, rfl, o2, hs2.mono fun f cs hv => (hv.le hle3).le hle5, hk4.le hle5, by rw [eS]; exact hb5, by rw [eS]; exact s5.mem (s5.m.sub ⟨[(b1, addC meL bssL bssL false token t sz sq, 65)], by
      simp only [List.flatten_cons, List.append_assoc]
      exact List.Perm.append_left _ (List.Perm.append_left _ List.perm_append_comm)⟩)⟩
    cases hW : W b3 with
    | none => rfl
    | some y => have := hle2 b3 y hW; rw [hn3] at this; cases this
end
end Go.Proofs.YthlacliefgliiaaDoor
