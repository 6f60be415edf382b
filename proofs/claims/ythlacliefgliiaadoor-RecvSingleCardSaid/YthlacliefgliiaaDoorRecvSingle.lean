/- RecvSingle: without a session each frame goes up as it comes, but one that is sent again with the number of the last. -/
import Derived.Test.YthlacliefgliiaaDoorRecvFirst
import Derived.Test.YthlacliefgliiaaDoorOpnInts
import Derived.Test.YthlacliefgliiaaDoorNum
set_option linter.unusedVariables false
set_option linter.unusedSimpArgs false
set_option maxRecDepth 8000
namespace Go.Proofs.YthlacliefgliiaaDoor
open Go.Vc
section
variable {W W' : Wd} {h h' : Heap} {b t j n c : Nat} {T : TypeId} {size : Int} {css : List (List Value)} {cs us vs : List Value} {G G' : List Grp} {v : Value} {f : Fm} {mv : Option Nat} {Q : Heap → Prop} {E : Grp}
def lastZ (x : Ses) : Int := if x.came then x.last else -1
theorem single_r {l r : List Int} {ag : List Bool} {a a2 : Option Addr} {c2 : Nat} (hE : Snt5 W) (m : Me W h []) (hl : wsrc W a l.length (ints .i64 l)) (hag : wsrc W a2 ag.length (ag.map Value.bool)) :
    Runs Tryd.prog 3 #[.slice a l.length c, .slice a2 ag.length c2] h fun v h' => v = .bool true ∧ ∃ W', W.le W' ∧ Me W' h' [] := by
  refine vc_muezzinlaw24_RecvSingle _ _ _ _ _ _ _ _ ?_
  refine (first24_c hE m).mono ?_
  rintro _ h1 ⟨rfl, W1, hle1, m⟩
  refine ⟨true, rfl, bcase_false rfl ?_⟩
  refine dcase_intro (fun q => ⟨rfl, W1, hle1, m⟩) fun q40 => ?_
  refine dcase_intro (fun q => ⟨rfl, W1, hle1, m⟩) fun q40' => ?_
  refine (me_c m).mono ?_
  rintro _ h2 ⟨rfl, m⟩
  refine ⟨_, rfl, (bss_c m).mono ?_⟩
  rintro _ h3 ⟨rfl, m⟩
  refine ⟨_, rfl, (rnew_c m (by decide)).mono ?_⟩
  rintro _ h4 ⟨b, T, rfl, hs⟩
  have s := hs 2 (by decide)
  refine ⟨_, _, rfl, bcase_false rfl ⟨true, rfl, bcase_false rfl ?_⟩⟩
  refine ⟨fun last i h => ∃ (W' : Wd) (k : Nat) (x : Ses), i = k ∧ k ≤ l.length ∧ last = lastZ x ∧ x.on = false ∧ x.kept = [] ∧ SesOk x ∧ W.le W' ∧ St W' h b T 8 css0 2 (sesC x none) [], fun _ i _ => ((l.length : Int) - i).toNat, ⟨W1, 0, ses0, rfl, by omega, rfl, rfl, rfl, ses0_ok, hle1, s⟩, fun _ => ?_⟩
  clear s hs
  rintro _ _ h5 ⟨W2, k, x, rfl, hk, rfl, hon, hke, hok, hle, s⟩
  refine dcase_intro (fun q => ?_) fun q => ?_
  · have hkl : k < l.length := by omega
    obtain ⟨b1, o1, rfl, hc1⟩ := src_cell (s.m.wsrc (wsrc_le hle hl)) (ints_get (List.getElem?_eq_getElem hkl))
    refine ⟨⟨by omega, by omega⟩, l[k], by simpa using hc1, (number_c _ _ _ (by decide) (by decide)).ret ⟨_, rfl, ?_⟩⟩
    obtain ⟨z, hz⟩ : ∃ z, z = l[k] % 5 := ⟨_, rfl⟩
    have hz5 : 0 ≤ z ∧ z < 5 := by omega
    rw [← hz]
    refine dcase_intro (fun q2 => ?_) fun q2 => ?_
    · have hka : k < ag.length := by omega
      obtain ⟨b2, o2, rfl, hc2⟩ := src_cell (v := .bool ag[k]) (s.m.wsrc (wsrc_le hle hag)) (by rw [List.getElem?_map, List.getElem?_eq_getElem hka]; rfl)
      refine ⟨⟨by omega, by omega⟩, ag[k], by simpa using hc2, ?_⟩
      obtain ⟨rt, hrt⟩ : ∃ rt, rt = ag[k] := ⟨_, rfl⟩
      rw [← hrt]
      refine ⟨by simp only [fits]; omega, ?_⟩
      intro b3 h7 e3 e4
      have m7 := (s.push e3 e4).m
      obtain ⟨W3, hle3, m8, hb3⟩ := bts_one (me_swap m7)
      replace s := s.mem m8
      refine (data_c (tid := ((2 : Nat) : Int)) (rt := rt) s.m hb3 (by decide) (by show 1 ≤ 1500; decide)).mono ?_
      rintro _ h8 ⟨W4, a4, c4, hle4, rfl, m9, hb4⟩
      replace s := s.mem m9
      rw [show z % 4096 = z by omega] at hb4 ⊢
      refine ⟨_, _, _, rfl, ?_⟩
      have etk : x.take (dfm ((2 : Nat) : Int) z rt [(k : Int)]) = x.takeOff (dfm ((2 : Nat) : Int) z rt [(k : Int)]) := by unfold Ses.take; rw [hon]; rfl
      have hfm : FmOk (dfm ((2 : Nat) : Int) z rt [(k : Int)]) := dfm_ok (by decide) (by omega) (by show 1 ≤ 1500; decide)
      have hok' := takeOff_ok hok hfm
      have hlen : (x.takeOff (dfm ((2 : Nat) : Int) z rt [(k : Int)])).1.length ≤ 1 := by unfold Ses.takeOff; dsimp only; split <;> simp
      refine (recvData_c (x := x) (mv := none) (t := 2) s (by rw [hke]; rfl) hb4 (by omega) (by show 1 ≤ 1500; decide) (take_off hon) (by rw [etk]; exact hok') (by rw [etk]; omega)).mono ?_
      rw [etk]
      rintro _ h9 ⟨W5, a5, c5, E5, vs5, a6, c6, hg, rfl, o5, hs5, hk5, hb5, s5⟩
      refine ⟨_, _, _, _, _, _, rfl, ?_⟩
      have hon' : (x.takeOff (dfm ((2 : Nat) : Int) z rt [(k : Int)])).2.on = false := hon
      have eS : (x.takeOff (dfm ((2 : Nat) : Int) z rt [(k : Int)])).2.ackS = z := by unfold Ses.ackS; rw [hon']; rfl
      have eM : (x.takeOff (dfm ((2 : Nat) : Int) z rt [(k : Int)])).2.ackM = 1 := by unfold Ses.ackM; rw [hon']; rfl
      rw [eS, eM] at hb5
      refine (readAck_c (n := 28) s5.m hb5 rfl rfl (by decide) (by omega) (by decide)).mono ?_
      rintro _ h10 ⟨rfl, W6, hle6, m10⟩
      replace s := s5.mem m10
      refine ⟨_, _, rfl, ?_⟩
      intro b4 h11 e5 e6
      replace s := s.push e5 e6
      refine ⟨⟨rfl, s.m.wrsb 1 rfl rfl, ackC_one bssL meL 2 z 1⟩, fun h12 e7 => ?_⟩
      have m12 := s.m.setr 1 rfl e7
      replace s : St W6 h12 b T 8 css0 2 (sesC (x.takeOff (dfm ((2 : Nat) : Int) z rt [(k : Int)])).2 none) ([(b4, ackC bssL meL 2 z 1, 44)] :: E5 :: []) := s.mem m12
      refine bcase_intro (fun qrt => ?_) fun qrt => ?_
      · have e1 : (decide (((x.takeOff (dfm ((2 : Nat) : Int) z rt [(k : Int)])).1.length : Int) = 0) == decide (z = lastZ x)) = true := by
          rw [qrt]
          unfold Ses.takeOff lastZ
          cases hcm : x.came with
          | false =>
            rw [if_neg (by simp [hcm]), if_neg (by decide), show decide (z = -1) = false from decide_eq_false (by omega)]; rfl
          | true =>
            have : (x.last == (dfm ((2 : Nat) : Int) z true [(k : Int)]).sq) = decide (z = x.last) := by
              show (x.last == z) = _
              by_cases hh : z = x.last
              · simp [hh]
              · simp [hh]; exact fun e => hh e.symm
            rw [this, if_pos rfl]
            by_cases hh : z = x.last
            · simp [hh, dfm]
            · simp [hh, dfm]
        refine bcase_false (by rw [e1]; rfl) ?_
        refine dcase_neg (by omega) (bcase_false rfl ?_)
        refine ⟨z, s.m.cell 1 rfl rfl, bcase_false (by simp) ⟨1, s.m.cell 1 rfl rfl, bcase_false rfl ⟨2, s.m.cell 1 rfl rfl, bcase_false rfl ?_⟩⟩⟩
        refine ⟨_, s.m.row 1 rfl rfl (Nat.le_of_ble_eq_true rfl), ?_⟩
        refine (bss_c s.m).mono ?_
        rintro _ h13 ⟨rfl, m13⟩
        replace s := s.mem m13
        refine ⟨_, rfl, s.m.row 1 rfl rfl (Nat.le_of_ble_eq_true rfl), s.m.cell 1 rfl rfl, s.m.cell 1 rfl rfl, s.m.cell 1 rfl rfl, ?_⟩
        refine (sameAddr_c (xs := bssL) (ys := bssL) s.m rfl rfl).mono ?_
        rintro _ h14 ⟨rfl, m14⟩
        replace s := s.mem m14
        refine ⟨_, rfl, s.m.cell 1 rfl rfl, s.m.cell 1 rfl rfl, s.m.cell 1 rfl rfl, bcase_false (by decide) ?_⟩
        refine ⟨_, s.m.row 1 rfl rfl (Nat.le_of_ble_eq_true rfl), ?_⟩
        refine (me_c s.m).mono ?_
        rintro _ h15 ⟨rfl, m15⟩
        replace s := s.mem m15
        refine ⟨_, rfl, s.m.row 1 rfl rfl (Nat.le_of_ble_eq_true rfl), s.m.cell 1 rfl rfl, s.m.cell 1 rfl rfl, s.m.cell 1 rfl rfl, ?_⟩
        refine (sameAddr_c (xs := meL) (ys := meL) s.m rfl rfl).mono ?_
        rintro _ h16 ⟨rfl, m16⟩
        replace s := s.mem m16
        refine ⟨_, rfl, s.m.cell 1 rfl rfl, s.m.cell 1 rfl rfl, s.m.cell 1 rfl rfl, bcase_false (by decide) ?_⟩
        exact ⟨by simp only [fits]; omega, ⟨W6, k + 1, (x.takeOff (dfm ((2 : Nat) : Int) z rt [(k : Int)])).2, by omega, by omega, rfl, hon', hke, hok', hle.trans (hle3.trans (hle4.trans ((gr_none hg).trans hle6))), s.drop.drop⟩, by dsimp only; omega⟩
      · have e1 : (decide (((x.takeOff (dfm ((2 : Nat) : Int) z rt [(k : Int)])).1.length : Int) = 0) == false) = true := by
          unfold Ses.takeOff
          rw [qrt]; rfl
        refine bcase_false (by rw [e1]; rfl) ?_
        refine dcase_neg (by omega) (bcase_false rfl ?_)
        refine ⟨z, s.m.cell 1 rfl rfl, bcase_false (by simp) ⟨1, s.m.cell 1 rfl rfl, bcase_false rfl ⟨2, s.m.cell 1 rfl rfl, bcase_false rfl ?_⟩⟩⟩
        refine ⟨_, s.m.row 1 rfl rfl (Nat.le_of_ble_eq_true rfl), ?_⟩
        refine (bss_c s.m).mono ?_
        rintro _ h13 ⟨rfl, m13⟩
        replace s := s.mem m13
        refine ⟨_, rfl, s.m.row 1 rfl rfl (Nat.le_of_ble_eq_true rfl), s.m.cell 1 rfl rfl, s.m.cell 1 rfl rfl, s.m.cell 1 rfl rfl, ?_⟩
        refine (sameAddr_c (xs := bssL) (ys := bssL) s.m rfl rfl).mono ?_
        rintro _ h14 ⟨rfl, m14⟩
        replace s := s.mem m14
        refine ⟨_, rfl, s.m.cell 1 rfl rfl, s.m.cell 1 rfl rfl, s.m.cell 1 rfl rfl, bcase_false (by decide) ?_⟩
        refine ⟨_, s.m.row 1 rfl rfl (Nat.le_of_ble_eq_true rfl), ?_⟩
        refine (me_c s.m).mono ?_
        rintro _ h15 ⟨rfl, m15⟩
        replace s := s.mem m15
        refine ⟨_, rfl, s.m.row 1 rfl rfl (Nat.le_of_ble_eq_true rfl), s.m.cell 1 rfl rfl, s.m.cell 1 rfl rfl, s.m.cell 1 rfl rfl, ?_⟩
        refine (sameAddr_c (xs := meL) (ys := meL) s.m rfl rfl).mono ?_
        rintro _ h16 ⟨rfl, m16⟩
        replace s := s.mem m16
        refine ⟨_, rfl, s.m.cell 1 rfl rfl, s.m.cell 1 rfl rfl, s.m.cell 1 rfl rfl, bcase_false (by decide) ?_⟩
        exact ⟨by simp only [fits]; omega, ⟨W6, k + 1, (x.takeOff (dfm ((2 : Nat) : Int) z rt [(k : Int)])).2, by omega, by omega, rfl, hon', hke, hok', hle.trans (hle3.trans (hle4.trans ((gr_none hg).trans hle6))), s.drop.drop⟩, by dsimp only; omega⟩
    · skip
      refine ⟨by simp only [fits]; omega, ?_⟩
      intro b3 h7 e3 e4
      have m7 := (s.push e3 e4).m
      obtain ⟨W3, hle3, m8, hb3⟩ := bts_one (me_swap m7)
      replace s := s.mem m8
      refine (data_c (tid := ((2 : Nat) : Int)) (rt := false) s.m hb3 (by decide) (by show 1 ≤ 1500; decide)).mono ?_
      rintro _ h8 ⟨W4, a4, c4, hle4, rfl, m9, hb4⟩
      replace s := s.mem m9
      rw [show z % 4096 = z by omega] at hb4 ⊢
      refine ⟨_, _, _, rfl, ?_⟩
      have etk : x.take (dfm ((2 : Nat) : Int) z false [(k : Int)]) = x.takeOff (dfm ((2 : Nat) : Int) z false [(k : Int)]) := by unfold Ses.take; rw [hon]; rfl
      have hfm : FmOk (dfm ((2 : Nat) : Int) z false [(k : Int)]) := dfm_ok (by decide) (by omega) (by show 1 ≤ 1500; decide)
      have hok' := takeOff_ok hok hfm
      have hlen : (x.takeOff (dfm ((2 : Nat) : Int) z false [(k : Int)])).1.length ≤ 1 := by unfold Ses.takeOff; dsimp only; split <;> simp
      refine (recvData_c (x := x) (mv := none) (t := 2) s (by rw [hke]; rfl) hb4 (by omega) (by show 1 ≤ 1500; decide) (take_off hon) (by rw [etk]; exact hok') (by rw [etk]; omega)).mono ?_
      rw [etk]
      rintro _ h9 ⟨W5, a5, c5, E5, vs5, a6, c6, hg, rfl, o5, hs5, hk5, hb5, s5⟩
      refine ⟨_, _, _, _, _, _, rfl, ?_⟩
      have hon' : (x.takeOff (dfm ((2 : Nat) : Int) z false [(k : Int)])).2.on = false := hon
      have eS : (x.takeOff (dfm ((2 : Nat) : Int) z false [(k : Int)])).2.ackS = z := by unfold Ses.ackS; rw [hon']; rfl
      have eM : (x.takeOff (dfm ((2 : Nat) : Int) z false [(k : Int)])).2.ackM = 1 := by unfold Ses.ackM; rw [hon']; rfl
      rw [eS, eM] at hb5
      refine (readAck_c (n := 28) s5.m hb5 rfl rfl (by decide) (by omega) (by decide)).mono ?_
      rintro _ h10 ⟨rfl, W6, hle6, m10⟩
      replace s := s5.mem m10
      refine ⟨_, _, rfl, ?_⟩
      intro b4 h11 e5 e6
      replace s := s.push e5 e6
      refine ⟨⟨rfl, s.m.wrsb 1 rfl rfl, ackC_one bssL meL 2 z 1⟩, fun h12 e7 => ?_⟩
      have m12 := s.m.setr 1 rfl e7
      replace s : St W6 h12 b T 8 css0 2 (sesC (x.takeOff (dfm ((2 : Nat) : Int) z false [(k : Int)])).2 none) ([(b4, ackC bssL meL 2 z 1, 44)] :: E5 :: []) := s.mem m12
      have e1 : (decide (((x.takeOff (dfm ((2 : Nat) : Int) z false [(k : Int)])).1.length : Int) = 0) == false) = true := by
        unfold Ses.takeOff; rfl
      refine bcase_false (by rw [e1]; rfl) ?_
      refine dcase_neg (by omega) (bcase_false rfl ?_)
      refine ⟨z, s.m.cell 1 rfl rfl, bcase_false (by simp) ⟨1, s.m.cell 1 rfl rfl, bcase_false rfl ⟨2, s.m.cell 1 rfl rfl, bcase_false rfl ?_⟩⟩⟩
      refine ⟨_, s.m.row 1 rfl rfl (Nat.le_of_ble_eq_true rfl), ?_⟩
      refine (bss_c s.m).mono ?_
      rintro _ h13 ⟨rfl, m13⟩
      replace s := s.mem m13
      refine ⟨_, rfl, s.m.row 1 rfl rfl (Nat.le_of_ble_eq_true rfl), s.m.cell 1 rfl rfl, s.m.cell 1 rfl rfl, s.m.cell 1 rfl rfl, ?_⟩
      refine (sameAddr_c (xs := bssL) (ys := bssL) s.m rfl rfl).mono ?_
      rintro _ h14 ⟨rfl, m14⟩
      replace s := s.mem m14
      refine ⟨_, rfl, s.m.cell 1 rfl rfl, s.m.cell 1 rfl rfl, s.m.cell 1 rfl rfl, bcase_false (by decide) ?_⟩
      refine ⟨_, s.m.row 1 rfl rfl (Nat.le_of_ble_eq_true rfl), ?_⟩
      refine (me_c s.m).mono ?_
      rintro _ h15 ⟨rfl, m15⟩
      replace s := s.mem m15
      refine ⟨_, rfl, s.m.row 1 rfl rfl (Nat.le_of_ble_eq_true rfl), s.m.cell 1 rfl rfl, s.m.cell 1 rfl rfl, s.m.cell 1 rfl rfl, ?_⟩
      refine (sameAddr_c (xs := meL) (ys := meL) s.m rfl rfl).mono ?_
      rintro _ h16 ⟨rfl, m16⟩
      replace s := s.mem m16
      refine ⟨_, rfl, s.m.cell 1 rfl rfl, s.m.cell 1 rfl rfl, s.m.cell 1 rfl rfl, bcase_false (by decide) ?_⟩
      exact ⟨by simp only [fits]; omega, ⟨W6, k + 1, (x.takeOff (dfm ((2 : Nat) : Int) z false [(k : Int)])).2, by omega, by omega, rfl, hon', hke, hok', hle.trans (hle3.trans (hle4.trans ((gr_none hg).trans hle6))), s.drop.drop⟩, by dsimp only; omega⟩
  · refine (session_c s).ret ⟨_, _, _, by rw [hon]; rfl, ?_⟩
    refine ⟨fun y h => y = true ∧ h = h5, bcase_true rfl ⟨rfl, rfl⟩, fun _ => ?_⟩
    rintro _ h6 ⟨rfl, rfl⟩
    refine ⟨fun y h => y = true ∧ h = h6, bcase_true rfl ((waits_c s (by rw [hke]; rfl)).ret ⟨_, rfl, by rw [hke]; rfl, rfl⟩), fun _ => ?_⟩
    rintro _ _ ⟨rfl, rfl⟩
    refine ⟨fun y h => y = true ∧ ∃ W' E, W.le W' ∧ St W' h b T 8 css0 2 (sesC ses0 none) (E :: []), bcase_true rfl ?_, fun _ => ?_⟩
    · refine (leave1_c s (by rw [hke]; rfl) hok (by rw [hke]; decide)).mono ?_
      rintro _ h6 ⟨W3, a3, c3, E3, vs3, hle3, rfl, o3, hs3, s3⟩
      exact ⟨_, _, _, rfl, by rw [hke]; rfl, W3, E3, hle.trans hle3, s3⟩
    · rintro _ h6 ⟨rfl, W3, E3, hle3, s3⟩
      refine bcase_true rfl ((got_c (t := 2) s3 0).ret ⟨_, rfl, rfl, W3, hle3, s3.m.drop1.drop1⟩)
end
theorem walk_RecvSingle (w : World) (hE : Snt5 (Wd.of w.heap)) (a0 : Option Addr) (len0 cap0 : Nat) (o0 : Opn (.slc (.int .i64)) (Wd.of w.heap) [.slice a0 len0 cap0]) (a1 : Option Addr) (len1 cap1 : Nat) (o1 : Opn (.slc .bool) (Wd.of w.heap) [.slice a1 len1 cap1]) :
    Calls Tryd.prog 3 #[.slice a0 len0 cap0, .slice a1 len1 cap1] w fun e w' => e = .returned (.bool true) ∧ Go.RowKit.Below w.heap.size w w' := by
  obtain ⟨a, c, l, e1, h1, h2, hl, -⟩ := opn_ints o0
  obtain ⟨a', c', ag, e2, hag⟩ := opn_bools o1
  cases e1; cases e2
  refine calls_of_runs ((single_r (r := []) hE (Me.start w.heap) hl hag).mono ?_)
  rintro v h' ⟨rfl, W', hle, m⟩
  exact ⟨rfl, m.kept hle⟩
end Go.Proofs.YthlacliefgliiaaDoor
