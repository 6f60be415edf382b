/- Package recv in memory: a data frame that comes alone; what is asked of a station. -/
import Derived.Test.YthlacliefgliiaaDoorMap
set_option linter.unusedVariables false
set_option linter.unusedSimpArgs false
set_option maxRecDepth 8000
namespace Go.Proofs.YthlacliefgliiaaDoor
open Go.Vc
section
variable {W W' : Wd} {h h' : Heap} {b t j n c : Nat} {a : Option Addr} {T : TypeId} {size : Int} {css : List (List Value)} {cs us vs : List Value} {G G' : List Grp} {v : Value} {x : Ses} {f : Fm} {mv : Option Nat} {Q : Heap → Prop} {E : Grp} {tid sq : Int} {rt : Bool} {body : List Int}
theorem gr_lel {A B C : Wd} {r : Option Nat} (h : A.le B) (k : B.gr C r) : A.gr C r := fun b x n e => k b x n (h b x e)
theorem recvData_c (s : St W h b T size css t (sesC x mv) G) (hk : KeptV W mv x.kept) (hmv : x.on = true → mv ≠ none) (hb : Bts W (.slice a n c) (qosB (dfm t sq rt body))) (hs : 0 ≤ sq ∧ sq ≤ 4095) (hbl : body.length ≤ 1500)
    (htk : TakeC x (dfm t sq rt body)) (hok : SesOk (x.take (dfm t sq rt body)).2) (hout : (x.take (dfm t sq rt body)).1.length ≤ 65536) :
    Runs Tryd.prog 14 #[.pointer (some ⟨b, 0, none⟩), .bool false, .slice a n c] h (DataV W b T size css t G mv (x.take (dfm t sq rt body)).1 (x.take (dfm t sq rt body)).2) := by
  have ht := s.ht
  have hf : FmOk (dfm t sq rt body) := dfm_ok (by omega) hs hbl
  refine vc_recv_Station_Data _ _ _ _ _ _ _ ?_
  intro b1 h1 e1 e2
  replace s := s.push e1 e2
  refine bcase_false rfl ?_
  refine ⟨fun a' l' c' last i h2 => (i = 0 ∧ a' = none ∧ l' = 0 ∧ c' = 0 ∧ last = -1 ∧ h2 = h1) ∨
      (i = 1 ∧ last = t ∧ l' = (x.take (dfm t sq rt body)).1.length ∧ ∃ W' E vs, W.gr W' mv ∧ Ow a' l' c' 24 vs E ∧ Sq (FmV W') (x.take (dfm t sq rt body)).1 vs ∧ KeptV W' mv (x.take (dfm t sq rt body)).2.kept ∧ St W' h2 b T size css t (sesC (x.take (dfm t sq rt body)).2 mv) (E :: G)),
    fun _ _ _ _ i _ => (1 - i).toNat, .inl ⟨rfl, rfl, rfl, rfl, rfl, rfl⟩, fun _ => ?_⟩
  rintro a' l' c' last i h2 (⟨rfl, rfl, rfl, rfl, rfl, rfl⟩ | ⟨rfl, rfl, rfl, W2, E, vs, hg, o, hsq, hk2, s2⟩)
  · refine dcase_pos (by decide) ⟨by decide, _, _, _, s.m.cell 1 rfl rfl, ?_⟩
    refine (qosRead_c s.m hb hf).mono ?_
    rintro _ h3 ⟨W1, cs, hle, rfl, hv, m3⟩
    replace s := s.mem m3
    obtain ⟨v, rfl, hvb⟩ := hv
    refine ⟨_, _, rfl, ?_⟩
    intro b4 h4 f1 f2
    replace s := s.push f1 f2
    refine ⟨⟨fmc_len hf, s.m.wrsb 1 rfl rfl, FmV.one' ⟨v, rfl, hvb⟩⟩, fun h5 e5 => ?_⟩
    have m5 := s.m.setr 1 rfl e5
    replace m5 : Me W1 h5 ([(b, stC size css t (sesC x mv), T)] :: [(b4, fmc (dfm t sq rt body) v, 55)] :: [(b1, [.slice a n c], 35)] :: G) := by
      have e : setL z24 0 (fmc (dfm t sq rt body) v) = fmc (dfm t sq rt body) v := setL_all (by rw [fmc_len hf]; rfl)
      simp only [List.set_cons_succ, List.set_cons_zero] at m5
      rw [← e]; exact m5
    replace s := s.mem m5
    refine ⟨true, rfl, bcase_false rfl ?_⟩
    refine ⟨_, s.m.row 1 rfl rfl (Nat.le_of_ble_eq_true rfl), _, s.rme, meL, meL, rfl, rfl, ⟨rfl, rfl⟩, bcase_false (by decide) ?_⟩
    refine ⟨_, s.m.row 1 rfl rfl (Nat.le_of_ble_eq_true rfl), _, s.rbss, bssL, bssL, rfl, rfl, ⟨rfl, rfl⟩, bcase_false (by decide) ?_⟩
    refine ⟨(t : Int), s.m.cell 1 rfl rfl, ⟨by omega, by omega⟩, fmc (dfm t sq rt body) v, s.m.row 1 rfl rfl (Nat.le_of_ble_eq_true rfl), ?_⟩
    rw [show (t : Int).toNat = t from rfl]
    refine (htk s (hk.le hle) hmv ⟨v, rfl, hvb⟩ hf).mono ?_
    rintro _ h6 ⟨W2, a6, c6, E6, vs6, hg, rfl, o6, hs6, hk6, s6⟩
    refine ⟨_, _, _, rfl, s6.m.cell 2 rfl rfl, vs6, ⟨o6.src s6.m 1 rfl, hs6.all fun f cs hv => hv.one'⟩, ?_⟩
    have m7 := s6.m.nilI
    refine (Ow.nil (sz := 24)).app m7 0 rfl o6.len (by omega) (by decide) fun a7 c7 E7 h7 m7 o7 => ?_
    simp only [List.set_cons_zero] at m7
    have m8 := me_swap m7
    have s8 : St W2 h7 b T size css t (sesC (x.take (dfm t sq rt body)).2 mv) (E7 :: E6 :: [(b4, fmc (dfm t sq rt body) v, 55)] :: [(b1, [.slice a n c], 35)] :: G) := s6.mem m8
    refine ⟨s8.m.cell 3 rfl rfl, _, s8.m.cell 3 rfl rfl, by simp only [fits]; omega, .inr ⟨rfl, rfl, by omega, W2, E7, vs6, gr_lel hle hg, ?_, hs6, hk6, ?_⟩, by dsimp only; omega⟩
    · exact o7
    · exact s8.mem (s8.m.sub ⟨E6 ++ ([(b4, fmc (dfm t sq rt body) v, 55)] ++ [(b1, [.slice a n c], 35)]), by
        simp only [List.flatten_cons, List.append_assoc]
        refine List.Perm.append_left _ (List.Perm.append_left _ ?_)
        have := List.perm_append_comm (l₁ := E6 ++ ([(b4, fmc (dfm t sq rt body) v, 55)] ++ [(b1, [.slice a n c], 35)])) (l₂ := G.flatten)
        simpa only [List.append_assoc] using this⟩)
  · refine dcase_neg (by decide) (dcase_neg (by omega) ?_)
    refine (answer_c s2 hok).mono ?_
    rintro _ h9 ⟨W3, a9, c9, hle, rfl, hb9, s9⟩
    exact ⟨_, _, _, rfl, W3, a', c', E, vs, a9, c9, fun b x n e => hle _ _ (hg b x n e), rfl, o, hsq.mono fun f cs hv => hv.le hle, hk2.le hle, hb9, s9⟩
theorem session_c (s : St W h b T size css t (sesC x mv) G) : Runs Tryd.prog 18 #[.pointer (some ⟨b, 0, none⟩), .int .i64 (t : Int)] h fun v h' => v = (if x.on then .tuple #[.int .i64 x.start, .int .i64 x.size, .bool true] else .tuple #[.int .i64 0, .int .i64 0, .bool false]) ∧ h' = h := by
  have ht := s.ht
  refine vc_recv_Station_Session _ _ _ _ (dcase_neg (by omega) (dcase_neg (by omega) ⟨⟨by omega, by omega⟩, _, s.get0 rfl, bcase_intro (fun q => ?_) fun q => ?_⟩))
  · have : x.on = false := by simpa using q
    rw [this]; exact ⟨rfl, rfl⟩
  · have : x.on = true := by simpa using q
    refine ⟨⟨by omega, by omega⟩, _, s.get 1 rfl, ⟨by omega, by omega⟩, _, s.get 2 rfl, ?_, rfl⟩
    rw [this]; rfl
theorem waits_c (s : St W h b T size css t (sesC x mv) G) (hk : KeptV W mv x.kept) : Runs Tryd.prog 19 #[.pointer (some ⟨b, 0, none⟩), .int .i64 (t : Int)] h fun v h' => v = .int .i64 x.kept.length ∧ h' = h := by
  have ht := s.ht
  refine vc_recv_Station_Waits _ _ _ _ (dcase_neg (by omega) (dcase_neg (by omega) ⟨⟨by omega, by omega⟩, _, s.get 5 rfl, mlen_c s.m hk ⟨rfl, rfl⟩⟩))
def bitA (a b : Int) : Int := bits .and .u64 a b
/-- Whether a number came. -/
def Ses.got (x : Ses) (n : Int) : Bool := if x.on then decide (0 ≤ n) && (decide (n < 4096) && (decide (distZ x.fr n < 64) && decide (0 < bitA (x.bits / pow2 (distZ x.fr n)) 1))) else x.came && decide (x.last = n)
theorem got_c (s : St W h b T size css t (sesC x mv) G) (m : Int) : Runs Tryd.prog 21 #[.pointer (some ⟨b, 0, none⟩), .int .i64 (t : Int), .int .i64 m] h fun v h' => v = .bool (x.got m) ∧ h' = h := by
  have ht := s.ht
  have hd := distZ_bd x.fr m
  refine vc_recv_Station_Got _ _ _ _ _ (dcase_neg (by omega) (dcase_neg (by omega) ⟨⟨by omega, by omega⟩, _, s.get0 rfl, bcase_intro (fun q => ?_) fun q => ?_⟩))
  · have hon : x.on = false := by simpa using q
    refine ⟨_, s.get 6 rfl, bcase_intro (fun q2 => ⟨_, s.get 7 rfl, ?_, rfl⟩) fun q2 => ⟨?_, rfl⟩⟩
    · simp [Ses.got, hon, q2]
    · simp [Ses.got, hon, q2]
  · have hon : x.on = true := by simpa using q
    refine ⟨_, s.get 3 rfl, (dist_c _ _ _).ret ⟨_, rfl, dcase_intro (fun q2 => dcase_intro (fun q3 => dcase_intro (fun q4 => ?_) fun q4 => ⟨?_, rfl⟩) fun q3 => ⟨?_, rfl⟩) fun q2 => ⟨?_, rfl⟩⟩⟩
    · refine ⟨_, s.get 4 rfl, ⟨hd.1, by simp only [kbits]; omega⟩, ?_, rfl⟩
      simp [Ses.got, bitA, hon, q2, q3, q4]
      rfl
    · simp [Ses.got, hon, q4]
    · simp [Ses.got, hon, q3]
    · simp [Ses.got, hon, q2]
end
end Go.Proofs.YthlacliefgliiaaDoor
