/- A session's window: what is handed up as it goes on; a frame that is taken in a session. -/
import Derived.Test.YthlacliefgliiaaDoorSess
set_option linter.unusedVariables false
set_option linter.unusedSimpArgs false
set_option maxRecDepth 8000
namespace Go.Proofs.YthlacliefgliiaaDoor
open Go.Vc
/-- The same session, its window here, these kept. -/
def Ses.wk (x : Ses) (s : Int) (l : List Fm) : Ses := { x with start := s, kept := l }
section
variable {W W' : Wd} {h h' : Heap} {b t j n c : Nat} {a : Option Addr} {T : TypeId} {size : Int} {css : List (List Value)} {cs us vs : List Value} {G G' : List Grp} {v : Value} {x : Ses} {f : Fm} {mv : Option Nat} {Q : Heap → Prop} {E : Grp} {l : List Fm}
theorem gr_ler {A B C : Wd} {r : Option Nat} (h : A.gr B r) (k : B.le C) : A.gr C r := fun b x n e => k b x (h b x n e)
theorem up_c (s : St W h b T size css t (sesC x mv) G) (hk : KeptV W mv x.kept) (hok : ∀ f ∈ x.kept, FmOk f) (to : Int) (hl : x.kept.length ≤ 4096) :
    Runs Tryd.prog 62 #[.pointer (some ⟨b, 13 + t * 8, none⟩), .int .i64 to] h (TookV W b T size css t G mv (x.up to).1 (x.up to).2) := by
  have hd := distZ_bd x.start to
  refine vc_recv_session_up _ _ _ _ ?_
  refine ⟨_, s.get 1 rfl, (dist_c _ _ _).ret ⟨_, rfl, ?_⟩⟩
  obtain ⟨d, hde⟩ := Int.eq_ofNat_of_zero_le hd.1
  have hU : (x.up to).1 = (upP d x.kept x.start).1 ∧ (x.up to).2 = x.wk to (upP d x.kept x.start).2 := by
    unfold Ses.up Ses.wk
    rw [hde]; exact ⟨rfl, rfl⟩
  rw [hU.1, hU.2, hde]
  refine ⟨fun a' l' c' i h => ∃ (k : Nat) (W1 : Wd) (E' : Grp) (vs : List Value) (out l : List Fm) (z : Int), i = k ∧ k ≤ d ∧ l' = out.length ∧ out.length ≤ k ∧ W.gr W1 mv ∧ Ow a' l' c' 24 vs E' ∧ Sq (FmV W1) out vs ∧ KeptV W1 mv l ∧ (∀ f ∈ l, FmOk f) ∧ St W1 h b T size css t (sesC (x.wk z l) mv) (E' :: G) ∧
      (upP d x.kept x.start).1 = out ++ (upP (d - k) l z).1 ∧ (upP d x.kept x.start).2 = (upP (d - k) l z).2,
    fun _ _ _ i _ => ((d : Int) - i).toNat, ⟨0, W, [], [], [], x.kept, x.start, rfl, by omega, rfl, Nat.le_refl _, fun _ _ _ e => e, Ow.nil, rfl, hk, hok, s.mem (me_swap s.m.nilI), rfl, rfl⟩, fun _ => ?_⟩
  rintro a' l' c' _ h2 ⟨k, W1, E', vs', out, l, z, rfl, hkd, rfl, hol, hg, o, hs, hk1, hok1, s1, hu1, hu2⟩
  refine dcase_intro (fun q => ?_) fun q => ?_
  · have hdk : d - k = (d - (k + 1)) + 1 := by omega
    refine ⟨_, s1.get 5 rfl, mlen_c s1.m hk1 (dcase_intro (fun q0 => ?_) fun q0 => ?_)⟩
    · have hl0 : l.length = 0 := by omega
      refine s1.set 1 rfl fun h3 s3 => ?_
      rw [hdk, upP, if_pos hl0] at hu1 hu2
      rw [hu1, hu2, List.append_nil]
      exact ⟨W1, a', c', E', vs', hg, rfl, o, hs, hk1, s3⟩
    · have hl0 : l.length ≠ 0 := fun e => q0 (by omega)
      refine ⟨_, s1.get 5 rfl, _, s1.get 1 rfl, ?_⟩
      dsimp only [Ses.wk]
      have hup : upP (d - k) l z = (match kfind l z with
          | none => upP (d - (k + 1)) l (addZ z 1)
          | some f => (f :: (upP (d - (k + 1)) (kdel l z) (addZ z 1)).1, (upP (d - (k + 1)) (kdel l z) (addZ z 1)).2)) := by
        rw [hdk, upP, if_neg hl0]; cases kfind l z <;> rfl
      refine ⟨?_, ?_⟩
      · obtain ⟨cs, hlk, hcl, hc1, hcf⟩ := lkr_c s1.m hk1 hok1 z
        refine ⟨cs, _, hlk, ?_⟩
        intro b6 h4 e1 e2
        have s4 := s1.push e1 e2
        refine ⟨⟨hcl, s4.m.wrsb 1 rfl rfl, hc1⟩, fun h5 e5 => ?_⟩
        have m5 := s4.m.setr 1 rfl e5
        simp only [List.set_cons_zero, List.set_cons_succ] at m5
        replace m5 : Me W1 h5 ([(b, stC size css t (sesC (x.wk z l) mv), T)] :: [(b6, cs, 55)] :: E' :: G) := by
          have e : setL z24 0 cs = cs := setL_all (by rw [hcl]; rfl)
          rw [← e]; exact m5
        have s5 := s4.mem m5
        refine bcase_intro (fun qf => ?_) fun qf => ?_
        · obtain ⟨f, hf⟩ := Option.isSome_iff_exists.1 qf
          have hfv := hcf f hf
          rw [hf] at hup
          dsimp only at hup
          refine ⟨cs, s5.m.row 1 rfl (by rw [List.drop_zero]; exact List.take_of_length_le (by omega)) (by omega), hcl, ?_⟩
          rw [List.append_nil]
          refine Ow.app1 (sz := 24) o s5.m 2 rfl hcl hc1 (by omega) (by decide) fun a7 c7 E7 h7 m7 o7 => ?_
          simp only [List.set_cons_zero, List.set_cons_succ] at m7
          have s7 := (s5.mem m7).drop
          refine ⟨_, s7.get 5 rfl, z, s7.get 1 rfl, ?_⟩
          refine mdel_c s7.m hk1 z fun W8 h8 hg8 m8 hk8 => ?_
          have s8 := s7.mem m8
          refine ⟨z, s8.get 1 rfl, (add_c _ _ _).ret ⟨_, rfl, ?_⟩⟩
          refine s8.set 1 rfl fun h9 s9 => ?_
          replace s9 : St W8 h9 b T size css t (sesC (x.wk (addZ z 1) (kdel l z)) mv) (E7 :: G) := s9
          refine ⟨by simp only [fits]; omega, ⟨k + 1, W8, E7, _, out ++ [f], kdel l z, addZ z 1, by omega, by omega, by simp, by simp; omega, gr_trans hg hg8, o7, (hs.mono fun f cs hv => fmv_cl (kept_cl hk1 hg8) hv).snoc (fmv_cl (kept_cl hk1 hg8) hfv), hk8, fun g hgm => hok1 g (kdel_sub hgm), s9, ?_, ?_⟩, by first | omega | (dsimp only; omega)⟩
          · rw [hu1, hup]; simp
          · rw [hu2, hup]
        · have hf : kfind l z = none := by simpa using qf
          rw [hf] at hup
          dsimp only at hup
          refine ⟨z, s5.get 1 rfl, (add_c _ _ _).ret ⟨_, rfl, ?_⟩⟩
          refine s5.set 1 rfl fun h9 s9 => ?_
          replace s9 : St W1 h9 b T size css t (sesC (x.wk (addZ z 1) l) mv) ([(b6, cs, 55)] :: E' :: G) := s9
          refine ⟨by simp only [fits]; omega, ⟨k + 1, W1, E', vs', out, l, addZ z 1, by omega, by omega, rfl, by omega, hg, o, hs, hk1, hok1, s9.drop, ?_, ?_⟩, by first | omega | (dsimp only; omega)⟩
          · rw [hu1, hup]
          · rw [hu2, hup]
      · intro b6 h4 e1 e2
        have s4 := s1.push e1 e2
        obtain ⟨cs, hlk, hcl, hc1, hcf⟩ := lkr_c s4.m hk1 hok1 z
        refine ⟨cs, _, hlk, ?_⟩
        refine ⟨⟨hcl, s4.m.wrsb 1 rfl rfl, hc1⟩, fun h5 e5 => ?_⟩
        have m5 := s4.m.setr 1 rfl e5
        simp only [List.set_cons_zero, List.set_cons_succ] at m5
        replace m5 : Me W1 h5 ([(b, stC size css t (sesC (x.wk z l) mv), T)] :: [(b6, cs, 55)] :: E' :: G) := by
          have e : setL z24 0 cs = cs := setL_all (by rw [hcl]; rfl)
          rw [← e]; exact m5
        have s5 := s4.mem m5
        refine bcase_intro (fun qf => ?_) fun qf => ?_
        · obtain ⟨f, hf⟩ := Option.isSome_iff_exists.1 qf
          have hfv := hcf f hf
          rw [hf] at hup
          dsimp only at hup
          refine ⟨cs, s5.m.row 1 rfl (by rw [List.drop_zero]; exact List.take_of_length_le (by omega)) (by omega), hcl, ?_⟩
          rw [List.append_nil]
          refine Ow.app1 (sz := 24) o s5.m 2 rfl hcl hc1 (by omega) (by decide) fun a7 c7 E7 h7 m7 o7 => ?_
          simp only [List.set_cons_zero, List.set_cons_succ] at m7
          have s7 := (s5.mem m7).drop
          refine ⟨_, s7.get 5 rfl, z, s7.get 1 rfl, ?_⟩
          refine mdel_c s7.m hk1 z fun W8 h8 hg8 m8 hk8 => ?_
          have s8 := s7.mem m8
          refine ⟨z, s8.get 1 rfl, (add_c _ _ _).ret ⟨_, rfl, ?_⟩⟩
          refine s8.set 1 rfl fun h9 s9 => ?_
          replace s9 : St W8 h9 b T size css t (sesC (x.wk (addZ z 1) (kdel l z)) mv) (E7 :: G) := s9
          refine ⟨by simp only [fits]; omega, ⟨k + 1, W8, E7, _, out ++ [f], kdel l z, addZ z 1, by omega, by omega, by simp, by simp; omega, gr_trans hg hg8, o7, (hs.mono fun f cs hv => fmv_cl (kept_cl hk1 hg8) hv).snoc (fmv_cl (kept_cl hk1 hg8) hfv), hk8, fun g hgm => hok1 g (kdel_sub hgm), s9, ?_, ?_⟩, by first | omega | (dsimp only; omega)⟩
          · rw [hu1, hup]; simp
          · rw [hu2, hup]
        · have hf : kfind l z = none := by simpa using qf
          rw [hf] at hup
          dsimp only at hup
          refine ⟨z, s5.get 1 rfl, (add_c _ _ _).ret ⟨_, rfl, ?_⟩⟩
          refine s5.set 1 rfl fun h9 s9 => ?_
          replace s9 : St W1 h9 b T size css t (sesC (x.wk (addZ z 1) l) mv) ([(b6, cs, 55)] :: E' :: G) := s9
          refine ⟨by simp only [fits]; omega, ⟨k + 1, W1, E', vs', out, l, addZ z 1, by omega, by omega, rfl, by omega, hg, o, hs, hk1, hok1, s9.drop, ?_, ?_⟩, by first | omega | (dsimp only; omega)⟩
          · rw [hu1, hup]
          · rw [hu2, hup]
  · obtain rfl : k = d := by omega
    refine s1.set 1 rfl fun h3 s3 => ?_
    rw [Nat.sub_self, upP] at hu1 hu2
    rw [hu1, hu2, List.append_nil]
    exact ⟨W1, a', c', E', vs', hg, rfl, o, hs, hk1, s3⟩
theorem runP_none {n : Nat} {z : Int} (h : kfind l z = none) : runP (n + 1) l z = ([], l, z) := by rw [runP, h]
theorem runP_some {n : Nat} {z : Int} (h : kfind l z = some f) : runP (n + 1) l z = (f :: (runP n (kdel l z) (addZ z 1)).1, (runP n (kdel l z) (addZ z 1)).2) := by rw [runP, h]
theorem run_c (s : St W h b T size css t (sesC x mv) G) (hk : KeptV W mv x.kept) (hok : ∀ f ∈ x.kept, FmOk f) (hl : x.kept.length ≤ 4097) :
    Runs Tryd.prog 64 #[.pointer (some ⟨b, 13 + t * 8, none⟩)] h (TookV W b T size css t G mv x.run.1 x.run.2) := by
  refine vc_recv_session_run _ _ _ ?_
  obtain ⟨N, hN⟩ : ∃ N, N = x.kept.length := ⟨_, rfl⟩
  have hU : x.run.1 = (runP (N + 1) x.kept x.start).1 ∧ x.run.2 = x.wk (runP (N + 1) x.kept x.start).2.2 (runP (N + 1) x.kept x.start).2.1 := by
    rw [hN]; exact ⟨rfl, rfl⟩
  rw [hU.1, hU.2]
  refine ⟨fun a' l' c' h => ∃ (W1 : Wd) (E' : Grp) (vs : List Value) (out l : List Fm) (z : Int), l' = out.length ∧ out.length + l.length = N ∧ W.gr W1 mv ∧ Ow a' l' c' 24 vs E' ∧ Sq (FmV W1) out vs ∧ KeptV W1 mv l ∧ (∀ f ∈ l, FmOk f) ∧ St W1 h b T size css t (sesC (x.wk z l) mv) (E' :: G) ∧
      (runP (N + 1) x.kept x.start).1 = out ++ (runP (l.length + 1) l z).1 ∧ (runP (N + 1) x.kept x.start).2 = (runP (l.length + 1) l z).2,
    fun _ l' _ _ => N - l', ⟨W, [], [], [], x.kept, x.start, rfl, by simp [hN], fun _ _ _ e => e, Ow.nil, rfl, hk, hok, s.mem (me_swap s.m.nilI), by rw [← hN]; rfl, by rw [← hN]⟩, fun _ => ?_⟩
  rintro a' l' c' h2 ⟨W1, E', vs', out, l, z, rfl, hol, hg, o, hs, hk1, hok1, s1, hu1, hu2⟩
  refine ⟨_, s1.get 5 rfl, _, s1.get 1 rfl, ?_⟩
  dsimp only [Ses.wk]
  refine ⟨?_, ?_⟩
  · obtain ⟨cs, hlk, hcl, hc1, hcf⟩ := lkr_c s1.m hk1 hok1 z
    refine ⟨cs, _, hlk, ?_⟩
    intro b6 h4 e1 e2
    have s4 := s1.push e1 e2
    refine ⟨⟨hcl, s4.m.wrsb 1 rfl rfl, hc1⟩, fun h5 e5 => ?_⟩
    have m5 := s4.m.setr 1 rfl e5
    simp only [List.set_cons_zero, List.set_cons_succ] at m5
    replace m5 : Me W1 h5 ([(b, stC size css t (sesC (x.wk z l) mv), T)] :: [(b6, cs, 55)] :: E' :: G) := by
      have e : setL z24 0 cs = cs := setL_all (by rw [hcl]; rfl)
      rw [← e]; exact m5
    have s5 := s4.mem m5
    refine bcase_intro (fun qf => ?_) fun qf => ?_
    · have hf : kfind l z = none := by simpa using qf
      rw [runP_none hf] at hu1 hu2
      rw [hu1, hu2, List.append_nil]
      exact ⟨W1, a', c', E', vs', hg, rfl, o, hs, hk1, s5.drop⟩
    · have qf' : (kfind l z).isSome = true := by simpa using qf
      obtain ⟨f, hf⟩ := Option.isSome_iff_exists.1 qf'
      have hfv := hcf f hf
      have hkl := kdel_len hf
      rw [runP_some hf, ← hkl] at hu1 hu2
      refine ⟨cs, s5.m.row 1 rfl (by rw [List.drop_zero]; exact List.take_of_length_le (by omega)) (by omega), hcl, ?_⟩
      rw [List.append_nil]
      refine Ow.app1 (sz := 24) o s5.m 2 rfl hcl hc1 (by omega) (by decide) fun a7 c7 E7 h7 m7 o7 => ?_
      simp only [List.set_cons_zero, List.set_cons_succ] at m7
      have s7 := (s5.mem m7).drop
      refine ⟨_, s7.get 5 rfl, z, s7.get 1 rfl, ?_⟩
      refine mdel_c s7.m hk1 z fun W8 h8 hg8 m8 hk8 => ?_
      have s8 := s7.mem m8
      refine ⟨z, s8.get 1 rfl, (add_c _ _ _).ret ⟨_, rfl, ?_⟩⟩
      refine s8.set 1 rfl fun h9 s9 => ?_
      replace s9 : St W8 h9 b T size css t (sesC (x.wk (addZ z 1) (kdel l z)) mv) (E7 :: G) := s9
      refine ⟨⟨W8, E7, _, out ++ [f], kdel l z, addZ z 1, by simp, by simp; omega, gr_trans hg hg8, o7, (hs.mono fun f cs hv => fmv_cl (kept_cl hk1 hg8) hv).snoc (fmv_cl (kept_cl hk1 hg8) hfv), hk8, fun g hgm => hok1 g (kdel_sub hgm), s9, ?_, ?_⟩, by first | omega | (dsimp only; omega)⟩
      · rw [hu1]; simp
      · rw [hu2]
  · intro b6 h4 e1 e2
    have s4 := s1.push e1 e2
    obtain ⟨cs, hlk, hcl, hc1, hcf⟩ := lkr_c s4.m hk1 hok1 z
    refine ⟨cs, _, hlk, ?_⟩
    refine ⟨⟨hcl, s4.m.wrsb 1 rfl rfl, hc1⟩, fun h5 e5 => ?_⟩
    have m5 := s4.m.setr 1 rfl e5
    simp only [List.set_cons_zero, List.set_cons_succ] at m5
    replace m5 : Me W1 h5 ([(b, stC size css t (sesC (x.wk z l) mv), T)] :: [(b6, cs, 55)] :: E' :: G) := by
      have e : setL z24 0 cs = cs := setL_all (by rw [hcl]; rfl)
      rw [← e]; exact m5
    have s5 := s4.mem m5
    refine bcase_intro (fun qf => ?_) fun qf => ?_
    · have hf : kfind l z = none := by simpa using qf
      rw [runP_none hf] at hu1 hu2
      rw [hu1, hu2, List.append_nil]
      exact ⟨W1, a', c', E', vs', hg, rfl, o, hs, hk1, s5.drop⟩
    · have qf' : (kfind l z).isSome = true := by simpa using qf
      obtain ⟨f, hf⟩ := Option.isSome_iff_exists.1 qf'
      have hfv := hcf f hf
      have hkl := kdel_len hf
      rw [runP_some hf, ← hkl] at hu1 hu2
      refine ⟨cs, s5.m.row 1 rfl (by rw [List.drop_zero]; exact List.take_of_length_le (by omega)) (by omega), hcl, ?_⟩
      rw [List.append_nil]
      refine Ow.app1 (sz := 24) o s5.m 2 rfl hcl hc1 (by omega) (by decide) fun a7 c7 E7 h7 m7 o7 => ?_
      simp only [List.set_cons_zero, List.set_cons_succ] at m7
      have s7 := (s5.mem m7).drop
      refine ⟨_, s7.get 5 rfl, z, s7.get 1 rfl, ?_⟩
      refine mdel_c s7.m hk1 z fun W8 h8 hg8 m8 hk8 => ?_
      have s8 := s7.mem m8
      refine ⟨z, s8.get 1 rfl, (add_c _ _ _).ret ⟨_, rfl, ?_⟩⟩
      refine s8.set 1 rfl fun h9 s9 => ?_
      replace s9 : St W8 h9 b T size css t (sesC (x.wk (addZ z 1) (kdel l z)) mv) (E7 :: G) := s9
      refine ⟨⟨W8, E7, _, out ++ [f], kdel l z, addZ z 1, by simp, by simp; omega, gr_trans hg hg8, o7, (hs.mono fun f cs hv => fmv_cl (kept_cl hk1 hg8) hv).snoc (fmv_cl (kept_cl hk1 hg8) hfv), hk8, fun g hgm => hok1 g (kdel_sub hgm), s9, ?_, ?_⟩, by first | omega | (dsimp only; omega)⟩
      · rw [hu1]; simp
      · rw [hu2]
end
end Go.Proofs.YthlacliefgliiaaDoor
