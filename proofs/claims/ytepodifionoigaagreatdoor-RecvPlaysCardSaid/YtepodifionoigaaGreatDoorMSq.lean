import Derived.Test.YtepodifionoigaaGreatDoorSess
set_option linter.unusedVariables false
set_option linter.unusedSimpArgs false
set_option maxRecDepth 8000
namespace Go.Proofs.YtepodifionoigaaGreatDoor
open Go.Vc
theorem mark_kept (x : Ses) (n : Int) : (x.mark n).kept = x.kept ∧ (x.mark n).start = x.start ∧ (x.mark n).size = x.size ∧ (x.mark n).on = x.on ∧ (x.mark n).last = x.last := by
  unfold Ses.mark
  split <;> exact ⟨rfl, rfl, rfl, rfl, rfl⟩
theorem stand_kept (x : Ses) (n : Int) : (x.stand n).kept = x.kept ∧ (x.stand n).start = x.start ∧ (x.stand n).size = x.size ∧ (x.stand n).on = x.on ∧ (x.stand n).last = x.last := by
  unfold Ses.stand
  split
  · exact mark_kept (x.move (addZ n (-63))) n
  · exact mark_kept x n
theorem upP_sub : ∀ (d : Nat) {l : List Fm} {s : Int} {g : Fm}, g ∈ (upP d l s).2 → g ∈ l
  | 0, l, s, g, h => h
  | d + 1, l, s, g, h => by
    unfold upP at h
    split at h
    · exact h
    · split at h
      · exact upP_sub d h
      · exact kdel_sub (upP_sub d h)
theorem upP_len : ∀ (d : Nat) {l : List Fm} {s : Int}, (upP d l s).1.length + (upP d l s).2.length = l.length
  | 0, l, s => by simp [upP]
  | d + 1, l, s => by
    unfold upP
    split
    · simp
    · split
      · exact upP_len d
      · rename_i f hf
        have h1 := upP_len d (l := kdel l s) (s := addZ s 1)
        have h2 := kdel_len hf
        simp; omega
theorem runP_len : ∀ (n : Nat) {l : List Fm} {s : Int}, (runP n l s).1.length + (runP n l s).2.1.length = l.length
  | 0, l, s => by simp [runP]
  | n + 1, l, s => by
    unfold runP
    split
    · simp
    · rename_i f hf
      have h1 := runP_len n (l := kdel l s) (s := addZ s 1)
      have h2 := kdel_len hf
      simp; omega
theorem run_len (x : Ses) : x.run.1.length + x.run.2.kept.length = x.kept.length := runP_len _
section
variable {x : Ses} {f : Fm}
theorem take_on (hon : x.on = true) (hok : SesOk x) : TakeC x f := by
  intro W h b t T size css G mv cs s hk hmv hv hf
  obtain ⟨r, rfl⟩ : ∃ r, mv = some r := by
    cases mv with
    | none => exact absurd rfl (hmv hon)
    | some r => exact ⟨r, rfl⟩
  obtain ⟨v, rfl, hb⟩ := hv
  have hr : x.take f = (x.stand f.sq).take2 f := by unfold Ses.take; rw [hon]; rfl
  rw [hr]
  obtain ⟨k1, k2, k3, k4, k5⟩ := stand_kept x f.sq
  obtain ⟨x2, hx2⟩ : ∃ x2, x2 = x.stand f.sq := ⟨_, rfl⟩
  have hon2 : x2.on = true := by rw [hx2, k4]; exact hon
  have hkx : x2.kept = x.kept := by rw [hx2]; exact k1
  have hz : x2.size = x.size := by rw [hx2]; exact k3
  have hokk : ∀ g ∈ x2.kept, FmOk g := by rw [hkx]; exact hok.k
  have hlk : x2.kept.length ≤ 4096 := by rw [hkx]; exact hok.n
  rw [← hx2]
  have hd := distZ_bd x2.start f.sq
  refine vc_recv_session_take _ _ _ _ ?_
  intro b1 g1 e1 e2
  replace s := s.push e1 e2
  refine ⟨_, s.get0 rfl, bcase_false (by rw [hon]; rfl) ⟨f.sq, s.m.cell 1 rfl (fmc_cell hf 1 rfl), ?_⟩⟩
  refine (stand_c s f.sq).mono ?_
  rintro _ g2 ⟨rfl, s2⟩
  rw [← hx2] at s2
  have hk2 : KeptV W (some r) x2.kept := by rw [hkx]; exact hk
  refine ⟨_, s2.get 1 rfl, f.sq, s2.m.cell 1 rfl (fmc_cell hf 1 rfl), (dist_c _ _ _).ret ⟨_, rfl, ?_⟩⟩
  refine dcase_intro (fun q => ?_) fun q => ?_
  · have e : x2.take2 f = ([], x2) := by unfold Ses.take2; rw [if_pos q]
    rw [e]
    exact ⟨W, none, 0, [], [], fun _ _ _ e => e, rfl, Ow.nil, rfl, hk2, s2.drop.mem (me_swap s2.drop.m.nilI)⟩
  · refine ⟨_, s2.get 2 rfl, dcase_intro (fun q2 => ?_) fun q2 => ?_⟩
    · have e : x2.take2 f = ((x2.up (addZ f.sq (1 - x2.size))).1 ++ (((x2.up (addZ f.sq (1 - x2.size))).2.put f).run).1, (((x2.up (addZ f.sq (1 - x2.size))).2.put f).run).2) := by
        unfold Ses.take2; rw [if_neg q, if_pos q2]
      rw [e]
      refine ⟨f.sq, s2.m.cell 1 rfl (fmc_cell hf 1 rfl), x2.size, s2.get 2 rfl, by simp only [fits]; have := hok.z; omega, (add_c _ _ _).ret ⟨_, rfl, ?_⟩⟩
      obtain ⟨to, hto⟩ : ∃ to, to = addZ f.sq (1 - x2.size) := ⟨_, rfl⟩
      rw [← hto]
      obtain ⟨y, hy⟩ : ∃ y, y = (x2.up to).2 := ⟨_, rfl⟩
      obtain ⟨out1, ho1⟩ : ∃ out1, out1 = (x2.up to).1 := ⟨_, rfl⟩
      refine (up_c s2 hk2 hokk to hlk).mono ?_
      rw [← hy, ← ho1]
      rintro _ g3 ⟨W3, a3, c3, E3, vs3, hg3, rfl, o3, hs3, hk3, s3⟩
      have hokk3 : ∀ g ∈ y.kept, FmOk g := fun g hg => hokk g (by rw [hy] at hg; exact upP_sub _ hg)
      have hlen := upP_len (distZ x2.start to).toNat (l := x2.kept) (s := x2.start)
      have hl3 : out1.length + y.kept.length = x2.kept.length := by rw [ho1, hy]; exact hlen
      have hz3 : y.size = x2.size := by rw [hy]; rfl
      refine ⟨_, _, _, rfl, _, s3.get 5 rfl, f.sq, s3.m.cell 2 rfl (fmc_cell hf 1 rfl), ?_⟩
      refine ⟨?_, ?_⟩
      · obtain ⟨cs4, hlk4, hcl4, hc14, hcf4⟩ := lkr_c s3.m hk3 hokk3 f.sq
        refine ⟨cs4, _, hlk4, ?_⟩
        intro b6 g4 e3 e4
        have s4 := s3.push e3 e4
        refine ⟨⟨hcl4, s4.m.wrsb 1 rfl rfl, hc14⟩, fun g5 e5 => ?_⟩
        have m5 := s4.m.setr 1 rfl e5
        simp only [List.set_cons_zero, List.set_cons_succ] at m5
        have s5 := (s4.mem m5).drop
        refine bcase_intro (fun qf => ?_) fun qf => ?_
        · have hn : kfind y.kept f.sq = none := by simpa using qf
          have ep : y.put f = { y with kept := y.kept ++ [f] } := by unfold Ses.put; rw [hn]; rfl
          have r24 := s5.m.row 2 (o := 0) (n := 24) (us := fmc f v) rfl (by rw [List.drop_zero]; exact List.take_of_length_le (by rw [fmc_len hf]; decide)) (by rw [fmc_len hf]; decide)
          refine ⟨_, s5.get 5 rfl, f.sq, s5.m.cell 2 rfl (fmc_cell hf 1 rfl), fmc f v, r24, ?_⟩
          have hcl := kept_cl hk hg3
          refine mput_c s5.m hk3 ⟨v, rfl, bts_cl hcl hb⟩ hn fun W6 g6 hg6 m6 hk6 => ?_
          have s6 : St W6 g6 b T size css t (sesC (y.put f) (some r)) (E3 :: [(b1, fmc f v, 67)] :: G) := by rw [ep]; exact s5.mem m6
          have hk6' : KeptV W6 (some r) (y.put f).kept := by rw [ep]; exact hk6
          have hok6 : ∀ g ∈ (y.put f).kept, FmOk g := by
            rw [ep]
            intro g hg
            rcases List.mem_append.1 hg with hg | hg
            · exact hokk3 g hg
            · rw [List.mem_singleton] at hg; subst hg; exact hf
          have hl6 : (y.put f).kept.length = y.kept.length + 1 := by rw [ep]; simp
          have hs6 := hs3.mono fun f cs hv => fmv_cl (kept_cl hk3 hg6) hv
          have hg7 := gr_trans hg3 hg6
          refine (run_c s6 hk6' hok6 (by omega)).mono ?_
          rintro _ g8 ⟨W8, a8, c8, E8, vs8, hg8, rfl, o8, hs8, hk8, s8⟩
          refine ⟨_, _, _, rfl, vs8, ⟨o8.src s8.m 1 rfl, hs8.all fun f cs hv => hv.one'⟩, ?_⟩
          have hrl := run_len (y.put f)
          refine o3.app s8.m 2 rfl o8.len (by omega) (by decide) fun a9 c9 E9 g9 m9 o9 => ?_
          simp only [List.set_cons_zero, List.set_cons_succ] at m9
          have s9 := (s8.mem m9).drop
          refine ⟨W8, a9, c9, E9, _, gr_trans hg7 hg8, by first | (rw [List.length_append]; done) | (rw [List.length_append, h0]), by rw [List.length_append]; first | exact o9 | (rw [h0]; exact o9), (hs6.mono fun f cs hv => fmv_cl (kept_cl hk6' hg8) hv).app hs8, hk8, ?_⟩
          exact s9.mem (s9.m.sub ⟨[(b1, fmc f v, 67)], by
            simp only [List.flatten_cons, List.append_assoc]
            exact List.Perm.append_left _ (List.Perm.append_left _ List.perm_append_comm)⟩)
        · have ep : y.put f = y := by unfold Ses.put; rw [if_pos (by simpa using qf)]
          have s6 : St W3 g5 b T size css t (sesC (y.put f) (some r)) (E3 :: [(b1, fmc f v, 67)] :: G) := by rw [ep]; exact s5
          have hk6' : KeptV W3 (some r) (y.put f).kept := by rw [ep]; exact hk3
          have hok6 : ∀ g ∈ (y.put f).kept, FmOk g := by rw [ep]; exact hokk3
          have hl6 : (y.put f).kept.length ≤ y.kept.length + 1 := by rw [ep]; omega
          have hs6 := hs3
          have hg7 := hg3
          refine (run_c s6 hk6' hok6 (by omega)).mono ?_
          rintro _ g8 ⟨W8, a8, c8, E8, vs8, hg8, rfl, o8, hs8, hk8, s8⟩
          refine ⟨_, _, _, rfl, vs8, ⟨o8.src s8.m 1 rfl, hs8.all fun f cs hv => hv.one'⟩, ?_⟩
          have hrl := run_len (y.put f)
          refine o3.app s8.m 2 rfl o8.len (by omega) (by decide) fun a9 c9 E9 g9 m9 o9 => ?_
          simp only [List.set_cons_zero, List.set_cons_succ] at m9
          have s9 := (s8.mem m9).drop
          refine ⟨W8, a9, c9, E9, _, gr_trans hg7 hg8, by first | (rw [List.length_append]; done) | (rw [List.length_append, h0]), by rw [List.length_append]; first | exact o9 | (rw [h0]; exact o9), (hs6.mono fun f cs hv => fmv_cl (kept_cl hk6' hg8) hv).app hs8, hk8, ?_⟩
          exact s9.mem (s9.m.sub ⟨[(b1, fmc f v, 67)], by
            simp only [List.flatten_cons, List.append_assoc]
            exact List.Perm.append_left _ (List.Perm.append_left _ List.perm_append_comm)⟩)
      · intro b6 g4 e3 e4
        have s4 := s3.push e3 e4
        obtain ⟨cs4, hlk4, hcl4, hc14, hcf4⟩ := lkr_c s4.m hk3 hokk3 f.sq
        refine ⟨cs4, _, hlk4, ?_⟩
        refine ⟨⟨hcl4, s4.m.wrsb 1 rfl rfl, hc14⟩, fun g5 e5 => ?_⟩
        have m5 := s4.m.setr 1 rfl e5
        simp only [List.set_cons_zero, List.set_cons_succ] at m5
        have s5 := (s4.mem m5).drop
        refine bcase_intro (fun qf => ?_) fun qf => ?_
        · have hn : kfind y.kept f.sq = none := by simpa using qf
          have ep : y.put f = { y with kept := y.kept ++ [f] } := by unfold Ses.put; rw [hn]; rfl
          have r24 := s5.m.row 2 (o := 0) (n := 24) (us := fmc f v) rfl (by rw [List.drop_zero]; exact List.take_of_length_le (by rw [fmc_len hf]; decide)) (by rw [fmc_len hf]; decide)
          refine ⟨_, s5.get 5 rfl, f.sq, s5.m.cell 2 rfl (fmc_cell hf 1 rfl), fmc f v, r24, ?_⟩
          have hcl := kept_cl hk hg3
          refine mput_c s5.m hk3 ⟨v, rfl, bts_cl hcl hb⟩ hn fun W6 g6 hg6 m6 hk6 => ?_
          have s6 : St W6 g6 b T size css t (sesC (y.put f) (some r)) (E3 :: [(b1, fmc f v, 67)] :: G) := by rw [ep]; exact s5.mem m6
          have hk6' : KeptV W6 (some r) (y.put f).kept := by rw [ep]; exact hk6
          have hok6 : ∀ g ∈ (y.put f).kept, FmOk g := by
            rw [ep]
            intro g hg
            rcases List.mem_append.1 hg with hg | hg
            · exact hokk3 g hg
            · rw [List.mem_singleton] at hg; subst hg; exact hf
          have hl6 : (y.put f).kept.length = y.kept.length + 1 := by rw [ep]; simp
          have hs6 := hs3.mono fun f cs hv => fmv_cl (kept_cl hk3 hg6) hv
          have hg7 := gr_trans hg3 hg6
          refine (run_c s6 hk6' hok6 (by omega)).mono ?_
          rintro _ g8 ⟨W8, a8, c8, E8, vs8, hg8, rfl, o8, hs8, hk8, s8⟩
          refine ⟨_, _, _, rfl, vs8, ⟨o8.src s8.m 1 rfl, hs8.all fun f cs hv => hv.one'⟩, ?_⟩
          have hrl := run_len (y.put f)
          refine o3.app s8.m 2 rfl o8.len (by omega) (by decide) fun a9 c9 E9 g9 m9 o9 => ?_
          simp only [List.set_cons_zero, List.set_cons_succ] at m9
          have s9 := (s8.mem m9).drop
          refine ⟨W8, a9, c9, E9, _, gr_trans hg7 hg8, by first | (rw [List.length_append]; done) | (rw [List.length_append, h0]), by rw [List.length_append]; first | exact o9 | (rw [h0]; exact o9), (hs6.mono fun f cs hv => fmv_cl (kept_cl hk6' hg8) hv).app hs8, hk8, ?_⟩
          exact s9.mem (s9.m.sub ⟨[(b1, fmc f v, 67)], by
            simp only [List.flatten_cons, List.append_assoc]
            exact List.Perm.append_left _ (List.Perm.append_left _ List.perm_append_comm)⟩)
        · have ep : y.put f = y := by unfold Ses.put; rw [if_pos (by simpa using qf)]
          have s6 : St W3 g5 b T size css t (sesC (y.put f) (some r)) (E3 :: [(b1, fmc f v, 67)] :: G) := by rw [ep]; exact s5
          have hk6' : KeptV W3 (some r) (y.put f).kept := by rw [ep]; exact hk3
          have hok6 : ∀ g ∈ (y.put f).kept, FmOk g := by rw [ep]; exact hokk3
          have hl6 : (y.put f).kept.length ≤ y.kept.length + 1 := by rw [ep]; omega
          have hs6 := hs3
          have hg7 := hg3
          refine (run_c s6 hk6' hok6 (by omega)).mono ?_
          rintro _ g8 ⟨W8, a8, c8, E8, vs8, hg8, rfl, o8, hs8, hk8, s8⟩
          refine ⟨_, _, _, rfl, vs8, ⟨o8.src s8.m 1 rfl, hs8.all fun f cs hv => hv.one'⟩, ?_⟩
          have hrl := run_len (y.put f)
          refine o3.app s8.m 2 rfl o8.len (by omega) (by decide) fun a9 c9 E9 g9 m9 o9 => ?_
          simp only [List.set_cons_zero, List.set_cons_succ] at m9
          have s9 := (s8.mem m9).drop
          refine ⟨W8, a9, c9, E9, _, gr_trans hg7 hg8, by first | (rw [List.length_append]; done) | (rw [List.length_append, h0]), by rw [List.length_append]; first | exact o9 | (rw [h0]; exact o9), (hs6.mono fun f cs hv => fmv_cl (kept_cl hk6' hg8) hv).app hs8, hk8, ?_⟩
          exact s9.mem (s9.m.sub ⟨[(b1, fmc f v, 67)], by
            simp only [List.flatten_cons, List.append_assoc]
            exact List.Perm.append_left _ (List.Perm.append_left _ List.perm_append_comm)⟩)
    · have e : x2.take2 f = ((x2.put f).run.1, (x2.put f).run.2) := by
        unfold Ses.take2; rw [if_neg q, if_neg q2]
      rw [e]
      obtain ⟨y, hy⟩ : ∃ y, y = x2 := ⟨_, rfl⟩
      rw [← hy] at s2 hk2 hokk hlk ⊢
      obtain ⟨W3, E3, out1, vs3, hW3, hE3, ho1, hv3⟩ : ∃ (W3 : Wd) (E3 : Grp) (out1 : List Fm) (vs3 : List Value), W3 = W ∧ E3 = [] ∧ out1 = [] ∧ vs3 = [] := ⟨_, _, _, _, rfl, rfl, rfl, rfl⟩
      have s3 : St W3 g2 b T size css t (sesC y (some r)) (E3 :: [(b1, fmc f v, 67)] :: G) := by rw [hW3, hE3]; exact s2.mem (me_swap s2.m.nilI)
      have o3 : Ow none 0 0 24 vs3 E3 := by rw [hv3, hE3]; exact Ow.nil
      have hs3 : Sq (FmV W3) out1 vs3 := by rw [ho1, hv3]; rfl
      have hk3 : KeptV W3 (some r) y.kept := by rw [hW3]; exact hk2
      have hokk3 := hokk
      have hg3 : W.gr W3 (some r) := by rw [hW3]; exact fun _ _ _ e => e
      have h0 : out1.length = 0 := by rw [ho1]; rfl
      have hl3 : out1.length + y.kept.length ≤ 4096 := by omega
      rw [show (y.put f).run.1 = out1 ++ (y.put f).run.1 by rw [ho1]; rfl]
      refine ⟨_, s3.get 5 rfl, f.sq, s3.m.cell 2 rfl (fmc_cell hf 1 rfl), ?_⟩
      refine ⟨?_, ?_⟩
      · obtain ⟨cs4, hlk4, hcl4, hc14, hcf4⟩ := lkr_c s3.m hk3 hokk3 f.sq
        refine ⟨cs4, _, hlk4, ?_⟩
        intro b6 g4 e3 e4
        have s4 := s3.push e3 e4
        refine ⟨⟨hcl4, s4.m.wrsb 1 rfl rfl, hc14⟩, fun g5 e5 => ?_⟩
        have m5 := s4.m.setr 1 rfl e5
        simp only [List.set_cons_zero, List.set_cons_succ] at m5
        have s5 := (s4.mem m5).drop
        refine bcase_intro (fun qf => ?_) fun qf => ?_
        · have hn : kfind y.kept f.sq = none := by simpa using qf
          have ep : y.put f = { y with kept := y.kept ++ [f] } := by unfold Ses.put; rw [hn]; rfl
          have r24 := s5.m.row 2 (o := 0) (n := 24) (us := fmc f v) rfl (by rw [List.drop_zero]; exact List.take_of_length_le (by rw [fmc_len hf]; decide)) (by rw [fmc_len hf]; decide)
          refine ⟨_, s5.get 5 rfl, f.sq, s5.m.cell 2 rfl (fmc_cell hf 1 rfl), fmc f v, r24, ?_⟩
          have hcl := kept_cl hk hg3
          refine mput_c s5.m hk3 ⟨v, rfl, bts_cl hcl hb⟩ hn fun W6 g6 hg6 m6 hk6 => ?_
          have s6 : St W6 g6 b T size css t (sesC (y.put f) (some r)) (E3 :: [(b1, fmc f v, 67)] :: G) := by rw [ep]; exact s5.mem m6
          have hk6' : KeptV W6 (some r) (y.put f).kept := by rw [ep]; exact hk6
          have hok6 : ∀ g ∈ (y.put f).kept, FmOk g := by
            rw [ep]
            intro g hg
            rcases List.mem_append.1 hg with hg | hg
            · exact hokk3 g hg
            · rw [List.mem_singleton] at hg; subst hg; exact hf
          have hl6 : (y.put f).kept.length = y.kept.length + 1 := by rw [ep]; simp
          have hs6 := hs3.mono fun f cs hv => fmv_cl (kept_cl hk3 hg6) hv
          have hg7 := gr_trans hg3 hg6
          refine (run_c s6 hk6' hok6 (by omega)).mono ?_
          rintro _ g8 ⟨W8, a8, c8, E8, vs8, hg8, rfl, o8, hs8, hk8, s8⟩
          refine ⟨_, _, _, rfl, vs8, ⟨o8.src s8.m 1 rfl, hs8.all fun f cs hv => hv.one'⟩, ?_⟩
          have hrl := run_len (y.put f)
          refine o3.app s8.m 2 rfl o8.len (by omega) (by decide) fun a9 c9 E9 g9 m9 o9 => ?_
          simp only [List.set_cons_zero, List.set_cons_succ] at m9
          have s9 := (s8.mem m9).drop
          refine ⟨W8, a9, c9, E9, _, gr_trans hg7 hg8, by first | (rw [List.length_append]; done) | (rw [List.length_append, h0]), by rw [List.length_append]; first | exact o9 | (rw [h0]; exact o9), (hs6.mono fun f cs hv => fmv_cl (kept_cl hk6' hg8) hv).app hs8, hk8, ?_⟩
          exact s9.mem (s9.m.sub ⟨[(b1, fmc f v, 67)], by
            simp only [List.flatten_cons, List.append_assoc]
            exact List.Perm.append_left _ (List.Perm.append_left _ List.perm_append_comm)⟩)
        · have ep : y.put f = y := by unfold Ses.put; rw [if_pos (by simpa using qf)]
          have s6 : St W3 g5 b T size css t (sesC (y.put f) (some r)) (E3 :: [(b1, fmc f v, 67)] :: G) := by rw [ep]; exact s5
          have hk6' : KeptV W3 (some r) (y.put f).kept := by rw [ep]; exact hk3
          have hok6 : ∀ g ∈ (y.put f).kept, FmOk g := by rw [ep]; exact hokk3
          have hl6 : (y.put f).kept.length ≤ y.kept.length + 1 := by rw [ep]; omega
          have hs6 := hs3
          have hg7 := hg3
          refine (run_c s6 hk6' hok6 (by omega)).mono ?_
          rintro _ g8 ⟨W8, a8, c8, E8, vs8, hg8, rfl, o8, hs8, hk8, s8⟩
          refine ⟨_, _, _, rfl, vs8, ⟨o8.src s8.m 1 rfl, hs8.all fun f cs hv => hv.one'⟩, ?_⟩
          have hrl := run_len (y.put f)
          refine o3.app s8.m 2 rfl o8.len (by omega) (by decide) fun a9 c9 E9 g9 m9 o9 => ?_
          simp only [List.set_cons_zero, List.set_cons_succ] at m9
          have s9 := (s8.mem m9).drop
          refine ⟨W8, a9, c9, E9, _, gr_trans hg7 hg8, by first | (rw [List.length_append]; done) | (rw [List.length_append, h0]), by rw [List.length_append]; first | exact o9 | (rw [h0]; exact o9), (hs6.mono fun f cs hv => fmv_cl (kept_cl hk6' hg8) hv).app hs8, hk8, ?_⟩
          exact s9.mem (s9.m.sub ⟨[(b1, fmc f v, 67)], by
            simp only [List.flatten_cons, List.append_assoc]
            exact List.Perm.append_left _ (List.Perm.append_left _ List.perm_append_comm)⟩)
      · intro b6 g4 e3 e4
        have s4 := s3.push e3 e4
        obtain ⟨cs4, hlk4, hcl4, hc14, hcf4⟩ := lkr_c s4.m hk3 hokk3 f.sq
        refine ⟨cs4, _, hlk4, ?_⟩
        refine ⟨⟨hcl4, s4.m.wrsb 1 rfl rfl, hc14⟩, fun g5 e5 => ?_⟩
        have m5 := s4.m.setr 1 rfl e5
        simp only [List.set_cons_zero, List.set_cons_succ] at m5
        have s5 := (s4.mem m5).drop
        refine bcase_intro (fun qf => ?_) fun qf => ?_
        · have hn : kfind y.kept f.sq = none := by simpa using qf
          have ep : y.put f = { y with kept := y.kept ++ [f] } := by unfold Ses.put; rw [hn]; rfl
          have r24 := s5.m.row 2 (o := 0) (n := 24) (us := fmc f v) rfl (by rw [List.drop_zero]; exact List.take_of_length_le (by rw [fmc_len hf]; decide)) (by rw [fmc_len hf]; decide)
          refine ⟨_, s5.get 5 rfl, f.sq, s5.m.cell 2 rfl (fmc_cell hf 1 rfl), fmc f v, r24, ?_⟩
          have hcl := kept_cl hk hg3
          refine mput_c s5.m hk3 ⟨v, rfl, bts_cl hcl hb⟩ hn fun W6 g6 hg6 m6 hk6 => ?_
          have s6 : St W6 g6 b T size css t (sesC (y.put f) (some r)) (E3 :: [(b1, fmc f v, 67)] :: G) := by rw [ep]; exact s5.mem m6
          have hk6' : KeptV W6 (some r) (y.put f).kept := by rw [ep]; exact hk6
          have hok6 : ∀ g ∈ (y.put f).kept, FmOk g := by
            rw [ep]
            intro g hg
            rcases List.mem_append.1 hg with hg | hg
            · exact hokk3 g hg
            · rw [List.mem_singleton] at hg; subst hg; exact hf
          have hl6 : (y.put f).kept.length = y.kept.length + 1 := by rw [ep]; simp
          have hs6 := hs3.mono fun f cs hv => fmv_cl (kept_cl hk3 hg6) hv
          have hg7 := gr_trans hg3 hg6
          refine (run_c s6 hk6' hok6 (by omega)).mono ?_
          rintro _ g8 ⟨W8, a8, c8, E8, vs8, hg8, rfl, o8, hs8, hk8, s8⟩
          refine ⟨_, _, _, rfl, vs8, ⟨o8.src s8.m 1 rfl, hs8.all fun f cs hv => hv.one'⟩, ?_⟩
          have hrl := run_len (y.put f)
          refine o3.app s8.m 2 rfl o8.len (by omega) (by decide) fun a9 c9 E9 g9 m9 o9 => ?_
          simp only [List.set_cons_zero, List.set_cons_succ] at m9
          have s9 := (s8.mem m9).drop
          refine ⟨W8, a9, c9, E9, _, gr_trans hg7 hg8, by first | (rw [List.length_append]; done) | (rw [List.length_append, h0]), by rw [List.length_append]; first | exact o9 | (rw [h0]; exact o9), (hs6.mono fun f cs hv => fmv_cl (kept_cl hk6' hg8) hv).app hs8, hk8, ?_⟩
          exact s9.mem (s9.m.sub ⟨[(b1, fmc f v, 67)], by
            simp only [List.flatten_cons, List.append_assoc]
            exact List.Perm.append_left _ (List.Perm.append_left _ List.perm_append_comm)⟩)
        · have ep : y.put f = y := by unfold Ses.put; rw [if_pos (by simpa using qf)]
          have s6 : St W3 g5 b T size css t (sesC (y.put f) (some r)) (E3 :: [(b1, fmc f v, 67)] :: G) := by rw [ep]; exact s5
          have hk6' : KeptV W3 (some r) (y.put f).kept := by rw [ep]; exact hk3
          have hok6 : ∀ g ∈ (y.put f).kept, FmOk g := by rw [ep]; exact hokk3
          have hl6 : (y.put f).kept.length ≤ y.kept.length + 1 := by rw [ep]; omega
          have hs6 := hs3
          have hg7 := hg3
          refine (run_c s6 hk6' hok6 (by omega)).mono ?_
          rintro _ g8 ⟨W8, a8, c8, E8, vs8, hg8, rfl, o8, hs8, hk8, s8⟩
          refine ⟨_, _, _, rfl, vs8, ⟨o8.src s8.m 1 rfl, hs8.all fun f cs hv => hv.one'⟩, ?_⟩
          have hrl := run_len (y.put f)
          refine o3.app s8.m 2 rfl o8.len (by omega) (by decide) fun a9 c9 E9 g9 m9 o9 => ?_
          simp only [List.set_cons_zero, List.set_cons_succ] at m9
          have s9 := (s8.mem m9).drop
          refine ⟨W8, a9, c9, E9, _, gr_trans hg7 hg8, by first | (rw [List.length_append]; done) | (rw [List.length_append, h0]), by rw [List.length_append]; first | exact o9 | (rw [h0]; exact o9), (hs6.mono fun f cs hv => fmv_cl (kept_cl hk6' hg8) hv).app hs8, hk8, ?_⟩
          exact s9.mem (s9.m.sub ⟨[(b1, fmc f v, 67)], by
            simp only [List.flatten_cons, List.append_assoc]
            exact List.Perm.append_left _ (List.Perm.append_left _ List.perm_append_comm)⟩)
end
end Go.Proofs.YtepodifionoigaaGreatDoor
set_option linter.unusedVariables false
set_option linter.unusedSimpArgs false
set_option maxRecDepth 8000
namespace Go.Proofs.YtepodifionoigaaGreatDoor
open Go.Vc
section
variable {W : Wd} {h : Heap} {G : List Grp} {E : Grp} {a : Option Addr} {c i j : Nat} {vs : List Value} {f : Fm}
theorem sq_ok : ∀ {out : List Fm} {vs : List Value}, Sq (FmV W) out vs → (∀ f ∈ out, FmOk f) → Sq (fun f cs => FmV W f cs ∧ FmOk f) out vs
  | [], _, hs, _ => hs
  | x :: xs, _, ⟨cs, r, e, h1, h2⟩, hk => ⟨cs, r, e, ⟨h1, hk x (List.mem_cons_self ..)⟩, sq_ok h2 fun f hf => hk f (List.mem_cons_of_mem _ hf)⟩
theorem sq_cell {out : List Fm} (o : Ow a out.length c 24 vs E) (m : Me W h G) (hi : G[i]? = some E) (hs : Sq (FmV W) out vs) (hk : ∀ f ∈ out, FmOk f) (hj : out[j]? = some f) :
    ∃ b o', a = some ⟨b, o', none⟩ ∧ cell h b ((o' + j * 24) + 19) = some (.int .i64 f.sq) ∧ ∃ sa sc, cell h b ((o' + j * 24) + 23) = some (.slice sa f.body.length sc) ∧ Bts W (.slice sa f.body.length sc) f.body := by
  obtain ⟨cs, ⟨⟨v, rfl, hv⟩, hf⟩, hc, hl⟩ := (sq_ok hs hk).get (n := 24) (fun x cs hx => by obtain ⟨⟨v, rfl, -⟩, hx⟩ := hx; exact fmc_len hx) hj
  obtain ⟨sa, sc, rfl, h1, h2⟩ := hv
  have hsrc := o.src m i hi
  have hg : ∀ r u, (fmc f (.slice sa f.body.length sc))[r]? = some u → vs[j * 24 + r]? = some u := fun r u hu => by
    rw [← hc] at hu
    have hr : r < 24 := by
      have := (List.getElem?_eq_some_iff.1 hu).1
      rw [List.length_take] at this; omega
    rw [List.getElem?_take_of_lt hr, List.getElem?_drop] at hu
    exact hu
  obtain ⟨b, o', e1, c1⟩ := src_cell hsrc (hg 19 _ (fmc_cell hf 1 rfl))
  obtain ⟨b', o'', e2, c2⟩ := src_cell hsrc (hg 23 _ (fmc_cell hf 5 rfl))
  rw [e1] at e2
  cases e2
  exact ⟨b, o', e1, by rw [Nat.add_assoc]; exact c1, sa, sc, by rw [Nat.add_assoc]; exact c2, sa, sc, rfl, h1, h2⟩
end
end Go.Proofs.YtepodifionoigaaGreatDoor
