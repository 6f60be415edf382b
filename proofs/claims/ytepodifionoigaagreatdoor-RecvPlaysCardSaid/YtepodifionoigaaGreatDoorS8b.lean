import Derived.Test.YtepodifionoigaaGreatDoorAllG
set_option linter.unusedVariables false
set_option linter.unusedSimpArgs false
set_option maxRecDepth 8000
namespace Go.Proofs.YtepodifionoigaaGreatDoor
open Go.Vc
def barO (xs : List Ses) (t : Nat) (to fr : List Int) (sq : Int) : Ost :=
  if to = meL ∧ fr = bssL ∧ (xs.getD t ses0).on = true then ⟨xs.set t ((xs.getD t ses0).barG sq).2, ((xs.getD t ses0).barG sq).1, ackB bssL meL t ((xs.getD t ses0).barG sq).2.ackS ((xs.getD t ses0).barG sq).2.ackM⟩ else ⟨xs, [], []⟩
def addO (size : Int) (xs : List Ses) (t : Nat) (to bss : List Int) (an : Bool) (tk sz sq : Int) : Ost :=
  if an = false ∧ to = meL ∧ bss = bssL then ⟨xs.set t (sesN sq (askSize size sz)), (xs.getD t ses0).allK, addGB bssL meL bssL true tk t (askSize size sz) 0 0 0⟩ else ⟨xs, [], []⟩
section
variable {W W' W1 : Wd} {h h' : Heap} {b t j n c i b1 l : Nat} {a : Option Addr} {T T1 : TypeId} {size : Int} {css : List (List Value)} {cs us vs : List Value} {G G' : List Grp} {v : Value} {x : Ses} {xs : List Ses} {mv : Option Nat} {mvs : List (Option Nat)} {f : Fm} {E A : Grp} {up : List Fm} {bs to fr bss ans : List Int} {sq sz tk tm st0 : Int} {an : Bool}
def SotV (W : Wd) (b : Nat) (T : TypeId) (size : Int) (mvs : List (Option Nat)) (o : Ost) (G : List Grp) (v : Value) (h' : Heap) : Prop := SoV W b T size o.xs mvs o.up o.ans G v h'
theorem S8.none2 (s : S8 W1 h b T size xs mvs G) (hle : W.le W1) : SotV W b T size mvs ⟨xs, [], []⟩ G (.tuple #[.slice none 0 0, .slice none 0 0]) h :=
  ⟨W1, mvs, none, 0, [], [], _, Grs.le hle, Ow.nil, rfl, s.mem (Wd.le.refl W1) (me_swap s.m.nilI), rfl, Bts.nil⟩
theorem SotV.lift {o : Ost} (k : SotV W1 b T size mvs o (A :: G) v h') (hle : W.le W1) : SotV W b T size mvs o G v h' := by
  obtain ⟨W', mvs', a, c, U, us, w, k1, k2, k3, k4, k5, k6⟩ := k
  exact ⟨W', mvs', a, c, U, us, w, (Grs.le hle).trans k1, k2, k3, k4.mem (Wd.le.refl W') (k4.m.free 2 rfl), k5, k6⟩
set_option maxHeartbeats 1000000 in
theorem sbar_c (s : S8 W h b T size xs mvs G) (hg : ∀ x ∈ xs, SesG x) (h1 : to.length = 6) (h2 : fr.length = 6) (ht8 : t < 8) (hsq : 0 ≤ sq ∧ sq ≤ 4095) :
    Runs Tryz.prog 61 #[.pointer (some ⟨b, 0, none⟩), .agg (barC to fr (t : Int) sq).toArray] h (SotV W b T size mvs (barO xs t to fr sq) G) := by
  obtain ⟨x1, x2, x3, x4, x5, x6, rfl⟩ := six_of h1
  obtain ⟨y1, y2, y3, y4, y5, y6, rfl⟩ := six_of h2
  have hxt := getD_some s.l1 ht8
  unfold barO
  obtain ⟨x, hxx⟩ : ∃ x, x = xs.getD t ses0 := ⟨_, rfl⟩
  rw [← hxx] at hxt ⊢
  have hgx : SesG x := hg x (List.mem_of_getElem? hxt)
  have hok := hgx.ok
  refine vc_recv_Station_bar _ _ _ _ ?_
  intro b1 g1 e1 e2
  replace s := s.push e1 e2
  refine ⟨(t : Int), s.m.cell 1 rfl rfl, ⟨by omega, by omega⟩, _, s.m.row 1 rfl rfl (Nat.le_of_ble_eq_true rfl), _, s.rme, [x1, x2, x3, x4, x5, x6], meL, rfl, rfl, ⟨rfl, rfl⟩, bcase_intro (fun q => ?_) fun q => ?_⟩
  · rw [if_neg (fun hh => by rw [decide_eq_true hh.1] at q; cases q)]
    exact s.drop.none2 (Wd.le.refl W)
  have q := of_decide_eq_true (show decide ([x1, x2, x3, x4, x5, x6] = meL) = true by simpa using q)
  refine ⟨_, s.m.row 1 rfl rfl (Nat.le_of_ble_eq_true rfl), _, s.rbss, [y1, y2, y3, y4, y5, y6], bssL, rfl, rfl, ⟨rfl, rfl⟩, bcase_intro (fun q2 => ?_) fun q2 => ?_⟩
  · rw [if_neg (fun hh => by rw [decide_eq_true hh.2.1] at q2; cases q2)]
    exact s.drop.none2 (Wd.le.refl W)
  have q2 := of_decide_eq_true (show decide ([y1, y2, y3, y4, y5, y6] = bssL) = true by simpa using q2)
  rw [Int.toNat_natCast]
  obtain ⟨css, mv, hm, st, hkv, ho, back⟩ := s.at hxt
  refine ⟨_, st.get0 rfl, bcase_intro (fun q3 => ?_) fun q3 => ?_⟩
  · rw [if_neg (fun hh => by rw [hh.2.2] at q3; cases q3)]
    exact s.drop.none2 (Wd.le.refl W)
  have q3 : x.on = true := by simpa using q3
  rw [if_pos ⟨q, q2, q3⟩]
  clear s
  refine ⟨_, st.get 1 rfl, sq, st.m.cell 1 rfl rfl, (dist_c _ _ _).ret ⟨_, rfl, dcase_intro (fun q4 => ?_) fun q4 => ?_⟩⟩
  · have eY : x.barY sq = ((x.up sq).1 ++ (x.up sq).2.run.1, (x.up sq).2.run.2) := if_pos q4
    refine ⟨sq, st.m.cell 1 rfl rfl, ?_⟩
    have hgu := up_g hgx hsq
    have hl3 := up_lens x sq
    have hn := hok.n
    refine (up_c st hkv hok.k sq hok.n).mono ?_
    rintro _ g3 ⟨W3, a3, c3, E3, vs3, hg3, rfl, o3, hs3, hk3, s3⟩
    refine ⟨_, _, _, rfl, ?_⟩
    refine (run_c s3 hk3 hgu.ok.k (by omega)).mono ?_
    rintro _ g8 ⟨W8, a8, c8, E8, vs8, hg8, rfl, o8, hs8, hk8, s8⟩
    refine ⟨_, _, _, rfl, vs8, ⟨o8.src s8.m 1 rfl, hs8.all fun f cs hv => hv.one'⟩, ?_⟩
    have hrl := run_len (x.up sq).2
    refine o3.app s8.m 2 rfl o8.len (by omega) (by decide) fun a9 c9 E9 g9 m9 o9 => ?_
    simp only [List.set_cons_zero, List.set_cons_succ] at m9
    have s9 := (s8.mem m9).drop
    have hgr := gr_trans hg3 hg8
    have hsq9 := (hs3.mono fun f cs hv => fmv_cl (kept_cl hk3 hg8) hv).app hs8
    rw [← List.length_append] at o9 ⊢
    have e1' : (x.barY sq).2 = (x.up sq).2.run.2 := by rw [eY]
    have e2' : (x.barY sq).1 = (x.up sq).1 ++ (x.up sq).2.run.1 := by rw [eY]
    rw [← e1'] at s9 hk8
    rw [← e2'] at o9 hsq9 ⊢
    have hgy := barY_g hgx hsq
    obtain ⟨hyf, hyo⟩ := barY_fr x sq
    refine ⟨_, s9.get 3 rfl, sq, s9.m.cell 2 rfl rfl, (dist_c _ _ _).ret ⟨_, rfl, ?_⟩⟩
    rw [hyf]
    refine dcase_intro (fun q5 => ?_) fun q5 => ?_
    · have eG : x.barG sq = ((x.barY sq).1, (x.barY sq).2.move sq) := by unfold Ses.barG; rw [if_pos q5]
      rw [eG]
      refine ⟨sq, s9.m.cell 2 rfl rfl, ?_⟩
      refine (move_c s9 sq).mono ?_
      rintro _ g10 ⟨rfl, s10⟩
      have hg10 := move_g hgy hsq
      have hk10 : KeptV W8 mv ((x.barY sq).2.move sq).kept := hk8
      have hon10 : ((x.barY sq).2.move sq).on = true → mv ≠ none := fun e => ho (by rw [← hyo]; exact e)
      refine ⟨(t : Int), s10.m.cell 2 rfl rfl, ?_⟩
      refine (answer_c s10 hg10.ok).mono ?_
      rintro _ g11 ⟨W11, a11, c11, hle11, rfl, hb11, s11⟩
      obtain ⟨s12, hgr12⟩ := back W11 g11 _ mv _ (gr_ler hgr hle11) s11 (hk10.le hle11) hon10 fun r e => .inl e
      exact ⟨_, _, _, rfl, W11, _, _, _, _, _, _, hgr12, o9, hsq9.mono fun f cs hv => hv.le hle11, s12.mem (Wd.le.refl W11) (s12.m.free 2 rfl), by first | rfl | (rw [e2']; rfl), hb11⟩
    · have eG : x.barG sq = ((x.barY sq).1, (x.barY sq).2) := by unfold Ses.barG; rw [if_neg q5]
      rw [eG]
      have s10 := s9
      have hg10 := hgy
      have hk10 := hk8
      have hon10 : (x.barY sq).2.on = true → mv ≠ none := fun e => ho (by rw [← hyo]; exact e)
      refine ⟨(t : Int), s10.m.cell 2 rfl rfl, ?_⟩
      refine (answer_c s10 hg10.ok).mono ?_
      rintro _ g11 ⟨W11, a11, c11, hle11, rfl, hb11, s11⟩
      obtain ⟨s12, hgr12⟩ := back W11 g11 _ mv _ (gr_ler hgr hle11) s11 (hk10.le hle11) hon10 fun r e => .inl e
      exact ⟨_, _, _, rfl, W11, _, _, _, _, _, _, hgr12, o9, hsq9.mono fun f cs hv => hv.le hle11, s12.mem (Wd.le.refl W11) (s12.m.free 2 rfl), by first | rfl | (rw [e2']; rfl), hb11⟩
  · have eY : x.barY sq = ([], x) := if_neg q4
    have e1' : (x.barY sq).2 = x := by rw [eY]
    have e2' : (x.barY sq).1 = [] := by rw [eY]
    have s9 := st.mem (me_swap st.m.nilI)
    have hgr : W.gr W mv := gr_le (Wd.le.refl W)
    have hk8 := hkv
    have o9 : Ow none (x.barY sq).1.length 0 24 [] [] := by rw [e2']; exact Ow.nil
    have hsq9 : Sq (FmV W) (x.barY sq).1 [] := by rw [e2']; rfl
    rw [← e1'] at s9 hk8
    clear st
    have hgy := barY_g hgx hsq
    obtain ⟨hyf, hyo⟩ := barY_fr x sq
    refine ⟨_, s9.get 3 rfl, sq, s9.m.cell 2 rfl rfl, (dist_c _ _ _).ret ⟨_, rfl, ?_⟩⟩
    rw [hyf]
    refine dcase_intro (fun q5 => ?_) fun q5 => ?_
    · have eG : x.barG sq = ((x.barY sq).1, (x.barY sq).2.move sq) := by unfold Ses.barG; rw [if_pos q5]
      rw [eG]
      refine ⟨sq, s9.m.cell 2 rfl rfl, ?_⟩
      refine (move_c s9 sq).mono ?_
      rintro _ g10 ⟨rfl, s10⟩
      have hg10 := move_g hgy hsq
      have hk10 : KeptV W mv ((x.barY sq).2.move sq).kept := hk8
      have hon10 : ((x.barY sq).2.move sq).on = true → mv ≠ none := fun e => ho (by rw [← hyo]; exact e)
      refine ⟨(t : Int), s10.m.cell 2 rfl rfl, ?_⟩
      refine (answer_c s10 hg10.ok).mono ?_
      rintro _ g11 ⟨W11, a11, c11, hle11, rfl, hb11, s11⟩
      obtain ⟨s12, hgr12⟩ := back W11 g11 _ mv _ (gr_ler hgr hle11) s11 (hk10.le hle11) hon10 fun r e => .inl e
      exact ⟨_, _, _, rfl, W11, _, _, _, _, _, _, hgr12, o9, hsq9.mono fun f cs hv => hv.le hle11, s12.mem (Wd.le.refl W11) (s12.m.free 2 rfl), by first | rfl | (rw [e2']; rfl), hb11⟩
    · have eG : x.barG sq = ((x.barY sq).1, (x.barY sq).2) := by unfold Ses.barG; rw [if_neg q5]
      rw [eG]
      have s10 := s9
      have hg10 := hgy
      have hk10 := hk8
      have hon10 : (x.barY sq).2.on = true → mv ≠ none := fun e => ho (by rw [← hyo]; exact e)
      refine ⟨(t : Int), s10.m.cell 2 rfl rfl, ?_⟩
      refine (answer_c s10 hg10.ok).mono ?_
      rintro _ g11 ⟨W11, a11, c11, hle11, rfl, hb11, s11⟩
      obtain ⟨s12, hgr12⟩ := back W11 g11 _ mv _ (gr_ler hgr hle11) s11 (hk10.le hle11) hon10 fun r e => .inl e
      exact ⟨_, _, _, rfl, W11, _, _, _, _, _, _, hgr12, o9, hsq9.mono fun f cs hv => hv.le hle11, s12.mem (Wd.le.refl W11) (s12.m.free 2 rfl), by first | rfl | (rw [e2']; rfl), hb11⟩
set_option maxHeartbeats 1000000 in
theorem sadd_c (hE : Snt5 W) (s : S8 W h b T size xs mvs G) (hg : ∀ x ∈ xs, SesG x) (hs : 1 ≤ size ∧ size ≤ 64) (h1 : to.length = 6) (h2 : fr.length = 6) (h3 : bss.length = 6) (ht8 : t < 8) (hsq : 0 ≤ sq ∧ sq ≤ 4095) (hsz : 0 ≤ sz ∧ sz ≤ 1023) (htk : 0 ≤ tk ∧ tk ≤ 255) :
    Runs Tryz.prog 63 #[.pointer (some ⟨b, 0, none⟩), .agg (addC2 to fr bss an tk (t : Int) sz tm sq st0).toArray] h (SotV W b T size mvs (addO size xs t to bss an tk sz sq) G) := by
  obtain ⟨x1, x2, x3, x4, x5, x6, rfl⟩ := six_of h1
  obtain ⟨y1, y2, y3, y4, y5, y6, rfl⟩ := six_of h2
  obtain ⟨z1, z2, z3, z4, z5, z6, rfl⟩ := six_of h3
  have hxt := getD_some s.l1 ht8
  unfold addO
  obtain ⟨x, hxx⟩ : ∃ x, x = xs.getD t ses0 := ⟨_, rfl⟩
  rw [← hxx] at hxt ⊢
  have hgx : SesG x := hg x (List.mem_of_getElem? hxt)
  refine vc_recv_Station_add _ _ _ _ ?_
  intro b1 g1 e1 e2
  replace s := s.push e1 e2
  refine ⟨an, s.m.cell 1 rfl rfl, bcase_intro (fun q0 => ?_) fun q0 => ?_⟩
  · rw [if_neg (fun hh => by rw [hh.1] at q0; cases q0)]
    exact s.drop.none2 (Wd.le.refl W)
  refine ⟨_, s.m.row 1 rfl rfl (Nat.le_of_ble_eq_true rfl), _, s.rme, [x1, x2, x3, x4, x5, x6], meL, rfl, rfl, ⟨rfl, rfl⟩, bcase_intro (fun q => ?_) fun q => ?_⟩
  · rw [if_neg (fun hh => by rw [decide_eq_true hh.2.1] at q; cases q)]
    exact s.drop.none2 (Wd.le.refl W)
  have q := of_decide_eq_true (show decide ([x1, x2, x3, x4, x5, x6] = meL) = true by simpa using q)
  refine ⟨_, s.m.row 1 rfl rfl (Nat.le_of_ble_eq_true rfl), _, s.rbss, [z1, z2, z3, z4, z5, z6], bssL, rfl, rfl, ⟨rfl, rfl⟩, bcase_intro (fun q2 => ?_) fun q2 => ?_⟩
  · rw [if_neg (fun hh => by rw [decide_eq_true hh.2.2] at q2; cases q2)]
    exact s.drop.none2 (Wd.le.refl W)
  have q2 := of_decide_eq_true (show decide ([z1, z2, z3, z4, z5, z6] = bssL) = true by simpa using q2)
  rw [if_pos ⟨q0, q, q2⟩]
  refine ⟨(t : Int), s.m.cell 1 rfl rfl, ⟨by omega, by omega⟩, ?_⟩
  rw [Int.toNat_natCast]
  obtain ⟨css, mv, hm, st, hkv, ho, back⟩ := s.at hxt
  clear s
  refine (all_c st hkv hgx).mono ?_
  rintro _ g2 ⟨W2, a2, c2, E2, vs2, hle2, rfl, o2, hs2, s2⟩
  clear st
  refine ⟨_, _, _, rfl, size, s2.rsize, sz, s2.m.cell 2 rfl rfl, dcase_intro (fun q3 => ?_) fun q3 => ?_⟩
  · have eS : askSize size sz = min size sz := if_pos q3
    rw [eS]
    refine ⟨sz, s2.m.cell 2 rfl rfl, sq, s2.m.cell 2 rfl rfl, sq, s2.m.cell 2 rfl rfl, ?_⟩
    have hbd : 1 ≤ min size sz ∧ min size sz ≤ 64 := by omega
    obtain ⟨mz, hmz⟩ : ∃ mz, mz = min size sz := ⟨_, rfl⟩
    rw [← hmz] at hbd ⊢
    intro bm g3 f1 f2
    obtain ⟨m3, hbn⟩ := me_pushO s2.m f2 f1
    have s3 := s2.mem m3
    have hle3 : W2.le (W2.upd bm (.map #[] 0)) := upd_le hbn
    refine ⟨⟨rfl, s3.wrs, by intro u hu; simp at hu; rcases hu with rfl | rfl | rfl | rfl | rfl | rfl | rfl | rfl <;> rfl⟩, fun g4 e4 => ?_⟩
    have s4 := s3.setr (us := sesC (sesN sq mz) (some bm)) rfl e4
    clear s3 m3 s2
    refine ⟨ints .u8 bssL, s4.rbss, ints .u8 meL, s4.rme, ints .u8 bssL, s4.rbss, tk, s4.m.cell 2 rfl rfl, (t : Int), s4.m.cell 2 rfl rfl, rfl, rfl, rfl, ?_⟩
    have hleA := hle2.trans hle3
    refine (addG_c (to := bssL) (fr := meL) (bss := bssL) (token := tk) (tid := (t : Int)) (size := mz) (tmo := 0) (sq := 0) (st := 0) (hE.cl (cl_le hleA)) s4.m rfl rfl rfl (by omega) (by omega) (by omega) (by decide) (by decide) (by decide) true (fun _ => rfl) (fun q => by cases q)).mono ?_
    rintro _ g5 ⟨W5, hle5, m5, ⟨-, a8, c8, rfl, hb8⟩ | ⟨hgt, -⟩⟩
    · have s5 := s4.mem m5
      have hmp : MapV W5 bm [] := ⟨[], 0, hle5 _ _ upd_at, rfl, by simp, by simp⟩
      obtain ⟨s6, hgr6⟩ := back W5 g5 (sesN sq mz) (some bm) _ (gr_le (hleA.trans hle5)) s5 hmp (fun _ => by simp) fun r e => by
        cases e
        refine .inr ?_
        cases hW : W bm with
        | none => rfl
        | some z => rw [hle2 _ _ hW] at hbn; cases hbn
      exact ⟨_, _, _, _, rfl, true, rfl, bcase_false rfl ⟨W5, _, _, _, _, _, _, hgr6, o2, hs2.mono fun f cs hv => (hv.le hle3).le hle5, s6.mem (Wd.le.refl W5) (s6.m.free 2 rfl), rfl, hb8⟩⟩
    · omega
  · have eS : askSize size sz = size := if_neg q3
    rw [eS]
    refine ⟨sq, s2.m.cell 2 rfl rfl, sq, s2.m.cell 2 rfl rfl, ?_⟩
    have hbd := hs
    intro bm g3 f1 f2
    obtain ⟨m3, hbn⟩ := me_pushO s2.m f2 f1
    have s3 := s2.mem m3
    have hle3 : W2.le (W2.upd bm (.map #[] 0)) := upd_le hbn
    refine ⟨⟨rfl, s3.wrs, by intro u hu; simp at hu; rcases hu with rfl | rfl | rfl | rfl | rfl | rfl | rfl | rfl <;> rfl⟩, fun g4 e4 => ?_⟩
    have s4 := s3.setr (us := sesC (sesN sq size) (some bm)) rfl e4
    clear s3 m3 s2
    refine ⟨ints .u8 bssL, s4.rbss, ints .u8 meL, s4.rme, ints .u8 bssL, s4.rbss, tk, s4.m.cell 2 rfl rfl, (t : Int), s4.m.cell 2 rfl rfl, rfl, rfl, rfl, ?_⟩
    have hleA := hle2.trans hle3
    refine (addG_c (to := bssL) (fr := meL) (bss := bssL) (token := tk) (tid := (t : Int)) (size := size) (tmo := 0) (sq := 0) (st := 0) (hE.cl (cl_le hleA)) s4.m rfl rfl rfl (by omega) (by omega) (by omega) (by decide) (by decide) (by decide) true (fun _ => rfl) (fun q => by cases q)).mono ?_
    rintro _ g5 ⟨W5, hle5, m5, ⟨-, a8, c8, rfl, hb8⟩ | ⟨hgt, -⟩⟩
    · have s5 := s4.mem m5
      have hmp : MapV W5 bm [] := ⟨[], 0, hle5 _ _ upd_at, rfl, by simp, by simp⟩
      obtain ⟨s6, hgr6⟩ := back W5 g5 (sesN sq size) (some bm) _ (gr_le (hleA.trans hle5)) s5 hmp (fun _ => by simp) fun r e => by
        cases e
        refine .inr ?_
        cases hW : W bm with
        | none => rfl
        | some z => rw [hle2 _ _ hW] at hbn; cases hbn
      exact ⟨_, _, _, _, rfl, true, rfl, bcase_false rfl ⟨W5, _, _, _, _, _, _, hgr6, o2, hs2.mono fun f cs hv => (hv.le hle3).le hle5, s6.mem (Wd.le.refl W5) (s6.m.free 2 rfl), rfl, hb8⟩⟩
    · omega
theorem oth_bar (hq : isBar bs) (hx : ∀ x ∈ bs, 0 ≤ x ∧ x < 256) : oth size xs bs = barO xs (wd bs 16 / 4096).toNat (sub6 bs 4) (sub6 bs 10) (wd bs 18 / 16) := by
  have hl := hq.1
  have h := wd_bd (xs := bs) (i := 16) hx (by omega)
  unfold oth barO
  rw [if_pos hq, show (((wd bs 16 / 4096).toNat : Nat) : Int) = wd bs 16 / 4096 from Int.toNat_of_nonneg (by omega)]
theorem oth_add (hb : ¬ isBar bs) (hq : isAdd bs) (hx : ∀ x ∈ bs, 0 ≤ x ∧ x < 256) : oth size xs bs = addO size xs (adTid bs).toNat (sub6 bs 4) (sub6 bs 16) (adAns bs) (by0 bs 26) (adSize bs) (adSq bs) := by
  have hl := hq.1.1
  have h := wd_bd (xs := bs) (i := adOff bs) hx (by unfold adOff; split <;> omega)
  unfold oth addO
  rw [if_neg hb, if_pos hq, show (((adTid bs).toNat : Nat) : Int) = adTid bs from Int.toNat_of_nonneg (by unfold adTid adPar; omega)]
theorem oth_del (hb : ¬ isBar bs) (ha : ¬ isAdd bs) : oth size xs bs = if isDel bs ∧ dlMine bs = true ∧ sub6 bs 4 = meL ∧ sub6 bs 16 = bssL then ⟨xs.set (dlTid bs).toNat ses0, (xs.getD (dlTid bs).toNat ses0).allK, []⟩ else ⟨xs, [], []⟩ := by
  unfold oth
  rw [if_neg hb, if_neg ha]
theorem SotV.slc {o : Ost} (k : SotV W b T size mvs o G v h') : ∃ a l c a2 l2 c2, v = .tuple #[.slice a l c, .slice a2 l2 c2] := by
  obtain ⟨W', mvs', a, c, U, us, w, k1, k2, k3, k4, rfl, k6⟩ := k
  obtain ⟨a2, c2, rfl, -, -⟩ := k6
  exact ⟨_, _, _, _, _, _, rfl⟩
set_option maxHeartbeats 2000000 in
theorem sother_c (hE : Snt5 W) (s : S8 W h b T size xs mvs G) (hg : ∀ x ∈ xs, SesG x) (hs : 1 ≤ size ∧ size ≤ 64) (hb : Bts W (.slice a n c) bs) (hx : ∀ x ∈ bs, 0 ≤ x ∧ x < 256) :
    Runs Tryz.prog 32 #[.pointer (some ⟨b, 0, none⟩), .slice a n c] h (SotV W b T size mvs (oth size xs bs) G) := by
  refine vc_recv_Station_Other _ _ _ _ _ _ ?_
  refine (readBarG_c hE s.m hb hx).mono ?_
  rintro _ h1 ⟨W1, hle1, m1, hcase⟩
  have s1 := s.mem hle1 m1
  clear s m1
  rcases hcase with ⟨hq, rfl⟩ | ⟨hqb, e, rfl⟩
  · rw [oth_bar hq hx]
    obtain ⟨hl, h0, ht7, -⟩ := hq
    have hp16 := wd_bd (xs := bs) (i := 16) hx (by omega)
    have hp18 := wd_bd (xs := bs) (i := 18) hx (by omega)
    obtain ⟨t, ht⟩ : ∃ t : Nat, wd bs 16 / 4096 = (t : Int) := ⟨(wd bs 16 / 4096).toNat, by omega⟩
    unfold barX
    rw [ht, Int.toNat_natCast]
    obtain ⟨Y, hY⟩ : ∃ Y, Y = barC (sub6 bs 4) (sub6 bs 10) (t : Int) (wd bs 18 / 16) := ⟨_, rfl⟩
    have hl4 := sub6_len (xs := bs) (i := 4) (by omega)
    have hl10 := sub6_len (xs := bs) (i := 10) (by omega)
    have hYl : Y.length = 14 := by rw [hY]; simp [barC, ints, hl4, hl10]
    have hY1 : ∀ u ∈ Y, u.oneCell' = true := by rw [hY]; exact barC_one _ _ _ _
    rw [← hY]
    refine ⟨_, _, rfl, ?_⟩
    intro b1 g2 e1 e2
    have s2 := s1.push e1 e2
    refine ⟨⟨hYl, s2.m.wrsb 1 rfl rfl, hY1⟩, fun g3 e3 => ?_⟩
    have m3 := s2.m.setr 1 rfl e3
    simp only [List.set_cons_succ, List.set_cons_zero] at m3
    rw [setL_all (by rw [hYl]; rfl)] at m3
    have s3 := s2.mem (Wd.le.refl W1) m3
    refine ⟨true, rfl, bcase_true rfl ⟨Y, s3.m.row 1 rfl (by rw [List.drop_zero]; exact List.take_of_length_le (by omega)) (by omega), ?_⟩⟩
    rw [hY]
    refine (sbar_c s3 hg hl4 hl10 (by omega) (by omega)).mono ?_
    rintro v g4 hk
    obtain ⟨a5, l5, c5, a6, l6, c6, rfl⟩ := hk.slc
    exact ⟨_, _, _, _, _, _, rfl, hk.lift hle1⟩
  · refine ⟨_, _, rfl, ?_⟩
    intro b1 g2 e1 e2
    have s2 := s1.push e1 e2
    refine ⟨⟨rfl, s2.m.wrsb 1 rfl rfl, z14_one⟩, fun g3 e3 => ?_⟩
    have s3 := (s2.mem (Wd.le.refl W1) (s2.m.setr 1 rfl e3)).drop
    clear s1 s2
    refine ⟨false, rfl, bcase_false rfl ?_⟩
    refine (readAddG_c (hE.cl (cl_le hle1)) s3.m (hb.le hle1) hx).mono ?_
    rintro _ h4 ⟨W2, hle2, m4, hcase⟩
    have s4 := s3.mem hle2 m4
    clear s3 m4
    replace hle1 := hle1.trans hle2
    rcases hcase with ⟨hq, rfl⟩ | ⟨hqa, _, rfl, e, rfl⟩
    · rw [oth_add hqb hq hx]
      obtain ⟨⟨hl, h0, h24, h25⟩, ht7, -⟩ := hq
      have hp := wd_bd (xs := bs) (i := adOff bs) hx (by unfold adOff; split <;> omega)
      have hti : 0 ≤ adTid bs ∧ adTid bs ≤ 7 := ⟨by unfold adTid adPar; omega, ht7⟩
      have hsi : 0 ≤ adSize bs ∧ adSize bs ≤ 1023 := by unfold adSize adPar; omega
      have hsq : 0 ≤ adSq bs ∧ adSq bs ≤ 4095 := by
        unfold adSq; split
        · exact ⟨by decide, by decide⟩
        · have := wd_bd (xs := bs) (i := 31) hx (by omega); omega
      have r26 := hx _ (by0_mem (xs := bs) (k := 26) (by omega))
      obtain ⟨t, ht⟩ : ∃ t : Nat, adTid bs = (t : Int) := ⟨(adTid bs).toNat, by omega⟩
      unfold addX
      rw [ht, Int.toNat_natCast]
      obtain ⟨Y, hY⟩ : ∃ Y, Y = addC2 (sub6 bs 4) (sub6 bs 10) (sub6 bs 16) (adAns bs) (by0 bs 26) (t : Int) (adSize bs) (wd bs (adOff bs + 2)) (adSq bs) (adSt bs) := ⟨_, rfl⟩
      have hl4 := sub6_len (xs := bs) (i := 4) (by omega)
      have hl10 := sub6_len (xs := bs) (i := 10) (by omega)
      have hl16 := sub6_len (xs := bs) (i := 16) (by omega)
      have hYl : Y.length = 25 := by rw [hY]; simp [addC2, ints, hl4, hl10, hl16]
      have hY1 : ∀ u ∈ Y, u.oneCell' = true := by rw [hY]; exact addC2_one _ _ _ _ _ _ _ _ _ _
      rw [← hY]
      refine ⟨_, _, rfl, ?_⟩
      intro b1 g2 e1 e2
      have s2 := s4.push e1 e2
      refine ⟨⟨hYl, s2.m.wrsb 1 rfl rfl, hY1⟩, fun g3 e3 => ?_⟩
      have m3 := s2.m.setr 1 rfl e3
      simp only [List.set_cons_succ, List.set_cons_zero] at m3
      rw [setL_all (by rw [hYl]; rfl)] at m3
      have s3 := s2.mem (Wd.le.refl W2) m3
      refine ⟨true, rfl, bcase_true rfl ⟨Y, s3.m.row 1 rfl (by rw [List.drop_zero]; exact List.take_of_length_le (by omega)) (by omega), ?_⟩⟩
      rw [hY]
      refine (sadd_c (hE.cl (cl_le hle1)) s3 hg hs hl4 hl10 hl16 (by omega) hsq hsi (by omega)).mono ?_
      rintro v g4 hk
      obtain ⟨a5, l5, c5, a6, l6, c6, rfl⟩ := hk.slc
      exact ⟨_, _, _, _, _, _, rfl, hk.lift hle1⟩
    · refine ⟨_, _, rfl, ?_⟩
      intro b1 g2 e1 e2
      have s2 := s4.push e1 e2
      refine ⟨⟨rfl, s2.m.wrsb 1 rfl rfl, z25g_one⟩, fun g3 e3 => ?_⟩
      have s3 := (s2.mem (Wd.le.refl W2) (s2.m.setr 1 rfl e3)).drop
      clear s4 s2
      refine ⟨false, rfl, bcase_false rfl ?_⟩
      refine (readDelG_c (hE.cl (cl_le hle1)) s3.m (hb.le hle1) hx).mono ?_
      rintro _ h5 ⟨W3, hle3, m5, hcase⟩
      have s5 := s3.mem hle3 m5
      clear s3 m5
      replace hle1 := hle1.trans hle3
      rw [oth_del hqb hqa]
      rcases hcase with ⟨hq, rfl⟩ | ⟨hqd, _, rfl, e, rfl⟩
      · have hq0 := hq
        obtain ⟨⟨hl, h0, h24, h25⟩, ht7, -⟩ := hq
        have hp26 := wd_bd (xs := bs) (i := 26) hx (by omega)
        have hti : 0 ≤ dlTid bs ∧ dlTid bs ≤ 7 := ⟨by unfold dlTid; omega, ht7⟩
        obtain ⟨t, ht⟩ : ∃ t : Nat, dlTid bs = (t : Int) := ⟨(dlTid bs).toNat, by omega⟩
        have ht8 : t < 8 := by omega
        obtain ⟨x1, x2, x3, x4, x5, x6, hX⟩ := six_of (sub6_len (xs := bs) (i := 4) (by omega))
        obtain ⟨y1, y2, y3, y4, y5, y6, hY⟩ := six_of (sub6_len (xs := bs) (i := 10) (by omega))
        obtain ⟨z1, z2, z3, z4, z5, z6, hZ⟩ := six_of (sub6_len (xs := bs) (i := 16) (by omega))
        unfold delX
        rw [hX, hY, hZ, ht, Int.toNat_natCast]
        obtain ⟨mi, hmi⟩ : ∃ mi, mi = dlMine bs := ⟨_, rfl⟩
        obtain ⟨re, hre⟩ : ∃ re, re = wd bs 28 := ⟨_, rfl⟩
        rw [← hmi, ← hre]
        have hxt := getD_some s5.l1 ht8
        obtain ⟨x, hxx⟩ : ∃ x, x = xs.getD t ses0 := ⟨_, rfl⟩
        rw [← hxx] at hxt ⊢
        have hgx : SesG x := hg x (List.mem_of_getElem? hxt)
        refine ⟨_, _, rfl, ?_⟩
        intro b1 g2 e1 e2
        have s6 := s5.push e1 e2
        refine ⟨⟨rfl, s6.m.wrsb 1 rfl rfl, delC3_one _ _ _ _ _ _⟩, fun g3 e3 => ?_⟩
        have m7 := s6.m.setr 1 rfl e3
        rw [List.set_cons_succ, List.set_cons_zero, setL_all (by rfl)] at m7
        have s7 : S8 W3 g3 b T size xs mvs ([(b1, delC3 [x1, x2, x3, x4, x5, x6] [y1, y2, y3, y4, y5, y6] [z1, z2, z3, z4, z5, z6] mi (t : Int) re, 81)] :: G) := s6.mem (Wd.le.refl W3) m7
        clear s5 s6 m7
        refine ⟨true, rfl, bcase_true rfl ?_⟩
        refine ⟨_, s7.m.row 1 rfl rfl (Nat.le_of_ble_eq_true rfl), _, s7.rme, [x1, x2, x3, x4, x5, x6], meL, rfl, rfl, ⟨rfl, rfl⟩, bcase_intro (fun q => ?_) fun q => ?_⟩
        · have q := of_decide_eq_true q
          refine ⟨_, s7.m.row 1 rfl rfl (Nat.le_of_ble_eq_true rfl), _, s7.rbss, [z1, z2, z3, z4, z5, z6], bssL, rfl, rfl, ⟨rfl, rfl⟩, bcase_intro (fun q2 => ?_) fun q2 => ?_⟩
          · have q2 := of_decide_eq_true q2
            refine ⟨mi, s7.m.cell 1 rfl rfl, bcase_intro (fun q3 => ?_) fun q3 => ?_⟩
            · rw [if_pos ⟨hq0, q3, q, q2⟩]
              refine ⟨(t : Int), s7.m.cell 1 rfl rfl, ⟨by omega, by omega⟩, ?_⟩
              rw [Int.toNat_natCast]
              obtain ⟨css, mv, hm, st, hkv, ho, back⟩ := s7.at hxt
              clear s7
              refine (all_c st hkv hgx).mono ?_
              rintro _ g8 ⟨W8, a8, c8, E8, vs8, hle8, rfl, o8, hs8, st8⟩
              refine ⟨_, _, _, rfl, ⟨rfl, st8.wrs, by intro u hu; simp at hu; rcases hu with rfl | rfl | rfl | rfl | rfl | rfl | rfl | rfl <;> rfl⟩, fun g9 e9 => ?_⟩
              have st9 := st8.setr (us := sesC ses0 none) rfl e9
              obtain ⟨s10, hgr10⟩ := back W8 g9 ses0 none _ (gr_le hle8) st9 rfl (fun e => by cases e) fun r e => by cases e
              exact ⟨W8, _, _, _, _, _, _, (Grs.le hle1).trans hgr10, o8, hs8, s10.mem (Wd.le.refl W8) (s10.m.free 2 rfl), rfl, Bts.nil⟩
            · rw [if_neg (fun hh => by rw [hh.2.1] at q3; cases q3)]
              exact s7.drop.none2 hle1
          · rw [if_neg (fun hh => of_decide_eq_false q2 hh.2.2.2)]
            exact s7.drop.none2 hle1
        · rw [if_neg (fun hh => of_decide_eq_false q hh.2.2.1)]
          exact s7.drop.none2 hle1
      · rw [if_neg (fun hh => hqd hh.1)]
        refine ⟨_, _, rfl, ?_⟩
        intro b1 g2 e1 e2
        have s6 := s5.push e1 e2
        refine ⟨⟨rfl, s6.m.wrsb 1 rfl rfl, z21g_one⟩, fun g3 e3 => ?_⟩
        have s7 := (s6.mem (Wd.le.refl W3) (s6.m.setr 1 rfl e3)).drop
        exact ⟨false, rfl, bcase_false rfl (s7.none2 hle1)⟩
theorem sleave_c (s : S8 W h b T size xs mvs G) (hg : ∀ x ∈ xs, SesG x) :
    Runs Tryz.prog 28 #[.pointer (some ⟨b, 0, none⟩)] h fun v h' => ∃ W' mvs' a c U us, Grs W mvs W' mvs' ∧ Ow a (leaveP xs).length c 24 us U ∧ Sq (FmV W') (leaveP xs) us ∧ S8 W' h' b T size (List.replicate 8 ses0) mvs' (U :: G) ∧ v = .slice a (leaveP xs).length c := by
  have hxl := s.l1
  refine vc_recv_Station_Leave _ _ _ ?_
  refine ⟨fun o ol oc z h' => ∃ (k : Nat) (W1 : Wd) (mvs1 : List (Option Nat)) (U : Grp) (us : List Value), z = (k : Int) ∧ k ≤ 8 ∧ ol = (leaveP (xs.take k)).length ∧ Grs W mvs W1 mvs1 ∧ Ow o (leaveP (xs.take k)).length oc 24 us U ∧ Sq (FmV W1) (leaveP (xs.take k)) us ∧ S8 W1 h' b T size (List.replicate k ses0 ++ xs.drop k) mvs1 (U :: G),
    fun _ _ _ z _ => (8 - z).toNat, ⟨0, W, mvs, [], [], rfl, by omega, rfl, Grs.le (Wd.le.refl W), Ow.nil, rfl, s.mem (Wd.le.refl W) (me_swap s.m.nilI)⟩, fun _ => ?_⟩
  clear s
  rintro o ol oc _ h2 ⟨k, W1, mvs1, U, us, rfl, hk, rfl, hgr, ow, hsq, s⟩
  refine dcase_intro (fun q => ?_) fun q => ?_
  · have hk8 : k < 8 := by omega
    have hxk : xs[k]? = some (xs.getD k ses0) := getD_some hxl hk8
    obtain ⟨x, hxx⟩ : ∃ x, x = xs.getD k ses0 := ⟨_, rfl⟩
    rw [← hxx] at hxk
    have hgx : SesG x := hg x (List.mem_of_getElem? hxk)
    have hxt : (List.replicate k ses0 ++ xs.drop k)[k]? = some x := by
      rw [List.getElem?_append_right (by simp), List.length_replicate, Nat.sub_self, List.getElem?_drop]; exact hxk
    have hlen := leaveP_len (l := xs.take k) fun y hy => hg y (List.mem_of_mem_take hy)
    rw [List.length_take] at hlen
    have hal := allK_len hgx
    obtain ⟨css, mv, hm, st, hkv, ho, back⟩ := s.at hxt
    refine ⟨⟨by omega, by omega⟩, ?_⟩
    rw [Int.toNat_natCast]
    refine (all_c st hkv hgx).mono ?_
    rintro _ g3 ⟨W3, a3, c3, E3, vs3, hle3, rfl, o3, hs3, st3⟩
    refine ⟨_, _, _, rfl, vs3, ⟨o3.src st3.m 1 rfl, hs3.all fun f cs hv => hv.one'⟩, ?_⟩
    refine ow.app st3.m 2 rfl o3.len (by omega) (by decide) fun a9 c9 E9 g9 m9 o9 => ?_
    simp only [List.set_cons_zero, List.set_cons_succ] at m9
    have st9 := (st3.mem m9).drop
    refine ⟨⟨by omega, by omega⟩, ⟨rfl, st9.wrs, by intro u hu; simp at hu; rcases hu with rfl | rfl | rfl | rfl | rfl | rfl | rfl | rfl <;> rfl⟩, fun g4 e4 => ?_⟩
    have st4 := st9.setr (us := sesC ses0 none) rfl e4
    obtain ⟨s4, hgr4⟩ := back W3 g4 ses0 none _ (gr_le hle3) st4 rfl (fun e => by cases e) fun r e => by cases e
    have eset : (List.replicate k ses0 ++ xs.drop k).set k ses0 = List.replicate (k + 1) ses0 ++ xs.drop (k + 1) := by
      rw [List.set_append_right _ _ (by simp), List.length_replicate, Nat.sub_self, List.drop_eq_getElem_cons (show k < xs.length by omega), List.set_cons_zero, List.replicate_succ', List.append_assoc]; rfl
    have etk : leaveP (xs.take (k + 1)) = leaveP (xs.take k) ++ x.allK := by
      rw [List.take_add_one, hxk, leaveP_app]
      show _ ++ (x.allK ++ []) = _
      rw [List.append_nil]
    rw [eset] at s4
    refine ⟨by simp only [fits]; omega, ⟨k + 1, W3, _, E9, _, by omega, by omega, by rw [etk, List.length_append], hgr.trans hgr4, by rw [etk, List.length_append]; exact o9, by rw [etk]; exact (hsq.mono fun f cs hv => hv.le hle3).app hs3, s4⟩, by dsimp only; omega⟩
  · obtain rfl : k = 8 := by omega
    rw [List.drop_of_length_le (by omega), List.append_nil] at s
    rw [List.take_of_length_le (by omega)] at ow hsq ⊢
    exact ⟨W1, mvs1, _, _, U, us, hgr, ow, hsq, s, rfl⟩
end
end Go.Proofs.YtepodifionoigaaGreatDoor
