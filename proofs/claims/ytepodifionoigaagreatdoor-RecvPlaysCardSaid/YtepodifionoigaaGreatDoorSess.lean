import Derived.Test.YtepodifionoigaaGreatDoorMRecv3
set_option linter.unusedVariables false
set_option linter.unusedSimpArgs false
set_option maxRecDepth 8000
namespace Go.Proofs.YtepodifionoigaaGreatDoor
open Go.Vc
section
variable {W W' : Wd} {h h' : Heap} {b t j n c : Nat} {a : Option Addr} {T : TypeId} {size : Int} {css : List (List Value)} {cs us vs : List Value} {G G' : List Grp} {v : Value} {x : Ses} {f : Fm} {mv : Option Nat} {Q : Heap → Prop} {E : Grp} {l : List Fm}
theorem bts_cl {W W' : Wd} {v : Value} {xs : List Int} (hc : ∀ b o v, wcell W b o = some v → wcell W' b o = some v) (hb : Bts W v xs) : Bts W' v xs := by
  obtain ⟨a, c, e, h1, h2⟩ := hb
  refine ⟨a, c, e, h1, ?_⟩
  unfold wsrc at h2 ⊢
  split at h2
  · exact h2
  · obtain ⟨e1, e2⟩ := wrow_iff.1 h2
    exact wrow_iff.2 ⟨e1, fun j v hj => hc _ _ _ (e2 j v hj)⟩
  · exact h2
theorem fmv_cl (hc : ∀ b o v, wcell W b o = some v → wcell W' b o = some v) (hv : FmV W f cs) : FmV W' f cs := by
  obtain ⟨v, e, hb⟩ := hv; exact ⟨v, e, bts_cl hc hb⟩
theorem kept_cl (hk : KeptV W mv l) (hg : W.gr W' mv) : ∀ b o v, wcell W b o = some v → wcell W' b o = some v :=
  gr_cl hg fun k e => by
    subst e
    obtain ⟨es, c, h1, -⟩ := MapV.v hk
    exact ⟨_, _, h1⟩
theorem mdel_c {K : Heap → Prop} (m : Me W h G) (hk : KeptV W mv l) (n : Int) (q : ∀ W' h', W.gr W' mv → Me W' h' G → KeptV W' mv (kdel l n) → K h') : mdelv Tryz.prog 51 (.map mv) (.int .i64 n) h K := by
  cases mv with
  | none =>
    have : l = [] := hk
    subst this
    unfold mdelv
    rw [mapU]
    dsimp only
    rw [intU]
    exact q W h (fun b x _ e => e) m rfl
  | some r =>
    obtain ⟨es, c, h1, h2, h3, h4⟩ := MapV.v hk
    have hm : mobj h (some r) = some (es, c) := by
      unfold mobj; dsimp only; rw [m.keep _ _ h1]
    unfold mdelv
    rw [mapU]
    dsimp only
    rw [intU]
    have hf := find_es (k := n) 0 h2
    cases hq : kfind l n with
    | none =>
      rw [hq] at hf
      refine ⟨es, c, none, hm, hf, fun h5 e5 => ?_⟩
      have hg : W.gr (W.upd r (.map (mdels es none).toArray c)) (some r) := upd_gr
      refine q _ h5 hg (me_updO m h1 e5) ⟨es, c, upd_at, ?_, h3, h4⟩
      have e : kdel l n = l := List.eraseP_of_forall_not fun f hf' hp => by
        have := List.find?_eq_none.1 hq f hf'
        exact this hp
      rw [e]
      exact EsV.mono (es := es) (fun f cs hv => fmv_cl (kept_cl hk hg) hv) h2
    | some f =>
      rw [hq] at hf
      obtain ⟨j, cs, h5, h6, h7, h8⟩ := hf
      refine ⟨es, c, _, hm, h5, fun h9 e9 => ?_⟩
      rw [Nat.zero_add] at e9
      have hg : W.gr (W.upd r (.map (mdels es (some (j, .agg cs.toArray))).toArray c)) (some r) := upd_gr
      refine q _ h9 hg (me_updO m h1 e9) ⟨es.eraseIdx j, c, upd_at, EsV.mono (es := es) (fun f cs hv => fmv_cl (kept_cl hk hg) hv) h7, fun e he => h3 e (List.mem_of_mem_eraseIdx he), ?_⟩
      exact List.Nodup.sublist ((List.eraseIdx_sublist es j).map _) h4
theorem esv_app : ∀ {es : List MapEntry} {l : List Fm} {e : MapEntry}, EsV W es l → e.key = .int .i64 f.sq → e.val = .agg cs.toArray → FmV W f cs → EsV W (es ++ [e]) (l ++ [f])
  | [], l, e, h0, h1, h2, h3 => by cases h0; exact ⟨f, [], cs, rfl, h1, h2, h3, rfl⟩
  | x :: es, l, e, ⟨g, r, cs', e1, e2, e3, h4, h5⟩, h1, h2, h3 => by subst e1; exact ⟨g, _, cs', rfl, e2, e3, h4, esv_app (es := es) h5 h1 h2 h3⟩
theorem mput_c {K : Heap → Prop} {r : Nat} (m : Me W h G) (hk : KeptV W (some r) l) (hv : FmV W f cs) (hn : kfind l f.sq = none) (q : ∀ W' h', W.gr W' (some r) → Me W' h' G → KeptV W' (some r) (l ++ [f]) → K h') : mupv Tryz.prog 51 (.map (some r)) (.int .i64 f.sq) (.agg cs.toArray) h K := by
  obtain ⟨es, c, h1, h2, h3, h4⟩ := MapV.v hk
  have hm : mobj h (some r) = some (es, c) := by
    unfold mobj; dsimp only; rw [m.keep _ _ h1]
  unfold mupv
  rw [mapU]
  dsimp only
  rw [intU]
  have hf := find_es (k := f.sq) 0 h2
  rw [hn] at hf
  refine ⟨es, c, none, hm, hf, fun h5 e5 => ?_⟩
  have hg : W.gr (W.upd r (.map (mups es c (.int .i64 f.sq) (.agg cs.toArray) none).1.toArray (mups es c (.int .i64 f.sq) (.agg cs.toArray) none).2)) (some r) := upd_gr
  refine q _ h5 hg (me_updO m h1 e5) ⟨_, _, upd_at, ?_, ?_, ?_⟩
  · exact esv_app (EsV.mono (es := es) (fun f cs hv => fmv_cl (kept_cl hk hg) hv) h2) rfl rfl (fmv_cl (kept_cl hk hg) hv)
  · intro e he
    show e.born < c + 1
    rcases List.mem_append.1 (show e ∈ es ++ [_] from he) with he | he
    · have := h3 e he; omega
    · rw [List.mem_singleton] at he; subst he; show c < c + 1; omega
  · show (List.map (fun (e : MapEntry) => e.born) (es ++ [_])).Nodup
    rw [List.map_append, List.nodup_append]
    refine ⟨h4, by simp, fun i hi j hj e => ?_⟩
    subst e
    obtain ⟨y, hy, rfl⟩ := List.mem_map.1 hi
    simp at hj
    have := h3 y hy
    omega
theorem pow2_bd {d : Int} (h0 : 0 ≤ d) (h1 : d < 64) : 0 < pow2 d ∧ pow2 d ≤ 9223372036854775808 := by
  obtain ⟨k, rfl⟩ := Int.eq_ofNat_of_zero_le h0
  unfold pow2
  rw [Int.toNat_natCast]
  have e : ((2 : Int) ^ k) = ((2 ^ k : Nat) : Int) := by rw [Int.natCast_pow]; rfl
  rw [e]
  have h2 : 2 ^ k ≤ 2 ^ 63 := Nat.pow_le_pow_right (by decide) (by omega)
  have h3 : 0 < 2 ^ k := Nat.pow_pos (by decide)
  have h4 : (2 : Nat) ^ 63 = 9223372036854775808 := by decide
  omega
theorem move_c (s : St W h b T size css t (sesC x mv) G) (n : Int) : Runs Tryz.prog 95 #[.pointer (some ⟨b, 13 + t * 8, none⟩), .int .i64 n] h fun v h' => v = .tuple #[] ∧ St W h' b T size css t (sesC (x.move n) mv) G := by
  have hd := distZ_bd x.fr n
  refine vc_recv_session_move _ _ _ _ ?_
  refine ⟨_, s.get 3 rfl, (dist_c _ _ _).ret ⟨_, rfl, ?_⟩⟩
  refine s.set 3 rfl fun h2 s2 => ?_
  refine dcase_intro (fun q => ?_) fun q => ?_
  · refine s2.set 4 rfl fun h3 s3 => ?_
    refine ⟨rfl, ?_⟩
    have e : (x.move n).bits = 0 := by unfold Ses.move; dsimp only; rw [if_pos q]
    have e2 : sesC (x.move n) mv = ((sesC x mv).set 3 (.int .i64 n)).set 4 (.int .u64 0) := by rw [← e]; rfl
    rw [e2]; exact s3
  · refine ⟨_, s2.get 4 rfl, ⟨hd.1, by simp only [kbits]; omega⟩, ?_⟩
    refine s2.set 4 rfl fun h3 s3 => ?_
    refine ⟨rfl, ?_⟩
    have e : (x.move n).bits = x.bits / pow2 (distZ x.fr n) := by unfold Ses.move; dsimp only; rw [if_neg q]
    have e2 : sesC (x.move n) mv = ((sesC x mv).set 3 (.int .i64 n)).set 4 (.int .u64 (x.bits / pow2 (distZ x.fr n))) := by rw [← e]; rfl
    rw [e2]; exact s3
theorem mark_k {Post : Value → Heap → Prop} (s : St W h b T size css t (sesC x mv) G) (n : Int) (hd : distZ x.fr n < 64) (q : ∀ h', St W h' b T size css t (sesC (x.mark n) mv) G → Post (.tuple #[]) h') :
    onAddr (some ⟨b, 13 + t * 8, none⟩) fun b3 o3 => ∃ n9 : Int, cell h b3 (o3 + 4) = some (.int .u64 n9) ∧ (0 ≤ distZ x.fr n ∧ distZ x.fr n ≤ kbits .u64) ∧ fits .u64 ((1 : Int) * (pow2 (distZ x.fr n))) ∧ onAddr (some ⟨b, 13 + t * 8, none⟩) fun b4 o4 => wr h b4 (o4 + 4) ∧ ∀ h5 : Heap, h5 = setc h b4 (o4 + 4) (.int .u64 (bits .or .u64 n9 ((1 : Int) * (pow2 (distZ x.fr n))))) → Post (.tuple #[]) h5 := by
  have h0 := (distZ_bd x.fr n).1
  obtain ⟨p1, p2⟩ := pow2_bd h0 hd
  refine ⟨_, s.get 4 rfl, ⟨h0, by simp only [kbits]; omega⟩, by simp only [fits]; omega, ?_⟩
  refine s.set 4 rfl fun h5 s5 => q h5 ?_
  have e : x.mark n = { x with bits := bitO x.bits (1 * pow2 (distZ x.fr n)) } := by unfold Ses.mark; rw [if_pos hd]
  rw [e]; exact s5
theorem stand_c (s : St W h b T size css t (sesC x mv) G) (n : Int) : Runs Tryz.prog 75 #[.pointer (some ⟨b, 13 + t * 8, none⟩), .int .i64 n] h fun v h' => v = .tuple #[] ∧ St W h' b T size css t (sesC (x.stand n) mv) G := by
  have hd := distZ_bd x.fr n
  refine vc_recv_session_stand _ _ _ _ ?_
  refine ⟨_, s.get 3 rfl, (dist_c _ _ _).ret ⟨_, rfl, dcase_intro (fun q => dcase_intro (fun q2 => ?_) fun q2 => ?_) fun q => ?_⟩⟩
  · have e : x.stand n = (x.move (addZ n (-63))).mark n := by unfold Ses.stand; rw [if_pos ⟨q, q2⟩]
    refine (add_c _ _ _).ret ⟨_, rfl, (move_c s _).mono ?_⟩
    rintro _ h3 ⟨rfl, s3⟩
    refine ⟨_, s3.get 3 rfl, (dist_c _ _ _).ret ⟨_, rfl, dcase_intro (fun q3 => ?_) fun q3 => ?_⟩⟩
    · exact mark_k (Post := fun v h' => v = .tuple #[] ∧ St W h' b T size css t (sesC (x.stand n) mv) G) s3 n q3 fun h' s' => ⟨rfl, by rw [e]; exact s'⟩
    · refine ⟨rfl, ?_⟩
      have e2 : (x.move (addZ n (-63))).mark n = x.move (addZ n (-63)) := by unfold Ses.mark; rw [if_neg q3]
      rw [e, e2]; exact s3
  · have e : x.stand n = x.mark n := by unfold Ses.stand; rw [if_neg (fun c => q2 c.2)]
    refine ⟨_, s.get 3 rfl, (dist_c _ _ _).ret ⟨_, rfl, dcase_intro (fun q3 => by omega) fun q3 => ?_⟩⟩
    refine ⟨rfl, ?_⟩
    have e2 : x.mark n = x := by unfold Ses.mark; rw [if_neg q3]
    rw [e, e2]; exact s
  · have e : x.stand n = x.mark n := by unfold Ses.stand; rw [if_neg (fun c => q c.1)]
    refine ⟨_, s.get 3 rfl, (dist_c _ _ _).ret ⟨_, rfl, dcase_intro (fun q3 => ?_) fun q3 => by omega⟩⟩
    exact mark_k (Post := fun v h' => v = .tuple #[] ∧ St W h' b T size css t (sesC (x.stand n) mv) G) s n q3 fun h' s' => ⟨rfl, by rw [e]; exact s'⟩
theorem kdel_len {n : Int} (h : kfind l n = some f) : (kdel l n).length + 1 = l.length := by
  have h1 := List.length_eraseP_of_mem (List.mem_of_find?_eq_some h) (List.find?_some h)
  have h2 := List.length_pos_of_mem (List.mem_of_find?_eq_some h)
  unfold kdel
  omega
theorem kdel_sub {n : Int} {g : Fm} (h : g ∈ kdel l n) : g ∈ l := List.mem_of_mem_eraseP h
end
def Ses.wk (x : Ses) (s : Int) (l : List Fm) : Ses := { x with start := s, kept := l }
section
variable {W W' : Wd} {h h' : Heap} {b t j n c : Nat} {a : Option Addr} {T : TypeId} {size : Int} {css : List (List Value)} {cs us vs : List Value} {G G' : List Grp} {v : Value} {x : Ses} {f : Fm} {mv : Option Nat} {Q : Heap → Prop} {E : Grp} {l : List Fm}
theorem gr_ler {A B C : Wd} {r : Option Nat} (h : A.gr B r) (k : B.le C) : A.gr C r := fun b x n e => k b x (h b x n e)
theorem up_c (s : St W h b T size css t (sesC x mv) G) (hk : KeptV W mv x.kept) (hok : ∀ f ∈ x.kept, FmOk f) (to : Int) (hl : x.kept.length ≤ 4096) :
    Runs Tryz.prog 76 #[.pointer (some ⟨b, 13 + t * 8, none⟩), .int .i64 to] h (TookV W b T size css t G mv (x.up to).1 (x.up to).2) := by
  have hd := distZ_bd x.start to
  refine vc_recv_session_up _ _ _ _ ?_
  refine ⟨_, s.get 1 rfl, (dist_c _ _ _).ret ⟨_, rfl, ?_⟩⟩
  obtain ⟨d, hde⟩ := Int.eq_ofNat_of_zero_le hd.1
  have hU : (x.up to).1 = (upP d x.kept x.start).1 ∧ (x.up to).2 = x.wk to (upP d x.kept x.start).2 := by
    unfold Ses.up Ses.wk
    rw [hde]; exact ⟨rfl, rfl⟩
  rw [hU.1, hU.2, hde]
  refine ⟨fun a' l' c' i h => ∃ (k : Nat) (W1 : Wd) (E' : Grp) (vs : List Value) (out l : List Fm) (z : Int), i = k ∧ k ≤ d ∧ l' = out.length ∧ out.length ≤ k ∧ W.gr W1 mv ∧ Ow a' l' c' 24 vs E' ∧ Sq (FmV W1) out vs ∧ KeptV W1 mv l ∧ (∀ f ∈ l, FmOk f) ∧ St W1 h b T size css t (sesC (x.wk z l) mv) (E' :: G) ∧
      (upP d x.kept x.start).1 = out ++ (upP (d - k) l z).1 ∧ (upP d x.kept x.start).2 = (upP (d - k) l z).2,
    fun _ _ _ i _ => ((d : Int) - i).toNat, ⟨0, W, [], [], [], x.kept, x.start, rfl, by omega, rfl, Nat.le_refl _, fun _ _ _ e => e, Ow.nil, rfl, hk, hok, s.mem (me_swap s.m.nilI), rfl, rfl⟩, fun _ => ?_⟩
  rintro a' l' c' _ h2 ⟨k, W1, E', vs', out, l, z, rfl, hkd, rfl, hol, hg, o, hs, hk1, hok1, s1, hu1, hu2⟩
  refine dcase_intro (fun q => ?_) fun q => ?_
  · have hdk : d - k = (d - (k + 1)) + 1 := by omega
    refine ⟨_, s1.get 5 rfl, mlen_c s1.m hk1 (dcase_intro (fun q0 => ?_) fun q0 => ?_)⟩
    · have hl0 : l.length = 0 := by omega
      refine s1.set 1 rfl fun h3 s3 => ?_
      rw [hdk, upP, if_pos hl0] at hu1 hu2
      rw [hu1, hu2, List.append_nil]
      exact ⟨W1, a', c', E', vs', hg, rfl, o, hs, hk1, s3⟩
    · have hl0 : l.length ≠ 0 := fun e => q0 (by omega)
      refine ⟨_, s1.get 5 rfl, _, s1.get 1 rfl, ?_⟩
      dsimp only [Ses.wk]
      have hup : upP (d - k) l z = (match kfind l z with
          | none => upP (d - (k + 1)) l (addZ z 1)
          | some f => (f :: (upP (d - (k + 1)) (kdel l z) (addZ z 1)).1, (upP (d - (k + 1)) (kdel l z) (addZ z 1)).2)) := by
        rw [hdk, upP, if_neg hl0]; cases kfind l z <;> rfl
      refine ⟨?_, ?_⟩
      · obtain ⟨cs, hlk, hcl, hc1, hcf⟩ := lkr_c s1.m hk1 hok1 z
        refine ⟨cs, _, hlk, ?_⟩
        intro b6 h4 e1 e2
        have s4 := s1.push e1 e2
        refine ⟨⟨hcl, s4.m.wrsb 1 rfl rfl, hc1⟩, fun h5 e5 => ?_⟩
        have m5 := s4.m.setr 1 rfl e5
        simp only [List.set_cons_zero, List.set_cons_succ] at m5
        replace m5 : Me W1 h5 ([(b, stC size css t (sesC (x.wk z l) mv), T)] :: [(b6, cs, 67)] :: E' :: G) := by
          have e : setL z24 0 cs = cs := setL_all (by rw [hcl]; rfl)
          rw [← e]; exact m5
        have s5 := s4.mem m5
        refine bcase_intro (fun qf => ?_) fun qf => ?_
        · obtain ⟨f, hf⟩ := Option.isSome_iff_exists.1 qf
          have hfv := hcf f hf
          rw [hf] at hup
          dsimp only at hup
          refine ⟨cs, s5.m.row 1 rfl (by rw [List.drop_zero]; exact List.take_of_length_le (by omega)) (by omega), hcl, ?_⟩
          rw [List.append_nil]
          refine Ow.app1 (sz := 24) o s5.m 2 rfl hcl hc1 (by omega) (by decide) fun a7 c7 E7 h7 m7 o7 => ?_
          simp only [List.set_cons_zero, List.set_cons_succ] at m7
          have s7 := (s5.mem m7).drop
          refine ⟨_, s7.get 5 rfl, z, s7.get 1 rfl, ?_⟩
          refine mdel_c s7.m hk1 z fun W8 h8 hg8 m8 hk8 => ?_
          have s8 := s7.mem m8
          refine ⟨z, s8.get 1 rfl, (add_c _ _ _).ret ⟨_, rfl, ?_⟩⟩
          refine s8.set 1 rfl fun h9 s9 => ?_
          replace s9 : St W8 h9 b T size css t (sesC (x.wk (addZ z 1) (kdel l z)) mv) (E7 :: G) := s9
          refine ⟨by simp only [fits]; omega, ⟨k + 1, W8, E7, _, out ++ [f], kdel l z, addZ z 1, by omega, by omega, by simp, by simp; omega, gr_trans hg hg8, o7, (hs.mono fun f cs hv => fmv_cl (kept_cl hk1 hg8) hv).snoc (fmv_cl (kept_cl hk1 hg8) hfv), hk8, fun g hgm => hok1 g (kdel_sub hgm), s9, ?_, ?_⟩, by first | omega | (dsimp only; omega)⟩
          · rw [hu1, hup]; simp
          · rw [hu2, hup]
        · have hf : kfind l z = none := by simpa using qf
          rw [hf] at hup
          dsimp only at hup
          refine ⟨z, s5.get 1 rfl, (add_c _ _ _).ret ⟨_, rfl, ?_⟩⟩
          refine s5.set 1 rfl fun h9 s9 => ?_
          replace s9 : St W1 h9 b T size css t (sesC (x.wk (addZ z 1) l) mv) ([(b6, cs, 67)] :: E' :: G) := s9
          refine ⟨by simp only [fits]; omega, ⟨k + 1, W1, E', vs', out, l, addZ z 1, by omega, by omega, rfl, by omega, hg, o, hs, hk1, hok1, s9.drop, ?_, ?_⟩, by first | omega | (dsimp only; omega)⟩
          · rw [hu1, hup]
          · rw [hu2, hup]
      · intro b6 h4 e1 e2
        have s4 := s1.push e1 e2
        obtain ⟨cs, hlk, hcl, hc1, hcf⟩ := lkr_c s4.m hk1 hok1 z
        refine ⟨cs, _, hlk, ?_⟩
        refine ⟨⟨hcl, s4.m.wrsb 1 rfl rfl, hc1⟩, fun h5 e5 => ?_⟩
        have m5 := s4.m.setr 1 rfl e5
        simp only [List.set_cons_zero, List.set_cons_succ] at m5
        replace m5 : Me W1 h5 ([(b, stC size css t (sesC (x.wk z l) mv), T)] :: [(b6, cs, 67)] :: E' :: G) := by
          have e : setL z24 0 cs = cs := setL_all (by rw [hcl]; rfl)
          rw [← e]; exact m5
        have s5 := s4.mem m5
        refine bcase_intro (fun qf => ?_) fun qf => ?_
        · obtain ⟨f, hf⟩ := Option.isSome_iff_exists.1 qf
          have hfv := hcf f hf
          rw [hf] at hup
          dsimp only at hup
          refine ⟨cs, s5.m.row 1 rfl (by rw [List.drop_zero]; exact List.take_of_length_le (by omega)) (by omega), hcl, ?_⟩
          rw [List.append_nil]
          refine Ow.app1 (sz := 24) o s5.m 2 rfl hcl hc1 (by omega) (by decide) fun a7 c7 E7 h7 m7 o7 => ?_
          simp only [List.set_cons_zero, List.set_cons_succ] at m7
          have s7 := (s5.mem m7).drop
          refine ⟨_, s7.get 5 rfl, z, s7.get 1 rfl, ?_⟩
          refine mdel_c s7.m hk1 z fun W8 h8 hg8 m8 hk8 => ?_
          have s8 := s7.mem m8
          refine ⟨z, s8.get 1 rfl, (add_c _ _ _).ret ⟨_, rfl, ?_⟩⟩
          refine s8.set 1 rfl fun h9 s9 => ?_
          replace s9 : St W8 h9 b T size css t (sesC (x.wk (addZ z 1) (kdel l z)) mv) (E7 :: G) := s9
          refine ⟨by simp only [fits]; omega, ⟨k + 1, W8, E7, _, out ++ [f], kdel l z, addZ z 1, by omega, by omega, by simp, by simp; omega, gr_trans hg hg8, o7, (hs.mono fun f cs hv => fmv_cl (kept_cl hk1 hg8) hv).snoc (fmv_cl (kept_cl hk1 hg8) hfv), hk8, fun g hgm => hok1 g (kdel_sub hgm), s9, ?_, ?_⟩, by first | omega | (dsimp only; omega)⟩
          · rw [hu1, hup]; simp
          · rw [hu2, hup]
        · have hf : kfind l z = none := by simpa using qf
          rw [hf] at hup
          dsimp only at hup
          refine ⟨z, s5.get 1 rfl, (add_c _ _ _).ret ⟨_, rfl, ?_⟩⟩
          refine s5.set 1 rfl fun h9 s9 => ?_
          replace s9 : St W1 h9 b T size css t (sesC (x.wk (addZ z 1) l) mv) ([(b6, cs, 67)] :: E' :: G) := s9
          refine ⟨by simp only [fits]; omega, ⟨k + 1, W1, E', vs', out, l, addZ z 1, by omega, by omega, rfl, by omega, hg, o, hs, hk1, hok1, s9.drop, ?_, ?_⟩, by first | omega | (dsimp only; omega)⟩
          · rw [hu1, hup]
          · rw [hu2, hup]
  · obtain rfl : k = d := by omega
    refine s1.set 1 rfl fun h3 s3 => ?_
    rw [Nat.sub_self, upP] at hu1 hu2
    rw [hu1, hu2, List.append_nil]
    exact ⟨W1, a', c', E', vs', hg, rfl, o, hs, hk1, s3⟩
theorem runP_none {n : Nat} {z : Int} (h : kfind l z = none) : runP (n + 1) l z = ([], l, z) := by rw [runP, h]
theorem runP_some {n : Nat} {z : Int} (h : kfind l z = some f) : runP (n + 1) l z = (f :: (runP n (kdel l z) (addZ z 1)).1, (runP n (kdel l z) (addZ z 1)).2) := by rw [runP, h]
theorem run_c (s : St W h b T size css t (sesC x mv) G) (hk : KeptV W mv x.kept) (hok : ∀ f ∈ x.kept, FmOk f) (hl : x.kept.length ≤ 4097) :
    Runs Tryz.prog 78 #[.pointer (some ⟨b, 13 + t * 8, none⟩)] h (TookV W b T size css t G mv x.run.1 x.run.2) := by
  refine vc_recv_session_run _ _ _ ?_
  obtain ⟨N, hN⟩ : ∃ N, N = x.kept.length := ⟨_, rfl⟩
  have hU : x.run.1 = (runP (N + 1) x.kept x.start).1 ∧ x.run.2 = x.wk (runP (N + 1) x.kept x.start).2.2 (runP (N + 1) x.kept x.start).2.1 := by
    rw [hN]; exact ⟨rfl, rfl⟩
  rw [hU.1, hU.2]
  refine ⟨fun a' l' c' h => ∃ (W1 : Wd) (E' : Grp) (vs : List Value) (out l : List Fm) (z : Int), l' = out.length ∧ out.length + l.length = N ∧ W.gr W1 mv ∧ Ow a' l' c' 24 vs E' ∧ Sq (FmV W1) out vs ∧ KeptV W1 mv l ∧ (∀ f ∈ l, FmOk f) ∧ St W1 h b T size css t (sesC (x.wk z l) mv) (E' :: G) ∧
      (runP (N + 1) x.kept x.start).1 = out ++ (runP (l.length + 1) l z).1 ∧ (runP (N + 1) x.kept x.start).2 = (runP (l.length + 1) l z).2,
    fun _ l' _ _ => N - l', ⟨W, [], [], [], x.kept, x.start, rfl, by simp [hN], fun _ _ _ e => e, Ow.nil, rfl, hk, hok, s.mem (me_swap s.m.nilI), by rw [← hN]; rfl, by rw [← hN]⟩, fun _ => ?_⟩
  rintro a' l' c' h2 ⟨W1, E', vs', out, l, z, rfl, hol, hg, o, hs, hk1, hok1, s1, hu1, hu2⟩
  refine ⟨_, s1.get 5 rfl, _, s1.get 1 rfl, ?_⟩
  dsimp only [Ses.wk]
  refine ⟨?_, ?_⟩
  · obtain ⟨cs, hlk, hcl, hc1, hcf⟩ := lkr_c s1.m hk1 hok1 z
    refine ⟨cs, _, hlk, ?_⟩
    intro b6 h4 e1 e2
    have s4 := s1.push e1 e2
    refine ⟨⟨hcl, s4.m.wrsb 1 rfl rfl, hc1⟩, fun h5 e5 => ?_⟩
    have m5 := s4.m.setr 1 rfl e5
    simp only [List.set_cons_zero, List.set_cons_succ] at m5
    replace m5 : Me W1 h5 ([(b, stC size css t (sesC (x.wk z l) mv), T)] :: [(b6, cs, 67)] :: E' :: G) := by
      have e : setL z24 0 cs = cs := setL_all (by rw [hcl]; rfl)
      rw [← e]; exact m5
    have s5 := s4.mem m5
    refine bcase_intro (fun qf => ?_) fun qf => ?_
    · have hf : kfind l z = none := by simpa using qf
      rw [runP_none hf] at hu1 hu2
      rw [hu1, hu2, List.append_nil]
      exact ⟨W1, a', c', E', vs', hg, rfl, o, hs, hk1, s5.drop⟩
    · have qf' : (kfind l z).isSome = true := by simpa using qf
      obtain ⟨f, hf⟩ := Option.isSome_iff_exists.1 qf'
      have hfv := hcf f hf
      have hkl := kdel_len hf
      rw [runP_some hf, ← hkl] at hu1 hu2
      refine ⟨cs, s5.m.row 1 rfl (by rw [List.drop_zero]; exact List.take_of_length_le (by omega)) (by omega), hcl, ?_⟩
      rw [List.append_nil]
      refine Ow.app1 (sz := 24) o s5.m 2 rfl hcl hc1 (by omega) (by decide) fun a7 c7 E7 h7 m7 o7 => ?_
      simp only [List.set_cons_zero, List.set_cons_succ] at m7
      have s7 := (s5.mem m7).drop
      refine ⟨_, s7.get 5 rfl, z, s7.get 1 rfl, ?_⟩
      refine mdel_c s7.m hk1 z fun W8 h8 hg8 m8 hk8 => ?_
      have s8 := s7.mem m8
      refine ⟨z, s8.get 1 rfl, (add_c _ _ _).ret ⟨_, rfl, ?_⟩⟩
      refine s8.set 1 rfl fun h9 s9 => ?_
      replace s9 : St W8 h9 b T size css t (sesC (x.wk (addZ z 1) (kdel l z)) mv) (E7 :: G) := s9
      refine ⟨⟨W8, E7, _, out ++ [f], kdel l z, addZ z 1, by simp, by simp; omega, gr_trans hg hg8, o7, (hs.mono fun f cs hv => fmv_cl (kept_cl hk1 hg8) hv).snoc (fmv_cl (kept_cl hk1 hg8) hfv), hk8, fun g hgm => hok1 g (kdel_sub hgm), s9, ?_, ?_⟩, by first | omega | (dsimp only; omega)⟩
      · rw [hu1]; simp
      · rw [hu2]
  · intro b6 h4 e1 e2
    have s4 := s1.push e1 e2
    obtain ⟨cs, hlk, hcl, hc1, hcf⟩ := lkr_c s4.m hk1 hok1 z
    refine ⟨cs, _, hlk, ?_⟩
    refine ⟨⟨hcl, s4.m.wrsb 1 rfl rfl, hc1⟩, fun h5 e5 => ?_⟩
    have m5 := s4.m.setr 1 rfl e5
    simp only [List.set_cons_zero, List.set_cons_succ] at m5
    replace m5 : Me W1 h5 ([(b, stC size css t (sesC (x.wk z l) mv), T)] :: [(b6, cs, 67)] :: E' :: G) := by
      have e : setL z24 0 cs = cs := setL_all (by rw [hcl]; rfl)
      rw [← e]; exact m5
    have s5 := s4.mem m5
    refine bcase_intro (fun qf => ?_) fun qf => ?_
    · have hf : kfind l z = none := by simpa using qf
      rw [runP_none hf] at hu1 hu2
      rw [hu1, hu2, List.append_nil]
      exact ⟨W1, a', c', E', vs', hg, rfl, o, hs, hk1, s5.drop⟩
    · have qf' : (kfind l z).isSome = true := by simpa using qf
      obtain ⟨f, hf⟩ := Option.isSome_iff_exists.1 qf'
      have hfv := hcf f hf
      have hkl := kdel_len hf
      rw [runP_some hf, ← hkl] at hu1 hu2
      refine ⟨cs, s5.m.row 1 rfl (by rw [List.drop_zero]; exact List.take_of_length_le (by omega)) (by omega), hcl, ?_⟩
      rw [List.append_nil]
      refine Ow.app1 (sz := 24) o s5.m 2 rfl hcl hc1 (by omega) (by decide) fun a7 c7 E7 h7 m7 o7 => ?_
      simp only [List.set_cons_zero, List.set_cons_succ] at m7
      have s7 := (s5.mem m7).drop
      refine ⟨_, s7.get 5 rfl, z, s7.get 1 rfl, ?_⟩
      refine mdel_c s7.m hk1 z fun W8 h8 hg8 m8 hk8 => ?_
      have s8 := s7.mem m8
      refine ⟨z, s8.get 1 rfl, (add_c _ _ _).ret ⟨_, rfl, ?_⟩⟩
      refine s8.set 1 rfl fun h9 s9 => ?_
      replace s9 : St W8 h9 b T size css t (sesC (x.wk (addZ z 1) (kdel l z)) mv) (E7 :: G) := s9
      refine ⟨⟨W8, E7, _, out ++ [f], kdel l z, addZ z 1, by simp, by simp; omega, gr_trans hg hg8, o7, (hs.mono fun f cs hv => fmv_cl (kept_cl hk1 hg8) hv).snoc (fmv_cl (kept_cl hk1 hg8) hfv), hk8, fun g hgm => hok1 g (kdel_sub hgm), s9, ?_, ?_⟩, by first | omega | (dsimp only; omega)⟩
      · rw [hu1]; simp
      · rw [hu2]
end
end Go.Proofs.YtepodifionoigaaGreatDoor
