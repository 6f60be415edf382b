import Derived.Test.YtepodifionoigaaGreatDoorAllG
import Derived.Test.YtepodifionoigaaGreatDoorGenAll2
set_option linter.unusedVariables false
set_option linter.unusedSimpArgs false
set_option maxRecDepth 8000
namespace Go.Proofs.YtepodifionoigaaGreatDoor
open Go.Vc
section
variable {W W' W1 : Wd} {h h' : Heap} {b t j n c i b1 l o : Nat} {a : Option Addr} {T T1 T2 : TypeId} {size : Int} {css : List (List Value)} {cs us vs : List Value} {G G' : List Grp} {v : Value} {x : Ses} {xs : List Ses} {mv : Option Nat} {mvs : List (Option Nat)} {f : Fm} {E A : Grp} {K : Heap → Prop}
theorem stv_qos (hl : cs.length = 24) (hw : wrs h b o 24) (h1 : ∀ u ∈ cs, u.oneCell' = true) (k : ∀ h1, h1 = Go.Vc.setr h b o cs → K h1) : stv Tryz.prog 67 h b o (.agg cs.toArray) K := ⟨⟨hl, hw, h1⟩, k⟩
def CloI (W : Wd) (b : Nat) (T : TypeId) (size : Int) (xs : List Ses) (mvs : List (Option Nat)) (b1 : Nat) (T2 : TypeId) (G : List Grp) (k : Nat) (h' : Heap) : Prop :=
  ∃ (W1 : Wd) (mv2 : List (Option Nat)) (kl : List (List Fm)), W.le W1 ∧ mv2.length = 8 ∧ kl.length = 8 ∧ Me W1 h' ([(b1, ck (preC size) (List.zipWith sesC xs mv2) [], T2)] :: [(b, ck (preC size) (List.zipWith sesC xs mvs) [], T)] :: G) ∧
    (∀ i mv l x, i < k → mv2[i]? = some mv → kl[i]? = some l → xs[i]? = some x → KeptV W1 mv l ∧ l.length = x.kept.length ∧ ∀ r, mv = some r → W r = none) ∧ (∀ i, k ≤ i → mv2[i]? = mvs[i]?)
theorem ck_set1 {mv2 : List (Option Nat)} (hx : xs[t]? = some x) (mv : Option Nat) : (List.zipWith sesC xs mv2).set t (sesC x mv) = List.zipWith sesC xs (mv2.set t mv) := by
  have := zip_set sesC xs mv2 t x mv
  rw [set_same hx] at this
  exact this.symm
set_option maxHeartbeats 2000000 in
theorem sclone_c (s : S8 W h b T size xs mvs G) (hg : ∀ x ∈ xs, SesG x) :
    Runs Tryz.prog 10 #[.pointer (some ⟨b, 0, none⟩)] h fun v h' => ∃ b1 T2, v = .pointer (some ⟨b1, 0, none⟩) ∧ CloI W b T size xs mvs b1 T2 G 8 h' := by
  obtain ⟨hx8, hm8, hok, m⟩ := s
  obtain ⟨k1, k2⟩ := scss_len hx8 hm8
  have hcl : (ck (preC size) (List.zipWith sesC xs mvs) []).length = 77 := by
    have := ck_len (pre := preC size) (post := []) k2
    rw [this, k1]; rfl
  have hone : ∀ u ∈ ck (preC size) (List.zipWith sesC xs mvs) [], u.oneCell' = true := by
    intro u hu
    unfold ck at hu
    rw [List.append_nil] at hu
    rcases List.mem_append.1 hu with hu | hu
    · unfold preC at hu
      simp only [List.mem_append] at hu
      rcases hu with hu | hu | hu
      · exact ints_one u hu
      · exact ints_one u hu
      · simp at hu; subst hu; rfl
    · obtain ⟨cs, hcs, hu⟩ := List.mem_flatten.1 hu
      obtain ⟨i, hi⟩ := List.getElem?_of_mem hcs
      rw [List.getElem?_zipWith] at hi
      cases hx : xs[i]? with
      | none => simp [hx] at hi
      | some x =>
        cases hp : mvs[i]? with
        | none => simp [hx, hp] at hi
        | some p =>
          simp [hx, hp] at hi; subst hi
          simp [sesC] at hu
          rcases hu with rfl | rfl | rfl | rfl | rfl | rfl | rfl | rfl <;> rfl
  refine vc_recv_Station_Clone _ _ _ ?_
  refine ⟨ck (preC size) (List.zipWith sesC xs mvs) [], m.row 0 rfl (by rw [List.drop_zero]; exact List.take_of_length_le (by omega)) (by omega), ?_⟩
  intro b1 h1 e1 e2
  have m1 := m.push e2 e1
  refine ⟨⟨hcl, m1.wrsb 0 rfl rfl, hone⟩, fun h2 e3 => ?_⟩
  have m2 := m1.setr 0 rfl e3
  rw [List.set_cons_zero, setL_all (by rw [hcl]; rfl)] at m2
  refine ⟨fun z h' => ∃ k : Nat, z = k ∧ k ≤ 8 ∧ CloI W b T size xs mvs b1 _ G k h', fun z _ => (8 - z).toNat, ⟨0, rfl, by omega, W, mvs, List.replicate 8 [], Wd.le.refl W, hm8, rfl, m2, fun i _ _ _ hi => by omega, fun i _ => rfl⟩, fun _ => ?_⟩
  clear m m1 m2
  rintro _ h3 ⟨k, rfl, hk, W1, mv2, kl, hle, hl2, hlk, m, hdone, hrest⟩
  refine dcase_intro (fun q => ?_) fun q => ?_
  rotate_left
  · obtain rfl : k = 8 := by omega
    exact ⟨b1, _, rfl, W1, mv2, kl, hle, hl2, hlk, m, hdone, hrest⟩
  have hk8 : k < 8 := by omega
  obtain ⟨x, hx⟩ : ∃ x, xs[k]? = some x := ⟨_, List.getElem?_eq_getElem (by omega)⟩
  obtain ⟨mv, hmv⟩ : ∃ mv, mvs[k]? = some mv := ⟨_, List.getElem?_eq_getElem (by omega)⟩
  obtain ⟨hkv, -⟩ := hok.1 k x mv hx hmv
  have hgx := hg x (List.mem_of_getElem? hx)
  have hkv1 := hkv.le hle
  have hcs : (List.zipWith sesC xs mvs)[k]? = some (sesC x mv) := by rw [List.getElem?_zipWith, hx, hmv]
  have es1 : List.zipWith sesC xs mvs = (List.zipWith sesC xs mvs).set k (sesC x mv) := (set_same hcs).symm
  have hcell : cell h3 b (13 + k * 8 + 5) = some (.map mv) := by
    rw [es1] at m
    exact m.fget 1 rfl k2 (by omega) rfl 5 rfl rfl
  refine ⟨⟨by omega, by omega⟩, _, hcell, ?_⟩
  rw [Int.toNat_natCast]
  cases mv with
  | none =>
    refine ⟨true, rfl, bcase_true rfl ⟨by simp only [fits]; omega, ⟨k + 1, by omega, by omega, W1, mv2, kl.set k [], hle, hl2, by rw [List.length_set]; exact hlk, m, fun i mv l y hi e1 e2 e3 => ?_, fun i hi => hrest i (by omega)⟩, by dsimp only; omega⟩⟩
    by_cases hik : k = i
    · subst hik
      rw [hrest k (Nat.le_refl k), hmv] at e1
      cases e1
      rw [List.getElem?_set_self (by omega)] at e2
      cases e2
      rw [hx] at e3
      cases e3
      have : x.kept = [] := hkv
      exact ⟨rfl, by rw [this], fun r e => by cases e⟩
    · rw [List.getElem?_set_ne hik] at e2
      exact hdone i mv l y (by omega) e1 e2 e3
  | some r =>
    refine ⟨false, rfl, bcase_false rfl ?_⟩
    intro b2 h4 f1 f2
    obtain ⟨m4, hb2⟩ := me_pushO m f2 f1
    have hle4 : W1.le (W1.upd b2 (.map #[] 0)) := upd_le hb2
    have hmv2k : mv2[k]? = some (some r) := by rw [hrest k (Nat.le_refl k), hmv]
    have hcs2 : (List.zipWith sesC xs mv2)[k]? = some (sesC x (some r)) := by rw [List.getElem?_zipWith, hx, hmv2k]
    obtain ⟨j1, j2⟩ := scss_len hx8 hl2
    refine ⟨⟨by omega, by omega⟩, ?_⟩
    rw [(set_same hcs2).symm] at m4
    refine m4.fset 0 rfl j2 (by omega) rfl 5 rfl rfl fun h5 m5 => ?_
    simp only [List.set_cons_zero] at m5
    rw [show (sesC x (some r)).set 5 (Value.map (some b2)) = sesC x (some b2) from rfl] at m5
    rw [ck_set1 hx] at m5
    clear m4
    obtain ⟨es, c, ho, hes, hbo, hnd, hW⟩ := kept_obj m5 (hkv1.le hle4)
    have hel := es_len hes
    unfold rngv
    rw [show Tryz.prog.underlying 51 = _ from mapU]
    refine ⟨es, c, ho, ?_⟩
    intro bi h6 f3 f4
    obtain ⟨m6, hbi⟩ := me_pushO m5 f4 f3
    have hbne : bi ≠ b2 := fun e => by rw [e, upd_at] at hbi; cases hbi
    have hrb2 : r ≠ b2 := fun e => by
      have := hW r rfl
      rw [e, upd_at] at this
      cases this
      obtain ⟨es', c', h5, -⟩ := MapV.v (show MapV W1 r x.kept from hkv1)
      rw [e, hb2] at h5; cases h5
    have hrbi : r ≠ bi := fun e => by
      have := hW r rfl
      rw [e, hbi] at this; cases this
    have hle6 : (W1.upd b2 (.map #[] 0)).le ((W1.upd b2 (.map #[] 0)).upd bi (.mapIter (some r) c #[] c)) := upd_le hbi
    have hk0 : KeptV ((W1.upd b2 (.map #[] 0)).upd bi (.mapIter (some r) c #[] c)) (some b2) [] := ⟨[], 0, hle6 _ _ upd_at, rfl, by simp, by simp⟩
    refine ⟨fun h' => ∃ (W4 : Wd) (ks : List MapEntry) (fs : List Fm) (seen : Array Nat), W1.le W4 ∧ W4 bi = some (.mapIter (some r) c seen c) ∧ (∀ e ∈ ks, e ∈ es) ∧ (ks.map (·.born)).Nodup ∧ seen.toList = ks.map (·.born) ∧ fs.map Fm.sq = ks.map keyI ∧ KeptV W4 (some b2) fs ∧
      Me W4 h' ([(b1, ck (preC size) (List.zipWith sesC xs (mv2.set k (some b2))) [], _)] :: [(b, ck (preC size) (List.zipWith sesC xs mvs) [], T)] :: G),
      fun h' => match h'[bi]? with | some (.mapIter _ _ seen _) => es.length - seen.size | _ => 0, ⟨_, [], [], #[], fun d y e => hle6 d y (hle4 d y e), upd_at, by simp, by simp, rfl, rfl, hk0, m6⟩, fun _ => ?_⟩
    clear m6 m5 m hcell
    rintro h7 ⟨W4, ks, fs, seen, hleW, hit, hks, hkn, hseen, hfk, hkv4, m7⟩
    have hr4 : W4 r = some (.map es.toArray c) := by
      have h0 := hW r rfl
      rw [upd_ne hrb2] at h0
      exact hleW r _ h0
    have ho2 : mobj h7 (some r) = some (es, c) := by
      unfold mobj
      dsimp only
      rw [m7.keep _ _ hr4]
    have hkl : ks.length ≤ es.length := by
      have := nodup_sub (m := es.map (·.born)) hkn fun y hy => by
        obtain ⟨e, he, rfl⟩ := List.mem_map.1 hy
        exact List.mem_map_of_mem (hks e he)
      simpa using this
    have hss : seen.size = ks.length := by
      have := congrArg List.length hseen
      simpa using this
    have hm7 : h7[bi]? = some (.mapIter (some r) c seen c) := m7.keep _ _ hit
    refine ⟨rfl, some r, c, seen, c, es, c, hm7, ho2, hbo, Nat.le_refl _, fun hall => ?_, fun e he hne h8 e8 => ?_⟩
    · have hpm : ks.Perm es := perm_seen hkn hnd hks fun e he => by rw [← hseen]; exact hall e he
      have hfl : fs.length = x.kept.length := by
        have := congrArg List.length hfk
        rw [List.length_map, List.length_map, hpm.length_eq, hel] at this
        exact this
      refine ⟨by simp only [fits]; omega, ⟨k + 1, by omega, by omega, W4, mv2.set k (some b2), kl.set k fs, fun d y e => hleW d y (hle d y e), by rw [List.length_set]; exact hl2, by rw [List.length_set]; exact hlk, m7, fun i mv l y hi e1 e2 e3 => ?_, fun i hi => by rw [List.getElem?_set_ne (by omega)]; exact hrest i (by omega)⟩, by dsimp only; omega⟩
      by_cases hik : k = i
      · subst hik
        rw [List.getElem?_set_self (by omega)] at e1 e2
        cases e1; cases e2
        rw [hx] at e3
        cases e3
        refine ⟨hkv4, hfl, fun r' e => ?_⟩
        cases e
        cases hWb : W b2 with
        | none => rfl
        | some z => rw [hle _ _ hWb] at hb2; cases hb2
      · rw [List.getElem?_set_ne hik] at e1 e2
        obtain ⟨g1, g2, g3⟩ := hdone i mv l y (by omega) e1 e2 e3
        exact ⟨g1.le hleW, g2, g3⟩
    · rw [hseen] at hne
      have m8 := me_updO m7 hit e8
      have hgr8 : ∀ d y, d ≠ bi → W4 d = some y → Wd.upd W4 bi (.mapIter (some r) c (seen.push e.born) c) d = some y := fun d y hd ee => by rw [upd_ne hd]; exact ee
      have hnd3 : ((ks ++ [e]).map (·.born)).Nodup := by
        rw [List.map_append, List.nodup_append]
        refine ⟨hkn, by simp, fun a ha b hb e => ?_⟩
        simp at hb
        subst hb
        subst e
        exact hne ha
      have hk3 : ∀ e' ∈ ks ++ [e], e' ∈ es := fun e' he' => by
        rcases List.mem_append.1 he' with he' | he'
        · exact hks e' he'
        · rw [List.mem_singleton] at he'; subst he'; exact he
      have hlk3 : (ks ++ [e]).length ≤ es.length := by
        have := nodup_sub (m := es.map (·.born)) hnd3 fun y hy => by
          obtain ⟨e', he', rfl⟩ := List.mem_map.1 hy
          exact List.mem_map_of_mem (hk3 e' he')
        simpa using this
      rw [List.length_append, List.length_singleton] at hlk3
      have hfind : es.find? (·.born == e.born) = some e := by
        cases hf : es.find? (·.born == e.born) with
        | none => exact absurd (List.find?_eq_none.1 hf e he) (by simp)
        | some e' =>
          have h1 := List.find?_some hf
          have h2 := List.mem_of_find?_eq_some hf
          rw [map_inj hnd e' h2 e he (by simpa using h1)]
      have hcl8 : ∀ d o v, wcell W4 d o = some v → wcell (Wd.upd W4 bi (.mapIter (some r) c (seen.push e.born) c)) d o = some v := fun d o v hv => by
        unfold wcell at hv ⊢
        by_cases hd : d = bi
        · rw [hd, hit] at hv; cases hv
        · rw [upd_ne hd]; exact hv
      refine ⟨rfl, r, c, seen.push e.born, e.born, es, c, e, m8.keep _ _ upd_at, by simp, ?_, hfind, ?_⟩
      · show mobj h8 (some r) = _
        unfold mobj
        dsimp only
        rw [m8.keep _ _ (hgr8 r _ hrbi hr4)]
      obtain ⟨f, cs, hfm, e6, e7, hv0⟩ := esv_mem hes he
      have hfo := hgx.ok.k f hfm
      have hfb := hfo.bl
      have hkey : keyI e = f.sq := by unfold keyI; rw [e6]
      have hle7 : ∀ d o v, wcell (W1.upd b2 (.map #[] 0)) d o = some v → wcell W4 d o = some v := fun d o v hv => by
        unfold wcell at hv
        by_cases hd : d = b2
        · rw [hd, upd_at] at hv; cases hv
        · rw [upd_ne hd] at hv
          exact cl_le hleW d o v hv
      have hv5 := fmv_cl hcl8 (fmv_cl hle7 hv0)
      obtain ⟨u0, rfl, hbu⟩ := hv5
      have hbu0 := hbu
      obtain ⟨ua, uc, rfl, hu1, hu2⟩ := hbu
      rw [e6, e7]
      intro b4 h9 f5 f6
      have m9 := m8.push f6 f5
      refine stv_qos (fmc_len hfo) (m9.wrsb 0 rfl rfl) (fmc_one _ _ _ _) fun h10 e10 => ?_
      have m10 := m9.setr 0 rfl e10
      rw [List.set_cons_zero, setL_all (by rw [fmc_len hfo]; rfl)] at m10
      refine ⟨_, _, _, m10.cell 0 rfl (fmc_cell hfo 5 rfl), ints .u8 f.body, ⟨by rw [Nat.mul_one]; exact m10.wsrc hu2, ints_one⟩, ?_⟩
      have m11 := m10.nilI
      refine (Ow.nil (sz := 1)).app m11 0 rfl (by rw [ints_len, Nat.mul_one]) (by omega) (by decide) fun a12 c12 E12 h11 m12 o12 => ?_
      simp only [List.set_cons_zero, List.nil_append] at m12 o12
      rw [Nat.zero_add] at o12 ⊢
      obtain ⟨W6, hle6', m13, hb13⟩ := ow_give o12 m12
      refine ⟨m13.wrb 0 rfl (by rw [fmc_len hfo]; rfl), fun h12 e12 => ?_⟩
      have m14 := m13.setc 0 rfl e12
      have eset : (fmc f (.slice ua f.body.length uc)).set 23 (.slice a12 f.body.length c12) = fmc f (.slice a12 f.body.length c12) := by
        unfold fmc
        rw [← List.append_assoc, ← List.append_assoc, ← List.append_assoc, ← List.append_assoc, List.set_append_right _ _ (by simp [ints, hfo.l1, hfo.l2, hfo.l3])]
        simp [ints, hfo.l1, hfo.l2, hfo.l3]
      rw [List.set_cons_zero, eset] at m14
      have hz2 : (mv2.set k (some b2))[k]? = some (some b2) := List.getElem?_set_self (by omega)
      have hcs3 : (List.zipWith sesC xs (mv2.set k (some b2)))[k]? = some (sesC x (some b2)) := by rw [List.getElem?_zipWith, hx, hz2]
      obtain ⟨j3, j4⟩ := scss_len (xs := xs) (mvs := mv2.set k (some b2)) hx8 (by rw [List.length_set]; exact hl2)
      have hc4 : cell h12 b1 (13 + k * 8 + 5) = some (.map (some b2)) := by
        have m15 := m14
        rw [(set_same hcs3).symm] at m15
        exact m15.fget 1 rfl j4 (by omega) rfl 5 rfl rfl
      refine ⟨⟨by omega, by omega⟩, _, hc4, _, m14.row 0 rfl (fmc_row24 hfo) (by rw [fmc_len hfo]; decide), ?_⟩
      have hkv6 : KeptV W6 (some b2) fs := by
        have h1 : KeptV (Wd.upd W4 bi (.mapIter (some r) c (seen.push e.born) c)) (some b2) fs := hkv4.cl hcl8 fun r' z er hr => by
          cases er
          exact hgr8 _ _ (fun e => hbne e.symm) hr
        exact h1.le hle6'
      have hfn : kfind fs f.sq = none := by
        cases hq : kixN fs f.sq with
        | none => exact (kix_none hq).1
        | some i =>
          obtain ⟨g, h1, h2, -⟩ := kix_some hq
          have h3 : f.sq ∈ fs.map Fm.sq := by rw [← h2]; exact List.mem_map_of_mem (List.mem_of_getElem? h1)
          rw [hfk] at h3
          obtain ⟨e', h4, h5⟩ := List.mem_map.1 h3
          have hke : (es.map keyI).Nodup := by rw [keyI_of hes]; exact hgx.nd
          have : e' = e := by
            have hinj : ∀ {l : List MapEntry}, (l.map keyI).Nodup → ∀ a ∈ l, ∀ b ∈ l, keyI a = keyI b → a = b := by
              intro l
              induction l with
              | nil => intro _ a ha; cases ha
              | cons z l ih =>
                intro hn a ha b hb ee
                rw [List.map_cons] at hn
                obtain ⟨n1, n2⟩ := List.nodup_cons.1 hn
                rcases List.mem_cons.1 ha with ha2 | ha2
                · rcases List.mem_cons.1 hb with hb2 | hb2
                  · rw [ha2, hb2]
                  · exact absurd (by rw [← ha2, ee]; exact List.mem_map_of_mem hb2) n1
                · rcases List.mem_cons.1 hb with hb2 | hb2
                  · exact absurd (by rw [← hb2, ← ee]; exact List.mem_map_of_mem ha2) n1
                  · exact ih n2 a ha2 b hb2 ee
            exact hinj hke e' (hks e' h4) e he (by rw [h5, hkey])
          subst this
          exact absurd (List.mem_map_of_mem h4) hne
      refine mput_c m14 hkv6 ⟨_, rfl, hb13⟩ hfn fun W7 h13 hg7 m15 hk7 => ?_
      have hit7 : W7 bi = some (.mapIter (some r) c (seen.push e.born) c) := hg7 bi _ (fun e => hbne (by cases e; rfl)) (hle6' _ _ upd_at)
      refine ⟨⟨W7, ks ++ [e], fs ++ [f], seen.push e.born, fun d y ee => ?_, hit7, hk3, hnd3, by simp [hseen], by simp [hfk, hkey], hk7, m15.drop1⟩, ?_⟩
      · have hd1 : d ≠ b2 := fun e => by rw [e, hb2] at ee; cases ee
        have hd2 : d ≠ bi := fun e => by
          rw [e] at ee
          have := hle4 bi y ee
          rw [hbi] at this; cases this
        exact hg7 d y (fun e => hd1 (by cases e; rfl)) (hle6' _ _ (hgr8 d y hd2 (hleW d y ee)))
      · dsimp only
        rw [hm7, m15.keep _ _ hit7]
        dsimp only
        rw [Array.size_push, hss]
        omega
end
end Go.Proofs.YtepodifionoigaaGreatDoor
