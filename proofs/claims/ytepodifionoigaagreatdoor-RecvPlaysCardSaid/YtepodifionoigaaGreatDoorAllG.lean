import Derived.Test.YtepodifionoigaaGreatDoorMPlA
import Derived.Test.YtepodifionoigaaGreatDoorS8
import Derived.Test.YtepodifionoigaaGreatDoorMSortFn
import Derived.Test.YtepodifionoigaaGreatDoorR24f
set_option linter.unusedVariables false
set_option linter.unusedSimpArgs false
set_option maxRecDepth 8000
namespace Go.Proofs.YtepodifionoigaaGreatDoor
open Go.Vc
section
variable {W W' : Wd} {h h' : Heap} {b t j n c : Nat} {a : Option Addr} {T : TypeId} {size : Int} {css : List (List Value)} {cs us vs : List Value} {G G' : List Grp} {v : Value} {x : Ses} {f : Fm} {mv : Option Nat} {Q : Heap → Prop} {E : Grp}
theorem sortM_c {l : List Int} (start : Int) (o : Ow a l.length c 1 (ints .i64 l) E) (m : Me W h (E :: G)) (hl : l.length ≤ 100000) (hr : ∀ k ∈ l, 0 ≤ k ∧ k ≤ 4095) :
    Runs Tryz.prog 83 #[.int .i64 start, .slice a l.length c] h fun v h' => ∃ a' c' E' ys, v = .slice a' l.length c' ∧ Ow a' l.length c' 1 (ints .i64 ys) E' ∧ Me W h' (E' :: E :: G) ∧ ys.Perm l ∧ ys.Pairwise fun x y => distZ start x ≤ distZ start y := by
  refine vc_seq_Sort _ _ _ _ _ _ ?_
  intro b1 h1 e1 e2
  replace m := (m.push e2 e1).nilI
  refine ⟨fun a' l' c' i h => ∃ (k : Nat) (E' : Grp), i = k ∧ k ≤ l.length ∧ l' = k ∧ Ow a' k c' 1 (ints .i64 (l.take k)) E' ∧ Me W h (E' :: [(b1, [.int .i64 start], 3)] :: E :: G), fun _ _ _ i _ => ((l.length : Int) - i).toNat, ⟨0, [], rfl, by omega, rfl, by simpa [ints] using Ow.nil, m⟩, fun _ => ?_⟩
  rintro a' l' c' _ h2 ⟨k, E', rfl, hk, rfl, o', m⟩
  refine dcase_intro (fun q => ?_) fun q => ?_
  · have hkl : l' < l.length := by omega
    obtain ⟨b2, o2, rfl, hc2⟩ := src_cell (o.src1 m 2 rfl) (ints_get (List.getElem?_eq_getElem hkl))
    have hrk := hr l[l'] (List.getElem_mem hkl)
    refine ⟨⟨by omega, by omega⟩, l[l'], by simpa using hc2, (mod_c _ _).ret ⟨_, rfl, ?_⟩⟩
    rw [show l[l'] % 4096 = l[l'] by omega]
    refine o'.appn m rfl (by simp [Value.oneCell']) (by omega) (by decide) fun a4 c4 E4 h4 m4 o4 => ?_
    refine ⟨by simp only [fits]; omega, ⟨l' + 1, E4, by omega, by omega, rfl, ?_, m4⟩, by dsimp only; omega⟩
    have e : ints .i64 (l.take l') ++ [.int .i64 l[l']] = ints .i64 (l.take (l' + 1)) := by
      rw [List.take_add_one, List.getElem?_eq_getElem hkl, ints_app]; rfl
    rw [← e]; exact o4
  · obtain rfl : l' = l.length := by omega
    rw [List.take_length] at o'
    refine (sortfn_c (xs := l) m o' (by omega)).mono ?_
    rintro _ h6 ⟨rfl, ys, E6, hp, hs2, o6, m6⟩
    exact ⟨_, _, E6, ys, rfl, o6, m6.free 1 rfl, hp, hs2⟩
theorem esv_mem : ∀ {es : List MapEntry} {l : List Fm} {e : MapEntry}, EsV W es l → e ∈ es → ∃ f cs, f ∈ l ∧ e.key = .int .i64 f.sq ∧ e.val = .agg cs.toArray ∧ FmV W f cs
  | e0 :: es, l, e, ⟨f, r, cs, e1, e2, e3, h1, h2⟩, he => by
    rcases List.mem_cons.1 he with rfl | he
    · exact ⟨f, cs, by rw [e1]; simp, e2, e3, h1⟩
    · obtain ⟨g, cs', h3, h4⟩ := esv_mem h2 he
      exact ⟨g, cs', by rw [e1]; simp [h3], h4⟩
def keyI (e : MapEntry) : Int := match e.key with | .int _ n => n | _ => 0
theorem keyI_of : ∀ {es : List MapEntry} {l : List Fm}, EsV W es l → es.map keyI = l.map Fm.sq
  | [], l, hv => by cases hv; rfl
  | e :: es, l, ⟨f, r, cs, e1, e2, e3, h1, h2⟩ => by
    subst e1
    rw [List.map_cons, List.map_cons, keyI_of h2]
    unfold keyI
    rw [e2]
theorem key_keyI : ∀ {ks : List MapEntry}, (∀ e ∈ ks, ∃ n, e.key = .int .i64 n) → ks.map (·.key) = ints .i64 (ks.map keyI)
  | [], _ => rfl
  | e :: ks, h => by
    obtain ⟨n, hn⟩ := h e (by simp)
    rw [List.map_cons, key_keyI fun e' he' => h e' (by simp [he'])]
    show _ = Value.int .i64 (keyI e) :: _
    unfold keyI
    rw [hn]; rfl
def AllV (W : Wd) (b : Nat) (T : TypeId) (size : Int) (css : List (List Value)) (t : Nat) (G : List Grp) (mv : Option Nat) (x : Ses) (v : Value) (h' : Heap) : Prop :=
  ∃ W' a c E vs, W.le W' ∧ v = .slice a x.allK.length c ∧ Ow a x.allK.length c 24 vs E ∧ Sq (FmV W') x.allK vs ∧ St W' h' b T size css t (sesC { x with kept := [] } none) (E :: G)
set_option maxHeartbeats 1000000 in
theorem all_c (s : St W h b T size css t (sesC x mv) G) (hk : KeptV W mv x.kept) (hg : SesG x) :
    Runs Tryz.prog 53 #[.pointer (some ⟨b, 13 + t * 8, none⟩)] h (AllV W b T size css t G mv x) := by
  have hok := hg.ok
  obtain ⟨es, c, ho, hes, hbo, hnd, hW⟩ := kept_obj s.m hk
  have hel := es_len hes
  have hn := hok.n
  refine vc_recv_session_all _ _ _ ?_
  refine ⟨_, s.get 5 rfl, ?_⟩
  unfold rngv
  rw [show Tryz.prog.underlying 51 = _ from mapU]
  refine ⟨es, c, ho, ?_⟩
  intro bi h1' e1 e2
  obtain ⟨m1, hbn⟩ := me_pushO s.m e2 e1
  have hlt : ∀ r, mv = some r → r ≠ bi := fun r e q => by
    have := hW r e
    rw [q, hbn] at this; cases this
  have hek : ∀ e ∈ es, ∃ n, e.key = .int .i64 n := fun e he => by
    obtain ⟨f, cs, -, h2, -⟩ := esv_mem hes he
    exact ⟨_, h2⟩
  refine ⟨fun a' l' c' h => ∃ (W1 : Wd) (ks : List MapEntry) (E' : Grp) (seen : Array Nat), W.le W1 ∧ W1 bi = some (.mapIter mv c seen c) ∧ (∀ e ∈ ks, e ∈ es) ∧ (ks.map (·.born)).Nodup ∧ l' = ks.length ∧ seen.toList = ks.map (·.born) ∧ Ow a' ks.length c' 1 (ks.map (·.key)) E' ∧ St W1 h b T size css t (sesC x mv) (E' :: G),
    fun _ l' _ _ => es.length - l', ⟨_, [], [], #[], upd_le hbn, upd_at, by simp, by simp, rfl, rfl, Ow.nil, s.mem (me_swap m1.nilI)⟩, fun _ => ?_⟩
  rintro a' l' c' h2 ⟨W1, ks, E', seen, hle, hit, hks, hkn, rfl, hseen, o', s2⟩
  have hkl : ks.length ≤ es.length := by
    have := nodup_sub (m := es.map (·.born)) hkn fun y hy => by
      obtain ⟨e, he, rfl⟩ := List.mem_map.1 hy
      exact List.mem_map_of_mem (hks e he)
    simpa using this
  have ho2 : mobj h2 mv = some (es, c) := by
    unfold mobj at ho ⊢
    cases mv with
    | none => exact ho
    | some r =>
      dsimp only
      rw [s2.m.keep _ _ (hle _ _ (hW r rfl))]
  refine ⟨rfl, mv, c, seen, c, es, c, s2.m.keep _ _ hit, ho2, hbo, Nat.le_refl _, fun hall => ?_, fun e he hne h3 e3 => ?_⟩
  · have hpm : ks.Perm es := perm_seen hkn hnd hks fun e he => by rw [← hseen]; exact hall e he
    have hlk : ks.length = x.kept.length := by rw [hpm.length_eq]; exact hel
    rw [key_keyI fun e he => hek e (hks e he)] at o'
    obtain ⟨zs, hzs⟩ : ∃ zs, zs = ks.map keyI := ⟨_, rfl⟩
    rw [← hzs] at o'
    have hzl : zs.length = ks.length := by rw [hzs, List.length_map]
    have hzp : zs.Perm (x.kept.map Fm.sq) := by rw [hzs, ← keyI_of hes]; exact hpm.map _
    rw [← hzl] at o' ⊢
    refine ⟨x.start, s2.get 1 rfl, ?_⟩
    have hrk : ∀ k ∈ x.kept.map Fm.sq, 0 ≤ k ∧ k ≤ 4095 := fun k hk' => by
      obtain ⟨f, hf, rfl⟩ := List.mem_map.1 hk'
      exact ⟨(hok.k f hf).s0, (hok.k f hf).s1⟩
    refine (sortM_c (l := zs) x.start o' (me_swap s2.m) (by omega) fun k hk' => hrk k (hzp.subset hk')).mono ?_
    rintro _ h4 ⟨a4, c4, E4, ys, rfl, o4, m4, hyp, hys⟩
    have s4 : St W1 h4 b T size css t (sesC x mv) (E4 :: G) := s2.mem ((m4.free 1 rfl).perm (by
      simp only [List.eraseIdx_cons_succ, List.eraseIdx_cons_zero, List.flatten_cons]
      exact List.perm_append_comm_assoc _ _ _))
    have hup := upP_sort (ys := ys) hg.nd (fun f hf => ⟨(hok.k f hf).s0, (hok.k f hf).s1⟩) hok.s (hyp.trans hzp) hys
    have hup2 : x.allK.map Fm.sq = ys := hup
    have hal : x.allK.length = zs.length := by rw [← hyp.length_eq, ← hup2, List.length_map]
    have hmem : ∀ f ∈ x.allK, f ∈ x.kept := fun f hf => (upP_perm 4096 (l := x.kept) (s := x.start)).subset (List.mem_append_left _ hf)
    refine ⟨_, _, _, rfl, ?_⟩
    refine ⟨fun a' l' c' i h => ∃ (k : Nat) (E' : Grp) (vs : List Value), i = k ∧ k ≤ x.allK.length ∧ l' = k ∧ Ow a' k c' 24 vs E' ∧ Sq (FmV W1) (x.allK.take k) vs ∧ St W1 h b T size css t (sesC x mv) (E' :: E4 :: G), fun _ _ _ i _ => ((x.allK.length : Int) - i).toNat, ⟨0, [], [], rfl, by omega, rfl, Ow.nil, rfl, s4.mem (me_swap s4.m.nilI)⟩, fun _ => ?_⟩
    rintro a5 l5 c5 _ h5 ⟨k, E5, vs5, rfl, hk5, rfl, o5, hs5, s5⟩
    refine dcase_intro (fun q => ?_) fun q => ?_
    · have hkl5 : l5 < x.allK.length := by omega
      have hfm := List.getElem_mem hkl5
      have hsrc := o4.src1 s5.m 2 rfl
      obtain ⟨b6, o6, rfl, hc6⟩ := src_cell hsrc (ints_get (k := .i64) (i := l5) (x := (x.allK[l5]).sq) (by rw [← hup2, List.getElem?_map, List.getElem?_eq_getElem hkl5]; rfl))
      refine ⟨⟨by omega, by omega⟩, (x.allK[l5]).sq, by simpa using hc6, _, s5.get 5 rfl, ?_⟩
      obtain ⟨cs, hlk5, hcl, hc1, hcf⟩ := lkr_c s5.m (hk.le hle) hok.k (x.allK[l5]).sq
      have hfind : kfind x.kept (x.allK[l5]).sq = some x.allK[l5] := kfind_mem hg.nd (hmem _ hfm)
      refine ⟨cs, _, hlk5, hcl, ?_⟩
      rw [List.append_nil]
      have m6 := (me_swap s5.m)
      refine Ow.app1 (sz := 24) o5 m6 0 rfl hcl hc1 (by omega) (by decide) fun a7 c7 E7 h7 m7 o7 => ?_
      simp only [List.set_cons_zero] at m7
      refine ⟨by simp only [fits]; omega, ⟨l5 + 1, E7, _, by omega, by omega, rfl, o7, ?_, s5.mem (me_swap m7)⟩, by dsimp only; omega⟩
      rw [List.take_add_one, List.getElem?_eq_getElem hkl5]
      exact hs5.snoc (hcf _ hfind)
    · obtain rfl : l5 = x.allK.length := by omega
      refine s5.set 5 rfl fun h8 s8 => ?_
      rw [List.take_length] at hs5
      exact ⟨W1, a5, c5, E5, vs5, hle, rfl, o5, hs5, s8.mem (s8.m.sub ⟨E4, by
        simp only [List.flatten_cons, List.append_assoc]
        exact List.Perm.append_left _ (List.Perm.append_left _ List.perm_append_comm)⟩)⟩
  · have hmvs : ∃ r, mv = some r := by
      cases mv with
      | none => unfold mobj at ho; cases ho; cases he
      | some r => exact ⟨r, rfl⟩
    obtain ⟨r, rfl⟩ := hmvs
    rw [hseen] at hne
    have m3 := me_updO s2.m hit e3
    have hnd3 : ((ks ++ [e]).map (·.born)).Nodup := by
      rw [List.map_append, List.nodup_append]
      refine ⟨hkn, by simp, fun a ha b hb e => ?_⟩
      simp at hb
      subst hb
      subst e
      exact hne ha
    have hk3 : ∀ e' ∈ ks ++ [e], e' ∈ es := fun e' he' => by
      rcases List.mem_append.1 he' with he' | he'
      · exact hks e' he'
      · rw [List.mem_singleton] at he'; subst he'; exact he
    have hlk3 : (ks ++ [e]).length ≤ es.length := by
      have := nodup_sub (m := es.map (·.born)) hnd3 fun y hy => by
        obtain ⟨e', he', rfl⟩ := List.mem_map.1 hy
        exact List.mem_map_of_mem (hk3 e' he')
      simpa using this
    rw [List.length_append, List.length_singleton] at hlk3
    have hfind : es.find? (·.born == e.born) = some e := by
      cases hf : es.find? (·.born == e.born) with
      | none => exact absurd (List.find?_eq_none.1 hf e he) (by simp)
      | some e' =>
        have h1 := List.find?_some hf
        have h2 := List.mem_of_find?_eq_some hf
        rw [map_inj hnd e' h2 e he (by simpa using h1)]
    refine ⟨rfl, r, c, seen.push e.born, e.born, es, c, e, m3.keep _ _ upd_at, by simp, ?_, hfind, ?_⟩
    · have hr := hW r rfl
      show mobj h3 (some r) = _
      unfold mobj
      dsimp only
      have : Wd.upd W1 bi (.mapIter (some r) c (seen.push e.born) c) r = some (.map es.toArray c) := by
        rw [upd_ne (hlt r rfl)]; exact hle _ _ hr
      rw [m3.keep _ _ this]
    · obtain ⟨f, cs, hfm, e6, e7, hv1⟩ := esv_mem hes he
      rw [e6]
      intro b8 h9 f1 f2
      have s3 := s2.mem m3
      refine o'.appn (me_swap s3.m) (us := [.int .i64 f.sq]) (k := 1) rfl (by simp [Value.oneCell']) (by omega) (by decide) (fun a7 c7 E7 h7 m7 o7 => ?_) b8 h9 f1 (by simpa using f2)
      refine ⟨⟨_, ks ++ [e], E7, seen.push e.born, fun d y e9 => ?_, upd_at, hk3, hnd3, by simp, by simp [hseen], ?_, s3.mem (me_swap m7)⟩, by dsimp only; omega⟩
      · have hd : d ≠ bi := fun q => by rw [q, hbn] at e9; cases e9
        rw [upd_ne hd]; exact hle _ _ e9
      · rw [List.map_append, List.length_append]
        simpa [e6] using o7
end
end Go.Proofs.YtepodifionoigaaGreatDoor
