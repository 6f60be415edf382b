import Derived.Test.YtepodifionoigaaGreatDoorR24e
import Derived.Test.YtepodifionoigaaGreatDoorMRecv3
set_option linter.unusedVariables false
set_option linter.unusedSimpArgs false
set_option maxRecDepth 8000
namespace Go.Proofs.YtepodifionoigaaGreatDoor
open Go.Vc
structure Grs (W : Wd) (mvs : List (Option Nat)) (W' : Wd) (mvs' : List (Option Nat)) : Prop where
  g : ∀ b x, some b ∉ mvs → W b = some x → W' b = some x
  n : ∀ r, some r ∈ mvs' → some r ∈ mvs ∨ W r = none
  c : ∀ b o v, wcell W b o = some v → wcell W' b o = some v
theorem Grs.le {W W' : Wd} {mvs : List (Option Nat)} (h : W.le W') : Grs W mvs W' mvs := ⟨fun b x _ e => h b x e, fun r hr => .inl hr, fun _ _ _ => wcell_le h⟩
theorem Grs.trans {A B C : Wd} {m1 m2 m3 : List (Option Nat)} (h : Grs A m1 B m2) (k : Grs B m2 C m3) : Grs A m1 C m3 := by
  refine ⟨fun b x hb e => ?_, fun r hr => ?_, fun b o v e => k.c b o v (h.c b o v e)⟩
  · refine k.g b x (fun hm => ?_) (h.g b x hb e)
    rcases h.n b hm with h1 | h1
    · exact hb h1
    · rw [e] at h1; cases h1
  · rcases k.n r hr with h1 | h1
    · exact h.n r h1
    · cases hA : A r with
      | none => exact .inr rfl
      | some x =>
        refine .inl (Classical.byContradiction fun hm => ?_)
        rw [h.g r x hm hA] at h1
        cases h1
def mvsOk (W : Wd) (xs : List Ses) (mvs : List (Option Nat)) : Prop :=
  (∀ (i : Nat) (x : Ses) (mv : Option Nat), xs[i]? = some x → mvs[i]? = some mv → KeptV W mv x.kept ∧ (x.on = true → mv ≠ none)) ∧ ∀ (i j r : Nat), mvs[i]? = some (some r) → mvs[j]? = some (some r) → i = j
structure S8 (W : Wd) (h : Heap) (b : Nat) (T : TypeId) (size : Int) (xs : List Ses) (mvs : List (Option Nat)) (G : List Grp) : Prop where
  l1 : xs.length = 8
  l2 : mvs.length = 8
  ok : mvsOk W xs mvs
  m : Me W h ([(b, ck (preC size) (List.zipWith sesC xs mvs) [], T)] :: G)
section
variable {W W' W1 : Wd} {h h' : Heap} {b t j n c i b1 l : Nat} {a : Option Addr} {T T1 : TypeId} {size : Int} {css : List (List Value)} {cs us vs : List Value} {G G' : List Grp} {v : Value} {x : Ses} {xs : List Ses} {mv : Option Nat} {mvs : List (Option Nat)} {f : Fm} {E A : Grp} {up : List Fm} {bs : List Int}
theorem KeptV.cl {l : List Fm} (hk : KeptV W mv l) (hc : ∀ b o v, wcell W b o = some v → wcell W' b o = some v) (hm : ∀ r x, mv = some r → W r = some x → W' r = some x) : KeptV W' mv l := by
  unfold KeptV at hk ⊢
  split
  · exact hk
  · rename_i r
    obtain ⟨es, c, h1, h2, h3, h4⟩ := hk.v
    exact ⟨es, c, hm r _ rfl h1, EsV.mono (es := es) (fun f cs hv => fmv_cl hc hv) h2, h3, h4⟩
theorem scss_len (h1 : xs.length = 8) (h2 : mvs.length = 8) : (List.zipWith sesC xs mvs).length = 8 ∧ ∀ c ∈ List.zipWith sesC xs mvs, c.length = 8 := by
  refine ⟨by rw [List.length_zipWith, h1, h2]; rfl, fun c hc => ?_⟩
  obtain ⟨i, hi⟩ := List.getElem?_of_mem hc
  rw [List.getElem?_zipWith] at hi
  cases hx : xs[i]? with
  | none => simp [hx] at hi
  | some x =>
    cases hp : mvs[i]? with
    | none => simp [hx, hp] at hi
    | some p => simp [hx, hp] at hi; subst hi; rfl
theorem S8.mem (s : S8 W h b T size xs mvs G) (hle : W.le W') (m : Me W' h' ([(b, ck (preC size) (List.zipWith sesC xs mvs) [], T)] :: G')) : S8 W' h' b T size xs mvs G' :=
  ⟨s.l1, s.l2, ⟨fun i x mv e1 e2 => ⟨(s.ok.1 i x mv e1 e2).1.le hle, (s.ok.1 i x mv e1 e2).2⟩, s.ok.2⟩, m⟩
theorem S8.push (s : S8 W h b T size xs mvs G) (e1 : b1 = h.size) (e2 : h' = h.push (.cells vs.toArray T1)) : S8 W h' b T size xs mvs ([(b1, vs, T1)] :: G) := s.mem (Wd.le.refl W) (me_swap (s.m.push e2 e1))
theorem S8.drop (s : S8 W h b T size xs mvs (A :: G)) : S8 W h b T size xs mvs G := s.mem (Wd.le.refl W) (me_swap s.m).drop1
theorem S8.rme (s : S8 W h b T size xs mvs G) : row h b 0 6 = some (ints .u8 meL) :=
  s.m.row 0 rfl rfl (by obtain ⟨k1, k2⟩ := scss_len s.l1 s.l2; have := ck_len (pre := preC size) (post := []) k2; rw [this]; have : (preC size).length = 13 := rfl; omega)
theorem S8.rbss (s : S8 W h b T size xs mvs G) : row h b 6 6 = some (ints .u8 bssL) :=
  s.m.row 0 rfl rfl (by obtain ⟨k1, k2⟩ := scss_len s.l1 s.l2; have := ck_len (pre := preC size) (post := []) k2; rw [this]; have : (preC size).length = 13 := rfl; omega)
theorem S8.at (s : S8 W h b T size xs mvs G) (hx : xs[t]? = some x) : ∃ css mv, mvs[t]? = some mv ∧ St W h b T size css t (sesC x mv) G ∧ KeptV W mv x.kept ∧ (x.on = true → mv ≠ none) ∧
    ∀ W' h' x' mv' G', W.gr W' mv → St W' h' b T size css t (sesC x' mv') G' → KeptV W' mv' x'.kept → (x'.on = true → mv' ≠ none) → (∀ r, mv' = some r → mv = some r ∨ W r = none) → S8 W' h' b T size (xs.set t x') (mvs.set t mv') G' ∧ Grs W mvs W' (mvs.set t mv') := by
  obtain ⟨h1, h2, ⟨h3, h4⟩, m⟩ := s
  have htl := (List.getElem?_eq_some_iff.1 hx).1
  obtain ⟨mv, hp⟩ : ∃ p, mvs[t]? = some p := ⟨_, List.getElem?_eq_getElem (by omega)⟩
  obtain ⟨k1, k2⟩ := scss_len h1 h2
  have hcs : (List.zipWith sesC xs mvs)[t]? = some (sesC x mv) := by rw [List.getElem?_zipWith, hx, hp]
  obtain ⟨q1, q2⟩ := h3 t x mv hx hp
  have e : stC size (List.zipWith sesC xs mvs) t (sesC x mv) = ck (preC size) (List.zipWith sesC xs mvs) [] := by
    show ck (preC size) ((List.zipWith sesC xs mvs).set t (sesC x mv)) [] = _
    rw [set_same hcs]
  refine ⟨List.zipWith sesC xs mvs, mv, hp, ⟨by rw [e]; exact m, k2, k1, by omega, rfl⟩, q1, q2, ?_⟩
  intro W' h' x' mv' G' hg s' hk' ho' hf'
  have hc := kept_cl q1 hg
  have hin : ∀ i r, mvs[i]? = some (some r) → W r ≠ none := fun i r e1 e2 => by
    obtain ⟨y, hy⟩ : ∃ y, xs[i]? = some y := ⟨_, List.getElem?_eq_getElem (by have := (List.getElem?_eq_some_iff.1 e1).1; omega)⟩
    have hk := (h3 i y _ hy e1).1
    obtain ⟨es, c, h5, -⟩ := MapV.v (show MapV W r y.kept from hk)
    rw [h5] at e2; cases e2
  have hfr : ∀ i r, i ≠ t → mv' = some r → mvs[i]? = some (some r) → False := fun i r hi e1 e2 => by
    rcases hf' r e1 with e3 | e3
    · rw [e3] at hp
      exact hi (h4 i t r e2 hp)
    · exact hin i r e2 e3
  refine ⟨⟨by rw [List.length_set]; exact h1, by rw [List.length_set]; exact h2, ⟨fun i y mw e1 e2 => ?_, fun i j r e1 e2 => ?_⟩, ?_⟩, ⟨fun d z hd e1 => ?_, fun r hr => ?_, hc⟩⟩
  · by_cases hi : t = i
    · subst hi
      rw [List.getElem?_set_self (by omega)] at e1 e2
      cases e1; cases e2
      exact ⟨hk', ho'⟩
    · rw [List.getElem?_set_ne hi] at e1 e2
      obtain ⟨g1, g2⟩ := h3 i y mw e1 e2
      refine ⟨g1.cl hc fun r z er hr => hg r z (fun ee => ?_) hr, g2⟩
      subst er
      rw [← ee] at hp
      exact hi (h4 t i r hp e2)
  · by_cases hi : t = i
    · by_cases hj : t = j
      · omega
      · subst hi
        rw [List.getElem?_set_self (by omega)] at e1
        rw [List.getElem?_set_ne hj] at e2
        cases e1
        exact (hfr j r (fun h => hj h.symm) rfl e2).elim
    · by_cases hj : t = j
      · subst hj
        rw [List.getElem?_set_self (by omega)] at e2
        rw [List.getElem?_set_ne hi] at e1
        cases e2
        exact (hfr i r (fun h => hi h.symm) rfl e1).elim
      · rw [List.getElem?_set_ne hi] at e1
        rw [List.getElem?_set_ne hj] at e2
        exact h4 i j r e1 e2
  · have m' := s'.m
    have e2 : stC size (List.zipWith sesC xs mvs) t (sesC x' mv') = ck (preC size) (List.zipWith sesC (xs.set t x') (mvs.set t mv')) [] := by
      rw [zip_set]; rfl
    rw [e2] at m'
    exact m'
  · refine hg d z (fun ee => hd ?_) e1
    rw [ee]
    exact List.mem_of_getElem? hp
  · rcases List.mem_or_eq_of_mem_set hr with hr | hr
    · exact .inl hr
    · rcases hf' r hr.symm with e3 | e3
      · exact .inl (by rw [← e3]; exact List.mem_of_getElem? hp)
      · exact .inr e3
theorem takeC {x : Ses} {f : Fm} (h : SesG x) : TakeC x f := by
  cases hon : x.on with
  | true => exact take_on hon h.ok
  | false => exact take_off hon
theorem take_onk (x : Ses) (f : Fm) : (x.take f).2.on = x.on := by
  unfold Ses.take
  split
  · unfold Ses.take2
    have k4 := (stand_kept x f.sq).2.2.2.1
    have hp : ∀ y : Ses, (y.put f).run.2.on = y.on := fun y => by
      show (y.put f).on = y.on
      unfold Ses.put; split <;> rfl
    split
    · exact k4
    · split
      · dsimp only; rw [hp]; exact k4
      · dsimp only; rw [hp]; exact k4
  · rfl
theorem BtsL.cl (hc : ∀ b o v, wcell W b o = some v → wcell W' b o = some v) : ∀ {vs : List Value} {l : List (List Int)}, BtsL W vs l → BtsL W' vs l
  | [], [], _ => trivial
  | _ :: _, _ :: _, h => ⟨bts_cl hc h.1, BtsL.cl hc h.2⟩
def SatI (W : Wd) (b : Nat) (T : TypeId) (size : Int) (xs : List Ses) (mvs : List (Option Nat)) (parts : List (List Int)) (G : List Grp) (o : Option Addr) (ol oc : Nat) (tid i : Int) (h' : Heap) : Prop :=
  ∃ (k : Nat) (W1 : Wd) (d : Dst) (mvs1 : List (Option Nat)) (E : Grp) (vs : List Value), i = (k : Int) ∧ k ≤ parts.length ∧ Grs W mvs W1 mvs1 ∧ d = (Dst.mk xs [] (-1)).all (parts.take k) ∧ tid = d.tid ∧
    ol = d.up.length ∧ Ow o d.up.length oc 24 vs E ∧ Sq (FmV W1) d.up vs ∧ S8 W1 h' b T size d.xs mvs1 (E :: G)
def SoV (W : Wd) (b : Nat) (T : TypeId) (size : Int) (xs : List Ses) (mvs : List (Option Nat)) (up : List Fm) (ans : List Int) (G : List Grp) (v : Value) (h' : Heap) : Prop :=
  ∃ W' mvs' a c U us w, Grs W mvs W' mvs' ∧ Ow a up.length c 24 us U ∧ Sq (FmV W') up us ∧ S8 W' h' b T size xs mvs' (U :: G) ∧ v = .tuple #[.slice a up.length c, w] ∧ Bts W' w ans
theorem S8.ans (s : S8 W h b T size xs mvs G) (hx : xs[t]? = some x) (hok : SesOk x) :
    Runs Tryz.prog 39 #[.pointer (some ⟨b, 0, none⟩), .int .i64 (t : Int)] h fun v h' => ∃ W' a c, W.le W' ∧ v = .slice a 28 c ∧ Bts W' (.slice a 28 c) (ackB bssL meL t x.ackS x.ackM) ∧ S8 W' h' b T size xs mvs G := by
  obtain ⟨css, mv, hm, st, hk, ho, back⟩ := s.at hx
  refine (answer_c st hok).mono ?_
  rintro _ h' ⟨W', a, c, hle, rfl, hb, st'⟩
  obtain ⟨r1, -⟩ := back W' h' x mv G (gr_le hle) st' (hk.le hle) ho fun r e => .inl e
  rw [set_same hx, set_same hm] at r1
  exact ⟨W', a, c, hle, rfl, hb, r1⟩
set_option maxHeartbeats 6000000 in
theorem sdata_c (hE : Snt5 W) (s : S8 W h b T size xs mvs G) (hg : ∀ x ∈ xs, SesG x) (hb : Bts W (.slice a n c) bs) (hx : ∀ x ∈ bs, 0 ≤ x ∧ x < 256) (hl : bs.length ≤ 1000000) (agg : Bool) (hp : (partsOf agg bs).length ≤ 200000) :
    Runs Tryz.prog 18 #[.pointer (some ⟨b, 0, none⟩), .bool agg, .slice a n c] h
      (SoV W b T size ((Dst.mk xs [] (-1)).all (partsOf agg bs)).xs mvs ((Dst.mk xs [] (-1)).all (partsOf agg bs)).up (ackOf ((Dst.mk xs [] (-1)).all (partsOf agg bs)).xs ((Dst.mk xs [] (-1)).all (partsOf agg bs)).tid) G) := by
  have hby := partsOf_by (agg := agg) hx
  have hD : ∀ k, DstG ((Dst.mk xs [] (-1)).all ((partsOf agg bs).take k)) (0 + ((partsOf agg bs).take k).length) := fun k =>
    DstG.alls ⟨s.l1, hg, by have := kepts_le hg; rw [s.l1] at this; simp; omega, by show (-1 : Int) ≤ -1; decide, by show (-1 : Int) ≤ 7; decide⟩ fun p hp => (hby p (List.mem_of_mem_take hp)).1
  obtain ⟨parts, hparts⟩ : ∃ parts, parts = partsOf agg bs := ⟨_, rfl⟩
  rw [← hparts] at hby hD hp ⊢
  have hD2 : ∀ k, DstG ((Dst.mk xs [] (-1)).all (parts.take k)) 200000 := fun k => by
    obtain ⟨q1, q2, q3, q4⟩ := hD k
    refine ⟨q1, q2, Nat.le_trans q3 ?_, q4⟩
    rw [List.length_take]; omega
  clear hD
  refine vc_recv_Station_Data _ _ _ _ _ _ _ ?_
  intro b1 h1 e1 e2
  replace s := s.push e1 e2
  obtain ⟨hs0, hn0, hc0⟩ := bts_src hb
  cases agg with
  | true =>
    refine bcase_true rfl ?_
    have hpu : parts = unpL bs := hparts
    refine (unpackG_c hE s.m hb hx hl).mono ?_
    rintro _ h2 ⟨W2, s1, s1c, E2, vs2, hle2, rfl, o2, m2, hbl⟩
    rw [← hpu] at hbl
    have hvl := hbl.len
    have s2 : S8 W2 h2 b T size xs mvs ([] :: E2 :: [(b1, [.slice a n c], 36)] :: G) := s.mem hle2 (me_swap (me_swap m2).nilI)
    clear m2 s
    refine ⟨_, _, _, rfl, ?_⟩
    refine ⟨fun o ol oc tid i h' => SatI W2 b T size xs mvs parts (E2 :: [(b1, [.slice a n c], 36)] :: G) o ol oc tid i h', fun _ _ _ _ i _ => ((parts.length : Int) - i).toNat, ⟨0, W2, _, mvs, [], [], rfl, by omega, Grs.le (Wd.le.refl W2), rfl, rfl, rfl, Ow.nil, rfl, s2⟩, fun _ => ?_⟩
    clear s2
    rintro o ol oc tid _ h3 ⟨k, W1, d, mvs1, E, vs, rfl, hk, hgr, hd, rfl, rfl, ow, hsq, s⟩
    have hdg : DstG d 200000 := by rw [hd]; exact hD2 k
    have hgr0 : Grs W mvs W1 mvs1 := (Grs.le hle2).trans hgr
    refine dcase_intro (fun q => ?_) fun q => ?_
    · have hkl : k < parts.length := by omega
      obtain ⟨p, hpk⟩ : ∃ p, parts[k]? = some p := ⟨_, List.getElem?_eq_getElem hkl⟩
      have hpm := List.mem_of_getElem? hpk
      obtain ⟨v2, hv2, hbv⟩ := hbl.get hpk
      have hbp := bts_cl hgr.c hbv
      obtain ⟨a2, c2, rfl, -, -⟩ := hbv
      obtain ⟨b3, o3, rfl, hc3⟩ := src_cell (o2.src1 s.m 2 rfl) hv2
      refine ⟨⟨by omega, by omega⟩, _, _, _, by simpa using hc3, ?_⟩
      refine (qosReadG_c (hE.cl hgr0.c) s.m hbp (hby p hpm).1 (by have := (hby p hpm).2; omega)).mono ?_
      rintro _ h5 ⟨W5, hle5, m5, hcase⟩
      have s5 := s.mem hle5 m5
      clear m5 s
      have hone := all_snoc (d := Dst.mk xs [] (-1)) hpk
      rw [← hd] at hone
      rcases hcase with ⟨hq, cs, rfl, v5, rfl, hv5⟩ | ⟨hq, _, rfl, e5, rfl⟩
      · obtain ⟨k1, k2⟩ := qfm_ok hq (hby p hpm).1
        have t0 := k1.t0
        have t7 := k1.t7
        have hv5' := hv5
        obtain ⟨va, vc, rfl, hv6, hv7⟩ := hv5'
        refine ⟨_, _, rfl, ?_⟩
        intro b4 h6 f1 f2
        replace s5 := s5.push f1 f2
        refine ⟨⟨fmc_len k1, s5.m.wrsb 1 rfl rfl, fmc_one _ _ _ _⟩, fun h7 e7 => ?_⟩
        have m7 := s5.m.setr 1 rfl e7
        rw [List.set_cons_succ, List.set_cons_zero, setL_all (by rw [fmc_len k1]; rfl)] at m7
        have s7 := s5.mem (Wd.le.refl W5) m7
        clear s5 m7
        refine ⟨true, rfl, bcase_false rfl ?_⟩
        refine ⟨_, s7.m.row 1 rfl (fmc_row0 k1) (by rw [fmc_len k1]; decide), _, s7.rme, (qfm p).to, meL, rfl, rfl, ⟨k1.l1, rfl⟩, bcase_intro (fun q1 => ?_) fun q1 => ?_⟩
        · have hno : ¬ fme p := fun hf => by rw [decide_eq_true hf.2.1] at q1; cases q1
          refine ⟨by simp only [fits]; omega, ⟨k + 1, W5, d, mvs1, E, vs, by omega, by omega, hgr.trans (Grs.le hle5), ?_, rfl, rfl, ow, hsq.mono fun f cs hv => hv.le hle5, s7.drop⟩, by dsimp only; omega⟩
          rw [hone]; unfold Dst.one; rw [if_neg hno]
        refine ⟨_, s7.m.row 1 rfl (fmc_row6 k1) (by rw [fmc_len k1]; decide), _, s7.rbss, (qfm p).bss, bssL, rfl, rfl, ⟨k1.l2, rfl⟩, bcase_intro (fun q2 => ?_) fun q2 => ?_⟩
        · have hno : ¬ fme p := fun hf => by rw [decide_eq_true hf.2.2] at q2; cases q2
          refine ⟨by simp only [fits]; omega, ⟨k + 1, W5, d, mvs1, E, vs, by omega, by omega, hgr.trans (Grs.le hle5), ?_, rfl, rfl, ow, hsq.mono fun f cs hv => hv.le hle5, s7.drop⟩, by dsimp only; omega⟩
          rw [hone]; unfold Dst.one; rw [if_neg hno]
        have hf : fme p := ⟨hq, of_decide_eq_true (by simpa using q1), of_decide_eq_true (by simpa using q2)⟩
        obtain ⟨hxt, hgt⟩ := hdg.getD (t := (qfm p).tid.toNat) (by omega)
        refine ⟨(qfm p).tid, s7.m.cell 1 rfl (fmc_cell k1 0 rfl), ⟨t0, by omega⟩, _, s7.m.row 1 rfl (fmc_row24 k1) (by rw [fmc_len k1]; decide), ?_⟩
        obtain ⟨css, mv, hm, st, hkv, ho, back⟩ := s7.at hxt
        refine (takeC hgt st hkv ho ⟨_, rfl, hv5⟩ k1).mono ?_
        rintro _ h8 ⟨W8, a8, c8, E8, vs8, hg8, rfl, o8, hs8, hk8, st8⟩
        obtain ⟨s8, hgr8⟩ := back W8 h8 _ mv _ hg8 st8 hk8 (fun e => ho (by rwa [take_onk] at e)) fun r e => .inl e
        clear st st8 s7
        refine ⟨_, _, _, rfl, vs8, ⟨o8.src s8.m 1 rfl, hs8.all fun f cs hv => hv.one'⟩, ?_⟩
        have htl := take_len (d.xs.getD (qfm p).tid.toNat ses0) (qfm p)
        have hkn := hgt.ok.n
        have hul := hdg.u
        refine ow.app s8.m 3 rfl o8.len (by omega) (by decide) fun a9 c9 E9 h9 m9 o9 => ?_
        simp only [List.set_cons_succ, List.set_cons_zero] at m9
        have s9 : S8 W8 h9 b T size _ _ (E8 :: [(b4, fmc (qfm p) (.slice va (qfm p).body.length vc), 67)] :: E9 :: _) := s8.mem (Wd.le.refl W8) m9
        have hsq8 := hsq.mono fun f cs hv => fmv_cl hgr8.c (hv.le hle5)
        refine ⟨(qfm p).tid, s9.m.cell 2 rfl (fmc_cell k1 0 rfl), by simp only [fits]; omega, ⟨k + 1, W8, d.one p, _, E9, vs ++ vs8, by omega, by omega, (hgr.trans (Grs.le hle5)).trans hgr8, hone.symm, ?_, ?_, ?_, ?_, ?_⟩, by dsimp only; omega⟩
        · unfold Dst.one; rw [if_pos hf]
        · unfold Dst.one; rw [if_pos hf]; dsimp only; rw [List.length_append]
        · unfold Dst.one; rw [if_pos hf]; dsimp only; rw [List.length_append]; exact o9
        · unfold Dst.one; rw [if_pos hf]; exact hsq8.app hs8
        · unfold Dst.one; rw [if_pos hf]; exact s9.drop.drop
      · refine ⟨_, _, rfl, ?_⟩
        intro b4 h6 f1 f2
        replace s5 := s5.push f1 f2
        refine ⟨⟨rfl, s5.m.wrsb 1 rfl rfl, z24_one⟩, fun h7 e7 => ?_⟩
        have m7 := s5.m.setr 1 rfl e7
        rw [List.set_cons_succ, List.set_cons_zero] at m7
        have s7 := s5.mem (Wd.le.refl W5) m7
        have hno : ¬ fme p := fun hf => hq hf.1
        refine ⟨false, rfl, bcase_true rfl ?_⟩
        refine ⟨by simp only [fits]; omega, ⟨k + 1, W5, d, mvs1, E, vs, by omega, by omega, hgr.trans (Grs.le hle5), ?_, rfl, rfl, ow, hsq.mono fun f cs hv => hv.le hle5, s7.drop⟩, by dsimp only; omega⟩
        rw [hone]; unfold Dst.one; rw [if_neg hno]
    · skip
      obtain rfl : k = parts.length := by omega
      rw [List.take_length] at hd
      rw [← hd]
      refine dcase_intro (fun q1 => ?_) fun q1 => ?_
      · have sG : S8 W1 h3 b T size d.xs mvs1 (E :: G) := s.mem (Wd.le.refl W1) (by
          have m := s.m
          first
            | exact (m.free 2 rfl)
            | exact ((m.free 2 rfl).free 2 rfl))
        refine ⟨W1, mvs1, o, oc, E, vs, _, hgr0, ow, hsq, sG, rfl, ?_⟩
        unfold ackOf
        rw [if_pos q1]
        exact Bts.nil
      · have htt := hdg.t
        obtain ⟨t, ht⟩ : ∃ t : Nat, d.tid = (t : Int) := ⟨d.tid.toNat, by omega⟩
        obtain ⟨hxt, hgt⟩ := hdg.getD (t := t) (by omega)
        rw [ht]
        refine (s.ans hxt hgt.ok).mono ?_
        rintro _ h11 ⟨W6, a6, c6, hle6, rfl, hb6, s6⟩
        have sG : S8 W6 h11 b T size d.xs mvs1 (E :: G) := s6.mem (Wd.le.refl W6) (by
          have m := s6.m
          first
            | exact (m.free 2 rfl)
            | exact ((m.free 2 rfl).free 2 rfl))
        refine ⟨_, _, _, rfl, W6, mvs1, o, oc, E, vs, _, hgr0.trans (Grs.le hle6), ow, hsq.mono fun f cs hv => hv.le hle6, sG, rfl, ?_⟩
        unfold ackOf
        rw [if_neg (by omega), Int.toNat_natCast]
        exact hb6
  | false =>
    refine bcase_false rfl ?_
    have hpu : parts = [bs] := hparts
    have hpl : parts.length = 1 := by rw [hpu]; rfl
    have s2 : S8 W h1 b T size xs mvs ([] :: [(b1, [.slice a n c], 36)] :: G) := s.mem (Wd.le.refl W) (me_swap s.m.nilI)
    refine ⟨fun o ol oc tid i h' => SatI W b T size xs mvs parts ([(b1, [.slice a n c], 36)] :: G) o ol oc tid i h', fun _ _ _ _ i _ => ((parts.length : Int) - i).toNat, ⟨0, W, _, mvs, [], [], rfl, by omega, Grs.le (Wd.le.refl W), rfl, rfl, rfl, Ow.nil, rfl, s2⟩, fun _ => ?_⟩
    clear s2 s
    rintro o ol oc tid _ h3 ⟨k, W1, d, mvs1, E, vs, rfl, hk, hgr, hd, rfl, rfl, ow, hsq, s⟩
    have hdg : DstG d 200000 := by rw [hd]; exact hD2 k
    have hgr0 := hgr
    refine dcase_intro (fun q => ?_) fun q => ?_
    · have hk0 : k = 0 := by omega
      obtain ⟨p, hpk, hpe⟩ : ∃ p, parts[k]? = some p ∧ p = bs := ⟨bs, by rw [hpu, hk0]; rfl, rfl⟩
      have hpm := List.mem_of_getElem? hpk
      have hbp : Bts W1 (.slice a n c) p := by rw [hpe]; exact bts_cl hgr.c hb
      have hc3 : cell h3 b1 0 = some (.slice a n c) := s.m.cell 2 rfl rfl
      refine ⟨⟨by omega, by omega⟩, _, _, _, by simpa [hk0] using hc3, ?_⟩
      refine (qosReadG_c (hE.cl hgr0.c) s.m hbp (hby p hpm).1 (by have := (hby p hpm).2; omega)).mono ?_
      rintro _ h5 ⟨W5, hle5, m5, hcase⟩
      have s5 := s.mem hle5 m5
      clear m5 s
      have hone := all_snoc (d := Dst.mk xs [] (-1)) hpk
      rw [← hd] at hone
      rcases hcase with ⟨hq, cs, rfl, v5, rfl, hv5⟩ | ⟨hq, _, rfl, e5, rfl⟩
      · obtain ⟨k1, k2⟩ := qfm_ok hq (hby p hpm).1
        have t0 := k1.t0
        have t7 := k1.t7
        have hv5' := hv5
        obtain ⟨va, vc, rfl, hv6, hv7⟩ := hv5'
        refine ⟨_, _, rfl, ?_⟩
        intro b4 h6 f1 f2
        replace s5 := s5.push f1 f2
        refine ⟨⟨fmc_len k1, s5.m.wrsb 1 rfl rfl, fmc_one _ _ _ _⟩, fun h7 e7 => ?_⟩
        have m7 := s5.m.setr 1 rfl e7
        rw [List.set_cons_succ, List.set_cons_zero, setL_all (by rw [fmc_len k1]; rfl)] at m7
        have s7 := s5.mem (Wd.le.refl W5) m7
        clear s5 m7
        refine ⟨true, rfl, bcase_false rfl ?_⟩
        refine ⟨_, s7.m.row 1 rfl (fmc_row0 k1) (by rw [fmc_len k1]; decide), _, s7.rme, (qfm p).to, meL, rfl, rfl, ⟨k1.l1, rfl⟩, bcase_intro (fun q1 => ?_) fun q1 => ?_⟩
        · have hno : ¬ fme p := fun hf => by rw [decide_eq_true hf.2.1] at q1; cases q1
          refine ⟨by simp only [fits]; omega, ⟨k + 1, W5, d, mvs1, E, vs, by omega, by omega, hgr.trans (Grs.le hle5), ?_, rfl, rfl, ow, hsq.mono fun f cs hv => hv.le hle5, s7.drop⟩, by dsimp only; omega⟩
          rw [hone]; unfold Dst.one; rw [if_neg hno]
        refine ⟨_, s7.m.row 1 rfl (fmc_row6 k1) (by rw [fmc_len k1]; decide), _, s7.rbss, (qfm p).bss, bssL, rfl, rfl, ⟨k1.l2, rfl⟩, bcase_intro (fun q2 => ?_) fun q2 => ?_⟩
        · have hno : ¬ fme p := fun hf => by rw [decide_eq_true hf.2.2] at q2; cases q2
          refine ⟨by simp only [fits]; omega, ⟨k + 1, W5, d, mvs1, E, vs, by omega, by omega, hgr.trans (Grs.le hle5), ?_, rfl, rfl, ow, hsq.mono fun f cs hv => hv.le hle5, s7.drop⟩, by dsimp only; omega⟩
          rw [hone]; unfold Dst.one; rw [if_neg hno]
        have hf : fme p := ⟨hq, of_decide_eq_true (by simpa using q1), of_decide_eq_true (by simpa using q2)⟩
        obtain ⟨hxt, hgt⟩ := hdg.getD (t := (qfm p).tid.toNat) (by omega)
        refine ⟨(qfm p).tid, s7.m.cell 1 rfl (fmc_cell k1 0 rfl), ⟨t0, by omega⟩, _, s7.m.row 1 rfl (fmc_row24 k1) (by rw [fmc_len k1]; decide), ?_⟩
        obtain ⟨css, mv, hm, st, hkv, ho, back⟩ := s7.at hxt
        refine (takeC hgt st hkv ho ⟨_, rfl, hv5⟩ k1).mono ?_
        rintro _ h8 ⟨W8, a8, c8, E8, vs8, hg8, rfl, o8, hs8, hk8, st8⟩
        obtain ⟨s8, hgr8⟩ := back W8 h8 _ mv _ hg8 st8 hk8 (fun e => ho (by rwa [take_onk] at e)) fun r e => .inl e
        clear st st8 s7
        refine ⟨_, _, _, rfl, vs8, ⟨o8.src s8.m 1 rfl, hs8.all fun f cs hv => hv.one'⟩, ?_⟩
        have htl := take_len (d.xs.getD (qfm p).tid.toNat ses0) (qfm p)
        have hkn := hgt.ok.n
        have hul := hdg.u
        refine ow.app s8.m 3 rfl o8.len (by omega) (by decide) fun a9 c9 E9 h9 m9 o9 => ?_
        simp only [List.set_cons_succ, List.set_cons_zero] at m9
        have s9 : S8 W8 h9 b T size _ _ (E8 :: [(b4, fmc (qfm p) (.slice va (qfm p).body.length vc), 67)] :: E9 :: _) := s8.mem (Wd.le.refl W8) m9
        have hsq8 := hsq.mono fun f cs hv => fmv_cl hgr8.c (hv.le hle5)
        refine ⟨(qfm p).tid, s9.m.cell 2 rfl (fmc_cell k1 0 rfl), by simp only [fits]; omega, ⟨k + 1, W8, d.one p, _, E9, vs ++ vs8, by omega, by omega, (hgr.trans (Grs.le hle5)).trans hgr8, hone.symm, ?_, ?_, ?_, ?_, ?_⟩, by dsimp only; omega⟩
        · unfold Dst.one; rw [if_pos hf]
        · unfold Dst.one; rw [if_pos hf]; dsimp only; rw [List.length_append]
        · unfold Dst.one; rw [if_pos hf]; dsimp only; rw [List.length_append]; exact o9
        · unfold Dst.one; rw [if_pos hf]; exact hsq8.app hs8
        · unfold Dst.one; rw [if_pos hf]; exact s9.drop.drop
      · refine ⟨_, _, rfl, ?_⟩
        intro b4 h6 f1 f2
        replace s5 := s5.push f1 f2
        refine ⟨⟨rfl, s5.m.wrsb 1 rfl rfl, z24_one⟩, fun h7 e7 => ?_⟩
        have m7 := s5.m.setr 1 rfl e7
        rw [List.set_cons_succ, List.set_cons_zero] at m7
        have s7 := s5.mem (Wd.le.refl W5) m7
        have hno : ¬ fme p := fun hf => hq hf.1
        refine ⟨false, rfl, bcase_true rfl ?_⟩
        refine ⟨by simp only [fits]; omega, ⟨k + 1, W5, d, mvs1, E, vs, by omega, by omega, hgr.trans (Grs.le hle5), ?_, rfl, rfl, ow, hsq.mono fun f cs hv => hv.le hle5, s7.drop⟩, by dsimp only; omega⟩
        rw [hone]; unfold Dst.one; rw [if_neg hno]
    · skip
      obtain rfl : k = parts.length := by omega
      rw [List.take_length] at hd
      rw [← hd]
      refine dcase_intro (fun q1 => ?_) fun q1 => ?_
      · have sG : S8 W1 h3 b T size d.xs mvs1 (E :: G) := s.mem (Wd.le.refl W1) (by
          have m := s.m
          first
            | exact (m.free 2 rfl)
            | exact ((m.free 2 rfl).free 2 rfl))
        refine ⟨W1, mvs1, o, oc, E, vs, _, hgr0, ow, hsq, sG, rfl, ?_⟩
        unfold ackOf
        rw [if_pos q1]
        exact Bts.nil
      · have htt := hdg.t
        obtain ⟨t, ht⟩ : ∃ t : Nat, d.tid = (t : Int) := ⟨d.tid.toNat, by omega⟩
        obtain ⟨hxt, hgt⟩ := hdg.getD (t := t) (by omega)
        rw [ht]
        refine (s.ans hxt hgt.ok).mono ?_
        rintro _ h11 ⟨W6, a6, c6, hle6, rfl, hb6, s6⟩
        have sG : S8 W6 h11 b T size d.xs mvs1 (E :: G) := s6.mem (Wd.le.refl W6) (by
          have m := s6.m
          first
            | exact (m.free 2 rfl)
            | exact ((m.free 2 rfl).free 2 rfl))
        refine ⟨_, _, _, rfl, W6, mvs1, o, oc, E, vs, _, hgr0.trans (Grs.le hle6), ow, hsq.mono fun f cs hv => hv.le hle6, sG, rfl, ?_⟩
        unfold ackOf
        rw [if_neg (by omega), Int.toNat_natCast]
        exact hb6
end
end Go.Proofs.YtepodifionoigaaGreatDoor
