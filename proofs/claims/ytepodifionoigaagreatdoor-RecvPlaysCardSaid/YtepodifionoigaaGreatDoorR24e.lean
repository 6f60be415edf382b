import Derived.Test.YtepodifionoigaaGreatDoorR24d
set_option linter.unusedVariables false
set_option linter.unusedSimpArgs false
set_option maxRecDepth 8000
namespace Go.Proofs.YtepodifionoigaaGreatDoor
open Go.Vc
instance qokD (xs : List Int) : Decidable (qok xs) := by unfold qok; infer_instance
def fme (p : List Int) : Prop := qok p ∧ (qfm p).to = meL ∧ (qfm p).bss = bssL
instance fmeD (xs : List Int) : Decidable (fme xs) := by unfold fme; infer_instance
structure Dst where
  xs : List Ses
  up : List Fm
  tid : Int
def Dst.one (d : Dst) (p : List Int) : Dst :=
  if fme p then ⟨d.xs.set (qfm p).tid.toNat ((d.xs.getD (qfm p).tid.toNat ses0).take (qfm p)).2, d.up ++ ((d.xs.getD (qfm p).tid.toNat ses0).take (qfm p)).1, (qfm p).tid⟩ else d
def Dst.all (d : Dst) (l : List (List Int)) : Dst := l.foldl Dst.one d
structure DstG (d : Dst) (k : Nat) : Prop where
  l : d.xs.length = 8
  g : ∀ x ∈ d.xs, SesG x
  u : d.up.length + kepts d.xs ≤ 32768 + k
  t : -1 ≤ d.tid ∧ d.tid ≤ 7
theorem DstG.getD {d : Dst} {k t : Nat} (h : DstG d k) (ht : t < 8) : d.xs[t]? = some (d.xs.getD t ses0) ∧ SesG (d.xs.getD t ses0) := by
  have hl := h.l
  have e : d.xs[t]? = some (d.xs.getD t ses0) := by
    rw [List.getElem?_eq_getElem (by omega)]
    simp [List.getD, show t < d.xs.length by omega]
  exact ⟨e, h.g _ (List.mem_of_getElem? e)⟩
theorem DstG.one {d : Dst} {k : Nat} {p : List Int} (h : DstG d k) (hx : ∀ x ∈ p, 0 ≤ x ∧ x < 256) : DstG (d.one p) (k + 1) := by
  unfold Dst.one
  split
  · rename_i hf
    obtain ⟨k1, k2⟩ := qfm_ok hf.1 hx
    have ht := k1.t0
    have ht7 := k1.t7
    obtain ⟨e, hg⟩ := h.getD (t := (qfm p).tid.toNat) (by omega)
    refine ⟨by dsimp only; rw [List.length_set]; exact h.l, fun x hx => ?_, ?_, ⟨by dsimp only; omega, ht7⟩⟩
    · rcases List.mem_or_eq_of_mem_set hx with hx | rfl
      · exact h.g x hx
      · exact take_g hg k1
    · have h1 := take_len (d.xs.getD (qfm p).tid.toNat ses0) (qfm p)
      have h2 := h.u
      have h3 := kepts_set (y := ((d.xs.getD (qfm p).tid.toNat ses0).take (qfm p)).2) e
      dsimp only
      rw [List.length_append]; omega
  · exact ⟨h.l, h.g, by have := h.u; omega, h.t⟩
theorem DstG.alls : ∀ {l : List (List Int)} {d : Dst} {k : Nat}, DstG d k → (∀ p ∈ l, ∀ x ∈ p, 0 ≤ x ∧ x < 256) → DstG (d.all l) (k + l.length)
  | [], d, k, h, _ => h
  | p :: l, d, k, h, hx => by
    have := DstG.alls (l := l) (h.one (hx p (by simp))) fun q hq => hx q (by simp [hq])
    show DstG (Dst.all (d.one p) l) _
    rw [List.length_cons, show k + (l.length + 1) = k + 1 + l.length by omega]
    exact this
theorem all_snoc {d : Dst} {l : List (List Int)} {k : Nat} {p : List Int} (h : l[k]? = some p) : d.all (l.take (k + 1)) = (d.all (l.take k)).one p := by
  unfold Dst.all
  rw [List.take_add_one, h, List.foldl_append]; rfl
theorem fmc_row0 {f : Fm} {v : Value} (hf : FmOk f) : ((fmc f v).drop 0).take 6 = ints .u8 f.to := by
  rw [List.drop_zero]
  exact List.take_left' (by rw [ints_len]; exact hf.l1)
theorem fmc_row6 {f : Fm} {v : Value} (hf : FmOk f) : ((fmc f v).drop 6).take 6 = ints .u8 f.bss := by
  unfold fmc
  rw [List.drop_left' (by rw [ints_len]; exact hf.l1)]
  exact List.take_left' (by rw [ints_len]; exact hf.l2)
theorem fmc_row24 {f : Fm} {v : Value} (hf : FmOk f) : ((fmc f v).drop 0).take 24 = fmc f v := by
  rw [List.drop_zero]
  exact List.take_of_length_le (by rw [fmc_len hf]; decide)
def partsOf (agg : Bool) (bs : List Int) : List (List Int) := if agg then unpL bs else [bs]
theorem unp_mem {xs : List Int} : ∀ {k i : Nat} {p : List Int}, p ∈ unp xs k i → ∃ j, p = partX (xs.drop j) ∧ isPart (xs.drop j)
  | 0, i, p, h => by cases h
  | k + 1, i, p, h => by
    unfold unp at h
    split at h
    · cases h
    · split at h
      · rename_i hp
        rcases List.mem_cons.1 h with rfl | h
        · exact ⟨i, rfl, hp⟩
        · exact unp_mem h
      · exact unp_mem h
theorem partsOf_by {agg : Bool} {bs : List Int} (hx : ∀ x ∈ bs, 0 ≤ x ∧ x < 256) : ∀ p ∈ partsOf agg bs, (∀ x ∈ p, 0 ≤ x ∧ x < 256) ∧ p.length ≤ bs.length := by
  intro p hp
  unfold partsOf at hp
  split at hp
  · obtain ⟨j, rfl, hq⟩ := unp_mem hp
    refine ⟨fun x h => hx x (List.mem_of_mem_drop (List.mem_of_mem_drop (List.mem_of_mem_take h))), ?_⟩
    unfold partX
    rw [List.length_take, List.length_drop, List.length_drop]; omega
  · rw [List.mem_singleton] at hp
    subst hp
    exact ⟨hx, Nat.le_refl _⟩
section
variable {W W' : Wd} {h h' : Heap} {b t j n c bu i b1 : Nat} {a : Option Addr} {T Tu T1 : TypeId} {size : Int} {css : List (List Value)} {cs us vs : List Value} {G G' : List Grp} {v : Value} {x : Ses} {xs : List Ses} {f : Fm} {E A : Grp} {up : List Fm} {bs : List Int} {kv : Value}
theorem Ru.full (r : Ru W h b T size xs up bu Tu G) : ∃ A B C D, Me W h (A :: B :: C :: D :: G) := by
  obtain ⟨ps, ua, uc, U, us, h1, h2, h3, h4, h5, m⟩ := r
  exact ⟨_, _, _, _, m⟩
def DatI (W : Wd) (b : Nat) (T : TypeId) (size : Int) (xs : List Ses) (parts : List (List Int)) (bu : Nat) (Tu : TypeId) (G : List Grp) (tid i : Int) (h' : Heap) : Prop :=
  ∃ (k : Nat) (W1 : Wd) (d : Dst), i = (k : Int) ∧ k ≤ parts.length ∧ W.le W1 ∧ d = (Dst.mk xs [] (-1)).all (parts.take k) ∧ Ru W1 h' b T size d.xs d.up bu Tu G ∧ tid = d.tid
def ackOf (xs : List Ses) (tid : Int) : List Int := if tid < 0 then [] else ackB bssL meL tid (xs.getD tid.toNat ses0).ackS (xs.getD tid.toNat ses0).ackM
def RdaV (W : Wd) (b : Nat) (T : TypeId) (size : Int) (d : Dst) (G : List Grp) (v : Value) (h' : Heap) : Prop :=
  RoV W b T size d.xs d.up G (fun W' u => ∃ w, v = .tuple #[u, w] ∧ Bts W' w (ackOf d.xs d.tid)) h'
theorem R8.meE (r : R8 W h b T size xs G) : ∃ GG, Me W h GG ∧ ∀ W' h' E, (∀ b o v, wcell W b o = some v → wcell W' b o = some v) → Me W' h' (E :: GG) → R8 W' h' b T size xs (E :: G) := by
  obtain ⟨ps, h1, h2, h3, m⟩ := r
  refine ⟨_, m, fun W' h' E hc m' => ⟨ps, h1, h2, fun i x p e1 e2 => (h3 i x p e1 e2).cl hc, m'.perm ?_⟩⟩
  simp only [List.flatten_cons]
  exact perm_out
set_option maxHeartbeats 6000000 in
theorem rdata_c (r : R8 W h b T size xs G) (hg : ∀ x ∈ xs, SesG x) (hb : Bts W (.slice a n c) bs) (hx : ∀ x ∈ bs, 0 ≤ x ∧ x < 256) (hl : bs.length ≤ 1000000) (agg : Bool) (hp : (partsOf agg bs).length ≤ 200000) :
    Runs Tryz.prog 30 #[.pointer (some ⟨b, 0, none⟩), .bool agg, .slice a n c] h (RdaV W b T size ((Dst.mk xs [] (-1)).all (partsOf agg bs)) G) := by
  have hxl : xs.length = 8 := by obtain ⟨ps, h1, -⟩ := r; exact h1
  have hby := partsOf_by (agg := agg) hx
  have hD : ∀ k, DstG ((Dst.mk xs [] (-1)).all ((partsOf agg bs).take k)) (0 + ((partsOf agg bs).take k).length) := fun k =>
    DstG.alls ⟨hxl, hg, by have := kepts_le hg; rw [hxl] at this; simp; omega, by show (-1 : Int) ≤ -1; decide, by show (-1 : Int) ≤ 7; decide⟩ fun p hp => (hby p (List.mem_of_mem_take hp)).1
  obtain ⟨parts, hparts⟩ : ∃ parts, parts = partsOf agg bs := ⟨_, rfl⟩
  rw [← hparts] at hby hD hp ⊢
  have hD2 : ∀ k, DstG ((Dst.mk xs [] (-1)).all (parts.take k)) 200000 := fun k => by
    obtain ⟨q1, q2, q3, q4⟩ := hD k
    refine ⟨q1, q2, Nat.le_trans q3 ?_, q4⟩
    rw [List.length_take]; omega
  clear hD
  refine vc_muezzinref24_Station_Data _ _ _ _ _ _ _ ?_
  intro b1 h1 e1 e2
  replace r := r.push e1 e2
  obtain ⟨hs0, hn0, hc0⟩ := bts_src hb
  cases agg with
  | true =>
    refine bcase_true rfl ?_
    have hpu : parts = unpL bs := hparts
    obtain ⟨GG, m, back⟩ := r.meE
    refine (runpackG_c m hb hx hl).mono ?_
    rintro _ h2 ⟨W2, s1, s1c, E, vs, hle2, rfl, o, m2, hbl⟩
    rw [← hpu] at hbl
    have hvl := hbl.len
    have r2 := back W2 h2 E (cl_le hle2) m2
    clear m m2 back r GG
    refine ⟨_, _, _, rfl, ?_⟩
    intro bu h3 f1 f2
    have r3 := Ru.start r2 f1 f2
    clear r2
    refine ⟨fun tid i h' => DatI W2 b T size xs parts bu 46 (E :: [(b1, [.slice a n c], 36)] :: G) tid i h', fun _ i _ => ((parts.length : Int) - i).toNat, ⟨0, W2, _, rfl, by omega, Wd.le.refl W2, rfl, r3, rfl⟩, fun _ => ?_⟩
    clear r3
    rintro tid _ h4 ⟨k, W1, d, rfl, hk, hle1, hd, r, rfl⟩
    have hdg : DstG d 200000 := by rw [hd]; exact hD2 k
    refine dcase_intro (fun q => ?_) fun q => ?_
    · have hkl : k < parts.length := by omega
      obtain ⟨p, hpk⟩ : ∃ p, parts[k]? = some p := ⟨_, List.getElem?_eq_getElem hkl⟩
      have hpm := List.mem_of_getElem? hpk
      obtain ⟨v2, hv2, hbv⟩ := hbl.get hpk
      have hbp := hbv.le hle1
      obtain ⟨a2, c2, rfl, -, -⟩ := hbv
      obtain ⟨A, B, C, D, mf⟩ := r.full
      obtain ⟨b3, o3, rfl, hc3⟩ := src_cell (o.src1 mf 4 rfl) hv2
      refine ⟨⟨by omega, by omega⟩, _, _, _, by simpa using hc3, ?_⟩
      clear mf
      obtain ⟨GG, m, back⟩ := r.me
      refine (rreadQoSG_c m hbp (hby p hpm).1 (by have := (hby p hpm).2; omega)).mono ?_
      rintro _ h5 ⟨W5, hle5, m5, hcase⟩
      have r5 := back W5 h5 (cl_le hle5) m5
      clear m m5 back r
      have hone := all_snoc (d := Dst.mk xs [] (-1)) hpk
      rw [← hd] at hone
      rcases hcase with ⟨hq, cs, rfl, v5, rfl, hv5⟩ | ⟨hq, _, rfl, e5, rfl, he5⟩
      · obtain ⟨k1, k2⟩ := qfm_ok hq (hby p hpm).1
        have t0 := k1.t0
        have t7 := k1.t7
        have hv5' := hv5
        obtain ⟨va, vc, rfl, hv6, hv7⟩ := hv5'
        refine ⟨_, _, rfl, ?_⟩
        intro b4 h6 f1 f2
        replace r5 := r5.push f1 f2
        refine ⟨⟨fmc_len k1, (r5.blk 0 rfl).wrs (Nat.le_of_ble_eq_true rfl), fmc_one _ _ _ _⟩, fun h7 e7 => ?_⟩
        have r7 := r5.setr 0 rfl e7
        clear r5
        rw [List.set_cons_zero, setL_all (by rw [fmc_len k1]; rfl)] at r7
        refine bcase_true rfl ?_
        refine ⟨_, (r7.blk 0 rfl).row_eq (fmc_row0 k1) (by rw [fmc_len k1]; decide), _, r7.rme, ?_⟩
        obtain ⟨G7, m7, back7⟩ := r7.me
        refine (sameAddr_c m7 k1.l1 rfl).mono ?_
        rintro _ h8 ⟨rfl, m8⟩
        have r8 := back7 W5 h8 (fun _ _ _ e => e) m8
        clear r7 m7 back7 m8
        refine ⟨_, rfl, bcase_intro (fun q1 => ?_) fun q1 => ?_⟩
        · refine ⟨_, (r8.blk 0 rfl).row_eq (fmc_row6 k1) (by rw [fmc_len k1]; decide), _, r8.rbss, ?_⟩
          obtain ⟨G8, m8, back8⟩ := r8.me
          refine (sameAddr_c m8 k1.l2 rfl).mono ?_
          rintro _ h9 ⟨rfl, m9⟩
          have r9 := back8 W5 h9 (fun _ _ _ e => e) m9
          clear r8 m8 back8 m9
          refine ⟨_, rfl, bcase_intro (fun q2 => ?_) fun q2 => ?_⟩
          · have hf : fme p := ⟨hq, of_decide_eq_true q1, of_decide_eq_true q2⟩
            obtain ⟨hxt, hgt⟩ := hdg.getD (t := (qfm p).tid.toNat) (by omega)
            refine ⟨_, (r9.blk 0 rfl).row_eq (fmc_row24 k1) (by rw [fmc_len k1]; decide), ?_⟩
            obtain ⟨css, K, rp, back9⟩ := r9.at hxt
            refine (rframe_c rp ⟨_, rfl, hv5⟩ k1 (by omega) (by omega) hgt.ok (by have := hdg.u; omega)).mono ?_
            rintro v10 h10 rp10
            have r10 := back9 W5 h10 _ _ (fun _ _ _ e => e) rp10
            refine ⟨_, (r10.blk 0 rfl).cell_eq (fmc_cell k1 0 rfl), by simp only [fits]; omega, ⟨k + 1, W5, d.one p, by omega, by omega, hle1.trans hle5, hone.symm, ?_, ?_⟩, by dsimp only; omega⟩
            · unfold Dst.one; rw [if_pos hf]; exact r10.drop
            · unfold Dst.one; rw [if_pos hf]
          · have hno : ¬ fme p := fun hf => of_decide_eq_false q2 hf.2.2
            refine ⟨by simp only [fits]; omega, ⟨k + 1, W5, d, by omega, by omega, hle1.trans hle5, ?_, r9.drop, rfl⟩, by dsimp only; omega⟩
            rw [hone]; unfold Dst.one; rw [if_neg hno]
        · have hno : ¬ fme p := fun hf => of_decide_eq_false q1 hf.2.1
          refine ⟨by simp only [fits]; omega, ⟨k + 1, W5, d, by omega, by omega, hle1.trans hle5, ?_, r8.drop, rfl⟩, by dsimp only; omega⟩
          rw [hone]; unfold Dst.one; rw [if_neg hno]
      · refine ⟨_, _, rfl, ?_⟩
        intro b4 h6 f1 f2
        replace r5 := r5.push f1 f2
        refine ⟨⟨rfl, (r5.blk 0 rfl).wrs (Nat.le_of_ble_eq_true rfl), z24_one⟩, fun h7 e7 => ?_⟩
        have r7 := r5.setr 0 rfl e7
        refine bcase_false (decide_eq_false he5) ?_
        have hno : ¬ fme p := fun hf => hq hf.1
        refine ⟨by simp only [fits]; omega, ⟨k + 1, W5, d, by omega, by omega, hle1.trans hle5, ?_, r7.drop, rfl⟩, by dsimp only; omega⟩
        rw [hone]; unfold Dst.one; rw [if_neg hno]
    · skip
      obtain rfl : k = parts.length := by omega
      rw [List.take_length] at hd
      rw [← hd]
      have rG : Ru W1 h4 b T size d.xs d.up bu 46 G := by first | exact r.drop.drop | exact r.drop
      refine dcase_intro (fun q1 => ?_) fun q1 => ?_
      · obtain ⟨ua, uc, hcu⟩ := rG.cup
        obtain ⟨ua', uc', hcu', hfin⟩ := rG.fin (K := fun W' u => ∃ w, Value.tuple #[.slice ua d.up.length uc, .slice none 0 0] = .tuple #[u, w] ∧ Bts W' w (ackOf d.xs d.tid)) (Wd.le.trans hle2 hle1)
        rw [hcu] at hcu'
        cases hcu'
        refine ⟨_, _, _, hcu, hfin ⟨_, rfl, ?_⟩⟩
        unfold ackOf
        rw [if_pos q1]
        exact Bts.nil
      · have htt := hdg.t
        obtain ⟨t, ht⟩ : ∃ t : Nat, d.tid = (t : Int) := ⟨d.tid.toNat, by omega⟩
        obtain ⟨hxt, hgt⟩ := hdg.getD (t := t) (by omega)
        obtain ⟨ua, uc, hcu⟩ := rG.cup
        refine ⟨_, _, _, hcu, ?_⟩
        rw [ht]
        refine (rG.ans hxt hgt.ok).mono ?_
        rintro _ h11 ⟨W6, a6, c6, hle6, rfl, r6, hb6, hcc⟩
        refine ⟨_, _, _, rfl, hcc _ _ hcu, ?_⟩
        have e6 := hcc _ _ hcu
        obtain ⟨ua', uc', hcu', hfin⟩ := r6.fin (K := fun W' u => ∃ w, Value.tuple #[.slice ua d.up.length uc, .slice a6 (ackB bssL meL t (d.xs.getD t ses0).ackS (d.xs.getD t ses0).ackM).length c6] = .tuple #[u, w] ∧ Bts W' w (ackOf d.xs d.tid)) (Wd.le.trans (Wd.le.trans hle2 hle1) hle6)
        rw [e6] at hcu'
        cases hcu'
        refine hfin ⟨_, rfl, ?_⟩
        unfold ackOf
        rw [ht, if_neg (by omega), Int.toNat_natCast]
        exact hb6
  | false =>
    refine bcase_false rfl ?_
    have hpu : parts = [bs] := hparts
    have hpl : parts.length = 1 := by rw [hpu]; rfl
    intro bu h3 f1 f2
    have r3 := Ru.start r f1 f2
    clear r
    refine ⟨fun tid i h' => DatI W b T size xs parts bu 46 ([(b1, [.slice a n c], 36)] :: G) tid i h', fun _ i _ => ((parts.length : Int) - i).toNat, ⟨0, W, _, rfl, by omega, Wd.le.refl W, rfl, r3, rfl⟩, fun _ => ?_⟩
    clear r3
    rintro tid _ h4 ⟨k, W1, d, rfl, hk, hle1, hd, r, rfl⟩
    have hdg : DstG d 200000 := by rw [hd]; exact hD2 k
    refine dcase_intro (fun q => ?_) fun q => ?_
    · have hk0 : k = 0 := by omega
      obtain ⟨p, hpk, hpe⟩ : ∃ p, parts[k]? = some p ∧ p = bs := ⟨bs, by rw [hpu, hk0]; rfl, rfl⟩
      have hpm := List.mem_of_getElem? hpk
      have hbp : Bts W1 (.slice a n c) p := by rw [hpe]; exact hb.le hle1
      have hc3 := (r.blk 0 rfl).cell_eq (o := 0) (v := .slice a n c) rfl
      refine ⟨⟨by omega, by omega⟩, _, _, _, by simpa [hk0] using hc3, ?_⟩
      obtain ⟨GG, m, back⟩ := r.me
      refine (rreadQoSG_c m hbp (hby p hpm).1 (by have := (hby p hpm).2; omega)).mono ?_
      rintro _ h5 ⟨W5, hle5, m5, hcase⟩
      have r5 := back W5 h5 (cl_le hle5) m5
      clear m m5 back r
      have hone := all_snoc (d := Dst.mk xs [] (-1)) hpk
      rw [← hd] at hone
      rcases hcase with ⟨hq, cs, rfl, v5, rfl, hv5⟩ | ⟨hq, _, rfl, e5, rfl, he5⟩
      · obtain ⟨k1, k2⟩ := qfm_ok hq (hby p hpm).1
        have t0 := k1.t0
        have t7 := k1.t7
        have hv5' := hv5
        obtain ⟨va, vc, rfl, hv6, hv7⟩ := hv5'
        refine ⟨_, _, rfl, ?_⟩
        intro b4 h6 f1 f2
        replace r5 := r5.push f1 f2
        refine ⟨⟨fmc_len k1, (r5.blk 0 rfl).wrs (Nat.le_of_ble_eq_true rfl), fmc_one _ _ _ _⟩, fun h7 e7 => ?_⟩
        have r7 := r5.setr 0 rfl e7
        clear r5
        rw [List.set_cons_zero, setL_all (by rw [fmc_len k1]; rfl)] at r7
        refine bcase_true rfl ?_
        refine ⟨_, (r7.blk 0 rfl).row_eq (fmc_row0 k1) (by rw [fmc_len k1]; decide), _, r7.rme, ?_⟩
        obtain ⟨G7, m7, back7⟩ := r7.me
        refine (sameAddr_c m7 k1.l1 rfl).mono ?_
        rintro _ h8 ⟨rfl, m8⟩
        have r8 := back7 W5 h8 (fun _ _ _ e => e) m8
        clear r7 m7 back7 m8
        refine ⟨_, rfl, bcase_intro (fun q1 => ?_) fun q1 => ?_⟩
        · refine ⟨_, (r8.blk 0 rfl).row_eq (fmc_row6 k1) (by rw [fmc_len k1]; decide), _, r8.rbss, ?_⟩
          obtain ⟨G8, m8, back8⟩ := r8.me
          refine (sameAddr_c m8 k1.l2 rfl).mono ?_
          rintro _ h9 ⟨rfl, m9⟩
          have r9 := back8 W5 h9 (fun _ _ _ e => e) m9
          clear r8 m8 back8 m9
          refine ⟨_, rfl, bcase_intro (fun q2 => ?_) fun q2 => ?_⟩
          · have hf : fme p := ⟨hq, of_decide_eq_true q1, of_decide_eq_true q2⟩
            obtain ⟨hxt, hgt⟩ := hdg.getD (t := (qfm p).tid.toNat) (by omega)
            refine ⟨_, (r9.blk 0 rfl).row_eq (fmc_row24 k1) (by rw [fmc_len k1]; decide), ?_⟩
            obtain ⟨css, K, rp, back9⟩ := r9.at hxt
            refine (rframe_c rp ⟨_, rfl, hv5⟩ k1 (by omega) (by omega) hgt.ok (by have := hdg.u; omega)).mono ?_
            rintro v10 h10 rp10
            have r10 := back9 W5 h10 _ _ (fun _ _ _ e => e) rp10
            refine ⟨_, (r10.blk 0 rfl).cell_eq (fmc_cell k1 0 rfl), by simp only [fits]; omega, ⟨k + 1, W5, d.one p, by omega, by omega, hle1.trans hle5, hone.symm, ?_, ?_⟩, by dsimp only; omega⟩
            · unfold Dst.one; rw [if_pos hf]; exact r10.drop
            · unfold Dst.one; rw [if_pos hf]
          · have hno : ¬ fme p := fun hf => of_decide_eq_false q2 hf.2.2
            refine ⟨by simp only [fits]; omega, ⟨k + 1, W5, d, by omega, by omega, hle1.trans hle5, ?_, r9.drop, rfl⟩, by dsimp only; omega⟩
            rw [hone]; unfold Dst.one; rw [if_neg hno]
        · have hno : ¬ fme p := fun hf => of_decide_eq_false q1 hf.2.1
          refine ⟨by simp only [fits]; omega, ⟨k + 1, W5, d, by omega, by omega, hle1.trans hle5, ?_, r8.drop, rfl⟩, by dsimp only; omega⟩
          rw [hone]; unfold Dst.one; rw [if_neg hno]
      · refine ⟨_, _, rfl, ?_⟩
        intro b4 h6 f1 f2
        replace r5 := r5.push f1 f2
        refine ⟨⟨rfl, (r5.blk 0 rfl).wrs (Nat.le_of_ble_eq_true rfl), z24_one⟩, fun h7 e7 => ?_⟩
        have r7 := r5.setr 0 rfl e7
        refine bcase_false (decide_eq_false he5) ?_
        have hno : ¬ fme p := fun hf => hq hf.1
        refine ⟨by simp only [fits]; omega, ⟨k + 1, W5, d, by omega, by omega, hle1.trans hle5, ?_, r7.drop, rfl⟩, by dsimp only; omega⟩
        rw [hone]; unfold Dst.one; rw [if_neg hno]
    · have hle0 := Wd.le.refl W
      obtain rfl : k = parts.length := by omega
      rw [List.take_length] at hd
      rw [← hd]
      have rG : Ru W1 h4 b T size d.xs d.up bu 46 G := by first | exact r.drop.drop | exact r.drop
      refine dcase_intro (fun q1 => ?_) fun q1 => ?_
      · obtain ⟨ua, uc, hcu⟩ := rG.cup
        obtain ⟨ua', uc', hcu', hfin⟩ := rG.fin (K := fun W' u => ∃ w, Value.tuple #[.slice ua d.up.length uc, .slice none 0 0] = .tuple #[u, w] ∧ Bts W' w (ackOf d.xs d.tid)) (Wd.le.trans hle0 hle1)
        rw [hcu] at hcu'
        cases hcu'
        refine ⟨_, _, _, hcu, hfin ⟨_, rfl, ?_⟩⟩
        unfold ackOf
        rw [if_pos q1]
        exact Bts.nil
      · have htt := hdg.t
        obtain ⟨t, ht⟩ : ∃ t : Nat, d.tid = (t : Int) := ⟨d.tid.toNat, by omega⟩
        obtain ⟨hxt, hgt⟩ := hdg.getD (t := t) (by omega)
        obtain ⟨ua, uc, hcu⟩ := rG.cup
        refine ⟨_, _, _, hcu, ?_⟩
        rw [ht]
        refine (rG.ans hxt hgt.ok).mono ?_
        rintro _ h11 ⟨W6, a6, c6, hle6, rfl, r6, hb6, hcc⟩
        refine ⟨_, _, _, rfl, hcc _ _ hcu, ?_⟩
        have e6 := hcc _ _ hcu
        obtain ⟨ua', uc', hcu', hfin⟩ := r6.fin (K := fun W' u => ∃ w, Value.tuple #[.slice ua d.up.length uc, .slice a6 (ackB bssL meL t (d.xs.getD t ses0).ackS (d.xs.getD t ses0).ackM).length c6] = .tuple #[u, w] ∧ Bts W' w (ackOf d.xs d.tid)) (Wd.le.trans (Wd.le.trans hle0 hle1) hle6)
        rw [e6] at hcu'
        cases hcu'
        refine hfin ⟨_, rfl, ?_⟩
        unfold ackOf
        rw [ht, if_neg (by omega), Int.toNat_natCast]
        exact hb6
end
end Go.Proofs.YtepodifionoigaaGreatDoor
