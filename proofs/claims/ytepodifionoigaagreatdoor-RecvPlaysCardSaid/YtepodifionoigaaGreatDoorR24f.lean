import Derived.Test.YtepodifionoigaaGreatDoorR24e
import Derived.Test.YtepodifionoigaaGreatDoorDelD
set_option linter.unusedVariables false
set_option linter.unusedSimpArgs false
set_option maxRecDepth 8000
namespace Go.Proofs.YtepodifionoigaaGreatDoor
open Go.Vc
instance isBarD (xs : List Int) : Decidable (isBar xs) := by unfold isBar; infer_instance
instance isAddD (xs : List Int) : Decidable (isAdd xs) := by unfold isAdd actOk; infer_instance
instance isDelD (xs : List Int) : Decidable (isDel xs) := by unfold isDel actOk; infer_instance
def Ses.barY (x : Ses) (to : Int) : List Fm × Ses := if distZ x.start to < 2048 then ((x.up to).1 ++ (x.up to).2.run.1, (x.up to).2.run.2) else ([], x)
def Ses.barG (x : Ses) (to : Int) : List Fm × Ses := ((x.barY to).1, if distZ x.fr to < 2048 then (x.barY to).2.move to else (x.barY to).2)
def Ses.allK (x : Ses) : List Fm := (upP 4096 x.kept x.start).1
def sesN (sq size : Int) : Ses := ⟨true, sq, size, sq, 0, [], false, 0⟩
structure Ost where
  xs : List Ses
  up : List Fm
  ans : List Int
def askSize (size n : Int) : Int := if 0 < n then min size n else size
def oth (size : Int) (xs : List Ses) (bs : List Int) : Ost :=
  if isBar bs then
    if sub6 bs 4 = meL ∧ sub6 bs 10 = bssL ∧ (xs.getD (wd bs 16 / 4096).toNat ses0).on = true then
      ⟨xs.set (wd bs 16 / 4096).toNat ((xs.getD (wd bs 16 / 4096).toNat ses0).barG (wd bs 18 / 16)).2, ((xs.getD (wd bs 16 / 4096).toNat ses0).barG (wd bs 18 / 16)).1,
        ackB bssL meL (wd bs 16 / 4096) ((xs.getD (wd bs 16 / 4096).toNat ses0).barG (wd bs 18 / 16)).2.ackS ((xs.getD (wd bs 16 / 4096).toNat ses0).barG (wd bs 18 / 16)).2.ackM⟩
    else ⟨xs, [], []⟩
  else if isAdd bs then
    if adAns bs = false ∧ sub6 bs 4 = meL ∧ sub6 bs 16 = bssL then
      ⟨xs.set (adTid bs).toNat (sesN (adSq bs) (askSize size (adSize bs))), (xs.getD (adTid bs).toNat ses0).allK, addGB bssL meL bssL true (by0 bs 26) (adTid bs) (askSize size (adSize bs)) 0 0 0⟩
    else ⟨xs, [], []⟩
  else if isDel bs ∧ dlMine bs = true ∧ sub6 bs 4 = meL ∧ sub6 bs 16 = bssL then ⟨xs.set (dlTid bs).toNat ses0, (xs.getD (dlTid bs).toNat ses0).allK, []⟩
  else ⟨xs, [], []⟩
theorem getD_some {xs : List Ses} {t : Nat} (hl : xs.length = 8) (ht : t < 8) : xs[t]? = some (xs.getD t ses0) := by
  rw [List.getElem?_eq_getElem (by omega)]
  simp [List.getD, show t < xs.length by omega]
theorem barY_g {x : Ses} {to : Int} (h : SesG x) (ht : 0 ≤ to ∧ to ≤ 4095) : SesG (x.barY to).2 := by
  unfold Ses.barY
  split
  · exact run_g (up_g h ht)
  · exact h
theorem barY_fr (x : Ses) (to : Int) : (x.barY to).2.fr = x.fr ∧ (x.barY to).2.on = x.on := by
  unfold Ses.barY
  split <;> exact ⟨rfl, rfl⟩
theorem barG_g {x : Ses} {to : Int} (h : SesG x) (ht : 0 ≤ to ∧ to ≤ 4095) : SesG (x.barG to).2 := by
  unfold Ses.barG
  dsimp only
  split
  · exact move_g (barY_g h ht) ht
  · exact barY_g h ht
section
variable {W W' : Wd} {h h' : Heap} {b t j n c bu i b1 : Nat} {a : Option Addr} {T Tu T1 : TypeId} {size : Int} {css : List (List Value)} {cs us vs : List Value} {G G' : List Grp} {v : Value} {x y : Ses} {xs : List Ses} {f : Fm} {E A : Grp} {up : List Fm} {bs ys zs : List Int} {kv : Value} {K : Wd → Value → Prop}
theorem Ru.same {Post : Value → Heap → Prop} (r : Ru W h b T size xs up bu Tu G) (hy : ys.length = 6) (hz : zs.length = 6) (k : ∀ h', Ru W h' b T size xs up bu Tu G → Post (.bool (decide (ys = zs))) h') :
    Runs Tryz.prog 57 #[.agg (ints .u8 ys).toArray, .agg (ints .u8 zs).toArray] h Post := by
  obtain ⟨GG, m, back⟩ := r.me
  refine (sameAddr_c m hy hz).mono ?_
  rintro _ h' ⟨rfl, m'⟩
  exact k h' (back W h' (fun _ _ _ e => e) m')
theorem Ru.nil (r : Ru W h b T size xs up bu Tu G) (hle : W'.le W) (hK : K W (.slice none 0 0)) : RoV W' b T size xs [] G K h := by
  obtain ⟨ps, ua, uc, U, us, h1, h2, h3, h4, h5, m⟩ := r
  refine ⟨W, none, 0, [], [], hle, Ow.nil, rfl, ⟨ps, h1, h2, h3, ((m.free 2 rfl).free 1 rfl).perm ?_⟩, hK⟩
  simp only [List.eraseIdx_cons_succ, List.eraseIdx_cons_zero, List.flatten_cons, List.nil_append]
  exact List.Perm.refl _
theorem Ru.pcell (r : Ru W h b T size xs up bu Tu G) (hx : xs[t]? = some x) (j : Nat) (hj : ∀ kv, (parC x kv)[j]? = some v) : cell h b (13 + t * 8 + j) = some v := by
  obtain ⟨css, K, rp, -⟩ := r.at hx
  exact rp.get j hj
theorem Ru.pon (r : Ru W h b T size xs up bu Tu G) (hx : xs[t]? = some x) : cell h b (13 + t * 8) = some (.bool x.on) := r.pcell hx 0 fun _ => rfl
theorem Rp.put8 (r : Rp W h b T size css t x up bu Tu G) (hy : y.kept = []) : wrs h b (13 + t * 8) 8 ∧ ∀ h1, h1 = Go.Vc.setr h b (13 + t * 8) (parC y (.slice none 0 0)) → Rp W h1 b T size css t y up bu Tu G := by
  obtain ⟨a, c, E, vs, ua, uc, U, us, s, q1, q2, q3, q4⟩ := r
  refine ⟨s.wrs, fun h1 e => ?_⟩
  have s1 := s.setr (us := parC y (.slice none 0 0)) rfl e
  have s2 : St W h1 b T size css t (parC y (.slice none y.kept.length 0)) ([] :: U :: [(bu, [.slice ua up.length uc], Tu)] :: G) := by
    rw [hy]
    exact s1.mem ((s1.m.free 1 rfl).nilI.perm (by
      simp only [List.eraseIdx_cons_succ, List.eraseIdx_cons_zero, List.flatten_cons, List.nil_append]
      exact List.Perm.refl _))
  exact ⟨none, 0, [], [], ua, uc, U, us, s2, by rw [hy]; exact Ow.nil, by rw [hy]; rfl, q3, q4⟩
theorem rslideR_c (r : Rp W h b T size css t x up bu Tu G) (n : Int) (hn : 0 ≤ n ∧ n ≤ 4096) :
    Runs Tryz.prog 68 #[.pointer (some ⟨b, 13 + t * 8, none⟩), .int .i64 n] h fun v h' => Rp W h' b T size css t { x with bits := if 64 ≤ n then 0 else x.bits / pow2 n, fr := addZ x.fr n } up bu Tu G := by
  obtain ⟨a, c, E, vs, ua, uc, U, us, s, k⟩ := r
  refine (rslide_c s n hn).mono ?_
  rintro v h' s'
  exact ⟨a, c, E, vs, ua, uc, U, us, s', k⟩
theorem slide_move {to : Int} (ht : 0 ≤ to ∧ to ≤ 4095) : ({ x with bits := if 64 ≤ distZ x.fr to then 0 else x.bits / pow2 (distZ x.fr to), fr := addZ x.fr (distZ x.fr to) } : Ses) = x.move to := by
  have e : addZ x.fr (distZ x.fr to) = to := by unfold addZ distZ; omega
  unfold Ses.move
  rw [e]
def RotV (W : Wd) (b : Nat) (T : TypeId) (size : Int) (o : Ost) (G : List Grp) (v : Value) (h' : Heap) : Prop :=
  RoV W b T size o.xs o.up G (fun W' u => ∃ w, v = .tuple #[u, w] ∧ Bts W' w o.ans) h'
theorem Ru.out2 {w : Value} {ans : List Int} (r : Ru W h b T size xs up bu Tu G) (hle : W'.le W) (hw : Bts W w ans) : ∃ a c, cell h bu 0 = some (.slice a up.length c) ∧ RotV W' b T size ⟨xs, up, ans⟩ G (.tuple #[.slice a up.length c, w]) h := by
  obtain ⟨ua, uc, hcu⟩ := r.cup
  obtain ⟨ua', uc', hcu', hfin⟩ := r.fin (K := fun W' u => ∃ w', Value.tuple #[.slice ua up.length uc, w] = .tuple #[u, w'] ∧ Bts W' w' ans) hle
  rw [hcu] at hcu'
  cases hcu'
  exact ⟨ua, uc, hcu, hfin ⟨w, rfl, hw⟩⟩
theorem Ru.none2 (r : Ru W h b T size xs up bu Tu G) (hle : W'.le W) : RotV W' b T size ⟨xs, [], []⟩ G (.tuple #[.slice none 0 0, .slice none 0 0]) h :=
  r.nil hle ⟨_, rfl, Bts.nil⟩
set_option maxHeartbeats 4000000 in
theorem rother_c (r : R8 W h b T size xs G) (hg : ∀ x ∈ xs, SesG x) (hsz : 1 ≤ size ∧ size ≤ 64) (hb : Bts W (.slice a n c) bs) (hx : ∀ x ∈ bs, 0 ≤ x ∧ x < 256) :
    Runs Tryz.prog 33 #[.pointer (some ⟨b, 0, none⟩), .slice a n c] h (RotV W b T size (oth size xs bs) G) := by
  have hxl : xs.length = 8 := by obtain ⟨ps, h1, -⟩ := r; exact h1
  refine vc_muezzinref24_Station_Other _ _ _ _ _ _ ?_
  intro bu h1 e1 e2
  have r1 := Ru.start r e1 e2
  clear r e1 e2
  obtain ⟨GG, m, back⟩ := r1.me
  refine (rreadBarG_c m hb hx).mono ?_
  rintro _ h2 ⟨W2, hle2, m2, hcase⟩
  have r2 := back W2 h2 (cl_le hle2) m2
  clear m m2 back r1 GG
  rcases hcase with ⟨hq, rfl⟩ | ⟨hq, e, rfl, he⟩
  · have ho : oth size xs bs = if sub6 bs 4 = meL ∧ sub6 bs 10 = bssL ∧ (xs.getD (wd bs 16 / 4096).toNat ses0).on = true then
        ⟨xs.set (wd bs 16 / 4096).toNat ((xs.getD (wd bs 16 / 4096).toNat ses0).barG (wd bs 18 / 16)).2, ((xs.getD (wd bs 16 / 4096).toNat ses0).barG (wd bs 18 / 16)).1,
          ackB bssL meL (wd bs 16 / 4096) ((xs.getD (wd bs 16 / 4096).toNat ses0).barG (wd bs 18 / 16)).2.ackS ((xs.getD (wd bs 16 / 4096).toNat ses0).barG (wd bs 18 / 16)).2.ackM⟩
        else ⟨xs, [], []⟩ := by unfold oth; rw [if_pos hq]
    rw [ho]
    clear ho
    obtain ⟨hl, h0, ht7, -⟩ := hq
    have hp16 := wd_bd (xs := bs) (i := 16) hx (by omega)
    have hp18 := wd_bd (xs := bs) (i := 18) hx (by omega)
    obtain ⟨t, ht⟩ : ∃ t : Nat, wd bs 16 / 4096 = (t : Int) := ⟨(wd bs 16 / 4096).toNat, by omega⟩
    obtain ⟨to, hto⟩ : ∃ to, to = wd bs 18 / 16 := ⟨_, rfl⟩
    have htr : 0 ≤ to ∧ to ≤ 4095 := by omega
    have ht8 : t < 8 := by omega
    obtain ⟨x1, x2, x3, x4, x5, x6, hX⟩ := six_of (sub6_len (xs := bs) (i := 4) (by omega))
    obtain ⟨y1, y2, y3, y4, y5, y6, hY⟩ := six_of (sub6_len (xs := bs) (i := 10) (by omega))
    unfold barX
    rw [hX, hY, ht, ← hto, Int.toNat_natCast]
    have hxt := getD_some hxl ht8
    obtain ⟨x, hxx⟩ : ∃ x, x = xs.getD t ses0 := ⟨_, rfl⟩
    rw [← hxx] at hxt ⊢
    have hgx : SesG x := hg x (List.mem_of_getElem? hxt)
    refine ⟨_, _, rfl, ?_⟩
    intro b2 h3 e1 e2
    replace r2 := r2.push e1 e2
    refine ⟨⟨rfl, (r2.blk 0 rfl).wrs (Nat.le_of_ble_eq_true rfl), barC_one _ _ _ _⟩, fun h4 e4 => ?_⟩
    have r4 := r2.setr 0 rfl e4
    clear r2
    replace r4 : Ru W2 h4 b T size xs [] bu 46 ([(b2, barC [x1, x2, x3, x4, x5, x6] [y1, y2, y3, y4, y5, y6] (t : Int) to, 75)] :: G) := r4
    refine bcase_true rfl ⟨_, (r4.blk 0 rfl).row_eq rfl (Nat.le_of_ble_eq_true rfl), _, r4.rme, ?_⟩
    refine r4.same (ys := [x1, x2, x3, x4, x5, x6]) (zs := meL) rfl rfl fun h5 r5 => ⟨_, rfl, bcase_intro (fun q => ?_) fun q => ?_⟩
    · have q := of_decide_eq_false (by simpa using q)
      rw [if_neg (fun hh => q hh.1)]
      exact r5.drop.none2 hle2
    have q := of_decide_eq_true (by simpa using q)
    refine ⟨_, (r5.blk 0 rfl).row_eq rfl (Nat.le_of_ble_eq_true rfl), _, r5.rbss, ?_⟩
    refine r5.same (ys := [y1, y2, y3, y4, y5, y6]) (zs := bssL) rfl rfl fun h6 r6 => ⟨_, rfl, bcase_intro (fun q2 => ?_) fun q2 => ?_⟩
    · have q2 := of_decide_eq_false (by simpa using q2)
      rw [if_neg (fun hh => q2 hh.2.1)]
      exact r6.drop.none2 hle2
    have q2 := of_decide_eq_true (by simpa using q2)
    refine ⟨(t : Int), (r6.blk 0 rfl).cell_eq rfl, ⟨by omega, by omega⟩, ?_⟩
    rw [Int.toNat_natCast]
    refine ⟨_, r6.pon hxt, bcase_intro (fun q3 => ?_) fun q3 => ?_⟩
    · rw [if_neg (fun hh => by rw [hh.2.2] at q3; cases q3)]
      exact r6.drop.none2 hle2
    have q3 : x.on = true := by simpa using q3
    rw [if_pos ⟨q, q2, q3⟩]
    refine ⟨(t : Int), (r6.blk 0 rfl).cell_eq rfl, ⟨by omega, by omega⟩, ?_⟩
    rw [Int.toNat_natCast]
    refine ⟨_, r6.pcell hxt 1 (fun _ => rfl), to, (r6.blk 0 rfl).cell_eq rfl, (rdist_c _ _ _).ret ⟨_, rfl, dcase_intro (fun q4 => ?_) fun q4 => ?_⟩⟩
    · have eY : x.barY to = ((x.up to).1 ++ (x.up to).2.run.1, (x.up to).2.run.2) := if_pos q4
      refine ⟨to, (r6.blk 0 rfl).cell_eq rfl, ?_⟩
      obtain ⟨css, K, rp, back⟩ := r6.at hxt
      refine (rto_c rp hgx.ok.k (by have := hgx.ok.n; omega) (by decide) hgx.ok.s to htr).mono ?_
      rintro _ h8 rp8
      have hgu := up_g hgx htr
      have hul := up_lens x to
      have hxn := hgx.ok.n
      refine (rrun_c rp8 hgu.ok.k (by have := hgu.ok.n; omega) (by simp; omega) hgu.ok.s).mono ?_
      rintro _ h9 rp9
      have r9 := back W2 h9 _ _ (fun _ _ _ e => e) rp9
      clear rp rp8 rp9 back r6
      rw [List.nil_append] at r9
      have e1' : (x.barY to).2 = (x.up to).2.run.2 := by rw [eY]
      have e2' : (x.barY to).1 = (x.up to).1 ++ (x.up to).2.run.1 := by rw [eY]
      rw [← e1', ← e2'] at r9
      have hgy := barY_g hgx htr
      obtain ⟨hyf, hyo⟩ := barY_fr x to
      have hxt9 : (xs.set t (x.barY to).2)[t]? = some (x.barY to).2 := List.getElem?_set_self (by omega)
      refine ⟨_, r9.pcell hxt9 4 (fun _ => rfl), to, (r9.blk 0 rfl).cell_eq rfl, (rdist_c _ _ _).ret ⟨_, rfl, ?_⟩⟩
      rw [hyf]
      refine dcase_intro (fun q5 => ?_) fun q5 => ?_
      · have eG : x.barG to = ((x.barY to).1, (x.barY to).2.move to) := by unfold Ses.barG; rw [if_pos q5]
        rw [eG]
        obtain ⟨css, K, rp, back⟩ := r9.at hxt9
        refine (rslideR_c rp (distZ x.fr to) (by have := distZ_bd x.fr to; omega)).mono ?_
        rintro _ h11 rp11
        rw [← hyf, slide_move htr] at rp11
        have r11 := back W2 h11 _ _ (fun _ _ _ e => e) rp11
        rw [List.set_set] at r11
        have hxt11 : (xs.set t ((x.barY to).2.move to))[t]? = some ((x.barY to).2.move to) := List.getElem?_set_self (by omega)
        have hg11 := move_g hgy htr
        obtain ⟨ua, uc, hcu⟩ := (r11).cup
        refine ⟨_, _, _, hcu, (t : Int), ((r11).blk 0 rfl).cell_eq rfl, ?_⟩
        refine ((r11).ans hxt11 (hg11).ok).mono ?_
        rintro _ h12 ⟨W6, a6, c6, hle6, rfl, r12, hb6, hcc⟩
        obtain ⟨ua', uc', hcu', hfin⟩ := r12.drop.out2 (hle2.trans hle6) hb6
        have e12 := hcc _ _ hcu
        rw [e12] at hcu'
        cases hcu'
        exact ⟨_, _, _, rfl, e12, hfin⟩
      · have eG : x.barG to = ((x.barY to).1, (x.barY to).2) := by unfold Ses.barG; rw [if_neg q5]
        rw [eG]
        obtain ⟨ua, uc, hcu⟩ := (r9).cup
        refine ⟨_, _, _, hcu, (t : Int), ((r9).blk 0 rfl).cell_eq rfl, ?_⟩
        refine ((r9).ans hxt9 (hgy).ok).mono ?_
        rintro _ h12 ⟨W6, a6, c6, hle6, rfl, r12, hb6, hcc⟩
        obtain ⟨ua', uc', hcu', hfin⟩ := r12.drop.out2 (hle2.trans hle6) hb6
        have e12 := hcc _ _ hcu
        rw [e12] at hcu'
        cases hcu'
        exact ⟨_, _, _, rfl, e12, hfin⟩
    · have eY : x.barY to = ([], x) := if_neg q4
      have r9 := r6
      have e1' : (x.barY to).2 = x := by rw [eY]
      have e2' : (x.barY to).1 = [] := by rw [eY]
      rw [← set_same hxt, ← e2'] at r9
      have hs : xs.set t x = xs.set t (x.barY to).2 := by rw [e1']
      rw [hs] at r9
      have hgy := barY_g hgx htr
      obtain ⟨hyf, hyo⟩ := barY_fr x to
      have hxt9 : (xs.set t (x.barY to).2)[t]? = some (x.barY to).2 := List.getElem?_set_self (by omega)
      refine ⟨_, r9.pcell hxt9 4 (fun _ => rfl), to, (r9.blk 0 rfl).cell_eq rfl, (rdist_c _ _ _).ret ⟨_, rfl, ?_⟩⟩
      rw [hyf]
      refine dcase_intro (fun q5 => ?_) fun q5 => ?_
      · have eG : x.barG to = ((x.barY to).1, (x.barY to).2.move to) := by unfold Ses.barG; rw [if_pos q5]
        rw [eG]
        obtain ⟨css, K, rp, back⟩ := r9.at hxt9
        refine (rslideR_c rp (distZ x.fr to) (by have := distZ_bd x.fr to; omega)).mono ?_
        rintro _ h11 rp11
        rw [← hyf, slide_move htr] at rp11
        have r11 := back W2 h11 _ _ (fun _ _ _ e => e) rp11
        rw [List.set_set] at r11
        have hxt11 : (xs.set t ((x.barY to).2.move to))[t]? = some ((x.barY to).2.move to) := List.getElem?_set_self (by omega)
        have hg11 := move_g hgy htr
        obtain ⟨ua, uc, hcu⟩ := (r11).cup
        refine ⟨_, _, _, hcu, (t : Int), ((r11).blk 0 rfl).cell_eq rfl, ?_⟩
        refine ((r11).ans hxt11 (hg11).ok).mono ?_
        rintro _ h12 ⟨W6, a6, c6, hle6, rfl, r12, hb6, hcc⟩
        obtain ⟨ua', uc', hcu', hfin⟩ := r12.drop.out2 (hle2.trans hle6) hb6
        have e12 := hcc _ _ hcu
        rw [e12] at hcu'
        cases hcu'
        exact ⟨_, _, _, rfl, e12, hfin⟩
      · have eG : x.barG to = ((x.barY to).1, (x.barY to).2) := by unfold Ses.barG; rw [if_neg q5]
        rw [eG]
        obtain ⟨ua, uc, hcu⟩ := (r9).cup
        refine ⟨_, _, _, hcu, (t : Int), ((r9).blk 0 rfl).cell_eq rfl, ?_⟩
        refine ((r9).ans hxt9 (hgy).ok).mono ?_
        rintro _ h12 ⟨W6, a6, c6, hle6, rfl, r12, hb6, hcc⟩
        obtain ⟨ua', uc', hcu', hfin⟩ := r12.drop.out2 (hle2.trans hle6) hb6
        have e12 := hcc _ _ hcu
        rw [e12] at hcu'
        cases hcu'
        exact ⟨_, _, _, rfl, e12, hfin⟩
  · have ho : oth size xs bs = if isAdd bs then (if adAns bs = false ∧ sub6 bs 4 = meL ∧ sub6 bs 16 = bssL then
        ⟨xs.set (adTid bs).toNat (sesN (adSq bs) (askSize size (adSize bs))), (xs.getD (adTid bs).toNat ses0).allK, addGB bssL meL bssL true (by0 bs 26) (adTid bs) (askSize size (adSize bs)) 0 0 0⟩ else ⟨xs, [], []⟩)
        else if isDel bs ∧ dlMine bs = true ∧ sub6 bs 4 = meL ∧ sub6 bs 16 = bssL then ⟨xs.set (dlTid bs).toNat ses0, (xs.getD (dlTid bs).toNat ses0).allK, []⟩ else ⟨xs, [], []⟩ := by unfold oth; rw [if_neg hq]
    rw [ho]
    clear ho
    refine ⟨_, _, rfl, ?_⟩
    intro b2 h3 e1 e2
    replace r2 := r2.push e1 e2
    refine ⟨⟨rfl, (r2.blk 0 rfl).wrs (Nat.le_of_ble_eq_true rfl), z14_one⟩, fun h4 e4 => ?_⟩
    have r4 := (r2.setr 0 rfl e4).drop
    clear r2
    refine bcase_false (decide_eq_false he) ?_
    obtain ⟨GG, m, back⟩ := r4.me
    refine (rreadAddG_c m (hb.le hle2) hx).mono ?_
    rintro _ h5 ⟨W3, hle3, m5, hcase⟩
    have r5 := back W3 h5 (cl_le hle3) m5
    have hle5 := hle2.trans hle3
    clear m m5 back r4 GG
    rcases hcase with ⟨hqa, rfl⟩ | ⟨hqa, _, rfl, e5, rfl, he5⟩
    · rw [if_pos hqa]
      have hnd : ¬ isDel bs := fun hd => by have h1 := hqa.1.1; have h2 := hd.1.1; omega
      obtain ⟨⟨hl, h0, h24, h25⟩, ht7, -⟩ := hqa
      have hp := wd_bd (xs := bs) (i := adOff bs) hx (by unfold adOff; split <;> omega)
      have hti : 0 ≤ adTid bs ∧ adTid bs ≤ 7 := ⟨by unfold adTid adPar; omega, ht7⟩
      have hsi : 0 ≤ adSize bs ∧ adSize bs ≤ 1023 := by unfold adSize adPar; omega
      have hsq : 0 ≤ adSq bs ∧ adSq bs ≤ 4095 := by
        unfold adSq; split
        · exact ⟨by decide, by decide⟩
        · have := wd_bd (xs := bs) (i := 31) hx (by omega); omega
      have r26 := hx _ (by0_mem (xs := bs) (k := 26) (by omega))
      obtain ⟨t, ht⟩ : ∃ t : Nat, adTid bs = (t : Int) := ⟨(adTid bs).toNat, by omega⟩
      have ht8 : t < 8 := by omega
      obtain ⟨x1, x2, x3, x4, x5, x6, hX⟩ := six_of (sub6_len (xs := bs) (i := 4) (by omega))
      obtain ⟨y1, y2, y3, y4, y5, y6, hY⟩ := six_of (sub6_len (xs := bs) (i := 10) (by omega))
      obtain ⟨z1, z2, z3, z4, z5, z6, hZ⟩ := six_of (sub6_len (xs := bs) (i := 16) (by omega))
      unfold addX
      rw [hX, hY, hZ, ht, Int.toNat_natCast]
      obtain ⟨an, han⟩ : ∃ an, an = adAns bs := ⟨_, rfl⟩
      obtain ⟨tk, htk⟩ : ∃ tk, tk = by0 bs 26 := ⟨_, rfl⟩
      obtain ⟨sz, hszz⟩ : ∃ sz, sz = adSize bs := ⟨_, rfl⟩
      obtain ⟨sq, hsqq⟩ : ∃ sq, sq = adSq bs := ⟨_, rfl⟩
      obtain ⟨tm, htm⟩ : ∃ tm, tm = wd bs (adOff bs + 2) := ⟨_, rfl⟩
      obtain ⟨st, hst⟩ : ∃ st, st = adSt bs := ⟨_, rfl⟩
      rw [← han, ← htk, ← hszz, ← hsqq, ← htm, ← hst]
      rw [← hszz] at hsi
      rw [← hsqq] at hsq
      rw [← htk] at r26
      have hxt := getD_some hxl ht8
      obtain ⟨x, hxx⟩ : ∃ x, x = xs.getD t ses0 := ⟨_, rfl⟩
      rw [← hxx] at hxt ⊢
      have hgx : SesG x := hg x (List.mem_of_getElem? hxt)
      refine ⟨_, _, rfl, ?_⟩
      intro b3 h6 e1 e2
      replace r5 := r5.push e1 e2
      refine ⟨⟨rfl, (r5.blk 0 rfl).wrs (Nat.le_of_ble_eq_true rfl), addC2_one _ _ _ _ _ _ _ _ _ _⟩, fun h7 e7 => ?_⟩
      have r7 := r5.setr 0 rfl e7
      clear r5
      rw [setL_all (by rfl)] at r7
      replace r7 : Ru W3 h7 b T size xs [] bu 46 ([(b3, addC2 [x1, x2, x3, x4, x5, x6] [y1, y2, y3, y4, y5, y6] [z1, z2, z3, z4, z5, z6] an tk (t : Int) sz tm sq st, 78)] :: G) := r7
      refine bcase_true rfl ⟨an, (r7.blk 0 rfl).cell_eq rfl, bcase_intro (fun q => ?_) fun q => ?_⟩
      · have q : an = false := by simpa using q
        refine ⟨_, (r7.blk 0 rfl).row_eq rfl (Nat.le_of_ble_eq_true rfl), _, r7.rme, ?_⟩
        refine r7.same (ys := [x1, x2, x3, x4, x5, x6]) (zs := meL) rfl rfl fun h8 r8 => ⟨_, rfl, bcase_intro (fun q1 => ?_) fun q1 => ?_⟩
        · have q1 := of_decide_eq_true q1
          refine ⟨_, (r8.blk 0 rfl).row_eq rfl (Nat.le_of_ble_eq_true rfl), _, r8.rbss, ?_⟩
          refine r8.same (ys := [z1, z2, z3, z4, z5, z6]) (zs := bssL) rfl rfl fun h9 r9 => ⟨_, rfl, bcase_intro (fun q2 => ?_) fun q2 => ?_⟩
          · have q2 := of_decide_eq_true q2
            rw [if_pos ⟨q, q1, q2⟩]
            refine ⟨(t : Int), (r9.blk 0 rfl).cell_eq rfl, ⟨by omega, by omega⟩, ?_⟩
            rw [Int.toNat_natCast]
            obtain ⟨css, K, rp, back⟩ := r9.at hxt
            refine (rleave_c rp hgx.ok.k hgx.nd (by have := hgx.ok.n; omega) (by decide) hgx.ok.s).mono ?_
            rintro _ h10 ⟨z, rp10⟩
            rw [List.nil_append] at rp10
            have r10 := back W3 h10 _ _ (fun _ _ _ e => e) rp10
            refine ⟨size, r10.rsize, sz, (r10.blk 0 rfl).cell_eq rfl, dcase_intro (fun q3 => ?_) fun q3 => ?_⟩
            · have eS : askSize size sz = min size sz := if_pos q3
              rw [eS]
              refine ⟨sz, (r10.blk 0 rfl).cell_eq rfl, sq, (r10.blk 0 rfl).cell_eq rfl, sq, (r10.blk 0 rfl).cell_eq rfl, ?_⟩
              obtain ⟨mz, hmz⟩ : ∃ mz, mz = min size sz := ⟨_, rfl⟩
              rw [← hmz]
              obtain ⟨k1, k2⟩ := rp10.put8 (y := sesN sq mz) rfl
              refine ⟨⟨rfl, k1, by intro u hu; simp at hu; rcases hu with rfl | rfl | rfl | rfl | rfl | rfl | rfl | rfl <;> rfl⟩, fun h14 e14 => ?_⟩
              have r14 := back W3 h14 _ _ (fun _ _ _ e => e) (k2 h14 e14)
              refine ⟨ints .u8 bssL, r14.rbss, ints .u8 meL, r14.rme, ints .u8 bssL, r14.rbss, tk, (r14.blk 0 rfl).cell_eq rfl, (t : Int), (r14.blk 0 rfl).cell_eq rfl, rfl, rfl, rfl, ?_⟩
              obtain ⟨GG, m, back2⟩ := r14.me
              refine (raddG_c (to := bssL) (fr := meL) (bss := bssL) (token := tk) (tid := (t : Int)) (size := mz) (tmo := 0) (sq := 0) (st := 0) m rfl rfl rfl (by omega) (by omega) (by omega) (by decide) (by decide) (by decide) true (fun _ => rfl) (fun q => by cases q)).mono ?_
              rintro _ h15 ⟨W4, hle4, m15, ⟨-, a8, c8, rfl, hb8⟩ | ⟨hgt, -⟩⟩
              · have r15 := (back2 W4 h15 (cl_le hle4) m15).drop
                obtain ⟨ua, uc, hcu, hfin⟩ := r15.out2 (hle5.trans hle4) hb8
                exact ⟨_, _, _, _, rfl, _, _, _, hcu, hfin⟩
              · omega
            · have eS : askSize size sz = size := if_neg q3
              rw [eS]
              refine ⟨sq, (r10.blk 0 rfl).cell_eq rfl, sq, (r10.blk 0 rfl).cell_eq rfl, ?_⟩
              obtain ⟨k1, k2⟩ := rp10.put8 (y := sesN sq size) rfl
              refine ⟨⟨rfl, k1, by intro u hu; simp at hu; rcases hu with rfl | rfl | rfl | rfl | rfl | rfl | rfl | rfl <;> rfl⟩, fun h14 e14 => ?_⟩
              have r14 := back W3 h14 _ _ (fun _ _ _ e => e) (k2 h14 e14)
              refine ⟨ints .u8 bssL, r14.rbss, ints .u8 meL, r14.rme, ints .u8 bssL, r14.rbss, tk, (r14.blk 0 rfl).cell_eq rfl, (t : Int), (r14.blk 0 rfl).cell_eq rfl, rfl, rfl, rfl, ?_⟩
              obtain ⟨GG, m, back2⟩ := r14.me
              refine (raddG_c (to := bssL) (fr := meL) (bss := bssL) (token := tk) (tid := (t : Int)) (size := size) (tmo := 0) (sq := 0) (st := 0) m rfl rfl rfl (by omega) (by omega) (by omega) (by decide) (by decide) (by decide) true (fun _ => rfl) (fun q => by cases q)).mono ?_
              rintro _ h15 ⟨W4, hle4, m15, ⟨-, a8, c8, rfl, hb8⟩ | ⟨hgt, -⟩⟩
              · have r15 := (back2 W4 h15 (cl_le hle4) m15).drop
                obtain ⟨ua, uc, hcu, hfin⟩ := r15.out2 (hle5.trans hle4) hb8
                exact ⟨_, _, _, _, rfl, _, _, _, hcu, hfin⟩
              · omega
          · rw [if_neg (fun hh => of_decide_eq_false q2 hh.2.2)]
            have r0 := r9.drop
            obtain ⟨GG, m, back⟩ := r0.me
            refine (rreadDelG_c m (hb.le hle5) hx).mono ?_
            rintro _ hD ⟨W4, hle4, mD, ⟨hqd, rfl⟩ | ⟨hqd, _, rfl, eD, rfl, heD⟩⟩
            · exact absurd hqd hnd
            have rD := back W4 hD (cl_le hle4) mD
            have hle8 := hle5.trans hle4
            clear m mD back r0 GG
            refine ⟨_, _, rfl, ?_⟩
            intro b4 h9 e1 e2
            replace rD := rD.push e1 e2
            refine ⟨⟨rfl, (rD.blk 0 rfl).wrs (Nat.le_of_ble_eq_true rfl), z21g_one⟩, fun h10 e10 => ?_⟩
            have r0 := (rD.setr 0 rfl e10).drop
            refine bcase_false (decide_eq_false heD) ?_
            obtain ⟨ua, uc, hcu, hfin⟩ := r0.out2 (w := .slice none 0 0) (ans := []) hle8 Bts.nil
            exact ⟨_, _, _, hcu, hfin⟩
        · rw [if_neg (fun hh => of_decide_eq_false q1 hh.2.1)]
          have r0 := r8.drop
          obtain ⟨GG, m, back⟩ := r0.me
          refine (rreadDelG_c m (hb.le hle5) hx).mono ?_
          rintro _ hD ⟨W4, hle4, mD, ⟨hqd, rfl⟩ | ⟨hqd, _, rfl, eD, rfl, heD⟩⟩
          · exact absurd hqd hnd
          have rD := back W4 hD (cl_le hle4) mD
          have hle8 := hle5.trans hle4
          clear m mD back r0 GG
          refine ⟨_, _, rfl, ?_⟩
          intro b4 h9 e1 e2
          replace rD := rD.push e1 e2
          refine ⟨⟨rfl, (rD.blk 0 rfl).wrs (Nat.le_of_ble_eq_true rfl), z21g_one⟩, fun h10 e10 => ?_⟩
          have r0 := (rD.setr 0 rfl e10).drop
          refine bcase_false (decide_eq_false heD) ?_
          obtain ⟨ua, uc, hcu, hfin⟩ := r0.out2 (w := .slice none 0 0) (ans := []) hle8 Bts.nil
          exact ⟨_, _, _, hcu, hfin⟩
      · rw [if_neg (fun hh => by rw [hh.1] at q; cases q)]
        have r0 := r7.drop
        obtain ⟨GG, m, back⟩ := r0.me
        refine (rreadDelG_c m (hb.le hle5) hx).mono ?_
        rintro _ hD ⟨W4, hle4, mD, ⟨hqd, rfl⟩ | ⟨hqd, _, rfl, eD, rfl, heD⟩⟩
        · exact absurd hqd hnd
        have rD := back W4 hD (cl_le hle4) mD
        have hle8 := hle5.trans hle4
        clear m mD back r0 GG
        refine ⟨_, _, rfl, ?_⟩
        intro b4 h9 e1 e2
        replace rD := rD.push e1 e2
        refine ⟨⟨rfl, (rD.blk 0 rfl).wrs (Nat.le_of_ble_eq_true rfl), z21g_one⟩, fun h10 e10 => ?_⟩
        have r0 := (rD.setr 0 rfl e10).drop
        refine bcase_false (decide_eq_false heD) ?_
        obtain ⟨ua, uc, hcu, hfin⟩ := r0.out2 (w := .slice none 0 0) (ans := []) hle8 Bts.nil
        exact ⟨_, _, _, hcu, hfin⟩
    · rw [if_neg hqa]
      refine ⟨_, _, rfl, ?_⟩
      intro b3 h6 e1 e2
      replace r5 := r5.push e1 e2
      refine ⟨⟨rfl, (r5.blk 0 rfl).wrs (Nat.le_of_ble_eq_true rfl), z25g_one⟩, fun h7 e7 => ?_⟩
      have r7 := (r5.setr 0 rfl e7).drop
      clear r5
      refine bcase_false (decide_eq_false he5) ?_
      obtain ⟨GG, m, back⟩ := r7.me
      refine (rreadDelG_c m (hb.le hle5) hx).mono ?_
      rintro _ h8 ⟨W4, hle4, m8, hcase⟩
      have r8 := back W4 h8 (cl_le hle4) m8
      have hle8 := hle5.trans hle4
      clear m m8 back r7 GG
      rcases hcase with ⟨hqd, rfl⟩ | ⟨hqd, _, rfl, e8, rfl, he8⟩
      · have hqd0 := hqd
        obtain ⟨⟨hl, h0, h24, h25⟩, ht7, -⟩ := hqd
        have hp26 := wd_bd (xs := bs) (i := 26) hx (by omega)
        have hti : 0 ≤ dlTid bs ∧ dlTid bs ≤ 7 := ⟨by unfold dlTid; omega, ht7⟩
        obtain ⟨t, ht⟩ : ∃ t : Nat, dlTid bs = (t : Int) := ⟨(dlTid bs).toNat, by omega⟩
        have ht8 : t < 8 := by omega
        obtain ⟨x1, x2, x3, x4, x5, x6, hX⟩ := six_of (sub6_len (xs := bs) (i := 4) (by omega))
        obtain ⟨y1, y2, y3, y4, y5, y6, hY⟩ := six_of (sub6_len (xs := bs) (i := 10) (by omega))
        obtain ⟨z1, z2, z3, z4, z5, z6, hZ⟩ := six_of (sub6_len (xs := bs) (i := 16) (by omega))
        unfold delX
        rw [hX, hY, hZ, ht, Int.toNat_natCast]
        obtain ⟨mi, hmi⟩ : ∃ mi, mi = dlMine bs := ⟨_, rfl⟩
        obtain ⟨re, hre⟩ : ∃ re, re = wd bs 28 := ⟨_, rfl⟩
        rw [← hmi, ← hre]
        have hxt := getD_some hxl ht8
        obtain ⟨x, hxx⟩ : ∃ x, x = xs.getD t ses0 := ⟨_, rfl⟩
        rw [← hxx] at hxt ⊢
        have hgx : SesG x := hg x (List.mem_of_getElem? hxt)
        refine ⟨_, _, rfl, ?_⟩
        intro b4 h9 e1 e2
        replace r8 := r8.push e1 e2
        refine ⟨⟨rfl, (r8.blk 0 rfl).wrs (Nat.le_of_ble_eq_true rfl), delC3_one _ _ _ _ _ _⟩, fun h10 e10 => ?_⟩
        have r10 := r8.setr 0 rfl e10
        clear r8
        replace r10 : Ru W4 h10 b T size xs [] bu 46 ([(b4, delC3 [x1, x2, x3, x4, x5, x6] [y1, y2, y3, y4, y5, y6] [z1, z2, z3, z4, z5, z6] mi (t : Int) re, 81)] :: G) := r10
        refine bcase_true rfl ⟨mi, (r10.blk 0 rfl).cell_eq rfl, bcase_intro (fun q => ?_) fun q => ?_⟩
        · refine ⟨_, (r10.blk 0 rfl).row_eq rfl (Nat.le_of_ble_eq_true rfl), _, r10.rme, ?_⟩
          refine r10.same (ys := [x1, x2, x3, x4, x5, x6]) (zs := meL) rfl rfl fun h11 r11 => ⟨_, rfl, bcase_intro (fun q1 => ?_) fun q1 => ?_⟩
          · have q1 := of_decide_eq_true q1
            refine ⟨_, (r11.blk 0 rfl).row_eq rfl (Nat.le_of_ble_eq_true rfl), _, r11.rbss, ?_⟩
            refine r11.same (ys := [z1, z2, z3, z4, z5, z6]) (zs := bssL) rfl rfl fun h12 r12 => ⟨_, rfl, bcase_intro (fun q2 => ?_) fun q2 => ?_⟩
            · have q2 := of_decide_eq_true q2
              rw [if_pos ⟨hqd0, q, q1, q2⟩]
              refine ⟨(t : Int), (r12.blk 0 rfl).cell_eq rfl, ⟨by omega, by omega⟩, ?_⟩
              rw [Int.toNat_natCast]
              obtain ⟨css, K, rp, back⟩ := r12.at hxt
              refine (rleave_c rp hgx.ok.k hgx.nd (by have := hgx.ok.n; omega) (by decide) hgx.ok.s).mono ?_
              rintro _ h13 ⟨z, rp13⟩
              rw [List.nil_append] at rp13
              have r13 := back W4 h13 _ _ (fun _ _ _ e => e) rp13
              refine ⟨(t : Int), (r13.blk 0 rfl).cell_eq rfl, ⟨by omega, by omega⟩, ?_⟩
              rw [Int.toNat_natCast]
              obtain ⟨k1, k2⟩ := rp13.put8 (y := ses0) rfl
              refine ⟨⟨rfl, k1, by intro u hu; simp at hu; rcases hu with rfl | rfl | rfl | rfl | rfl | rfl | rfl | rfl <;> rfl⟩, fun h14 e14 => ?_⟩
              have r14 := (back W4 h14 _ _ (fun _ _ _ e => e) (k2 h14 e14)).drop
              obtain ⟨ua, uc, hcu, hfin⟩ := r14.out2 (w := .slice none 0 0) (ans := []) hle8 Bts.nil
              exact ⟨_, _, _, hcu, hfin⟩
            · rw [if_neg (fun hh => of_decide_eq_false q2 hh.2.2.2)]
              have r0 := r12.drop
              obtain ⟨ua, uc, hcu, hfin⟩ := r0.out2 (w := .slice none 0 0) (ans := []) hle8 Bts.nil
              exact ⟨_, _, _, hcu, hfin⟩
          · rw [if_neg (fun hh => of_decide_eq_false q1 hh.2.2.1)]
            have r0 := r11.drop
            obtain ⟨ua, uc, hcu, hfin⟩ := r0.out2 (w := .slice none 0 0) (ans := []) hle8 Bts.nil
            exact ⟨_, _, _, hcu, hfin⟩
        · rw [if_neg (fun hh => by rw [hh.2.1] at q; cases q)]
          have r0 := r10.drop
          obtain ⟨ua, uc, hcu, hfin⟩ := r0.out2 (w := .slice none 0 0) (ans := []) hle8 Bts.nil
          exact ⟨_, _, _, hcu, hfin⟩
      · rw [if_neg (fun hh => hqd hh.1)]
        refine ⟨_, _, rfl, ?_⟩
        intro b4 h9 e1 e2
        replace r8 := r8.push e1 e2
        refine ⟨⟨rfl, (r8.blk 0 rfl).wrs (Nat.le_of_ble_eq_true rfl), z21g_one⟩, fun h10 e10 => ?_⟩
        have r0 := (r8.setr 0 rfl e10).drop
        refine bcase_false (decide_eq_false he8) ?_
        obtain ⟨ua, uc, hcu, hfin⟩ := r0.out2 (w := .slice none 0 0) (ans := []) hle8 Bts.nil
        exact ⟨_, _, _, hcu, hfin⟩
def leaveP : List Ses → List Fm
  | [] => []
  | x :: xs => x.allK ++ leaveP xs
theorem leaveP_app : ∀ {l m : List Ses}, leaveP (l ++ m) = leaveP l ++ leaveP m
  | [], m => rfl
  | x :: l, m => by show x.allK ++ leaveP (l ++ m) = _; rw [leaveP_app, ← List.append_assoc]; rfl
theorem allK_len {x : Ses} (h : SesG x) : x.allK.length ≤ 4096 := by
  have h1 := upP_len 4096 (l := x.kept) (s := x.start)
  have h2 := h.ok.n
  unfold Ses.allK; omega
theorem leaveP_len : ∀ {l : List Ses}, (∀ x ∈ l, SesG x) → (leaveP l).length ≤ 4096 * l.length
  | [], _ => Nat.le_refl _
  | x :: l, h => by
    have h1 := allK_len (h x (by simp))
    have h2 := leaveP_len (l := l) fun y hy => h y (by simp [hy])
    show (x.allK ++ leaveP l).length ≤ 4096 * (l.length + 1)
    rw [List.length_append]; omega
theorem rleaveS_c (r : R8 W h b T size xs G) (hg : ∀ x ∈ xs, SesG x) :
    Runs Tryz.prog 29 #[.pointer (some ⟨b, 0, none⟩)] h fun v h' => RoV W b T size (List.replicate 8 ses0) (leaveP xs) G (fun W' u => v = u) h' := by
  have hxl : xs.length = 8 := by obtain ⟨ps, h1, -⟩ := r; exact h1
  refine vc_muezzinref24_Station_Leave _ _ _ ?_
  intro bu h1 e1 e2
  have r1 := Ru.start r e1 e2
  refine ⟨fun z h' => ∃ k : Nat, z = (k : Int) ∧ k ≤ 8 ∧ Ru W h' b T size (List.replicate k ses0 ++ xs.drop k) (leaveP (xs.take k)) bu 46 G, fun z _ => (8 - z).toNat, ⟨0, rfl, by omega, r1⟩, fun _ => ?_⟩
  clear r1 r
  rintro _ h2 ⟨k, rfl, hk, r⟩
  refine dcase_intro (fun q => ?_) fun q => ?_
  · have hk8 : k < 8 := by omega
    have hxk : xs[k]? = some (xs.getD k ses0) := getD_some hxl hk8
    obtain ⟨x, hxx⟩ : ∃ x, x = xs.getD k ses0 := ⟨_, rfl⟩
    rw [← hxx] at hxk
    have hgx : SesG x := hg x (List.mem_of_getElem? hxk)
    have hxt : (List.replicate k ses0 ++ xs.drop k)[k]? = some x := by
      rw [List.getElem?_append_right (by simp), List.length_replicate, Nat.sub_self, List.getElem?_drop]; exact hxk
    obtain ⟨css, K, rp, back⟩ := r.at hxt
    have hlen := leaveP_len (l := xs.take k) fun y hy => hg y (List.mem_of_mem_take hy)
    rw [List.length_take] at hlen
    refine ⟨⟨by omega, by omega⟩, ?_⟩
    rw [Int.toNat_natCast]
    refine (rleave_c rp hgx.ok.k hgx.nd (by have := hgx.ok.n; omega) (by omega) hgx.ok.s).mono ?_
    rintro _ h3 ⟨z, rp3⟩
    obtain ⟨k1, k2⟩ := rp3.put8 (y := ses0) rfl
    refine ⟨⟨by omega, by omega⟩, ⟨rfl, k1, by intro u hu; simp at hu; rcases hu with rfl | rfl | rfl | rfl | rfl | rfl | rfl | rfl <;> rfl⟩, fun h4 e4 => ?_⟩
    have r4 := back W h4 _ _ (fun _ _ _ e => e) (k2 h4 e4)
    have eset : (List.replicate k ses0 ++ xs.drop k).set k ses0 = List.replicate (k + 1) ses0 ++ xs.drop (k + 1) := by
      rw [List.set_append_right _ _ (by simp), List.length_replicate, Nat.sub_self, List.drop_eq_getElem_cons (show k < xs.length by omega), List.set_cons_zero, List.replicate_succ', List.append_assoc]; rfl
    have etk : leaveP (xs.take k) ++ (upP 4096 x.kept x.start).1 = leaveP (xs.take (k + 1)) := by
      rw [List.take_add_one, hxk, leaveP_app]
      show _ = _ ++ (x.allK ++ [])
      rw [List.append_nil]; rfl
    rw [eset, etk] at r4
    exact ⟨by simp only [fits]; omega, ⟨k + 1, by omega, by omega, r4⟩, by dsimp only; omega⟩
  · obtain rfl : k = 8 := by omega
    rw [List.drop_of_length_le (by omega), List.append_nil, List.take_of_length_le (by omega)] at r
    obtain ⟨ua, uc, hcu⟩ := r.cup
    obtain ⟨ua', uc', hcu', hfin⟩ := r.fin (K := fun W' u => Value.slice ua (leaveP xs).length uc = u) (Wd.le.refl W)
    rw [hcu] at hcu'
    cases hcu'
    exact ⟨_, _, _, hcu, hfin rfl⟩
end
end Go.Proofs.YtepodifionoigaaGreatDoor
