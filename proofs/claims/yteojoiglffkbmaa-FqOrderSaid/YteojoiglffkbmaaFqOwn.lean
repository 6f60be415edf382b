/- The walk of FqOwn: a packet's bytes are its own in a queue, and out of it; a copy goes on as the queue would. -/
import Derived.Test.YteojoiglffkbmaaFqOut
import Derived.Test.YteojoiglffkbmaaFqFresh
import Derived.Test.YteojoiglffkbmaaOpnPk
set_option linter.unusedVariables false
set_option linter.unusedSimpArgs false
namespace Go.Proofs.Yteojoiglffkbmaa
open Go.Vc
/-- The packets of a queue are those of a list, by their numbers. -/
def From (l : List Pk) (ps : List Pk) : Prop := ∀ p ∈ ps, ∃ i x, l[i]? = some x ∧ p.id = (i : Nat) ∧ p.body = x.body
theorem wcnt0 : (qu0 9 1073741824 1073741824).cnt = 0 := by show cntL (List.replicate 16 fl0) = 0; decide
theorem flow0 (s t i : Int) (k : Int) : ((qu0 s t i).flow k).l = [] := by
  unfold Qu.flow qu0
  simp only [List.getElem?_replicate]
  split <;> rfl
section
variable {l : List Pk} {a : Option Addr} {cap : Nat} {vs : List Value} {h : Heap}
theorem pk_cell {W : Wd} {vs : List Value} (hs : src h a (l.length * 5) vs) (hq : Sq (PkV W) l vs) {i : Nat} {x : Pk} (hx : l[i]? = some x) :
    ∃ b o pa pc, a = some ⟨b, o, none⟩ ∧ row h b (o + i * 5) 5 = some [.int .i64 x.id, .int .u32 x.flow, .int .i64 x.tid, .int .i64 x.at_, .slice pa x.body.length pc] ∧ Bts W (.slice pa x.body.length pc) x.body := by
  obtain ⟨cs, hcv, hrow, hrl⟩ := hq.get (fun _ _ => PkV.len) hx
  obtain ⟨pa, pc, rfl, hbt⟩ := hcv
  obtain ⟨b, o, e, hr⟩ := src_part (k := i * 5) (n := 5) hs hrl (by decide) hrow
  exact ⟨b, o, pa, pc, e, hr, hbt⟩
theorem fqOwn_r (n : Int) (hs : src h a (l.length * 5) vs) (hq : Sq (PkV (Wd.of h)) l vs) : Runs Try.prog 6 #[.slice a l.length cap, .int .i64 n] h fun v h' => v = .bool true ∧ Kept h h' := by
  refine vc_muezzinlaw13_FqOwn _ _ _ _ _ _ ((first13_c _).mono ?_)
  rintro _ h1 ⟨rfl, k1⟩
  refine ⟨_, rfl, bcase_false rfl (dcase_intro (fun _ => ⟨rfl, k1⟩) fun hl20 => ?_)⟩
  have hl : l.length ≤ 20 := by omega
  refine (new_c ((Me.start h).on k1) 9 1073741824 1073741824).mono ?_
  rintro _ h2 ⟨b, L, rfl, hv, m⟩
  refine ⟨_, rfl, bcase_false rfl ?_⟩
  -- the puts
  refine ⟨fun x h' => ∃ (i : Nat) (W1 : Wd) (L : Grp) (q : Qu), x = i ∧ i ≤ l.length ∧ (Wd.of h).le W1 ∧ Me W1 h' [L] ∧ QuV W1 b q L ∧ Calm q ∧ Well q ∧ q.cnt = i ∧ From l (allL q.fl), fun x _ => ((l.length : Int) - x).toNat,
    ⟨0, _, L, _, rfl, by omega, Wd.le.refl _, m, hv, calm0 _ _, well0 _ _ _, wcnt0, fun p hp => ?_⟩, fun _ => ?_⟩
  · obtain ⟨k, _, _, h⟩ := (allL_mem (qok0 _ _ _)).1 hp
    rw [flow0] at h; cases h
  clear m hv k1 L
  rintro _ h3 ⟨i, W1, L, q, rfl, hi, hle, m, hv, hc, w, hcn, hfr⟩
  have kk := m.kept hle
  refine dcase_intro (fun q1 => ?_) fun q1 => ?_
  · obtain ⟨x, hx⟩ : ∃ x, l[i]? = some x := ⟨_, List.getElem?_eq_getElem (by omega)⟩
    obtain ⟨sb, so, pa, pc, rfl, hr, hbt⟩ := pk_cell (kk.src hs) hq hx
    have hri := (row_iff.1 hr).2
    have hc4 := hri 4 _ rfl
    refine ⟨⟨by omega, by omega⟩, _, _, _, hc4, dcase_intro (fun _ => ⟨rfl, kk⟩) fun h100 => ⟨⟨by omega, by omega⟩, _, _, _, hc4, ?_⟩⟩
    obtain ⟨hb2, hb3⟩ := (hbt.le kk.le).src
    refine (bytes_c hb2 hb3 (by omega)).mono ?_
    rintro _ h4 ⟨a', c', E', rfl, mk, o'⟩
    have k4 := mk.kept (Wd.le.refl _)
    replace m := m.beside mk
    simp only [List.cons_append, List.nil_append] at m
    have hr4 := pk_cell ((kk.trans k4).src hs) hq hx
    obtain ⟨sb2, so2, pa2, pc2, he2, hr4, hbt2⟩ := hr4
    cases he2
    have hc1 := (row_iff.1 hr4).2 1 _ rfl
    refine ⟨_, _, _, rfl, ⟨by omega, by omega⟩, _, hc1, ?_⟩
    -- the packet
    obtain ⟨p, hp⟩ : ∃ p : Pk, p = ⟨(i : Int), x.flow, 0, 0, x.body⟩ := ⟨_, rfl⟩
    have hpv : PkV (Wd.of h4) p [.int .i64 (i : Int), .int .u32 x.flow, .int .i64 0, .int .i64 0, .slice a' x.body.length c'] := by
      subst hp
      exact ⟨a', c', rfl, a', c', rfl, o'.le, of_src.2 (o'.src1 m 0 rfl)⟩
    have hpl : p.body.length ≤ 1048576 := by subst hp; dsimp only; omega
    have hpa : p.at_ = 0 := by subst hp; rfl
    refine (put_o (m.focus 1 rfl) hv hc.ok hpv hpl (by omega)).mono ?_
    rintro _ h5 ⟨rfl, W2, L2, hle2, hv2, m2⟩
    obtain ⟨hok, hcc⟩ := hc.ok.put (p := p) (by omega) (by omega) hpl (by omega)
    obtain ⟨w2, hfk, hfj⟩ := w.put (p := p) (by omega) (by omega) hpl (by omega)
    refine ⟨_, rfl, ?_⟩
    refine ⟨fun x' h' => ∃ (j : Nat) (xs : List Int) (E : Grp), x' = j ∧ j ≤ x.body.length ∧ xs.length = x.body.length ∧ Ow a' x.body.length c' 1 (ints .u8 xs) E ∧ Me W2 h' (L2 :: E :: []), fun x' _ => ((x.body.length : Int) - x').toNat,
      ⟨0, x.body, E', rfl, by omega, rfl, o', m2⟩, fun _ => ?_⟩
    clear m2 m o'
    rintro _ h6 ⟨j, xs, E, rfl, hj, hxl, o, m⟩
    refine dcase_intro (fun q2 => ?_) fun q2 => ?_
    · obtain ⟨y, hy⟩ : ∃ y, xs[j]? = some y := ⟨_, List.getElem?_eq_getElem (by omega)⟩
      obtain ⟨ab, ao, rfl, hcy⟩ := src_cell (o.src1 m 1 rfl) (ints_get (k := .u8) hy)
      obtain ⟨b3, o3, he3, hw, hst⟩ := o.set1 (k := j) (v := .int .u8 (IntKind.u8.wrap (y + 1))) m 1 rfl (by simp [ints]; omega)
      cases he3
      refine ⟨⟨by omega, by omega⟩, y, hcy, ⟨by omega, by omega⟩, hw, fun h7 e7 => ?_⟩
      obtain ⟨E3, m3, o3'⟩ := hst h7 e7
      refine ⟨by simp only [fits]; omega, ⟨j + 1, xs.set j (IntKind.u8.wrap (y + 1)), E3, by omega, by omega, by simp [hxl], ?_, m3⟩, by dsimp only; omega⟩
      have e : ints .u8 (xs.set j (IntKind.u8.wrap (y + 1))) = (ints .u8 xs).set j (.int .u8 (IntKind.u8.wrap (y + 1))) := by simp [ints, List.map_set]
      rw [e]; exact o3'
    · refine ⟨by simp only [fits]; omega, ⟨i + 1, W2, L2, q.put p, by omega, by omega, hle.trans hle2, m.free 1 rfl, hv2, hc.put hpa hpl (by omega), w2, by omega, fun y hy => ?_⟩, by dsimp only; omega⟩
      obtain ⟨k, k0, k1, hyk⟩ := (allL_mem hok).1 hy
      by_cases hkb : k = bucketZ p.flow q.seed
      · subst hkb
        rw [hfk] at hyk
        rcases List.mem_append.1 hyk with hyk | hyk
        · exact hfr y ((allL_mem hc.ok).2 ⟨_, k0, k1, hyk⟩)
        · simp at hyk; subst hyk
          exact ⟨i, x, hx, by rw [hp], by rw [hp]⟩
      · rw [hfj k k0 hkb] at hyk
        exact hfr y ((allL_mem hc.ok).2 ⟨_, k0, k1, hyk⟩)
  · have hil : i = l.length := by omega
    subst hil
    clear q1 hi kk
    refine (all_o m hv hc.ok).mono ?_
    rintro _ h8 ⟨oa, oc, ov, oE, Fs, rfl, oo, hpo, m⟩
    refine ⟨_, _, _, rfl, ?_⟩
    have hal : (allL q.fl).length = l.length := by rw [allL_len]; exact hcn
    -- all are as they were; then their bytes turn
    refine ⟨fun x h' => ∃ (i : Nat) (ps : List Pk) (Fs : List Grp), x = i ∧ i ≤ l.length ∧ ps.length = l.length ∧ ps.drop i = (allL q.fl).drop i ∧ PksO ps ov Fs ∧ Me W1 h' (oE :: Fs.flatten :: [L]), fun x _ => ((l.length : Int) - x).toNat,
      ⟨0, _, Fs, rfl, by omega, hal, rfl, hpo, m⟩, fun _ => ?_⟩
    clear hpo m Fs
    rintro _ h9 ⟨i, ps, Fs, rfl, hi, hpl, hdr, hpo, m⟩
    rw [hal]
    have kk := m.kept hle
    refine dcase_intro (fun q1 => ?_) fun q1 => ?_
    · obtain ⟨y, hy⟩ : ∃ y, ps[i]? = some y := ⟨_, List.getElem?_eq_getElem (by omega)⟩
      have hya : (allL q.fl)[i]? = some y := by
        have h1 : (ps.drop i)[0]? = some y := by rw [List.getElem?_drop]; simpa using hy
        rw [hdr, List.getElem?_drop] at h1; simpa using h1
      obtain ⟨ix, x, hx, hid, hbd⟩ := hfr y (List.mem_of_getElem? hya)
      have hixl := (List.getElem?_eq_some_iff.1 hx).1
      obtain ⟨ya, yc, F, hF, oy, hrow, hrl, hupd⟩ := hpo.upd hy
      obtain ⟨sb, so, rfl, hr⟩ := src_part (k := i * 5) (n := 5) (oo.src m 0 rfl) hrl (by decide) hrow
      have hc0 := (row_iff.1 hr).2 0 _ rfl
      have hc4 := (row_iff.1 hr).2 4 _ rfl
      rw [Nat.add_zero] at hc0
      obtain ⟨lb, lo, xa, xc, rfl, hrx, hbx⟩ := pk_cell (kk.src hs) hq hx
      have hx4 := (row_iff.1 hrx).2 4 _ rfl
      refine ⟨⟨by omega, by omega⟩, _, hc0, dcase_neg (by omega) ⟨⟨by omega, by omega⟩, _, hc0, dcase_neg (by omega) ⟨⟨by omega, by omega⟩, _, _, _, hc4, ⟨by omega, by omega⟩, _, hc0, ⟨by omega, by omega⟩, ?_⟩⟩⟩
      have e9 : (y.id).toNat = ix := by omega
      refine ⟨_, _, _, by rw [e9]; exact hx4, ?_⟩
      have myF := m.focus 1 rfl
      simp only [List.eraseIdx_cons_zero, List.eraseIdx_cons_succ] at myF
      have mF := myF.pick i hF
      obtain ⟨hbx1, hbx2⟩ := (hbx.le kk.le).src
      have hyl : y.body.length ≤ 1099511627776 := by
        obtain ⟨k, k0, k1, hyk⟩ := (allL_mem hc.ok).1 (List.mem_of_getElem? hya)
        have := ((hc.ok.flow k0 k1).2.p y hyk).2.2
        omega
      refine (sameBytes_c (oy.src1 mF 0 rfl) rfl hbx1 rfl (by omega)).ret ⟨_, rfl, hc0, hc0, hc0, ?_⟩
      refine bcase_false (by rw [hbd]; simp) ?_
      -- the bytes turn
      refine ⟨fun x' h' => ∃ (j : Nat) (xs : List Int) (F' : Grp), x' = j ∧ j ≤ y.body.length ∧ xs.length = y.body.length ∧ Ow ya y.body.length yc 1 (ints .u8 xs) F' ∧ Me W1 h' (F' :: (Fs.eraseIdx i).flatten :: oE :: [L]), fun x' _ => ((y.body.length : Int) - x').toNat,
        ⟨0, y.body, F, rfl, by omega, rfl, oy, mF⟩, fun _ => ?_⟩
      clear mF myF m oy hc0 hc4 hr hrx hx4 hbx1 kk
      rintro _ h11 ⟨j, xs, F', rfl, hj, hxl, o, m⟩
      obtain ⟨sb2, so2, he2, hr⟩ := src_part (k := i * 5) (n := 5) (oo.src m 2 rfl) hrl (by decide) hrow
      cases he2
      have hc4 := (row_iff.1 hr).2 4 _ rfl
      refine ⟨⟨by omega, by omega⟩, _, _, _, hc4, dcase_intro (fun q2 => ?_) fun q2 => ?_⟩
      · obtain ⟨z, hz⟩ : ∃ z, xs[j]? = some z := ⟨_, List.getElem?_eq_getElem (by omega)⟩
        obtain ⟨ab, ao, rfl, hcz⟩ := src_cell (o.src1 m 0 rfl) (ints_get (k := .u8) hz)
        obtain ⟨b3, o3, he3, hw, hst⟩ := o.set1 (k := j) (v := .int .u8 (IntKind.u8.wrap (z + 1))) m 0 rfl (by simp [ints]; omega)
        cases he3
        refine ⟨⟨by omega, by omega⟩, _, _, _, hc4, ⟨by omega, by omega⟩, z, hcz, ⟨by omega, by omega⟩, hw, fun h12 e12 => ?_⟩
        obtain ⟨E3, m3, o3'⟩ := hst h12 e12
        refine ⟨by simp only [fits]; omega, ⟨j + 1, xs.set j (IntKind.u8.wrap (z + 1)), E3, by omega, by omega, by simp [hxl], ?_, m3⟩, by dsimp only; omega⟩
        have e : ints .u8 (xs.set j (IntKind.u8.wrap (z + 1))) = (ints .u8 xs).set j (.int .u8 (IntKind.u8.wrap (z + 1))) := by simp [ints, List.map_set]
        rw [e]; exact o3'
      · refine ⟨by simp only [fits]; omega, ⟨i + 1, _, _, by omega, by omega, by simp [hpl], ?_, hupd xs F' hxl o, (m.unpick i hF).focus 1 rfl⟩, by dsimp only; omega⟩
        rw [List.drop_set_of_lt (by omega)]
        have := congrArg (List.drop 1) hdr
        rwa [List.drop_drop, List.drop_drop] at this
    · clear hpo hdr hpl
      -- a copy
      refine (clone_c (m.drop1.drop1) hv hc.ok).mono ?_
      clear m kk
      rintro _ h13 ⟨W2, b2, L2, hle2, rfl, hv2, m⟩
      have hv1 := hv.le hle2
      replace hle := hle.trans hle2
      refine ⟨_, rfl, by simp only [fits]; omega, (number_c _ _ _ (by omega) (by omega)).ret ⟨_, rfl, ?_⟩⟩
      obtain ⟨N, hN⟩ : ∃ N : Nat, n % ((l.length : Int) + 1) = N := ⟨(n % ((l.length : Int) + 1)).toNat, by have := Int.emod_nonneg n (show (l.length : Int) + 1 ≠ 0 by omega); omega⟩
      have hNl : N ≤ l.length := by have := Int.emod_lt_of_pos n (show 0 < (l.length : Int) + 1 by omega); omega
      rw [hN]
      refine ⟨fun x h' => ∃ (i : Nat) (W1 : Wd) (L L2 : Grp) (q : Qu), x = i ∧ i ≤ N ∧ (Wd.of h).le W1 ∧ Me W1 h' [L2, L] ∧ QuV W1 b q L ∧ QuV W1 b2 q L2 ∧ Calm q ∧ Well q ∧ q.cnt + i = l.length ∧ From l (allL q.fl), fun x _ => ((N : Int) - x).toNat,
        ⟨0, W2, L, L2, q, rfl, by omega, hle, m, hv1, hv2, hc, w, by omega, hfr⟩, fun _ => ?_⟩
      clear m hv1 hv2 hv hc w hcn hfr hal hle hle2 q1 hi oo
      rintro _ h15 ⟨i, W1, L, L2, q, rfl, hi, hle, m, hv, hv2, hc, w, hcn, hfr⟩
      refine dcase_intro (fun q1 => ?_) fun q1 => ?_
      · obtain ⟨q', p, htk, hc', w', hcn', hpm, hsub⟩ := hc.take w (by omega)
        refine (take_c (m.focus 1 rfl) hv hc.ok (by decide) (by decide)).mono ?_
        rw [htk]
        rintro _ h16 ⟨sa, sc, vs1, E1, L3, cs, rfl, hcv, od, hsd, hv3, m3⟩
        obtain ⟨pa, pc, rfl, hbp⟩ := hcv
        refine ⟨_, _, _, _, _, rfl, ?_⟩
        intro b15 h17 e1 e2
        replace m3 := m3.push e2 e1
        clear e1 e2
        refine ⟨⟨rfl, m3.wrsb 0 rfl rfl, by simp [Value.oneCell']⟩, ?_⟩
        intro h18 e3
        replace m3 := m3.setr 0 rfl e3
        clear e3
        refine (take_c ((m3.free 1 rfl).focus 2 rfl) hv2 hc.ok (by decide) (by decide)).mono ?_
        rw [htk]
        rintro _ h19 ⟨sb, sd, vs2, E2, L4, cs2, rfl, hcv2, od2, hsd2, hv4, m4⟩
        obtain ⟨pb, pd, rfl, hbp2⟩ := hcv2
        refine ⟨_, _, _, _, _, rfl, ?_⟩
        intro b16 h20 e1 e2
        replace m4 := m4.push e2 e1
        clear e1 e2
        refine ⟨⟨rfl, m4.wrsb 0 rfl rfl, by simp [Value.oneCell']⟩, ?_⟩
        intro h21 e3
        replace m4 := m4.setr 0 rfl e3
        clear e3
        replace m4 := m4.free 1 rfl
        have ep : (some p).getD pk0 = p := rfl
        rw [ep] at hbp hbp2 m4
        have hpl : p.body.length ≤ 1099511627776 := by
          obtain ⟨k, k0, k1, hyk⟩ := (allL_mem hc.ok).1 hpm
          have := ((hc.ok.flow k0 k1).2.p p hyk).2.2
          omega
        obtain ⟨ix, x, hx, hid, hbd⟩ := hfr p hpm
        have hixl := (List.getElem?_eq_some_iff.1 hx).1
        refine bcase_false rfl (bcase_false rfl ?_)
        refine ⟨_, m4.rowb 2 rfl rfl rfl, _, m4.rowb 0 rfl rfl rfl, ?_⟩
        refine (samePacket_c (p := p) (q := p) ⟨pa, pc, rfl, hbp.le m4.leOf⟩ ⟨pb, pd, rfl, hbp2.le m4.leOf⟩ hpl).mono ?_
        rintro _ h22 ⟨rfl, k22⟩
        replace m4 := m4.on k22
        have kk := m4.kept hle
        refine ⟨_, rfl, bcase_false (by simp) ⟨_, _, _, m4.cell 2 rfl rfl, _, m4.cell 2 rfl rfl, ⟨by rw [hid]; omega, by rw [hid]; omega⟩, ?_⟩⟩
        obtain ⟨lb, lo, xa, xc, rfl, hrx, hbx⟩ := pk_cell (kk.src hs) hq hx
        have hx4 := (row_iff.1 hrx).2 4 _ rfl
        have e9 : (p.id).toNat = ix := by omega
        refine ⟨_, _, _, by rw [e9]; exact hx4, ?_⟩
        obtain ⟨hbx1, hbx2⟩ := (hbx.le kk.le).src
        obtain ⟨hbp3, _⟩ := (hbp.le m4.leOf).src
        refine (sameBytes_c hbp3 rfl hbx1 rfl (by omega)).ret ⟨_, rfl, m4.cell 2 rfl rfl, bcase_false (by rw [hbd]; simp) ?_⟩
        exact ⟨by simp only [fits]; omega, ⟨i + 1, W1, L3, L4, q', by omega, by omega, hle, (m4.free 0 rfl).free 1 rfl, hv3, hv4, hc', w', by omega, fun y hy => hfr y (hsub y hy)⟩, by dsimp only; omega⟩
      · have hiN : i = N := by omega
        subst hiN
        have kk := m.kept hle
        refine ⟨fun x h' => x = true ∧ h' = h15, bcase_true rfl ((len_c (m.focus 1 rfl) hv).ret ⟨_, rfl, by simp only [fits]; omega, ?_, rfl⟩), fun _ => ?_⟩
        · simp; omega
        rintro _ _ ⟨rfl, rfl⟩
        refine bcase_true rfl ((len_c m hv2).ret ⟨_, rfl, by simp only [fits]; omega, ?_, kk⟩)
        congr 1; simp; omega
end
theorem walk_FqOwn (w : World) (a0 : Option Addr) (len0 cap0 : Nat) (o0 : Opn (.slc (.con (.int .i64) (.con (.int .u32) (.con (.int .i64) (.con (.int .i64) (.con (.slc (.int .u8)) .nil)))))) (Wd.of w.heap) [.slice a0 len0 cap0]) (a1 : Int) (w1 : (Lit.int .i64 a1).wf = true) :
    Calls Try.prog 6 #[.slice a0 len0 cap0, .int .i64 a1] w fun e w' => e = .returned (.bool true) ∧ Go.RowKit.Below w.heap.size w w' := by
  obtain ⟨l, vs, rfl, _, h1, h2, _⟩ := opn_pks o0
  exact calls_of_runs (fqOwn_r a1 (of_src.1 h1) h2)
end Go.Proofs.Yteojoiglffkbmaa
