/- The walk of FqPlays: the program's queue and the document's one are one model. -/
import Derived.Test.YteojoiglffkbmaaFqFresh
import Derived.Test.YteojoiglffkbmaaFqOut
import Derived.Test.YteojoiglffkbmaaFqr4
import Derived.Test.YteojoiglffkbmaaOpnPk
set_option linter.unusedVariables false
set_option linter.unusedSimpArgs false
namespace Go.Proofs.Yteojoiglffkbmaa
open Go.Vc
structure Do1 where
  kind : Int
  n : Int
  p : Pk
def DoV (W : Wd) (x : Do1) (cs : List Value) : Prop := ∃ pa pc, cs = [.int .i64 x.kind, .int .i64 x.n, .int .i64 x.p.id, .int .u32 x.p.flow, .int .i64 x.p.tid, .int .i64 x.p.at_, .slice pa x.p.body.length pc] ∧ Bts W (.slice pa x.p.body.length pc) x.p.body
theorem DoV.len {W : Wd} {x : Do1} {cs : List Value} (h : DoV W x cs) : cs.length = 7 := by obtain ⟨a, c, rfl, _⟩ := h; rfl
section
variable {q : Qu} {k : Int} {l : List Do1} {a : Option Addr} {cap : Nat} {vs : List Value} {h : Heap}
theorem mem_allL {l : List Fl} {p : Pk} (h : p ∈ allL l) : ∃ f ∈ l, p ∈ f.l := by
  simp [allL] at h
  obtain ⟨_, ⟨f, hf, rfl⟩, hp⟩ := h
  exact ⟨f, hf, hp⟩
theorem head_len (hq : QOk q) : ((q.head k).getD pk0).body.length ≤ 1048576 := by
  unfold Qu.head
  by_cases hk : 0 ≤ k ∧ k < 16
  · rw [if_pos hk]
    cases he : (q.flow k).l with
    | nil => simp [pk0]
    | cons x r => exact ((hq.flow hk.1 hk.2).2.p x (by rw [he]; simp)).2.2
  · rw [if_neg hk]; simp [pk0]
theorem dropHead_snd : (q.dropHead k).2 = q.head k := by unfold Qu.dropHead; cases q.head k <;> rfl
theorem Well.dropHead (w : Well q) : Well (q.dropHead k).1 ∧ (q.dropHead k).1.cnt ≤ q.cnt := by
  unfold Qu.dropHead
  cases hh : q.head k with
  | none => exact ⟨w, Nat.le_refl _⟩
  | some p =>
    have hk : 0 ≤ k ∧ k < 16 := by
      unfold Qu.head at hh
      by_cases hk : 0 ≤ k ∧ k < 16
      · exact hk
      · rw [if_neg hk] at hh; cases hh
    obtain ⟨k0, k1⟩ := hk
    have hfo := (w.ok.flow k0 k1).2
    have hlt : (q.flow k).l.tail.length ≤ (q.flow k).l.length := by simp
    have hok := w.ok.setF k0 k1 (g := (q.flow k).setL (q.flow k).l.tail) ⟨hfo.c, fun x hx => hfo.p x (List.mem_of_mem_tail hx), hfo.d0, hfo.d1⟩ hlt
    have c3 := cntL_set (g := (q.flow k).setL (q.flow k).l.tail) (w.ok.flow k0 k1).1
    have c1 := setF_cnt q k ((q.flow k).setL (q.flow k).l.tail)
    have e : q.cnt = cntL q.fl := rfl
    simp only [setL_l] at c3
    refine ⟨⟨hok, fun j j0 j1 hj => ?_, fun j j0 j1 p hp => ?_⟩, by dsimp only; omega⟩
    · by_cases h : j = k
      · subst h
        rw [flow_setF w.ok k0 k1] at hj
        refine w.busy j j0 j1 fun e => hj ?_
        simp [e]
      · rw [flow_setF_ne k0 j0 h] at hj
        exact w.busy j j0 j1 hj
    · by_cases h : j = k
      · subst h
        rw [flow_setF w.ok k0 k1] at hp
        exact w.wp j j0 j1 p (List.mem_of_mem_tail hp)
      · rw [flow_setF_ne k0 j0 h] at hp
        exact w.wp j j0 j1 p hp
theorem light_c (hs : src h a (l.length * 7) vs) (hq : Sq (DoV (Wd.of h)) l vs) : Runs Try.prog 25 #[.slice a l.length cap, .int .i64 80] h fun v h' => ∃ t, v = .bool t ∧ h' = h ∧ (t = true → l.length ≤ 80 ∧ ∀ x ∈ l, x.p.body.length ≤ 200) := by
  refine vc_muezzinlaw13_light _ _ _ _ _ _ (dcase_intro (fun _ => ⟨_, rfl, rfl, by simp⟩) fun q0 => ?_)
  refine ⟨fun x h' => h' = h ∧ ∃ k : Nat, x = k ∧ k ≤ l.length ∧ ∀ i x, i < k → l[i]? = some x → x.p.body.length ≤ 200, fun x _ => ((l.length : Int) - x).toNat, ⟨rfl, 0, rfl, by omega, fun i x hi => by omega⟩, fun _ => ?_⟩
  rintro _ h1 ⟨rfl, k, rfl, hk, hal⟩
  refine dcase_intro (fun q1 => ?_) fun q1 => ?_
  · obtain ⟨x, hx⟩ : ∃ x, l[k]? = some x := ⟨_, List.getElem?_eq_getElem (by omega)⟩
    obtain ⟨cs, hcv, hrow, hrl⟩ := hq.get (fun _ _ => DoV.len) hx
    obtain ⟨pa, pc, rfl, hbt⟩ := hcv
    obtain ⟨sb, so, rfl, hr⟩ := src_part (k := k * 7) (n := 7) hs hrl (by decide) hrow
    have h6 := (row_iff.1 hr).2 6 _ rfl
    have h5 := (row_iff.1 hr).2 5 _ rfl
    refine ⟨⟨by omega, by omega⟩, _, _, _, h6, dcase_intro (fun _ => ⟨_, rfl, rfl, by simp⟩) fun q2 => ⟨⟨by omega, by omega⟩, _, h5, dcase_intro (fun _ => ⟨_, rfl, rfl, by simp⟩) fun q3 => ⟨⟨by omega, by omega⟩, _, h5, dcase_intro (fun _ => ⟨_, rfl, rfl, by simp⟩) fun q4 => ?_⟩⟩⟩
    refine ⟨by simp only [fits]; omega, ⟨rfl, k + 1, by omega, by omega, fun i y hi hy => ?_⟩, by (try dsimp only); omega⟩
    by_cases e : i = k
    · subst e; rw [hx] at hy; cases hy; omega
    · exact hal i y (by omega) hy
  · obtain rfl : k = l.length := by omega
    refine ⟨_, rfl, rfl, fun _ => ⟨by omega, fun x hx => ?_⟩⟩
    obtain ⟨i, hi⟩ := List.mem_iff_getElem?.1 hx
    exact hal i x (List.getElem?_eq_some_iff.1 hi).1 hi
set_option maxHeartbeats 2000000
theorem fqPlays_r (seed target interval : Int) (hs : src h a (l.length * 7) vs) (hq : Sq (DoV (Wd.of h)) l vs) :
    Runs Try.prog 7 #[.int .u32 seed, .int .i64 target, .int .i64 interval, .slice a l.length cap] h fun v h' => v = .bool true ∧ Kept h h' := by
  refine vc_muezzinlaw13_FqPlays _ _ _ _ _ _ _ _ ((first13_c _).mono ?_)
  rintro _ h1 ⟨rfl, k1⟩
  refine ⟨_, rfl, bcase_false rfl ?_⟩
  refine ⟨fun x h' => h' = h1 ∧ (x = false → l.length ≤ 80 ∧ ∀ x ∈ l, x.p.body.length ≤ 200), ?_, fun _ => ?_⟩
  · refine (light_c (k1.src hs) (hq.mono fun x cs h => by obtain ⟨pa, pc, e, hb⟩ := h; exact ⟨pa, pc, e, hb.le k1.le⟩)).mono ?_
    rintro _ h2 ⟨t, rfl, rfl, ht⟩
    exact ⟨_, rfl, bcase_intro (fun _ => ⟨rfl, by simp⟩) fun q => ⟨rfl, fun _ => ht (by simpa using q)⟩⟩
  rintro x1 h3 ⟨rfl, hx1⟩
  refine ⟨fun x h' => h' = h3 ∧ (x = false → x1 = false), bcase_intro (fun q => ⟨rfl, by simp⟩) (fun q => ⟨rfl, fun _ => q⟩), fun _ => ?_⟩
  rintro x2 h4 ⟨rfl, hx2⟩
  refine ⟨fun x h' => h' = h4 ∧ (x = false → x2 = false), bcase_intro (fun q => ⟨rfl, by simp⟩) (fun q => ⟨rfl, fun _ => q⟩), fun _ => ?_⟩
  rintro x3 h5 ⟨rfl, hx3⟩
  refine bcase_intro (fun _ => ⟨rfl, k1⟩) fun q3 => dcase_intro (fun _ => ⟨rfl, k1⟩) fun _ => ?_
  obtain ⟨hl, hlb⟩ := hx1 (hx2 (hx3 q3))
  clear hx1 hx2 hx3 q3
  refine (new_c ((Me.start h).on k1) seed target interval).mono ?_
  rintro _ h6 ⟨b, L, rfl, hv, m⟩
  refine ⟨_, rfl, (newr_c m seed target interval).mono ?_⟩
  rintro _ h7 ⟨br, Lr, rfl, hvr, m⟩
  refine ⟨_, rfl, bcase_false rfl ?_⟩
  clear k1
  refine ⟨fun now x h' => ∃ (j : Nat) (W1 : Wd) (L Lr : Grp) (q : Qu), x = j ∧ j ≤ l.length ∧ 0 ≤ now ∧ now ≤ 1048576 * (j : Int) ∧ (Wd.of h).le W1 ∧ Me W1 h' (L :: Lr :: []) ∧ QuV W1 b q L ∧ QrV W1 br q Lr ∧ Well q ∧ q.cnt ≤ j, fun _ x _ => ((l.length : Int) - x).toNat,
    ⟨0, _, L, Lr, _, rfl, by omega, by omega, by omega, Wd.le.refl _, m.focus 1 rfl, hv, hvr, well0 _ _ _, by show cntL (List.replicate 16 fl0) ≤ 0; decide⟩, fun _ => ?_⟩
  clear m hv hvr
  rintro now _ h8 ⟨j, W1, L, Lr, q, rfl, hj, n0, n1, hle, m, hv, hvr, w, hcn⟩
  have kk := m.kept hle
  refine dcase_intro (fun q1 => ?_) fun q1 => ⟨rfl, kk⟩
  obtain ⟨x, hx⟩ : ∃ x, l[j]? = some x := ⟨_, List.getElem?_eq_getElem (by omega)⟩
  have hxb := hlb x (List.mem_of_getElem? hx)
  obtain ⟨cs, hcv, hrow, hrl⟩ := hq.get (fun _ _ => DoV.len) hx
  obtain ⟨pa, pc, rfl, hbt⟩ := hcv
  obtain ⟨sb, so, rfl, hr⟩ := src_part (k := j * 7) (n := 7) (kk.src hs) hrl (by decide) hrow
  refine ⟨⟨by omega, by omega⟩, _, hr, ?_⟩
  intro bD h9 e1 e2
  replace m := m.push e2 e1
  clear e1 e2
  refine ⟨⟨rfl, m.wrsb 0 rfl rfl, by simp [Value.oneCell']⟩, ?_⟩
  intro h10 e3
  replace m := m.setr 0 rfl e3
  clear e3
  obtain ⟨TD, m⟩ : ∃ TD, Me W1 h10 ([(bD, [.int .i64 x.kind, .int .i64 x.n, .int .i64 x.p.id, .int .u32 x.p.flow, .int .i64 x.p.tid, .int .i64 x.p.at_, .slice pa x.p.body.length pc], TD)] :: L :: Lr :: []) := ⟨_, m⟩
  refine (clone_c (m.focus 1 rfl) hv w.ok).mono ?_
  rintro _ h11 ⟨W2, bc, Lc, hle2, rfl, hvc, m2⟩
  clear m kk
  have m := m2
  clear m2
  replace hv := hv.le hle2
  replace hvr := hvr.le hle2
  replace hbt := hbt.le (hle.trans hle2)
  simp only [List.eraseIdx_cons_zero, List.eraseIdx_cons_succ] at m
  refine ⟨_, rfl, (len_c m hvc).ret ⟨_, rfl, ?_⟩⟩
  refine ⟨fun now' h' => ∃ (W3 : Wd) (L Lr : Grp) (q' : Qu) (at' : Int), W2.le W3 ∧ 0 ≤ now' ∧ now' ≤ 1048576 * ((j : Int) + 1) ∧ Me W3 h' (Lc :: L :: [(bD, [.int .i64 x.kind, .int .i64 x.n, .int .i64 x.p.id, .int .u32 x.p.flow, .int .i64 x.p.tid, .int .i64 at', .slice pa x.p.body.length pc], TD)] :: Lr :: []) ∧
    QuV W3 b q' L ∧ QrV W3 br q' Lr ∧ Well q' ∧ q'.cnt ≤ j + 1, ?_, fun _ => ?_⟩
  · refine ⟨_, m.cell 2 rfl rfl, dcase_intro (fun q2 => ?_) fun q2 => ?_⟩
    · (refine m.store 2 rfl (Nat.le_of_ble_eq_true rfl) ?_; clear m; intro _ m; simp only [List.set_cons_zero, List.set_cons_succ] at m)
      refine ⟨_, m.rowb 2 rfl rfl rfl, _, m.rowb 2 rfl rfl rfl, ?_⟩
      have hpl : (⟨x.p.id, x.p.flow, x.p.tid, now, x.p.body⟩ : Pk).body.length ≤ 1048576 := by show x.p.body.length ≤ _; omega
      refine (put_c (m.focus 1 rfl) hv w.ok (p := ⟨x.p.id, x.p.flow, x.p.tid, now, x.p.body⟩) ⟨pa, pc, rfl, hbt⟩ hpl (by omega)).mono ?_
      rintro _ h14 ⟨rfl, W3, L3, hle3, hv3, m3⟩
      refine ⟨_, rfl, m3.rowb 2 rfl rfl rfl, ?_⟩
      have m4 := m3.focus 3 rfl
      refine (putr_c m4 (hvr.le hle3) w.ok (p := ⟨x.p.id, x.p.flow, x.p.tid, now, x.p.body⟩) ⟨pa, pc, rfl, hbt.le (hle3.trans m3.leOf)⟩ hpl (by omega)).mono ?_
      rintro _ h15 ⟨rfl, W4, Lr4, hle4, hvr4, m5⟩
      simp only [List.eraseIdx_cons_zero, List.eraseIdx_cons_succ] at m5
      have hcc := (w.ok.put (p := ⟨x.p.id, x.p.flow, x.p.tid, now, x.p.body⟩) n0 (by show now ≤ _; omega) hpl (by omega)).2
      have hw := (w.put (p := ⟨x.p.id, x.p.flow, x.p.tid, now, x.p.body⟩) n0 (by show now ≤ _; omega) hpl (by omega)).1
      exact ⟨_, rfl, bcase_false (by simp) ⟨W4, L3, Lr4, _, now, hle3.trans hle4, n0, by omega, ((m5.focus 3 rfl).focus 2 rfl).focus 3 rfl, hv3.le hle4, hvr4, hw, by omega⟩⟩
    · refine dcase_intro (fun q3 => ?_) fun q3 => ?_
      · refine ⟨_, m.cell 2 rfl rfl, (number_c _ _ _ (by decide) (by decide)).ret ⟨_, rfl, ?_⟩⟩
        have hb0 := Int.emod_nonneg x.n (show (1048576 : Int) ≠ 0 by decide)
        have hb1 := Int.emod_lt_of_pos x.n (show (0 : Int) < 1048576 by decide)
        obtain ⟨now', hnow⟩ : ∃ y, y = now + x.n % 1048576 := ⟨_, rfl⟩
        rw [← hnow]
        have n0' : 0 ≤ now' := by omega
        have n1' : now' ≤ 1048576 * ((j : Int) + 1) := by omega
        have hlaw := take_law (now := now') n0' (by omega) w
        have hcl := hlaw.cnt w.ok
        refine ⟨by simp only [fits]; omega, (take_c (m.focus 1 rfl) hv w.ok n0' (by omega)).mono ?_⟩
        have tkr := fun (h : Heap) (R : List Grp) (m : Me W2 h (Lr :: R)) => taker_c (now := now') m hvr w.ok n0' (by omega)
        obtain ⟨w', _, _, _, ⟨dd, hdd, hout, hin⟩, _⟩ := hlaw
        generalize q.take now' = ρ at *
        obtain ⟨q', d, r⟩ := ρ
        dsimp only at *
        rw [List.nil_append] at hdd
        obtain rfl : d = dd := hdd
        have hbd : ∀ p ∈ d ++ r.toList, p.body.length ≤ 1048576 := fun p hp => by
          obtain ⟨p0, p1, hpf⟩ := hin p hp
          exact ((w.ok.flow p0 p1).2.p p hpf).2.2
        have hrb : (r.getD pk0).body.length ≤ 1048576 := by
          cases r with
          | none => simp [pk0]
          | some y => exact hbd y (by simp)
        rintro _ h17 ⟨sa, sc, vs1, E1, L3, cs, rfl, hcv, od, hsd1, hv3, m3⟩
        have hcv0 := hcv
        obtain ⟨pa1, pc1, rfl, hbp⟩ := hcv
        refine ⟨_, _, _, _, _, rfl, ?_⟩
        intro b3 h18 e1 e2
        replace m3 := m3.push e2 e1
        refine ⟨⟨rfl, m3.wrsb 0 rfl rfl, by simp [Value.oneCell']⟩, ?_⟩
        intro h19 e3
        replace m3 := m3.setr 0 rfl e3
        clear e1 e2 e3
        refine (tkr _ _ (m3.focus 5 rfl)).mono ?_
        rintro _ h20 ⟨sa2, sc2, vs2, E2, Lr3, cs, rfl, hcv2, od2, hsd2, hvr3, m4⟩
        obtain ⟨pa2, pc2, rfl, hbp2⟩ := hcv2
        refine ⟨_, _, _, _, _, rfl, ?_⟩
        intro b4 h21 e1 e2
        replace m4 := m4.push e2 e1
        refine ⟨⟨rfl, m4.wrsb 0 rfl rfl, by simp [Value.oneCell']⟩, ?_⟩
        intro h22 e3
        replace m4 := m4.setr 0 rfl e3
        clear e1 e2 e3 m3 m
        simp only [List.set_cons_zero, List.eraseIdx_cons_zero, List.eraseIdx_cons_succ] at m4
        have r1 := m4.rowb (o := 0) (n := 5) 3 rfl rfl rfl
        have r2' := m4.rowb (o := 0) (n := 5) 0 rfl rfl rfl
        refine ⟨fun x h' => x = false ∧ Kept h22 h', bcase_false (by simp) ⟨_, r1, _, r2', (samePacket_c (p := r.getD pk0) (q := r.getD pk0) ⟨pa1, pc1, rfl, hbp.le m4.leOf⟩ ⟨pa2, pc2, rfl, hbp2.le m4.leOf⟩ (by omega)).mono ?_⟩, fun _ => ?_⟩
        · rintro _ h23 ⟨rfl, k23⟩
          exact ⟨_, rfl, by simp, k23⟩
        rintro _ h24 ⟨rfl, k24⟩
        replace m4 := m4.on k24
        refine bcase_false rfl ((samePackets_c (l := d.length) (r := d.length) (ps := d) (qs := d) (od.src m4 4 rfl) (hsd1.mono fun _ _ h => h.le m4.leOf) rfl (od2.src m4 1 rfl) (hsd2.mono fun _ _ h => h.le m4.leOf) rfl (by simp at hcl; omega) (fun p hp => by have := hbd p (by simp [hp]); omega)).mono ?_)
        rintro _ h25 ⟨rfl, k25⟩
        replace m4 := m4.on k25
        refine ⟨_, rfl, bcase_false (by simp) ⟨W2, L3, Lr3, q', x.p.at_, Wd.le.refl _, n0', n1', (((((((m4.free 0 rfl).free 0 rfl).free 1 rfl).free 1 rfl)).focus 3 rfl).focus 2 rfl).focus 3 rfl, hv3, hvr3, w', by omega⟩⟩
      · have hdl := w.dropHead (k := x.n)
        have hdb : ((q.dropHead x.n).2.getD pk0).body.length ≤ 1048576 := by rw [dropHead_snd]; exact head_len w.ok
        refine ⟨_, m.cell 2 rfl rfl, (dropHead_c (m.focus 1 rfl) hv w.ok).mono ?_⟩
        have dhr := fun (W3 : Wd) (h : Heap) (R : List Grp) (hl : W2.le W3) (m : Me W3 h (Lr :: R)) => dropHeadr_c (k := x.n) m (hvr.le hl) w.ok
        generalize q.dropHead x.n = ρ at *
        obtain ⟨q', r⟩ := ρ
        dsimp only at *
        rintro _ h26 ⟨W3, cs, L3, hle3, rfl, hcv, hv3, m3⟩
        obtain ⟨pa1, pc1, rfl, hbp⟩ := hcv
        refine ⟨_, _, rfl, ?_⟩
        intro b5 h27 e1 e2
        replace m3 := m3.push e2 e1
        refine ⟨⟨rfl, m3.wrsb 0 rfl rfl, by simp [Value.oneCell']⟩, ?_⟩
        intro h28 e3
        replace m3 := m3.setr 0 rfl e3
        clear e1 e2 e3
        refine ⟨_, m3.cell 3 rfl rfl, (dhr _ _ _ hle3 (m3.focus 4 rfl)).mono ?_⟩
        rintro _ h29 ⟨W4, cs, Lr4, hle4, rfl, hcv2, hvr4, m4⟩
        obtain ⟨pa2, pc2, rfl, hbp2⟩ := hcv2
        refine ⟨_, _, rfl, ?_⟩
        intro b6 h30 e1 e2
        replace m4 := m4.push e2 e1
        refine ⟨⟨rfl, m4.wrsb 0 rfl rfl, by simp [Value.oneCell']⟩, ?_⟩
        intro h31 e3
        replace m4 := m4.setr 0 rfl e3
        clear e1 e2 e3 m3 m
        simp only [List.set_cons_zero, List.eraseIdx_cons_zero, List.eraseIdx_cons_succ] at m4
        have r1 := m4.rowb (o := 0) (n := 5) 2 rfl rfl rfl
        have r2' := m4.rowb (o := 0) (n := 5) 0 rfl rfl rfl
        refine bcase_false (by simp) ⟨_, r1, _, r2', (samePacket_c (p := r.getD pk0) (q := r.getD pk0) ⟨pa1, pc1, rfl, (hbp.le hle4).le m4.leOf⟩ ⟨pa2, pc2, rfl, hbp2.le m4.leOf⟩ (by omega)).mono ?_⟩
        rintro _ h32 ⟨rfl, k32⟩
        replace m4 := m4.on k32
        exact ⟨_, rfl, bcase_false (by simp) ⟨W4, L3, Lr4, q', x.p.at_, hle3.trans hle4, n0, by omega, (((((m4.free 0 rfl).free 1 rfl)).focus 3 rfl).focus 2 rfl).focus 3 rfl, hv3.le hle4, hvr4, hdl.1, by omega⟩⟩
  clear m hv hvr
  rintro now2 h33 ⟨W3, L3, Lr3, q', at', hle3, n0', n1', m, hv, hvr, w', hcn'⟩
  replace hvc := hvc.le hle3
  have hok := w'.ok
  have hdb : ((q'.head x.n).getD pk0).body.length ≤ 1048576 := head_len hok
  refine (fattest_c (m.focus 1 rfl) hv hok).ret ⟨_, _, rfl, (fattestr_c (m.focus 3 rfl) hvr hok).ret ⟨_, _, rfl, _, m.cell 2 rfl rfl, ?_⟩⟩
  refine (head_c (k := x.n) (m.focus 1 rfl) hv hok).mono ?_
  rintro _ h36 ⟨W4, cs, hle4, rfl, hcv, m3⟩
  obtain ⟨pa1, pc1, rfl, hbp⟩ := hcv
  refine ⟨_, _, rfl, ?_⟩
  intro b7 h37 e1 e2
  replace m3 := m3.push e2 e1
  refine ⟨⟨rfl, m3.wrsb 0 rfl rfl, by simp [Value.oneCell']⟩, ?_⟩
  intro h38 e3
  replace m3 := m3.setr 0 rfl e3
  clear e1 e2 e3
  refine ⟨_, m3.cell 3 rfl rfl, (headr_c (k := x.n) (m3.focus 4 rfl) (hvr.le hle4) hok).mono ?_⟩
  rintro _ h39 ⟨W5, cs, hle5, rfl, hcv2, m4⟩
  obtain ⟨pa2, pc2, rfl, hbp2⟩ := hcv2
  refine ⟨_, _, rfl, ?_⟩
  intro b8 h40 e1 e2
  replace m4 := m4.push e2 e1
  refine ⟨⟨rfl, m4.wrsb 0 rfl rfl, by simp [Value.oneCell']⟩, ?_⟩
  intro h41 e3
  replace m4 := m4.setr 0 rfl e3
  clear e1 e2 e3 m3 m
  simp only [List.set_cons_zero, List.eraseIdx_cons_zero, List.eraseIdx_cons_succ] at m4
  have r1 := m4.rowb (o := 0) (n := 5) 2 rfl rfl rfl
  have r2' := m4.rowb (o := 0) (n := 5) 0 rfl rfl rfl
  refine ⟨fun x h' => x = false ∧ h' = h41, bcase_false (by simp) ⟨by simp, rfl⟩, fun _ => ?_⟩
  rintro _ h42 ⟨rfl, rfl⟩
  refine ⟨fun x h' => x = false ∧ h' = h42, bcase_false rfl ⟨by simp, rfl⟩, fun _ => ?_⟩
  rintro _ h43 ⟨rfl, rfl⟩
  refine ⟨fun x h' => x = false ∧ Kept h43 h', bcase_false rfl ⟨_, r1, _, r2', (samePacket_c (p := (q'.head x.n).getD pk0) (q := (q'.head x.n).getD pk0) ⟨pa1, pc1, rfl, (hbp.le hle5).le m4.leOf⟩ ⟨pa2, pc2, rfl, hbp2.le m4.leOf⟩ (by omega)).mono ?_⟩, fun _ => ?_⟩
  · rintro _ h44 ⟨rfl, k44⟩
    exact ⟨_, rfl, by simp, k44⟩
  rintro _ h45 ⟨rfl, k45⟩
  have m := ((m4.on k45).free 0 rfl).free 1 rfl
  clear m4 r1 r2' k45
  simp only [List.eraseIdx_cons_zero, List.eraseIdx_cons_succ] at m
  replace hv := hv.le (hle4.trans hle5)
  replace hvr := hvr.le (hle4.trans hle5)
  replace hvc := hvc.le (hle4.trans hle5)
  have hcnt := hok.cnt
  obtain ⟨D, m⟩ : ∃ D, Me W5 h45 (Lr3 :: L3 :: Lc :: D :: []) := ⟨_, m⟩
  refine ⟨fun x h' => x = false ∧ Me W5 h' (Lr3 :: L3 :: Lc :: D :: []), bcase_false rfl ((len_c (m.focus 1 rfl) hv).ret ⟨_, rfl, (lenr_c m hvr hok).mono ?_⟩), fun _ => ?_⟩
  · rintro _ h47 ⟨rfl, m2⟩
    exact ⟨_, rfl, by simp, m2⟩
  clear m
  rintro _ h48 ⟨rfl, m⟩
  refine ⟨fun x h' => x = false ∧ h' = h48, bcase_false rfl ((bytesq_c (m.focus 1 rfl) hv).ret ⟨_, rfl, (bytesr_c m hvr hok).ret ⟨_, rfl, by simp, rfl⟩⟩), fun _ => ?_⟩
  rintro _ h51 ⟨rfl, rfl⟩
  refine ⟨fun x h' => x = false ∧ ∃ W6, W5.le W6 ∧ Me W6 h' (Lr3 :: L3 :: Lc :: D :: []), bcase_false rfl ((all_c (m.focus 1 rfl) hv hok).mono ?_), fun _ => ?_⟩
  · rintro _ h52 ⟨W6, s3, s3c, vs3, E3, hle6, rfl, o3, hs3, m2⟩
    refine ⟨_, _, _, rfl, (allr_c (m2.focus 2 rfl) (hvr.le hle6) hok).mono ?_⟩
    rintro _ h53 ⟨s4, s4c, vs4, E4, rfl, o4, hs4, m3⟩
    simp only [List.eraseIdx_cons_zero, List.eraseIdx_cons_succ] at m3
    have hal := allL_len q'.fl
    have ecn : q'.cnt = cntL q'.fl := rfl
    refine ⟨_, _, _, rfl, (samePackets_c (l := (allL q'.fl).length) (r := (allL q'.fl).length) (ps := allL q'.fl) (qs := allL q'.fl) (o3.src m3 2 rfl) (hs3.mono fun _ _ h => h.le m3.leOf) rfl (o4.src m3 0 rfl) (hs4.mono fun _ _ h => h.le m3.leOf) rfl (by omega) (fun p hp => ?_)).mono ?_⟩
    · obtain ⟨f, hf, hpf⟩ := mem_allL hp
      have := ((hok.f f hf).p p hpf).2.2
      omega
    · rintro _ h54 ⟨rfl, k54⟩
      exact ⟨_, rfl, by simp, W6, hle6, ((m3.on k54).free 0 rfl).free 1 rfl⟩
  clear m
  rintro _ h55 ⟨rfl, W6, hle6, m⟩
  replace hv := hv.le hle6
  replace hvr := hvr.le hle6
  replace hvc := hvc.le hle6
  refine bcase_false rfl ((len_c (m.focus 2 rfl) hvc).ret ⟨_, rfl, bcase_false (by simp) ?_⟩)
  exact ⟨by simp only [fits]; omega, ⟨j + 1, W6, L3, Lr3, q', by omega, by omega, n0', by omega, hle.trans (hle2.trans (hle3.trans ((hle4.trans hle5).trans hle6))), (((m.free 3 rfl).free 2 rfl).focus 1 rfl), hv, hvr, w', hcn'⟩, by (try dsimp only); omega⟩
end
theorem opn_do {W : Wd} {cs : List Value} (o : Opn (.con (.int .i64) (.con (.int .i64) (.con pkS .nil))) W cs) : ∃ x, DoV W x cs := by
  obtain ⟨hl, ⟨kd, e1, _⟩, _, ⟨n, e2, _⟩, _, op, _⟩ := o
  match cs, hl with
  | [c0, c1, c2, c3, c4, c5, c6], _ =>
    obtain ⟨p, ⟨pa, pc, e3, hb⟩, _⟩ := opn_pk op
    simp [Sh1.size, pkS] at e1 e2 e3
    obtain ⟨rfl, rfl, rfl, rfl, rfl⟩ := e3
    subst e1 e2
    exact ⟨⟨kd, n, p⟩, pa, pc, rfl, hb⟩
theorem opn_dos {W : Wd} {a : Option Addr} {len cap : Nat} (o : Opn (.slc (.con (.int .i64) (.con (.int .i64) (.con pkS .nil)))) W [.slice a len cap]) : ∃ (l : List Do1) (vs : List Value), l.length = len ∧ wsrc W a (len * 7) vs ∧ Sq (DoV W) l vs := by
  obtain ⟨a', len', cap', vs, e, h1, h2, h3, h4, h5⟩ := o
  cases e
  obtain ⟨l, hl, hx⟩ := choose_l len fun i hi => opn_do (h5 i hi)
  exact ⟨l, vs, hl, h4, sq_of (by rw [hl]; exact h3) fun i x hi => hx i x hi⟩
theorem walk_FqPlays (w : World) (a0 : Int) (w0 : (Lit.int .u32 a0).wf = true) (a1 : Int) (w1 : (Lit.int .i64 a1).wf = true) (a2 : Int) (w2 : (Lit.int .i64 a2).wf = true) (a3 : Option Addr) (len3 cap3 : Nat) (o3 : Opn (.slc (.con (.int .i64) (.con (.int .i64) (.con (.con (.int .i64) (.con (.int .u32) (.con (.int .i64) (.con (.int .i64) (.con (.slc (.int .u8)) .nil))))) .nil)))) (Wd.of w.heap) [.slice a3 len3 cap3]) :
    Calls Try.prog 7 #[.int .u32 a0, .int .i64 a1, .int .i64 a2, .slice a3 len3 cap3] w fun e w' => e = .returned (.bool true) ∧ Go.RowKit.Below w.heap.size w w' := by
  obtain ⟨l, vs, rfl, h1, h2⟩ := opn_dos o3
  exact calls_of_runs (fqPlays_r a0 a1 a2 (of_src.1 h1) h2)
end Go.Proofs.Yteojoiglffkbmaa
