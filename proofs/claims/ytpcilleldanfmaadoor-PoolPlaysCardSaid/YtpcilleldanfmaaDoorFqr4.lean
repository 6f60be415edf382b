/- The document's queue: Take. -/
import Derived.Test.YtpcilleldanfmaaDoorFqr3
set_option linter.unusedVariables false
set_option linter.unusedSimpArgs false
namespace Go.Proofs.YtpcilleldanfmaaDoor
open Go.Vc
def TakeR (W : Wd) (R : List Grp) (b b1 : Nat) (now : Int) (res : Qu × List Pk × Option Pk) (n : Nat) (da : Option Addr) (dl dc : Nat) (h' : Heap) : Prop :=
  ∃ (q : Qu) (d : List Pk) (vs : List Value) (E L : Grp) (T : TypeId), takeN now n q d = res ∧ q.meas < n ∧ QOk q ∧ dl = d.length ∧ d.length + q.cnt ≤ 1048576 ∧ Ow da dl dc 5 vs E ∧ Sq (PkV W) d vs ∧ QrV W b q L ∧
    Me W h' (L :: [(b1, [.int .i64 0, .int .u32 0, .int .i64 0, .int .i64 0, .slice none 0 0], T)] :: E :: R)
set_option maxHeartbeats 1000000
section
variable {W W' : Wd} {h h' : Heap} {G R : List Grp} {L E E0 Ef Ee : Grp} {B : Grp} {Es : List Grp} {css : List (List Value)} {q : Qu} {f g : Fl} {k d : Int} {b n : Nat} {cs : List Value} {p : Pk} {r l : List Pk} {vs : List Value} {a : Option Addr}
theorem taker_c {now : Int} {q0 : Qu} (m : Me W h (L :: R)) (hv : QrV W b q0 L) (hq : QOk q0) (n0 : 0 ≤ now) (n1 : now ≤ 1125899906842624) :
    Runs Tryd.prog 49 #[.pointer (some ⟨b, 0, none⟩), .int .i64 now] h fun v h' => ∃ a c vs E L' cs, v = .tuple #[.agg cs.toArray, .slice a (q0.take now).2.1.length c, .bool (q0.take now).2.2.isSome] ∧
      PkV W ((q0.take now).2.2.getD pk0) cs ∧ Ow a (q0.take now).2.1.length c 5 vs E ∧ Sq (PkV W) (q0.take now).2.1 vs ∧ QrV W b (q0.take now).1 L' ∧ Me W h' (E :: L' :: R) := by
  refine vc_muezzinref8_Queue_Take _ _ _ _ ?_
  (intro bN hN1 eN1 eN2; replace m := m.push eN2 eN1; clear eN1 eN2)
  have hJ0 : TakeR W R b bN now (q0.take now) (q0.meas + 1) none 0 0 hN1 := ⟨q0, [], [], [], L, _, rfl, by omega, hq, rfl, by simpa using hq.cnt, Ow.nil, rfl, hv, (m.nilI.focus 1 rfl).focus 2 rfl⟩
  generalize q0.take now = res at *
  refine ⟨fun da dl dc h' => ∃ n, TakeR W R b bN now res n da dl dc h', fun da dl dc h' => lea fun n => TakeR W R b bN now res n da dl dc h', ⟨_, hJ0⟩, fun _ => ?_⟩
  clear m hv hq hJ0
  intro da dl dc h2 hJ
  obtain ⟨n, ⟨q, d, vsd, Ed, L, T, htk, hms, hq, hdl, hsum, od, hsd, hv, m⟩, hn⟩ := lea_spec hJ
  subst dl
  obtain ⟨n, rfl⟩ : ∃ k, n = k + 1 := ⟨n - 1, by omega⟩
  clear hJ
  have hls := hq.lens
  obtain ⟨fa, fc, hfr, hfs⟩ := hv.fresh m
  obtain ⟨ea, ec, hel, hes⟩ := hv.elder m
  refine ⟨_, _, _, hfr, _, _, _, hel, by simp only [fits]; omega, ?_⟩
  refine dcase_intro (fun q1 => ?_) fun q1 => ?_
  rotate_left
  · have hf : q.fresh = [] := List.eq_nil_of_length_eq_zero (by omega)
    have he : q.elder = [] := List.eq_nil_of_length_eq_zero (by omega)
    refine ⟨⟨rfl, m.wrsb 1 rfl rfl, by simp [Value.oneCell']⟩, ?_⟩
    intro h3 e3
    replace m := m.setr 1 rfl e3
    refine ⟨_, m.rowb 1 rfl rfl rfl, ?_⟩
    rw [takeN_none (by unfold Qu.turn; rw [hf, he]; rfl)] at htk
    rw [← htk]
    exact ⟨_, _, _, Ed, L, _, rfl, PkV.zero, od, hsd, hv, (m.free 1 rfl).focus 1 rfl⟩
  refine ⟨_, _, _, hfr, fun x h' => h' = h2 ∧ q.turn = some x, ?_, fun _ => ?_⟩
  · refine dcase_intro (fun q2 => ?_) fun q2 => ?_
    · obtain ⟨k, re, hke⟩ := List.exists_cons_of_ne_nil (l := q.fresh) (by rintro e; rw [e] at q2; simp at q2)
      obtain ⟨sb, so, rfl, hr⟩ := src_cell (k := 0) (v := .int .i64 k) hfs (by rw [hke]; rfl)
      exact ⟨_, _, _, hfr, ⟨by omega, by omega⟩, k, hr, rfl, by unfold Qu.turn; rw [hke]⟩
    · have hf : q.fresh = [] := List.eq_nil_of_length_eq_zero (by omega)
      obtain ⟨k, re, hke⟩ := List.exists_cons_of_ne_nil (l := q.elder) (by rintro e; rw [e, hf] at q1; simp at q1)
      obtain ⟨sb, so, rfl, hr⟩ := src_cell (k := 0) (v := .int .i64 k) hes (by rw [hke]; rfl)
      exact ⟨_, _, _, hel, ⟨by omega, by omega⟩, k, hr, rfl, by unfold Qu.turn; rw [hf, hke]; rfl⟩
  clear q1
  rintro k h3 ⟨rfl, ht⟩
  obtain ⟨k0, k1⟩ := hq.b k (turn_mem ht)
  have hfo := (hq.flow k0 k1).2
  have hfcn := hq.fcnt k0 k1
  have hd0 := hfo.d0
  have hd1 := hfo.d1
  refine ⟨⟨k0, by omega⟩, _, hv.deficit m hq k0 k1, dcase_intro (fun hd => ?_) fun hd => ?_⟩
  · refine ⟨_, hv.deficit m hq k0 k1, by simp only [fits]; omega, hv.setD m hq k0 k1 fun h4 L1 hv1 m1 => ?_⟩
    have hok1 := hq.setF k0 k1 (setD_ok hfo (d := (q.flow k).deficit + 300) (by omega) (by omega)) (by simp)
    obtain ⟨fa1, fc1, hfr1, hfs1⟩ := hv1.fresh m1
    refine ⟨_, _, _, hfr1, (del_c hfs1 rfl (by show q.fresh.length ≤ _; omega)).mono ?_⟩
    rintro _ h5 ⟨a2, c2, E2, rfl, mk, o2⟩
    replace m1 := (m1.beside mk).focus 1 rfl
    clear mk
    refine ⟨_, _, _, rfl, hv1.setFresh m1 rfl o2 fun h6 L2 hv2 m2 => ?_⟩
    obtain ⟨ea2, ec2, hel2, hes2⟩ := hv2.elder m2
    refine ⟨_, _, _, hel2, (del_c hes2 rfl (by show q.elder.length ≤ _; omega)).mono ?_⟩
    rintro _ h7 ⟨a3, c3, E3, rfl, mk, o3⟩
    replace m2 := m2.beside mk
    clear mk
    refine ⟨_, _, _, rfl, ?_⟩
    have hdl3 : (delZ k q.elder).length ≤ q.elder.length := List.length_filter_le _ _
    refine o3.app1 m2 0 rfl rfl (by simp [Value.oneCell']) (by show ((delZ k q.elder).length + 1) * 8 ≤ _; omega) (by decide) fun a4 c4 E4 h9 m' o4 => ?_
    replace m' := m'.focus 1 rfl
    have o5 : Ow a4 ((delZ k q.elder).length + 1) c4 1 (ints .i64 (delZ k q.elder ++ [k])) E4 := by rw [ints_app]; exact o4
    refine hv2.setElder m' (by simp) o5 fun h10 L3 hv3 m3 => ?_
    have e := del_pop (q := q.setF k ((q.flow k).setD ((q.flow k).deficit + 300))) hok1 ht
    have e2 : (((q.setF k ((q.flow k).setD ((q.flow k).deficit + 300))).setFr (delZ k q.fresh)).setEl (delZ k q.elder ++ [k])) = ((q.setF k ((q.flow k).setD ((q.flow k).deficit + 300))).popT).addE k := by rw [← e]; rfl
    have hv4 : QrV W b (((q.setF k ((q.flow k).setD ((q.flow k).deficit + 300))).popT).addE k) L3 := by rw [← e2]; exact hv3
    rw [takeN_turn ht hd] at htk
    have hnot := popT_not hok1 (k := k) ht
    exact lea_next hn (k := n) ⟨_, d, vsd, Ed, L3, T, htk, by have := meas_turn hq ht hd; omega, (hok1.popT).addE hnot k0 k1, rfl, by rw [addE_cnt, popT_cnt, setD_cnt hq k0 k1]; exact hsum, od, hsd, hv4, m3⟩ (by omega)
  · obtain ⟨hE5, hI, hbd, hpos, his⟩ := pull_facts (tg := q.tg) (iv := q.iv) hfo (by omega) n0 n1
    obtain ⟨sa, sc, vsf, hsf, hfk⟩ := hv.flowK hq k0 k1
    have hil : (itemsP (q.flow k).l).length = (q.flow k).l.length := by simp [itemsP]
    refine ⟨fun x j is h' => ∃ (bc : Nat) (Tc : TypeId), x = some ⟨bc, 0, none⟩ ∧ j = ((runP q.tg q.iv now (q.flow k)).1.pos : Nat) ∧ is = (runP q.tg q.iv now (q.flow k)).2 ∧
      Me W h' ([(bc, cV (runP q.tg q.iv now (q.flow k)).1, Tc)] :: L :: [(bN, [.int .i64 0, .int .u32 0, .int .i64 0, .int .i64 0, .slice none 0 0], T)] :: Ed :: R), ?_, fun _ => ?_⟩
    · have cells : ∀ {h1 : Heap} {R1 : List Grp}, Me W h1 (L :: R1) → row h1 b (3 + k.toNat * 7 + 2) 5 = some (cV (q.flow k).c) ∧ cell h1 b 1 = some (.int .i64 q.tg) ∧ cell h1 b 2 = some (.int .i64 q.iv) ∧ cell h1 b (3 + k.toNat * 7) = some (.slice sa (q.flow k).l.length sc) ∧ src h1 sa ((q.flow k).l.length * 5) vsf := fun m =>
        ⟨hv.codel m hq k0 k1, (hv.tg m).1, (hv.tg m).2.1, (hfk m).1, (hfk m).2⟩
      obtain ⟨x1, x2, x3, x4, x5⟩ := cells m
      refine ⟨_, x1, _, x2, _, x3, _, _, _, x4, ?_, ?_⟩
      · refine (hv.fbytes m hq k0 k1).ret ⟨_, rfl, x4, x3, x2, x1, ?_, ?_⟩
        · refine (items_c x5 hsf (by omega)).mono ?_
          rintro _ h12 ⟨ia, ic, Ei, rfl, mk, oi⟩
          replace m := m.beside mk
          obtain ⟨y1, y2, y3, y4, y5⟩ := cells (m.focus 1 rfl)
          refine ⟨_, _, _, rfl, y3, y2, y1, ?_, ?_⟩
          · have p1 := refpull_c (cap := ic) (c := (q.flow k).c) hE5 (itm_of (oi.src m 0 rfl)) hI
            rw [hil] at p1
            refine p1.mono ?_
            rintro _ h13 ⟨rfl, kk⟩
            replace m := m.on kk
            refine ⟨_, _, _, rfl, ?_⟩
            intro b5 h14 e1 e2
            replace m := m.push e2 e1
            refine ⟨⟨rfl, m.wrsb 0 rfl rfl, by simp [cV, Value.oneCell']⟩, ?_⟩
            intro h15 e3
            replace m := m.setr 0 rfl e3
            exact ⟨_, _, rfl, rfl, rfl, m.free 1 rfl⟩
          · intro b6 h16 e1 e2
            replace m := m.push e2 e1
            have p1 := refpull_c (cap := ic) (c := (q.flow k).c) hE5 (itm_of (oi.src m 1 rfl)) hI
            rw [hil] at p1
            refine p1.mono ?_
            rintro _ h13 ⟨rfl, kk⟩
            replace m := m.on kk
            refine ⟨_, _, _, rfl, ?_⟩
            refine ⟨⟨rfl, m.wrsb 0 rfl rfl, by simp [cV, Value.oneCell']⟩, ?_⟩
            intro h15 e3
            replace m := m.setr 0 rfl e3
            exact ⟨_, _, rfl, rfl, rfl, m.free 1 rfl⟩
        · intro b7 h19 e1 e2
          replace m := m.push e2 e1
          obtain ⟨z1, z2, z3, z4, z5⟩ := cells (m.focus 1 rfl)
          refine (items_c z5 hsf (by omega)).mono ?_
          rintro _ h12 ⟨ia, ic, Ei, rfl, mk, oi⟩
          replace m := m.beside mk
          obtain ⟨y1, y2, y3, y4, y5⟩ := cells (m.focus 2 rfl)
          refine ⟨_, _, _, rfl, y3, y2, y1, ?_⟩
          have p1 := refpull_c (cap := ic) (c := (q.flow k).c) hE5 (itm_of (oi.src m 0 rfl)) hI
          rw [hil] at p1
          refine p1.mono ?_
          rintro _ h13 ⟨rfl, kk⟩
          replace m := m.on kk
          refine ⟨_, _, _, rfl, ?_⟩
          refine ⟨⟨rfl, m.wrsb 1 rfl rfl, by simp [cV, Value.oneCell']⟩, ?_⟩
          intro h15 e3
          replace m := m.setr 1 rfl e3
          exact ⟨_, _, rfl, rfl, rfl, m.free 0 rfl⟩
      · intro b8 h23 e1 e2
        replace m := m.push e2 e1
        have mf := m.focus 1 rfl
        obtain ⟨z1, z2, z3, z4, z5⟩ := cells mf
        refine (hv.fbytes mf hq k0 k1).ret ⟨_, rfl, z4, z3, z2, z1, ?_⟩
        refine (items_c z5 hsf (by omega)).mono ?_
        rintro _ h12 ⟨ia, ic, Ei, rfl, mk, oi⟩
        replace m := m.beside mk
        obtain ⟨y1, y2, y3, y4, y5⟩ := cells (m.focus 2 rfl)
        refine ⟨_, _, _, rfl, y3, y2, y1, ?_⟩
        have p1 := refpull_c (cap := ic) (c := (q.flow k).c) hE5 (itm_of (oi.src m 0 rfl)) hI
        rw [hil] at p1
        refine p1.mono ?_
        rintro _ h13 ⟨rfl, kk⟩
        replace m := m.on kk
        refine ⟨_, _, _, rfl, ?_⟩
        refine ⟨⟨rfl, m.wrsb 1 rfl rfl, by simp [cV, Value.oneCell']⟩, ?_⟩
        intro h15 e3
        replace m := m.setr 1 rfl e3
        exact ⟨_, _, rfl, rfl, rfl, m.free 0 rfl⟩
    clear m
    rintro _ _ _ h28 ⟨bc, Tc, rfl, rfl, rfl, m⟩
    have hrow : Go.Vc.row h28 bc 0 5 = some (cV (runP q.tg q.iv now (q.flow k)).1) := m.rowb 0 rfl rfl rfl
    replace m := m.drop1
    obtain ⟨hws, hsetc⟩ := hv.setC (c' := (runP q.tg q.iv now (q.flow k)).1) m hq k0 k1
    refine ⟨_, hrow, ⟨rfl, hws, by simp [cV, Value.oneCell']⟩, ?_⟩
    intro h29 e3
    obtain ⟨L1, hv1, m1⟩ := hsetc _ e3
    clear hrow hws hsetc e3 m
    have m := m1
    clear m1
    have hok2 := hq.setF k0 k1 (pullF_ok (tg := q.tg) (iv := q.iv) hfo hfcn n0 n1) (by simp [pullF])
    have hisd := isF_drop (tg := q.tg) (iv := q.iv) hfo hfcn n0 n1
    have hgd : (pullF q.tg q.iv now (q.flow k)).deficit = (q.flow k).deficit := rfl
    have hokc : QOk (q.setF k ⟨(q.flow k).l, (q.flow k).deficit, (runP q.tg q.iv now (q.flow k)).1.rest⟩) := hq.setF k0 k1 ⟨(pullF_ok (tg := q.tg) (iv := q.iv) hfo hfcn n0 n1).c, hfo.p, hfo.d0, hfo.d1⟩ (by simp)
    have hcnt2 : (dropF q.tg q.iv now (q.flow k)).length + (q.setF k (pullF q.tg q.iv now (q.flow k))).cnt ≤ q.cnt := by
      have c3 := cntL_set (g := pullF q.tg q.iv now (q.flow k)) (hq.flow k0 k1).1
      have c1 := setF_cnt q k (pullF q.tg q.iv now (q.flow k))
      have e : q.cnt = cntL q.fl := rfl
      simp only [pullF, List.length_drop] at c3
      simp only [dropF, List.length_take]
      simp only [pullF] at c1
      simp only [pullF]
      omega
    have hflc := flow_setF (g := ⟨(q.flow k).l, (q.flow k).deficit, (runP q.tg q.iv now (q.flow k)).1.rest⟩) hq k0 k1
    obtain ⟨sb, sc2, vsf2, hsf2, hfk2⟩ := hv1.flowK hokc k0 k1
    have hcut := fun (h1 : Heap) (R1 : List Grp) (m : Me W h1 (L1 :: R1)) => hv1.cut (j := (runP q.tg q.iv now (q.flow k)).1.pos) m hokc k0 k1 (by rw [hflc]; exact hpos)
    rw [hflc] at hsf2 hfk2 hcut
    dsimp only at hsf2 hfk2 hcut
    simp only [setF_setF] at hcut
    have hpull : (⟨(q.flow k).l, (q.flow k).deficit, (runP q.tg q.iv now (q.flow k)).1.rest⟩ : Fl).setL ((q.flow k).l.drop (runP q.tg q.iv now (q.flow k)).1.pos) = pullF q.tg q.iv now (q.flow k) := rfl
    have hdrop : dropF q.tg q.iv now (q.flow k) = (q.flow k).l.take (runP q.tg q.iv now (q.flow k)).1.pos := rfl
    have hisF : isF q.tg q.iv now (q.flow k) = (runP q.tg q.iv now (q.flow k)).2 := rfl
    rw [hpull] at hcut
    generalize hρ : (runP q.tg q.iv now (q.flow k)).1.pos = pos at *
    refine ⟨fun da dl dc x h' => ∃ (j : Nat) (vs' : List Value) (E' : Grp), x = j ∧ j ≤ pos ∧ dl = (d ++ (q.flow k).l.take j).length ∧ Ow da dl dc 5 vs' E' ∧ Sq (PkV W) (d ++ (q.flow k).l.take j) vs' ∧
      Me W h' (L1 :: [(bN, [.int .i64 0, .int .u32 0, .int .i64 0, .int .i64 0, .slice none 0 0], T)] :: E' :: R), fun _ _ _ x _ => ((pos : Int) - x).toNat,
      ⟨0, vsd, Ed, rfl, by omega, by simp, od, by simpa using hsd, m⟩, fun _ => ?_⟩
    clear m od hsd
    rintro da dl dc2 _ h30 ⟨j, vs', E', rfl, hj, hdl, od, hsd, m⟩
    subst hdl
    refine dcase_intro (fun q2 => ?_) fun q2 => ?_
    · obtain ⟨x, hx⟩ : ∃ x, (q.flow k).l[j]? = some x := ⟨_, List.getElem?_eq_getElem (by omega)⟩
      obtain ⟨cs, hcv, hrow, hrl⟩ := hsf2.get (fun _ _ => PkV.len) hx
      obtain ⟨x4, x5⟩ := hfk2 m
      obtain ⟨sb3, so3, rfl, hr⟩ := src_part (k := j * 5) (n := 5) x5 hrl (by decide) hrow
      have hcl : cs.length = 5 := hcv.len
      have hdlen : (d ++ (q.flow k).l.take j).length = d.length + j := by rw [List.length_append, List.length_take]; omega
      have hfc9 := cntL_ge (hq.flow k0 k1).1
      have ecn : q.cnt = cntL q.fl := rfl
      refine ⟨_, _, _, x4, ⟨by omega, by omega⟩, _, hr, hcl, ?_⟩
      refine od.app1 m 2 rfl (by simpa using hcl) (by simpa using hcv.one) (by omega) (by decide) fun a2 c2 E2 h6 m' o2 => ?_
      simp only [List.append_nil, List.set_cons_zero, List.set_cons_succ] at o2 m'
      refine ⟨by simp only [fits]; omega, ⟨j + 1, _, E2, by omega, by omega, ?_, o2, ?_, m'⟩, by (try dsimp only); omega⟩
      · rw [← take_snoc hx]; simp; omega
      · rw [← take_snoc hx, ← List.append_assoc]; exact hsd.snoc hcv
    · obtain rfl : pos = j := by omega
      rw [← hdrop] at od hsd ⊢
      obtain ⟨s9, c9, hc9, hrun⟩ := hcut _ _ m
      refine ⟨_, _, _, hc9, ⟨by omega, by omega⟩, hrun.mono ?_⟩
      rintro _ h33 ⟨a', c', rfl, hc33, hset⟩
      refine ⟨_, _, _, rfl, hset _ fun h34 L2 hv2 m2 => ?_⟩
      clear hset hrun hcut m
      rw [← hisF]
      refine bcase_intro (fun hisf => ?_) fun hist => ?_
      · have hmv := meas_empty hq ht hd hgd
        have hisf : isF q.tg q.iv now (q.flow k) = false := by simpa using hisf
        refine ⟨fun x h' => h' = h34 ∧ x = decide (q.fresh ≠ [] ∧ q.elder ≠ []), ?_, fun _ => ?_⟩
        · obtain ⟨ea2, ec2, hel2, hes2⟩ := hv2.elder m2
          refine dcase_intro (fun q3 => ⟨_, _, _, hel2, rfl, ?_⟩) fun q3 => ⟨rfl, ?_⟩
          · have hf : q.fresh ≠ [] := by rintro e; rw [e] at q3; simp at q3
            by_cases he : q.elder = []
            · rw [show (q.setF k (pullF q.tg q.iv now (q.flow k))).elder = [] from he]; simp [he]
            · have : 0 < q.elder.length := List.length_pos_iff.2 he
              show decide (0 < ((q.elder.length : Nat) : Int)) = _
              simp [hf, he, this]
          · have hf : q.fresh = [] := List.eq_nil_of_length_eq_zero (by omega)
            simp [hf]
        rintro _ h35 ⟨rfl, rfl⟩
        obtain ⟨fa2, fc2, hfr2, hfs2⟩ := hv2.fresh m2
        refine ⟨_, _, _, hfr2, (del_c hfs2 rfl (by show q.fresh.length ≤ _; omega)).mono ?_⟩
        rintro _ h36 ⟨a5, c5, E5, rfl, mk, o5⟩
        replace m2 := (m2.beside mk).focus 1 rfl
        clear mk
        refine ⟨_, _, _, rfl, hv2.setFresh m2 rfl o5 fun h37 L3 hv3 m3 => ?_⟩
        obtain ⟨ea3, ec3, hel3, hes3⟩ := hv3.elder m3
        refine ⟨_, _, _, hel3, (del_c hes3 rfl (by show q.elder.length ≤ _; omega)).mono ?_⟩
        rintro _ h38 ⟨a6, c6, E6, rfl, mk, o6⟩
        replace m3 := (m3.beside mk).focus 1 rfl
        clear mk
        refine ⟨_, _, _, rfl, hv3.setElder m3 rfl o6 fun h39 L4 hv4 m4 => ?_⟩
        have e := del_pop (q := q.setF k (pullF q.tg q.iv now (q.flow k))) hok2 ht
        have hv5 : QrV W b ((q.setF k (pullF q.tg q.iv now (q.flow k))).popT) L4 := by rw [← e]; exact hv4
        refine bcase_intro (fun hag => ?_) fun hag => ?_
        · have hag : q.fresh ≠ [] ∧ q.elder ≠ [] := by simpa using hag
          refine hv5.pushE m4 (by have := (hok2.popT).lens; omega) fun h42 L5 hv6 m5 => ?_
          rw [takeN_move ht hd hisf hag] at htk
          have hnot := popT_not hok2 (k := k) ht
          exact lea_next hn (k := n) ⟨_, _, _, E', L5, T, htk, by have := hmv.2 hag.1; omega, (hok2.popT).addE hnot k0 k1, rfl, by rw [addE_cnt, popT_cnt, List.length_append]; omega, od, hsd, hv6, m5⟩ (by omega)
        · have hag : ¬ (q.fresh ≠ [] ∧ q.elder ≠ []) := by simpa using hag
          rw [takeN_gone ht hd hisf hag] at htk
          exact lea_next hn (k := n) ⟨_, _, _, E', L4, T, htk, by have := hmv.1; omega, hok2.popT, rfl, by rw [popT_cnt, List.length_append]; omega, od, hsd, hv5, m4⟩ (by omega)
      · have hist : isF q.tg q.iv now (q.flow k) = true := by simpa using hist
        obtain ⟨p, r, hp⟩ := hisd.1 hist
        have hfl2 := flow_setF (g := pullF q.tg q.iv now (q.flow k)) hq k0 k1
        obtain ⟨s8, c8, vs8, hs8, hfk8⟩ := hv2.flowK hok2 k0 k1
        have hcut8 := fun (h1 : Heap) (R1 : List Grp) (m : Me W h1 (L2 :: R1)) => hv2.cut (j := 1) m hok2 k0 k1 (by rw [hfl2, hp]; simp)
        rw [hfl2, hp] at hs8 hfk8
        simp only [hfl2, hp, setF_setF, List.drop_succ_cons, List.drop_zero] at hcut8
        obtain ⟨x4, x5⟩ := hfk8 m2
        obtain ⟨cs, hcv, hrow, hrl⟩ := hs8.get (fun _ _ => PkV.len) (i := 0) (x := p) rfl
        rw [Nat.zero_mul] at hrow hrl
        obtain ⟨sb3, so3, rfl, hr⟩ := src_part (k := 0) (n := 5) x5 (by omega) (by decide) hrow
        obtain ⟨pa, pc, rfl, hbt⟩ := hcv
        refine ⟨_, _, _, x4, ⟨by omega, by simp⟩, _, hr, ?_⟩
        intro b14 h43 e1 e2
        replace m2 := m2.push e2 e1
        clear e1 e2
        refine ⟨⟨rfl, m2.wrsb 0 rfl rfl, by simp [Value.oneCell']⟩, ?_⟩
        intro h44 e3
        replace m2 := (m2.setr 0 rfl e3).focus 1 rfl
        clear e3
        simp only [List.set_cons_zero, List.eraseIdx_cons_zero, List.eraseIdx_cons_succ, setL] at m2
        obtain ⟨s7, c7, hc7, hrun7⟩ := hcut8 _ _ m2
        refine ⟨_, _, _, hc7, ⟨by omega, by simp; omega⟩, hrun7.mono ?_⟩
        rintro _ h45 ⟨a7, c7', rfl, hc45, hset⟩
        refine ⟨_, _, _, rfl, hset _ fun h46 L3 hv3 m3 => ?_⟩
        clear hset hrun7 hcut8 m2
        have hfl3 := flow_setF (g := (pullF q.tg q.iv now (q.flow k)).setL r) hq k0 k1
        have hple : p.body.length ≤ 1048576 := (hfo.p p (List.mem_of_mem_drop (by unfold pullF at hp; dsimp only at hp; rw [hp]; simp))).2.2
        have hok3 : QOk (q.setF k ((pullF q.tg q.iv now (q.flow k)).setL r)) := hq.setF k0 k1 ⟨(pullF_ok (tg := q.tg) (iv := q.iv) hfo hfcn n0 n1).c, fun x hx => (pullF_ok (tg := q.tg) (iv := q.iv) hfo hfcn n0 n1).p x (by rw [hp]; simp at hx; simp [hx]), hfo.d0, hfo.d1⟩ (by
          have : (pullF q.tg q.iv now (q.flow k)).l.length ≤ (q.flow k).l.length := by simp [pullF]
          rw [hp] at this; simp at this ⊢; omega)
        have hdf := hv3.deficit m3 hok3 k0 k1
        rw [hfl3] at hdf
        refine ⟨_, hdf, _, _, _, m3.cell 1 rfl rfl, by simp only [fits, setL_d]; omega, ?_⟩
        refine hv3.setD m3 hok3 k0 k1 fun h47 L4 hv4 m4 => ?_
        rw [hfl3, setF_setF] at hv4
        refine ⟨_, m4.rowb 1 rfl rfl rfl, ⟨rfl, m4.wrsb 2 rfl rfl, by simp [Value.oneCell']⟩, ?_⟩
        intro h48 e3
        replace m4 := m4.setr 2 rfl e3
        refine ⟨_, m4.rowb 2 rfl rfl rfl, ?_⟩
        rw [takeN_some ht hd hist hp] at htk
        rw [← htk]
        exact ⟨_, _, _, E', L4, _, rfl, ⟨pa, pc, rfl, hbt⟩, od, hsd, hv4, (((m4.free 1 rfl).free 1 rfl).focus 1 rfl)⟩
end
end Go.Proofs.YtpcilleldanfmaaDoor
