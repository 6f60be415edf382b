/- The walk of PoolApart: queues of unlike stations and identifiers are apart. -/
import Derived.Test.YtpcilleldanfmaaDoorPoolFirst
import Derived.Test.YtpcilleldanfmaaDoorPoolDo
import Derived.Test.YtpcilleldanfmaaDoorPoolLimits
import Derived.Test.YtpcilleldanfmaaDoorFqOut
import Derived.Test.YtpcilleldanfmaaDoorGenAll1
set_option linter.unusedVariables false
set_option linter.unusedSimpArgs false
set_option maxRecDepth 8000
namespace Go.Proofs.YtpcilleldanfmaaDoor
open Go.Vc
def idK (k : Nat) : Int := 100 * (((k / 8 : Nat) : Int) + 1) + ((k % 8 : Nat) : Int)
/-- Each queue is calm, holds its own alone, and as many as are counted. -/
structure Apt (P : Po) (hs : List Int) : Prop where
  ok : PoOk P
  tg : P.tg = 1073741824
  ln : hs.length = 136
  q : ∀ k, k < 128 → Calm (P.qu k) ∧ hs[8 + k]? = some (((P.qu k).cnt : Nat) : Int) ∧ ∀ x ∈ allL (P.qu k).fl, x.id = idK k
def zerN (hs : List Int) (b : Nat) : Nat → List Int
  | 0 => hs
  | n + 1 => (zerN hs b n).set (8 + (b + n)) 0
section
variable {P : Po} {hs : List Int} {k : Nat} {q : Qu} {p : Pk}
theorem Apt.set (a : Apt P hs) (hk : k < 128) (hw : Well q) (hc : Calm q) (hid : ∀ x ∈ allL q.fl, x.id = idK k) : Apt (P.set k q) (hs.set (8 + k) ((q.cnt : Nat) : Int)) :=
  ⟨a.ok.set hw, a.tg, by rw [List.length_set]; exact a.ln, fun j hj => by
    have hl := a.ln
    by_cases e : j = k
    · subst e
      rw [qu_set a.ok hk]
      exact ⟨hc, by rw [List.getElem?_set_self (by omega)], hid⟩
    · rw [qu_set_ne e, List.getElem?_set_ne (by omega)]
      exact a.q j hj⟩
theorem Apt.put (a : Apt P hs) (hk : k < 128) (h0 : p.at_ = 0) (hl : p.body.length ≤ 1048576) (hc : P.len < 1048576) (hid : p.id = idK k) : Apt (P.put1 k p) (hs.set (8 + k) (((P.qu k).cnt : Nat) + 1 : Int)) := by
  obtain ⟨c1, c2, c3⟩ := a.q k hk
  have hcn := a.ok.cnt hk
  have hw := (a.ok.qu hk).2
  obtain ⟨w, hcnt⟩ := hw.ok.put (p := p) (by omega) (by omega) hl (by omega)
  have := a.set hk (q := (P.qu k).put p) (hw.put (by omega) (by omega) hl (by omega)).1 (c1.put h0 hl (by omega)) fun x hx => by
    rcases List.mem_cons.1 ((put_all hw.ok).mem_iff.1 hx) with rfl | h
    · exact hid
    · exact c3 x h
  rw [hcnt] at this
  show Apt (P.set k ((P.qu k).put p)) _
  simpa using this
theorem cnt_len (q : Qu) : (allL q.fl).length = q.cnt := allL_len _
theorem Apt.wipe (a : Apt P hs) {b : Nat} : ∀ n, b + n ≤ 128 → Apt (wipeN P b n) (zerN hs b n)
  | 0, _ => a
  | n + 1, h => by
    have ih := a.wipe (b := b) n (by omega)
    exact ih.set (q := P.new) (by omega) (well0 _ _ _) (by unfold Po.new; rw [a.tg]; exact calm0 _ _) fun x hx => by
      rw [show allL P.new.fl = [] from all0 _ _ _] at hx; cases hx
theorem wipe_at (hP : PoOk P) {b n : Nat} (h : b + n < 128) : (wipeN P b n).qu (b + n) = P.qu (b + n) := by
  rw [(wipeN_spec hP b n (by omega)).2.2.2 (b + n), if_neg (by omega)]
theorem out_len (P : Po) (b n : Nat) : (outN P b (n + 1)).length = (outN P b n).length + (P.qu (b + n)).cnt := by
  simp only [outN, List.length_append, cnt_len]
theorem Calm.take0 (hc : Calm q) (w : Well q) (hn : q.cnt = 0) : ∃ q', q.take 0 = (q', [], none) ∧ Calm q' ∧ Well q' ∧ q'.cnt = 0 ∧ ∀ x ∈ allL q'.fl, x ∈ allL q.fl := by
  have hl := take_law (now := 0) (by decide) (by decide) w
  have h1 := hl.cnt w.ok
  have h2 := hl.sub w.ok
  have hcal : Calm (q.take 0).1 := (takeN_calm _ (Nat.lt_succ_self _) hc (d := [])).2
  have hw := hl.w
  generalize q.take 0 = r at *
  obtain ⟨q', d, o⟩ := r
  dsimp only at *
  rw [List.length_append] at h1
  have e1 : d = [] := List.eq_nil_of_length_eq_zero (by omega)
  cases o with
  | some x => simp at h1; omega
  | none => subst e1; exact ⟨q', rfl, hcal, hw, by simp at h1; omega, h2.1⟩
theorem Apt.take (a : Apt P hs) (hk : k < 128) (hn : 0 < (P.qu k).cnt) : ∃ P' p, P.take k 0 = (P', [], some p) ∧ Apt P' (hs.set (8 + k) (((P.qu k).cnt : Nat) - 1 : Int)) ∧ p.id = idK k ∧ (P'.qu k).cnt + 1 = (P.qu k).cnt ∧ ∀ j, j ≠ k → P'.qu j = P.qu j := by
  obtain ⟨c1, c2, c3⟩ := a.q k hk
  obtain ⟨q', p, e, h1, h2, h3, h4, h5⟩ := c1.take (a.ok.qu hk).2 hn
  have := a.set hk h2 h1 fun x hx => c3 x (h5 x hx)
  refine ⟨P.set k q', p, by unfold Po.take; rw [e], ?_, c3 p h4, by rw [qu_set a.ok hk]; exact h3, fun j hj => qu_set_ne hj⟩
  rw [← h3]
  simpa using this
theorem Apt.take0 (a : Apt P hs) (hk : k < 128) (hn : (P.qu k).cnt = 0) : ∃ P', P.take k 0 = (P', [], none) ∧ Apt P' hs ∧ (P'.qu k).cnt = 0 ∧ ∀ j, j ≠ k → P'.qu j = P.qu j := by
  obtain ⟨c1, c2, c3⟩ := a.q k hk
  obtain ⟨q', e, h1, h2, h3, h5⟩ := c1.take0 (a.ok.qu hk).2 hn
  have := a.set hk h2 h1 fun x hx => c3 x (h5 x hx)
  refine ⟨P.set k q', by unfold Po.take; rw [e], ?_, by rw [qu_set a.ok hk]; exact h3, fun j hj => qu_set_ne hj⟩
  rw [h3, ← hn, set_same c2] at this
  exact this
theorem apt0 : Apt (po0 5 1073741824 1073741824 512 1048576) (List.replicate 136 0) :=
  ⟨pok0 _ _ _ (by decide) (by decide) (by decide) (by decide), rfl, List.length_replicate, fun k hk => by
    rw [po0_qu]
    refine ⟨calm0 _ _, ?_, fun x hx => ?_⟩
    · rw [List.getElem?_replicate, if_pos (by omega)]; rfl
    · rw [all0] at hx; cases hx⟩
theorem thereP {a t : Int} (a0 : 1 ≤ a) (a1 : a ≤ 16) (t0 : 0 ≤ t) (t1 : t < 8) : thereZ a t = true := thereZ_iff.2 ⟨a0, a1, t0, t1⟩
theorem idK_pix {a t : Int} (a0 : 1 ≤ a) (a1 : a ≤ 16) (t0 : 0 ≤ t) (t1 : t < 8) : idK (pix a t) = 100 * a + t := by
  unfold idK pix
  have e1 : ((a - 1).toNat * 8 + t.toNat) / 8 = (a - 1).toNat := by omega
  have e2 : ((a - 1).toNat * 8 + t.toNat) % 8 = t.toNat := by omega
  rw [e1, e2]; omega
theorem off_pix {a t : Int} (a0 : 1 ≤ a) (a1 : a ≤ 16) (t0 : 0 ≤ t) (t1 : t < 8) : 0 + a.toNat * 8 + t.toNat = 8 + pix a t := by unfold pix; omega
theorem Apt.cell (a : Apt P hs) (hk : k < 128) : (ints .i64 hs)[8 + k]? = some (.int .i64 (((P.qu k).cnt : Nat) : Int)) := ints_get (a.q k hk).2.1
theorem ints_set {k : IntKind} {l : List Int} {i : Nat} {x : Int} : (ints k l).set i (.int k x) = ints k (l.set i x) := by simp [ints, List.map_set]
def meC (b o : Nat) (h : Heap) : Nat := match cell h b o with | some (.int _ n) => n.toNat | _ => 0
theorem meC_of {b o : Nat} {h : Heap} {k : IntKind} {n : Int} (e : cell h b o = some (.int k n)) : meC b o h = n.toNat := by unfold meC; rw [e]
end
section
variable {ads : List Addr} {W : Wd}
theorem Snt.rangeV (s : Snt W ads) : wcell W 0 0 = some (erV ads (some 2)) := by
  obtain ⟨a, h1, h2⟩ := s.get (i := 2) (by decide)
  rw [h2]; exact s.v 2 a _ h1 rfl
theorem snt_rangeP (s : Snt W ads) : ∃ a, wcell W 0 0 = some (ptE a) := by
  obtain ⟨a, h1, h2⟩ := s.get (i := 2) (by decide)
  exact ⟨a, s.v 2 a _ h1 rfl⟩
theorem lt14a : ∀ i, (some 2 : Er) = some i → i < 14 := fun i h => by cases h; decide
set_option maxHeartbeats 4000000
theorem poolApart_r {h : Heap} {l : List Dp} {la : Option Addr} {cap : Nat} {vs : List Value} (s : Snt (Wd.of h) ads) (out : Int) (hs : src h la (l.length * 9) vs) (hq : Sq (DpV (Wd.of h)) l vs) :
    Runs Tryd.prog 5 #[.slice la l.length cap, .int .i64 out] h fun v h' => v = .bool true ∧ Kept h h' := by
  obtain ⟨a, hg⟩ := snt_rangeP s
  refine vc_muezzinlaw14_PoolApart _ _ _ _ _ _ ((first14_c (Me.start h) hg).mono ?_)
  rintro _ h1 ⟨rfl, W1, hle, m⟩
  clear hg a
  refine ⟨_, rfl, bcase_false rfl (dcase_intro (fun _ => ⟨rfl, m.kept hle⟩) fun hl30 => (poNew_c m (s.le hle).rangeV 5 1073741824 1073741824 512 1048576).mono ?_)⟩
  rintro _ h2 ⟨-, hok⟩
  obtain ⟨b, L, rfl, hv, m⟩ := hok ⟨by decide, by decide, by decide, by decide⟩
  have l0 := len0 5 1073741824 1073741824 512 1048576
  have y0 := byt0 5 1073741824 1073741824 512 1048576
  have m0 : (po0 5 1073741824 1073741824 512 1048576).mp = 512 := rfl
  have b0 : (po0 5 1073741824 1073741824 512 1048576).mb = 1048576 := rfl
  have a0 := apt0
  generalize po0 5 1073741824 1073741824 512 1048576 = P0 at *
  refine ⟨_, _, rfl, bcase_false rfl ⟨true, rfl, bcase_false rfl ?_⟩⟩
  intro bG h3 e1 e2
  replace m := m.push (vs := ints .i64 (List.replicate 136 0)) e2 e1
  clear e1 e2 hok
  generalize eTG : (47 : TypeId) = TG at m
  clear eTG
  refine ⟨fun x h' => ∃ (i : Nat) (W2 : Wd) (L : Grp) (P : Po) (hs : List Int), x = i ∧ i ≤ l.length ∧ (Wd.of h).le W2 ∧ Me W2 h' ([(bG, ints .i64 hs, TG)] :: L :: []) ∧ PoV W2 b P L ∧ Apt P hs ∧ P.mp = 512 ∧ P.mb = 1048576 ∧ P.len ≤ i ∧ P.byt ≤ 100 * (i : Int), fun x _ => ((l.length : Int) - x).toNat,
    ⟨0, W1, L, P0, _, rfl, by omega, hle, m, hv, a0, m0, b0, by omega, by omega⟩, fun _ => ?_⟩
  clear m hv a0 l0 y0 m0 b0
  rintro _ h4 ⟨i, W2, L, P, hs', rfl, hi, hle, m, hv, ap, hmp, hmb, hln, hby⟩
  have kk := m.kept hle
  refine dcase_intro (fun q => ?_) fun q => ?_
  · obtain ⟨x, hx⟩ : ∃ x, l[i]? = some x := ⟨_, List.getElem?_eq_getElem (by omega)⟩
    obtain ⟨sb, so, pa, pc, rfl, hbt, hrd⟩ := dp_at hs hq hx
    have hc := (row_iff.1 (hrd _ kk)).2
    have t0 := Int.emod_nonneg x.b (show (8 : Int) ≠ 0 by decide)
    have t1 := Int.emod_lt_of_pos x.b (show (0 : Int) < 8 by decide)
    have a0 := Int.emod_nonneg x.a (show (16 : Int) ≠ 0 by decide)
    have a1 := Int.emod_lt_of_pos x.a (show (0 : Int) < 16 by decide)
    refine ⟨⟨by omega, by omega⟩, _, by simpa using hc 1 _ rfl, (number_c x.a 16 _ (by decide) (by decide)).ret ⟨_, rfl, by simp only [fits]; omega, ⟨by omega, by omega⟩, _, by simpa using hc 2 _ rfl, (number_c x.b 8 _ (by decide) (by decide)).ret ⟨_, rfl, ⟨by omega, by omega⟩, _, _, _, by simpa using hc 8 _ rfl, dcase_intro (fun _ => ⟨rfl, kk⟩) fun h100 => ?_⟩⟩⟩
    refine ⟨by simp only [fits]; omega, by simp only [fits]; omega, ⟨by omega, by omega⟩, _, by simpa using hc 5 _ rfl, ⟨by omega, by omega⟩, _, _, _, by simpa using hc 8 _ rfl, ?_⟩
    have hpv : PkV W2 ⟨100 * (x.a % 16 + 1) + x.b % 8, x.p.flow, x.b % 8, 0, x.p.body⟩ [.int .i64 (100 * (x.a % 16 + 1) + x.b % 8), .int .u32 x.p.flow, .int .i64 (x.b % 8), .int .i64 0, .slice pa x.p.body.length pc] := ⟨pa, pc, rfl, hbt.le hle⟩
    have x0 : 1 ≤ x.a % 16 + 1 := by omega
    have x1 : x.a % 16 + 1 ≤ 16 := by omega
    generalize x.a % 16 + 1 = xa at *
    generalize x.b % 8 = xb at *
    have hth := thereP (a := xa) (t := xb) (by omega) (by omega) t0 t1
    have hid := idK_pix (a := xa) (t := xb) (by omega) (by omega) t0 t1
    have hof := off_pix (a := xa) (t := xb) (by omega) (by omega) t0 t1
    have hk := pix_lt hth
    refine (poPut_c (aid := xa) (m.focus 1 rfl) hv ap.ok (by omega) hpv (Int.le_refl _) (show (0 : Int) ≤ 1125899906842624 by decide) (by dsimp only; omega) (s.le hle).rangeV).mono ?_
    rintro _ h7 ⟨oa, oc, vs2, E, W3, L3, rfl, o, hle3, hs3, hv3, m⟩
    have e1 : P.putZ xa ⟨100 * xa + xb, x.p.flow, xb, 0, x.p.body⟩ = P.put (pix xa xb) ⟨100 * xa + xb, x.p.flow, xb, 0, x.p.body⟩ := if_pos hth
    have e2 : (if thereZ xa (⟨100 * xa + xb, x.p.flow, xb, 0, x.p.body⟩ : Pk).tid = true then Value.nilIface else erV ads (some 2)) = .nilIface := if_pos hth
    obtain ⟨e3, e4⟩ := put_none ap.ok hk (p := ⟨100 * xa + xb, x.p.flow, xb, 0, x.p.body⟩) rfl (by dsimp only; omega) (by omega) (by dsimp only; omega)
    obtain ⟨p1, p2, p3, p4⟩ := put1_spec ap.ok hk (p := ⟨100 * xa + xb, x.p.flow, xb, 0, x.p.body⟩) (Int.le_refl _) (show (0 : Int) ≤ 1125899906842624 by decide) (by dsimp only; omega) (by omega)
    have ap3 := ap.put hk (p := ⟨100 * xa + xb, x.p.flow, xb, 0, x.p.body⟩) rfl (by dsimp only; omega) (by omega) hid.symm
    rw [e1, e3] at hv3 o hs3 ⊢
    rw [e2]
    dsimp only at *
    generalize P.put1 (pix xa xb) ⟨100 * xa + xb, x.p.flow, xb, 0, x.p.body⟩ = P3 at *
    refine ⟨_, _, _, _, rfl, ?_⟩
    have hc7 := (row_iff.1 (hrd _ (m.kept (hle.trans hle3)))).2
    refine ⟨by simpa using hc7 8 _ rfl, by simpa using hc7 5 _ rfl, true, rfl, bcase_false rfl (bcase_false rfl ?_)⟩
    simp only [List.eraseIdx_cons_zero, List.eraseIdx_cons_succ] at m
    have hcn := ap.ok.cnt hk
    rw [hof]
    refine ⟨⟨by omega, by omega⟩, ⟨t0, by omega⟩, _, m.cell 2 rfl (ap.cell hk), by simp only [fits]; omega, ⟨by omega, by omega⟩, ⟨t0, by omega⟩, ?_⟩
    refine m.store 2 rfl (by rw [ints_len, ap.ln]; omega) fun h8 m => ?_
    rw [ints_set] at m
    exact ⟨by simp only [fits]; omega, ⟨i + 1, W3, L3, P3, _, by omega, by omega, hle.trans hle3, (m.free 0 rfl).focus 1 rfl, hv3, ap3, p2.mp.trans hmp, p2.mb.trans hmb, by omega, by omega⟩, by (try dsimp only); omega⟩
  · obtain rfl : i = l.length := by omega
    have o0 := Int.emod_nonneg out (show (16 : Int) ≠ 0 by decide)
    have o1 := Int.emod_lt_of_pos out (show (0 : Int) < 16 by decide)
    refine (number_c out 16 _ (by decide) (by decide)).ret ⟨_, rfl, by simp only [fits]; omega, ?_⟩
    have z0 : 1 ≤ out % 16 + 1 := by omega
    have z1 : out % 16 + 1 ≤ 16 := by omega
    generalize out % 16 + 1 = oz at *
    refine (poDrop_c (aid := oz) (m.focus 1 rfl) hv ap.ok (by omega)).mono ?_
    rintro _ h10 ⟨W3, da, dc, vs2, E, L3, hle3, rfl, o, hs3, hv3, m⟩
    have hdr : P.drop oz = (wipeN P ((oz - 1).toNat * 8) 8, outN P ((oz - 1).toNat * 8) 8) := if_pos (thereP (by omega) (by omega) (by decide) (by decide))
    rw [hdr] at hv3 o hs3 ⊢
    dsimp only at *
    have hbk : (oz - 1).toNat * 8 + 8 ≤ 128 := by omega
    have hoz : 0 + oz.toNat * 8 = 8 + (oz - 1).toNat * 8 := by omega
    generalize (oz - 1).toNat * 8 = bk at *
    simp only [List.eraseIdx_cons_zero, List.eraseIdx_cons_succ] at m
    refine ⟨_, _, _, rfl, fun n t h' => ∃ j : Nat, t = j ∧ j ≤ 8 ∧ n = ((outN P bk j).length : Nat) ∧ Me W3 h' (L3 :: [(bG, ints .i64 (zerN hs' bk j), TG)] :: []), fun _ t _ => (8 - t).toNat, ⟨0, rfl, by omega, rfl, m.free 0 rfl⟩, fun _ => ?_⟩
    clear m
    rintro _ _ h11 ⟨j, rfl, hj, rfl, m⟩
    refine dcase_intro (fun q1 => ?_) fun q1 => ?_
    · have apj := ap.wipe (b := bk) j (by omega)
      have hat := wipe_at ap.ok (b := bk) (n := j) (by omega)
      have hcl := apj.cell (k := bk + j) (by omega)
      rw [hat] at hcl
      have hou := out_len P bk j
      have hcn := ap.ok.cnt (k := bk + j) (by omega)
      have htot : (outN P bk j).length ≤ P.len := by
        have q0 := (wipeN_spec ap.ok bk j (by omega)).2.2.1.length_eq
        have q1 : P.len = P.all.length := Po.len_all P
        rw [List.length_append] at q0
        omega
      have hof : 0 + oz.toNat * 8 + (j : Int).toNat = 8 + (bk + j) := by omega
      rw [hof]
      refine ⟨⟨by omega, by omega⟩, ⟨by omega, by omega⟩, _, m.cell 1 rfl hcl, by simp only [fits]; omega, ⟨by omega, by omega⟩, ⟨by omega, by omega⟩, ?_⟩
      refine m.store 1 rfl (by rw [ints_len, apj.ln]; omega) fun h12 m => ?_
      rw [ints_set] at m
      exact ⟨by simp only [fits]; omega, ⟨j + 1, by omega, by omega, by omega, m⟩, by (try dsimp only); omega⟩
    · obtain rfl : j = 8 := by omega
      refine bcase_false (by simp) ?_
      have ap8 := ap.wipe (b := bk) 8 (by omega)
      clear hs3 o
      generalize wipeN P bk 8 = P8 at *
      generalize zerN hs' bk 8 = hs8 at *
      clear ap hln hby hmp hmb
      refine ⟨fun x h' => ∃ (a : Nat) (L : Grp) (P : Po) (hs : List Int), x = a ∧ 1 ≤ a ∧ a ≤ 17 ∧ Me W3 h' (L :: [(bG, ints .i64 hs, TG)] :: []) ∧ PoV W3 b P L ∧ Apt P hs ∧ ∀ k, k < (a - 1) * 8 → (P.qu k).cnt = 0, fun x _ => (17 - x).toNat,
        ⟨1, L3, P8, hs8, rfl, by omega, by omega, m, hv3, ap8, fun k hk => by omega⟩, fun _ => ?_⟩
      clear m hv3 ap8
      rintro _ h13 ⟨a', L, P, hs, rfl, ha1, ha2, m, hv, ap, hz⟩
      have hle4 := hle.trans hle3
      refine dcase_intro (fun q2 => ?_) fun q2 => ?_
      · refine ⟨fun x h' => ∃ (t : Nat) (L : Grp) (P : Po) (hs : List Int), x = t ∧ t ≤ 8 ∧ Me W3 h' (L :: [(bG, ints .i64 hs, TG)] :: []) ∧ PoV W3 b P L ∧ Apt P hs ∧ ∀ k, k < (a' - 1) * 8 + t → (P.qu k).cnt = 0, fun x _ => (8 - x).toNat,
          ⟨0, L, P, hs, rfl, by omega, m, hv, ap, fun k hk => hz k (by omega)⟩, fun _ => ?_⟩
        clear m hv ap hz
        rintro _ h14 ⟨t, L, P, hs, rfl, ht, m, hv, ap, hz⟩
        refine dcase_intro (fun q3 => ?_) fun q3 => ?_
        · have hth := thereP (a := (a' : Int)) (t := (t : Int)) (by omega) (by omega) (by omega) (by omega)
          have hid := idK_pix (a := (a' : Int)) (t := (t : Int)) (by omega) (by omega) (by omega) (by omega)
          have hof := off_pix (a := (a' : Int)) (t := (t : Int)) (by omega) (by omega) (by omega) (by omega)
          have hk := pix_lt hth
          have hpx : pix (a' : Int) (t : Int) = (a' - 1) * 8 + t := by unfold pix; omega
          refine ⟨fun h' => ∃ (L : Grp) (P : Po) (hs : List Int), Me W3 h' (L :: [(bG, ints .i64 hs, TG)] :: []) ∧ PoV W3 b P L ∧ Apt P hs ∧ ∀ k, k < (a' - 1) * 8 + t → (P.qu k).cnt = 0, meC bG (8 + pix a' t),
            ⟨L, P, hs, m, hv, ap, hz⟩, fun _ => ?_⟩
          clear m hv ap hz
          rintro h15 ⟨L, P, hs, m, hv, ap, hz⟩
          have hcl := m.cell 1 rfl (ap.cell hk)
          rw [meC_of hcl, hof]
          have hcn := ap.ok.cnt hk
          have hlm := (ap.ok.qu hk).2.ok.cnt
          refine ⟨⟨by omega, by omega⟩, ⟨by omega, by omega⟩, _, hcl, dcase_intro (fun q4 => ?_) fun q4 => ?_⟩
          · obtain ⟨P', p, e1, e2, e3, e4, e5⟩ := ap.take hk (by omega)
            refine (poTake_c (aid := (a' : Int)) (tid := (t : Int)) (now := 0) m hv ap.ok (by decide) (by decide)).mono ?_
            rintro _ h16 ⟨oa, oc, vs3, E, L', cs, rfl, hpv, o, hsq, hv', m⟩
            have eT : P.takeZ (a' : Int) (t : Int) 0 = (P', [], some p) := (if_pos hth).trans e1
            rw [eT] at hpv o hsq hv' ⊢
            obtain ⟨ya, yc, rfl, hby⟩ := hpv
            refine ⟨_, _, _, _, _, rfl, ?_⟩
            intro bX h17 f1 f2
            replace m := m.push f2 f1
            clear f1 f2
            refine ⟨⟨rfl, m.wrsb 0 rfl rfl, by simp [Value.oneCell']⟩, ?_⟩
            intro h18 f1
            replace m := m.setr 0 rfl f1
            clear f1
            simp only [setL, List.set_cons_zero, List.set_cons_succ] at m
            refine bcase_false rfl ⟨_, m.cell 0 rfl rfl, by simp only [fits]; omega, by simp only [fits]; omega, bcase_false (by simp; rw [e3, hid]) ⟨⟨by omega, by omega⟩, ⟨by omega, by omega⟩, _, m.cell 3 rfl (ap.cell hk), by simp only [fits]; omega, ⟨by omega, by omega⟩, ⟨by omega, by omega⟩, ?_⟩⟩
            refine m.store 3 rfl (by rw [ints_len, ap.ln]; omega) fun h19 m => ?_
            rw [ints_set] at m
            have hcl2 := m.cell 3 rfl (e2.cell hk)
            refine ⟨⟨L', P', _, ((m.free 0 rfl).free 0 rfl), hv', e2, fun k hkk => ?_⟩, ?_⟩
            · rw [e5 k (by omega)]; exact hz k hkk
            · rw [meC_of hcl2]; omega
          · obtain ⟨P', e1, e2, e3, e4⟩ := ap.take0 hk (by omega)
            refine (poTake_c (aid := (a' : Int)) (tid := (t : Int)) (now := 0) m hv ap.ok (by decide) (by decide)).mono ?_
            rintro _ h16 ⟨oa, oc, vs3, E, L', cs, rfl, hpv, o, hsq, hv', m⟩
            have eT : P.takeZ (a' : Int) (t : Int) 0 = (P', [], none) := (if_pos hth).trans e1
            rw [eT] at hpv o hsq hv' ⊢
            obtain ⟨ya, yc, rfl, hby⟩ := hpv
            refine ⟨_, _, _, _, _, rfl, ?_⟩
            intro bX h17 f1 f2
            replace m := m.push f2 f1
            clear f1 f2
            refine ⟨⟨rfl, m.wrsb 0 rfl rfl, by simp [Value.oneCell']⟩, ?_⟩
            intro h18 f1
            replace m := m.setr 0 rfl f1
            clear f1
            refine bcase_false rfl ?_
            refine (poHas_c (m.focus 2 rfl) hv' e2.ok (a' : Int) (t : Int)).mono ?_
            rintro _ h23 ⟨rfl, rfl⟩
            rw [hth, e3]
            refine ⟨_, rfl, bcase_false rfl ⟨by simp only [fits]; omega, ⟨t + 1, L', P', hs, by omega, by omega, ((m.free 0 rfl).free 0 rfl), hv', e2, fun k hkk => ?_⟩, by (try dsimp only); omega⟩⟩
            by_cases hkp : k = pix (a' : Int) (t : Int)
            · rw [hkp]; exact e3
            · rw [e4 k hkp]; exact hz k (by omega)
        · obtain rfl : t = 8 := by omega
          exact ⟨by simp only [fits]; omega, ⟨a' + 1, L, P, hs, by omega, by omega, by omega, m, hv, ap, fun k hk => hz k (by omega)⟩, by (try dsimp only); omega⟩
      · obtain rfl : a' = 17 := by omega
        have hl0 := len_zero ap.ok fun k hk => hz k (by omega)
        have pz : ∀ (z td : Int), thereZ z td = false → P.putZ z ⟨0, 0, td, 0, []⟩ = (P, []) := fun z td e => if_neg (by simp [e])
        have ez : ∀ (z td : Int), thereZ z td = false → (if thereZ z (⟨0, 0, td, 0, []⟩ : Pk).tid = true then Value.nilIface else erV ads (some 2)) = erV ads (some 2) := fun z td e => if_neg (by simp [e])
        have put : ∀ (z td : Int) (W4 : Wd) (h4 : Heap) (L4 : Grp) (K : Value → Heap → Prop), thereZ z td = false → W3.le W4 → Me W4 h4 (L4 :: [(bG, ints .i64 hs, TG)] :: []) → PoV W4 b P L4 →
            (∀ (oa : Option Addr) (oc : Nat) (W5 : Wd) (h5 : Heap) (L5 : Grp), W3.le W5 → Me W5 h5 (L5 :: [(bG, ints .i64 hs, TG)] :: []) → PoV W5 b P L5 → K (.tuple #[.slice oa 0 oc, erV ads (some 2)]) h5) →
            Runs Tryd.prog 10 #[.pointer (some ⟨b, 0, none⟩), .int .i64 z, .agg #[.int .i64 0, .int .u32 0, .int .i64 td, .int .i64 0, .slice none 0 0]] h4 K := by
          intro z td W4 h4 L4 K hz hl4 m4 hv4 k
          have hb4 : PkV W4 ⟨0, 0, td, 0, []⟩ [.int .i64 0, .int .u32 0, .int .i64 td, .int .i64 0, .slice none 0 0] := ⟨none, 0, rfl, Bts.nil⟩
          refine (poPut_c (aid := z) m4 hv4 ap.ok (by omega) hb4 (Int.le_refl _) (show (0 : Int) ≤ 1125899906842624 by decide) (show 0 ≤ 1048576 by decide) (s.le (hle4.trans hl4)).rangeV).mono ?_
          rintro _ h5 ⟨oa, oc, vs2, E, W5, L5, rfl, o, hle5, hs5, hv5, m5⟩
          rw [pz z td hz] at hv5 o hs5 ⊢
          rw [ez z td hz]
          exact k oa oc W5 h5 L5 (hl4.trans hle5) (m5.free 0 rfl) hv5
        refine put 0 0 _ _ _ _ rfl (Wd.le.refl _) m hv fun _ _ W5 h5 L5 hl5 m5 hv5 => ⟨_, _, _, _, rfl, ?_⟩
        refine put 17 0 _ _ _ _ rfl hl5 m5 hv5 fun _ _ W6 h6 L6 hl6 m6 hv6 => ⟨_, _, _, _, rfl, ?_⟩
        refine put 1 8 _ _ _ _ rfl hl6 m6 hv6 fun _ _ W7 h7 L7 hl7 m7 hv7 => ⟨_, _, _, _, rfl, ?_⟩
        have s7 := s.le (hle4.trans hl7)
        refine ⟨fun x h' => x = true ∧ Me W7 h' (L7 :: [(bG, ints .i64 hs, TG)] :: []), bcase_true rfl ((poLen_c m7 hv7 ap.ok (by omega)).mono ?_), fun _ => ?_⟩
        · rintro _ h8 ⟨rfl, m8⟩
          exact ⟨_, rfl, by simp [hl0], m8⟩
        clear m7
        rintro _ h8 ⟨rfl, m7⟩
        have isE : ∀ (h4 : Heap) (K : Value → Heap → Prop), Me W7 h4 (L7 :: [(bG, ints .i64 hs, TG)] :: []) → (∀ h5, Me W7 h5 (L7 :: [(bG, ints .i64 hs, TG)] :: []) → K (.bool true) h5) → Runs Tryd.prog 17 #[erV ads (some 2), .int .i64 103] h4 K := fun h4 K m4 k => (is_c s7 m4 lt14a 103).mono (by rintro _ h5 ⟨rfl, m5⟩; exact k h5 m5)
        refine ⟨fun x h' => x = true ∧ Me W7 h' (L7 :: [(bG, ints .i64 hs, TG)] :: []), bcase_true rfl (isE _ _ m7 fun h9 m9 => ⟨_, rfl, rfl, m9⟩), fun _ => ?_⟩
        clear m7
        rintro _ h9 ⟨rfl, m7⟩
        refine ⟨fun x h' => x = true ∧ Me W7 h' (L7 :: [(bG, ints .i64 hs, TG)] :: []), bcase_true rfl (isE _ _ m7 fun h9 m9 => ⟨_, rfl, rfl, m9⟩), fun _ => ?_⟩
        clear m7
        rintro _ h10 ⟨rfl, m7⟩
        exact bcase_true rfl (isE _ _ m7 fun h9 m9 => ⟨_, rfl, rfl, m9.kept (hle4.trans hl7)⟩)
end
theorem walk_PoolApart (w : World) (hE : ∃ ads, Snt (Wd.of w.heap) ads) (a0 : Option Addr) (len0 cap0 : Nat) (o0 : Opn (.slc (.con (.int .i64) (.con (.int .i64) (.con (.int .i64) (.con (.int .i64) (.con (.con (.int .i64) (.con (.int .u32) (.con (.int .i64) (.con (.int .i64) (.con (.slc (.int .u8)) .nil))))) .nil)))))) (Wd.of w.heap) [.slice a0 len0 cap0]) (a1 : Int) (w1 : (Lit.int .i64 a1).wf = true) :
    Calls Tryd.prog 5 #[.slice a0 len0 cap0, .int .i64 a1] w fun e w' => e = .returned (.bool true) ∧ Go.RowKit.Below w.heap.size w w' := by
  obtain ⟨ads, hs⟩ := hE
  obtain ⟨l, vs, rfl, h1, h2⟩ := opn_dps o0
  exact calls_of_runs (poolApart_r hs a1 (of_src.1 h1) h2)
end Go.Proofs.YtpcilleldanfmaaDoor
