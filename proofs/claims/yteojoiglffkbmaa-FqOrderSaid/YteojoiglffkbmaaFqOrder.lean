/- The walk of FqOrder: what is put is taken once or dropped once, as it was; of one bucket in its order. -/
import Derived.Test.YteojoiglffkbmaaFqOwn
set_option linter.unusedVariables false
set_option linter.unusedSimpArgs false
namespace Go.Proofs.Yteojoiglffkbmaa
open Go.Vc
def pkN (i : Nat) (x : Pk) : Pk := ⟨(i : Int) + 1, x.flow, 0, 0, x.body⟩
/-- What is still to come, bucket by bucket. -/
structure Pend (s : Int) (l : List Pk) (pend : Int → List Pk) (last : List Int) (seen : List Bool) : Prop where
  from_ : ∀ b, 0 ≤ b → b < 16 → ∀ p ∈ pend b, bucketZ p.flow s = b ∧ ∃ i x, l[i]? = some x ∧ p = pkN i x
  inc : ∀ b, 0 ≤ b → b < 16 → (pend b).Pairwise fun a c => a.id < c.id
  lst : ∀ b, 0 ≤ b → b < 16 → ∀ p ∈ pend b, ∃ n, last[b.toNat]? = some n ∧ 0 ≤ n ∧ n < p.id
  sn : ∀ b, 0 ≤ b → b < 16 → ∀ p ∈ pend b, seen[p.id.toNat]? = some false
  ll : last.length = 16
  l0 : ∀ n ∈ last, 0 ≤ n
  sl : seen.length = l.length + 1
section
variable {s : Int} {l : List Pk} {pend pend' : Int → List Pk} {last : List Int} {seen : List Bool} {p : Pk} {k : Int}
theorem Pend.congr (h : Pend s l pend last seen) (e : ∀ b, 0 ≤ b → b < 16 → pend' b = pend b) : Pend s l pend' last seen :=
  ⟨fun b b0 b1 => by rw [e b b0 b1]; exact h.from_ b b0 b1, fun b b0 b1 => by rw [e b b0 b1]; exact h.inc b b0 b1, fun b b0 b1 => by rw [e b b0 b1]; exact h.lst b b0 b1, fun b b0 b1 => by rw [e b b0 b1]; exact h.sn b b0 b1, h.ll, h.l0, h.sl⟩
/-- The next one of a bucket comes. -/
theorem Pend.next (h : Pend s l pend last seen) (k0 : 0 ≤ k) (k1 : k < 16) (hk : pend k = p :: pend' k) (hj : ∀ b, 0 ≤ b → b < 16 → b ≠ k → pend' b = pend b) : Pend s l pend' (last.set k.toNat p.id) (seen.set p.id.toNat true) := by
  have hp := h.from_ k k0 k1 p (by rw [hk]; simp)
  obtain ⟨hpb, i, x, hx, rfl⟩ := hp
  have hinc := h.inc k k0 k1
  rw [hk, List.pairwise_cons] at hinc
  have sub : ∀ b, 0 ≤ b → b < 16 → ∀ y ∈ pend' b, y ∈ pend b ∧ y.id ≠ (pkN i x).id := by
    intro b b0 b1 y hy
    by_cases e : b = k
    · subst e
      refine ⟨by rw [hk]; simp [hy], ?_⟩
      have := hinc.1 y hy; omega
    · rw [hj b b0 b1 e] at hy
      refine ⟨hy, fun hid => ?_⟩
      obtain ⟨hyb, i2, x2, hx2, rfl⟩ := h.from_ b b0 b1 y hy
      have : i2 = i := by simp only [pkN] at hid; omega
      subst this
      rw [hx] at hx2; cases hx2
      have h1 : bucketZ x.flow s = k := hpb
      have h2 : bucketZ x.flow s = b := hyb
      exact e (h2.symm.trans h1)
  refine ⟨fun b b0 b1 y hy => h.from_ b b0 b1 y (sub b b0 b1 y hy).1, fun b b0 b1 => ?_, fun b b0 b1 y hy => ?_, fun b b0 b1 y hy => ?_, by simp [h.ll], fun n hn => ?_, by simp [h.sl]⟩
  · by_cases e : b = k
    · subst e; exact hinc.2
    · rw [hj b b0 b1 e]; exact h.inc b b0 b1
  · by_cases e : b = k
    · subst e
      refine ⟨(pkN i x).id, ?_, by simp only [pkN]; omega, hinc.1 y hy⟩
      rw [List.getElem?_set_self (by rw [h.ll]; omega)]
    · rw [List.getElem?_set_ne (by omega)]
      exact h.lst b b0 b1 y (sub b b0 b1 y hy).1
  · obtain ⟨h1, h2⟩ := sub b b0 b1 y hy
    obtain ⟨_, i2, x2, _, rfl⟩ := h.from_ b b0 b1 y h1
    rw [List.getElem?_set_ne (by simp only [pkN] at *; omega)]
    exact h.sn b b0 b1 _ h1
  · rcases List.mem_or_eq_of_mem_set hn with hn | rfl
    · exact h.l0 n hn
    · simp only [pkN]; omega
end
theorem lt16 {k : Int} (a : 0 ≤ k) (b : k < 16) {n : Nat} (h : n = 16) : 0 + k.toNat < n := by omega
def bools (l : List Bool) : List Value := l.map Value.bool
theorem bools_get {l : List Bool} {i : Nat} {x : Bool} (h : l[i]? = some x) : (bools l)[i]? = some (.bool x) := by simp [bools, h]
theorem bools_set {l : List Bool} {i : Nat} {x : Bool} : (bools l).set i (.bool x) = bools (l.set i x) := by simp [bools, List.map_set]
theorem ints_set {k : IntKind} {l : List Int} {i : Nat} {x : Int} : (ints k l).set i (.int k x) = ints k (l.set i x) := by simp [ints, List.map_set]
theorem inB_cons {s k : Int} {p : Pk} {r : List Pk} (h : bucketZ p.flow s = k) : inB s k (p :: r) = p :: inB s k r := by unfold inB; rw [List.filter_cons, if_pos (by simpa using h)]
theorem inB_cons_ne {s k : Int} {p : Pk} {r : List Pk} (h : bucketZ p.flow s ≠ k) : inB s k (p :: r) = inB s k r := by unfold inB; rw [List.filter_cons, if_neg (by simpa using h)]
theorem pk_at {l : List Pk} {a : Option Addr} {vs : List Value} {h : Heap} {W : Wd} (hs : src h a (l.length * 5) vs) (hq : Sq (PkV W) l vs) {i : Nat} {x : Pk} (hx : l[i]? = some x) :
    ∃ b o pa pc, a = some ⟨b, o, none⟩ ∧ Bts W (.slice pa x.body.length pc) x.body ∧ ∀ h', Kept h h' → ∀ (j : Nat) (v : Value), [Value.int .i64 x.id, .int .u32 x.flow, .int .i64 x.tid, .int .i64 x.at_, .slice pa x.body.length pc][j]? = some v → cell h' b (o + i * 5 + j) = some v := by
  obtain ⟨cs, hcv, hrow, hrl⟩ := hq.get (fun _ _ => PkV.len) hx
  obtain ⟨pa, pc, rfl, hbt⟩ := hcv
  obtain ⟨b, o, e, hr⟩ := src_part (k := i * 5) (n := 5) hs hrl (by decide) hrow
  refine ⟨b, o, pa, pc, e, hbt, fun h' kk => ?_⟩
  obtain ⟨b', o', e', hr'⟩ := src_part (k := i * 5) (n := 5) (kk.src hs) hrl (by decide) hrow
  rw [e] at e'; cases e'
  exact (row_iff.1 hr').2
set_option maxHeartbeats 1000000
section
variable {l : List Pk} {a g : Option Addr} {cap gcap : Nat} {vs : List Value} {gs : List Int} {h : Heap}
theorem fqOrder_r (seed target : Int) (hs : src h a (l.length * 5) vs) (hq : Sq (PkV (Wd.of h)) l vs) (hg : src h g gs.length (ints .i64 gs)) :
    Runs Try.prog 5 #[.int .u32 seed, .int .i64 target, .slice a l.length cap, .slice g gs.length gcap] h fun v h' => v = .bool true ∧ Kept h h' := by
  refine vc_muezzinlaw13_FqOrder _ _ _ _ _ _ _ _ _ _ ((first13_c _).mono ?_)
  rintro _ h1 ⟨rfl, k1⟩
  refine ⟨_, rfl, bcase_false rfl ?_⟩
  refine ⟨fun x h' => h' = h1 ∧ (x = false → l.length ≤ 60 ∧ gs.length ≤ 100), dcase_intro (fun _ => ⟨rfl, fun h => by cases h⟩) (fun q => ⟨rfl, fun q2 => by simp at q2; omega⟩), fun _ => ?_⟩
  rintro x1 h2 ⟨rfl, hx1⟩
  refine ⟨fun x h' => h' = h2 ∧ (x = false → l.length ≤ 60 ∧ gs.length ≤ 100 ∧ 0 ≤ target), bcase_intro (fun _ => ⟨rfl, fun h => by cases h⟩) (fun q => ⟨rfl, fun q2 => by have := hx1 q; simp at q2; omega⟩), fun _ => ?_⟩
  rintro x2 h3 ⟨rfl, hx2⟩
  refine bcase_intro (fun _ => ⟨rfl, k1⟩) fun q => dcase_intro (fun _ => ⟨rfl, k1⟩) fun t1 => ?_
  obtain ⟨hl, hgl, t0⟩ := hx2 q
  clear hx1 hx2 q
  refine (new_c ((Me.start h).on k1) seed target 1000).mono ?_
  rintro _ h4 ⟨b, L, rfl, hv, m⟩
  refine ⟨_, rfl, bcase_false rfl ?_⟩
  intro b1 h5 e1 e2
  replace m := m.push e2 e1
  clear e1 e2
  refine ⟨by simp only [fits]; omega, ⟨by omega, by omega, by omega, by omega⟩, ?_⟩
  intro b2 h6 e1 e2
  replace m := m.push e2 e1
  clear e1 e2
  have eN : ((l.length : Int) + 1).toNat = l.length + 1 := by omega
  obtain ⟨T1, T2, m⟩ : ∃ T1 T2, Me (Wd.of h) h6 ([(b2, bools (List.replicate (l.length + 1) false), T2)] :: [(b1, ints .i64 (List.replicate 16 0), T1)] :: [L]) := by
    rw [joinL_one, eN] at m
    have e : List.replicate (l.length + 1) (Value.bool false) = bools (List.replicate (l.length + 1) false) := by simp [bools]
    rw [e] at m
    exact ⟨_, _, m⟩
  -- the puts
  refine ⟨fun x h' => ∃ (i : Nat) (W1 : Wd) (L : Grp) (q : Qu), x = i ∧ i ≤ l.length ∧ (Wd.of h).le W1 ∧ Me W1 h' ([(b2, bools (List.replicate (l.length + 1) false), T2)] :: [(b1, ints .i64 (List.replicate 16 0), T1)] :: [L]) ∧ QuV W1 b q L ∧ Well q ∧ q.seed = seed ∧ q.cnt = i ∧
      Pend seed l (fun b => (q.flow b).l) (List.replicate 16 0) (List.replicate (l.length + 1) false) ∧ ∀ k, 0 ≤ k → k < 16 → ∀ p ∈ (q.flow k).l, p.id ≤ i, fun x _ => ((l.length : Int) - x).toNat,
    ⟨0, _, L, _, rfl, by omega, Wd.le.refl _, m, hv, well0 _ _ _, rfl, by show cntL (List.replicate 16 fl0) = 0; decide, ?_, fun k _ _ p hp => by rw [flow0] at hp; cases hp⟩, fun _ => ?_⟩
  · refine ⟨fun b _ _ p hp => ?_, fun b _ _ => ?_, fun b _ _ p hp => ?_, fun b _ _ p hp => ?_, rfl, fun n hn => ?_, by simp⟩
    · rw [flow0] at hp; cases hp
    · rw [flow0]; exact List.Pairwise.nil
    · rw [flow0] at hp; cases hp
    · rw [flow0] at hp; cases hp
    · simp at hn; omega
  clear hv k1
  rintro _ h7 ⟨i, W1, L, q, rfl, hi, hle, m, hv, w, hsd, hcn, hpd, hmx⟩
  have kk := m.kept hle
  refine dcase_intro (fun q1 => ?_) fun q1 => ?_
  · obtain ⟨x, hx⟩ : ∃ x, l[i]? = some x := ⟨_, List.getElem?_eq_getElem (by omega)⟩
    obtain ⟨sb, so, pa, pc, rfl, hbt, hrd⟩ := pk_at hs hq hx
    have hc4 := hrd _ kk 4 _ rfl
    have hc1 := hrd _ kk 1 _ rfl
    refine ⟨⟨by omega, by omega⟩, _, _, _, hc4, dcase_intro (fun _ => ⟨rfl, kk⟩) fun h200 => ⟨by simp only [fits]; omega, ⟨by omega, by omega⟩, _, hc1, ⟨by omega, by omega⟩, _, _, _, hc4, ?_⟩⟩
    have hpv : PkV W1 (pkN i x) [.int .i64 ((i : Int) + 1), .int .u32 x.flow, .int .i64 0, .int .i64 0, .slice pa x.body.length pc] := ⟨pa, pc, rfl, hbt.le hle⟩
    have hpl : (pkN i x).body.length ≤ 1048576 := by show x.body.length ≤ _; omega
    have hpa : (pkN i x).at_ = 0 := rfl
    refine (put_c ((m.focus 2 rfl)) hv w.ok hpv hpl (by omega)).mono ?_
    rintro _ h8 ⟨rfl, W2, L2, hle2, hv2, m2⟩
    have kk2 := m2.kept (hle.trans hle2)
    obtain ⟨hok, hcc⟩ := w.ok.put (p := pkN i x) (by omega) (by omega) hpl (by omega)
    obtain ⟨w2, hfk, hfj⟩ := w.put (p := pkN i x) (by omega) (by omega) hpl (by omega)
    obtain ⟨d0, d1⟩ := bucketZ_bd (pkN i x).flow q.seed
    refine ⟨_, rfl, hrd _ kk2 4 _ rfl, hrd _ kk2 1 _ rfl, dcase_neg (by omega) (dcase_neg (by omega) ⟨by simp only [fits]; omega, ⟨i + 1, W2, L2, q.put (pkN i x), by omega, by omega, hle.trans hle2, (m2.focus 2 rfl).focus 2 rfl, hv2, w2, by rw [put_seed]; exact hsd, by omega, ?_, fun k k0 k1 p hp => ?_⟩, by dsimp only; omega⟩)⟩
    · have hnew : ∀ b, 0 ≤ b → b < 16 → ∀ p ∈ ((q.put (pkN i x)).flow b).l, p ∈ (q.flow b).l ∨ p = pkN i x ∧ bucketZ (pkN i x).flow q.seed = b := fun b b0 b1 p hp => by
        by_cases e : b = bucketZ (pkN i x).flow q.seed
        · rw [e, hfk] at hp
          rcases List.mem_append.1 hp with hp | hp
          · exact .inl (by rw [e]; exact hp)
          · simp at hp; exact .inr ⟨hp, e.symm⟩
        · rw [hfj b b0 e] at hp; exact .inl hp
      have hid : (pkN i x).id = (i : Int) + 1 := rfl
      refine ⟨fun b b0 b1 p hp => ?_, fun b b0 b1 => ?_, fun b b0 b1 p hp => ?_, fun b b0 b1 p hp => ?_, rfl, hpd.l0, hpd.sl⟩
      · rcases hnew b b0 b1 p hp with h | ⟨rfl, h⟩
        · exact hpd.from_ b b0 b1 p h
        · exact ⟨by rw [← hsd]; exact h, i, x, hx, rfl⟩
      · show ((q.put (pkN i x)).flow b).l.Pairwise _
        by_cases e : b = bucketZ (pkN i x).flow q.seed
        · rw [e, hfk]
          refine List.pairwise_append.2 ⟨by rw [← e]; exact hpd.inc b b0 b1, by simp, fun y hy z hz => ?_⟩
          simp at hz; subst hz
          have := hmx _ d0 d1 y hy
          omega
        · rw [hfj b b0 e]; exact hpd.inc b b0 b1
      · rcases hnew b b0 b1 p hp with h | ⟨rfl, h⟩
        · exact hpd.lst b b0 b1 p h
        · exact ⟨0, by rw [List.getElem?_replicate, if_pos (by omega)], by omega, by omega⟩
      · rcases hnew b b0 b1 p hp with h | ⟨rfl, h⟩
        · exact hpd.sn b b0 b1 p h
        · rw [List.getElem?_replicate, if_pos (by omega)]
    · by_cases e : k = bucketZ (pkN i x).flow q.seed
      · rw [e, hfk] at hp
        rcases List.mem_append.1 hp with hp | hp
        · have := hmx _ d0 d1 p hp; omega
        · simp at hp; subst hp; show (i : Int) + 1 ≤ _; omega
      · rw [hfj k k0 e] at hp; have := hmx k k0 k1 p hp; omega
  · have hil : i = l.length := by omega
    clear q1
    subst hil
    clear hi hmx
    refine ⟨fun o h' => o = l.length ∧ ∃ (W1 : Wd) (L : Grp) (q : Qu), (Wd.of h).le W1 ∧ Me W1 h' [L] ∧ QuV W1 b q L ∧ Well q ∧ q.cnt = 0, ?_, fun _ => ?_⟩
    rotate_left
    · clear m hv w hsd hcn hpd hle kk
      intro o h28 hj
      obtain ⟨ho, W1, L, q, hle, m, hv, w, hcn⟩ := hj
      subst ho
      have kk := m.kept hle
      refine ⟨fun x h' => x = true ∧ h' = h28, bcase_true rfl ⟨by simp, rfl⟩, fun _ => ?_⟩
      rintro _ h28 ⟨rfl, rfl⟩
      refine ⟨fun x h' => x = true ∧ h' = h28, bcase_true rfl ((len_c m hv).ret ⟨_, rfl, by rw [hcn]; rfl, rfl⟩), fun _ => ?_⟩
      rintro _ h28 ⟨rfl, rfl⟩
      refine bcase_true rfl ((bytesq_c m hv).ret ⟨_, rfl, ?_, kk⟩)
      have hz : ∀ l : List Fl, cntL l = 0 → bytL l = 0 := fun l => by
        induction l with
        | nil => intro _; rfl
        | cons f r ih =>
          intro h
          simp only [cntL] at h
          have hf : f.l = [] := List.eq_nil_of_length_eq_zero (by omega)
          simp only [bytL]; rw [hf, ih (by omega)]; rfl
      have : q.byt = 0 := hz _ hcn
      rw [this]; rfl
    -- the takes
    refine ⟨fun now o x h' => ∃ (i ot : Nat) (W1 : Wd) (L : Grp) (q : Qu) (last : List Int) (seen : List Bool), x = i ∧ o = ot ∧ i ≤ gs.length + l.length + 1 ∧ i ≤ ot ∧ ot + q.cnt = l.length ∧ 0 ≤ now ∧ now ≤ 65536 * (i : Int) ∧ (Wd.of h).le W1 ∧
        Me W1 h' ([(b2, bools seen, T2)] :: [(b1, ints .i64 last, T1)] :: [L]) ∧ QuV W1 b q L ∧ Well q ∧ q.seed = seed ∧ Pend seed l (fun b => (q.flow b).l) last seen, fun _ _ x _ => ((gs.length : Int) + l.length + 1 - x).toNat,
      ⟨0, 0, W1, L, q, _, _, rfl, rfl, by omega, by omega, by omega, by omega, by omega, hle, m, hv, w, hsd, hpd⟩, fun _ => ?_⟩
    clear hv hpd hcn w hsd
    rintro now _ _ h9 ⟨i, ot, W1, L, q, last, seen, rfl, rfl, hi, hio, hcn, n0, n1, hle, m, hv, w, hsd, hpd⟩
    have kk := m.kept hle
    refine ⟨by simp only [fits]; omega, by simp only [fits]; omega, dcase_intro (fun q1 => ?_) fun q1 => ?_⟩
    rotate_left
    · exfalso; omega
    refine ⟨fun now' h' => h' = h9 ∧ 0 ≤ now' ∧ now' ≤ 65536 * ((i : Int) + 1), dcase_intro (fun q2 => ?_) (fun q2 => ⟨rfl, n0, by omega⟩), fun _ => ?_⟩
    · obtain ⟨x, hx⟩ : ∃ x, gs[i]? = some x := ⟨_, List.getElem?_eq_getElem (by omega)⟩
      obtain ⟨gb, go, rfl, hc⟩ := src_cell (kk.src hg) (ints_get (k := .i64) hx)
      refine ⟨⟨by omega, by omega⟩, x, hc, (number_c _ _ _ (by decide) (by decide)).ret ⟨_, rfl, ?_⟩⟩
      exact ⟨by simp only [fits]; omega, rfl, by omega, by omega⟩
    rintro now' _ ⟨rfl, n0', n1'⟩
    have hlaw := take_law (now := now') n0' (by omega) w
    have hcl := hlaw.cnt w.ok
    refine (take_c (m.focus 2 rfl) hv w.ok n0' (by omega)).mono ?_
    generalize q.take now' = ρ at *
    obtain ⟨q', d, r⟩ := ρ
    obtain ⟨w', hsd', htg', hiv', ⟨dd, hdd, hout, hin⟩, hnone⟩ := hlaw
    dsimp only at *
    rw [List.nil_append] at hdd
    obtain rfl : d = dd := hdd
    rintro _ h12 ⟨sa, sc, vs1, E1, L2, cs, rfl, hcv, od, hsd1, hv2, m2⟩
    obtain ⟨pa, pc, rfl, hbp⟩ := hcv
    refine ⟨_, _, _, _, _, rfl, ?_⟩
    intro b7 h13 e1 e2
    replace m2 := m2.push e2 e1
    clear e1 e2
    refine ⟨⟨rfl, m2.wrsb 0 rfl rfl, by simp [Value.oneCell']⟩, ?_⟩
    intro h14 e3
    replace m2 := m2.setr 0 rfl e3
    clear e3 m hv
    simp only [List.set_cons_zero, List.eraseIdx_cons_zero, List.eraseIdx_cons_succ] at m2
    have hdl : d.length ≤ 60 := by simp at hcl; omega
    have hbd : ∀ p ∈ d ++ r.toList, p.body.length ≤ 1048576 := fun p hp => by
      obtain ⟨p0, p1, hpf⟩ := hin p hp
      exact ((w.ok.flow p0 p1).2.p p hpf).2.2
    -- all that came
    refine ⟨fun aa al ac h' => al = (d ++ r.toList).length ∧ ∃ (vs : List Value) (E : Grp), Ow aa al ac 5 vs E ∧ Sq (PkV W1) (d ++ r.toList) vs ∧ Me W1 h' (E :: [(b2, bools seen, T2)] :: [(b1, ints .i64 last, T1)] :: [L2]), ?_, fun _ => ?_⟩
    · cases r with
      | none =>
        refine bcase_false rfl ⟨by simp, vs1, E1, od, by simpa using hsd1, ?_⟩
        exact (((m2.drop1).focus 3 rfl).focus 3 rfl).focus 2 rfl
      | some p =>
        have hone := hsd1.all fun _ _ => PkV.one
        refine bcase_true rfl ⟨_, m2.rowb 0 rfl rfl rfl, ?_, ?_⟩
        · refine (packets_c (od.src m2 1 rfl) od.len hone (by omega)).mono ?_
          rintro _ h15 ⟨a4, c4, E4, rfl, mk, o4⟩
          replace m2 := m2.beside mk
          clear mk
          refine ⟨_, _, _, rfl, m2.rowb 1 rfl rfl rfl, rfl, ?_⟩
          refine o4.app1 m2 0 rfl rfl (by simp [setL, Value.oneCell']) (by omega) (by decide) fun a5 c5 E5 h' m' o5 => ?_
          exact ⟨by simp, _, E5, o5, hsd1.snoc ⟨_, _, rfl, hbp⟩, (((((m'.free 1 rfl).free 1 rfl)).focus 3 rfl).focus 3 rfl).focus 2 rfl⟩
        · refine ⟨rfl, ?_⟩
          intro b9 h18 e1 e2
          replace m2 := m2.push e2 e1
          clear e1 e2
          refine (packets_c (od.src m2 2 rfl) od.len hone (by omega)).mono ?_
          rintro _ h19 ⟨a4, c4, E4, rfl, mk, o4⟩
          replace m2 := m2.beside mk
          clear mk
          refine ⟨_, _, _, rfl, _, ⟨m2.rowb 1 rfl rfl rfl, by simp [setL, Value.oneCell']⟩, ?_⟩
          refine o4.app m2 0 rfl rfl (by omega) (by decide) fun a5 c5 E5 h' m' o5 => ?_
          exact ⟨by simp, _, E5, o5, hsd1.snoc ⟨_, _, rfl, hbp⟩, (((((m'.free 1 rfl).free 1 rfl).free 1 rfl).focus 3 rfl).focus 3 rfl).focus 2 rfl⟩
    clear m2 od hsd1 vs1 E1 hbp
    rintro aa al ac h21 ⟨rfl, vs1, E1, od, hsd1, m⟩
    generalize hall : d ++ r.toList = all at *
    refine ⟨fun o x h' => ∃ (k : Nat) (last : List Int) (seen : List Bool), x = k ∧ o = ot + k ∧ k ≤ all.length ∧ Me W1 h' (E1 :: [(b2, bools seen, T2)] :: [(b1, ints .i64 last, T1)] :: [L2]) ∧
      Pend seed l (fun b => inB seed b (all.drop k) ++ (q'.flow b).l) last seen, fun _ x _ => ((all.length : Int) - x).toNat,
      ⟨0, last, seen, rfl, by omega, by omega, m, hpd.congr fun b b0 b1 => by rw [List.drop_zero, ← hsd]; exact (hout b b0 b1).symm⟩, fun _ => ?_⟩
    clear m hpd
    rintro _ _ h22 ⟨k, last, seen, rfl, rfl, hk, m, hpd⟩
    have kk := m.kept hle
    refine dcase_intro (fun q2 => ?_) fun q2 => ?_
    · obtain ⟨p, hp⟩ : ∃ p, all[k]? = some p := ⟨_, List.getElem?_eq_getElem (by omega)⟩
      have hpm := List.mem_of_getElem? hp
      have hdk : all.drop k = p :: all.drop (k + 1) := by
        rw [List.drop_eq_getElem_cons (by omega)]
        congr 1
        exact (List.getElem?_eq_some_iff.1 hp).2
      obtain ⟨d0, d1⟩ := bucketZ_bd p.flow seed
      have hpk : inB seed (bucketZ p.flow seed) (all.drop k) ++ (q'.flow (bucketZ p.flow seed)).l = p :: (inB seed (bucketZ p.flow seed) (all.drop (k + 1)) ++ (q'.flow (bucketZ p.flow seed)).l) := by rw [hdk, inB_cons rfl, List.cons_append]
      have hnx := hpd.next d0 d1 hpk (pend' := fun b => inB seed b (all.drop (k + 1)) ++ (q'.flow b).l) fun b b0 b1 hb => by rw [hdk, inB_cons_ne (Ne.symm hb)]
      obtain ⟨_, i9, x, hx, rfl⟩ := hpd.from_ _ d0 d1 p (by rw [hpk]; simp)
      obtain ⟨n9, hn9, n90, n91⟩ := hpd.lst _ d0 d1 (pkN i9 x) (by rw [hpk]; simp)
      have hsn := hpd.sn _ d0 d1 (pkN i9 x) (by rw [hpk]; simp)
      have hix : i9 < l.length := (List.getElem?_eq_some_iff.1 hx).1
      have hid : (pkN i9 x).id = (i9 : Int) + 1 := rfl
      have hid2 : ((pkN i9 x).id - 1).toNat = i9 := by omega
      have hbx := hbd _ hpm
      obtain ⟨d2, d3⟩ := bucketZ_bd x.flow seed
      obtain ⟨ab, ao, pa, pc, rfl, hbt, hrd⟩ := pk_at (od.src m 0 rfl) hsd1 hp
      obtain ⟨sb, so, qa, qc, rfl, hbt2, hrd2⟩ := pk_at hs hq hx
      refine ⟨⟨by omega, by omega⟩, (pkN i9 x).id, hrd _ (.refl _) 0 _ rfl, fun x h' => x = false ∧ h' = h22, dcase_neg (by omega) ⟨by simp; omega, rfl⟩, fun _ => ?_⟩
      rintro _ h23 ⟨rfl, rfl⟩
      refine bcase_false rfl ⟨⟨by omega, by omega⟩, false, m.cell 1 rfl (by rw [Nat.zero_add]; exact bools_get hsn), bcase_false rfl ?_⟩
      refine ⟨⟨by omega, by omega⟩, x.flow, hrd _ (.refl _) 1 _ rfl, (refbucket_c _ _ _).ret ⟨_, rfl, ⟨by omega, by omega⟩, x.flow, hrd _ (.refl _) 1 _ rfl, ?_⟩⟩
      refine ⟨by simp only [fits]; omega, ⟨by omega, by omega⟩, x.flow, by rw [hid2]; exact hrd2 _ kk 1 _ rfl, bcase_false (by simp) ?_⟩
      refine ⟨⟨by omega, by omega⟩, _, _, _, hrd _ (.refl _) 4 _ rfl, by simp only [fits]; omega, ⟨by omega, by omega⟩, qa, x.body.length, qc, by rw [hid2]; exact hrd2 _ kk 4 _ rfl, ?_⟩
      obtain ⟨ha, hla⟩ := (hbt.le m.leOf).src
      obtain ⟨hb, hlb⟩ := (hbt2.le (hle.trans m.leOf)).src
      refine (sameBytes_c ha hla hb hlb (by omega)).ret ⟨_, rfl, by rw [hid2]; exact hrd2 _ kk 1 _ rfl, hrd _ (.refl _) 1 _ rfl, bcase_false (by simp [pkN]) ?_⟩
      refine ⟨⟨d0, d1⟩, n9, m.cell 2 rfl (by rw [Nat.zero_add]; exact ints_get hn9), dcase_neg (by omega) ⟨⟨d0, d1⟩, (m.blk 2 rfl).wr (lt16 d2 d3 (ints_len.trans hpd.ll)), ?_⟩⟩
      intro h26 e1
      replace m := m.setc 2 rfl e1
      clear e1
      refine ⟨⟨by omega, by omega⟩, (m.blk 1 rfl).wr (by simp only [bools, List.length_map]; rw [hpd.sl]; omega), ?_⟩
      intro h27 e1
      replace m := m.setc 1 rfl e1
      clear e1
      simp only [List.set_cons_zero, List.set_cons_succ, Nat.zero_add] at m
      rw [bools_set, ints_set] at m
      exact ⟨by simp only [fits]; omega, by simp only [fits]; omega, ⟨k + 1, _, _, by omega, by omega, by omega, m, hnx⟩, by dsimp only; omega⟩
    · obtain rfl : k = all.length := by omega
      have hpd' : Pend seed l (fun b => (q'.flow b).l) last seen := hpd.congr fun b _ _ => by rw [List.drop_length]; rfl
      cases r with
      | none =>
        have hz : q'.cnt = 0 := by
          rw [cnt_sum w'.ok, sumN_congr (g := fun _ => 0) fun j hj => by rw [hnone rfl (j : Int) (by omega) (by omega)]; rfl]
          rfl
        exact bcase_true rfl ⟨by omega, W1, L2, q', hle, ((m.drop1).drop1).drop1, hv2, w', hz⟩
      | some p =>
        have h1 : 1 ≤ all.length := by rw [← hall]; simp
        exact bcase_false rfl ⟨by simp only [fits]; omega, ⟨i + 1, ot + all.length, W1, L2, q', last, seen, by omega, by omega, by omega, by omega, by omega, by omega, by omega, hle, m.drop1, hv2, w', hsd'.trans hsd, hpd'⟩, by omega⟩
end
theorem walk_FqOrder (w : World) (a0 : Int) (w0 : (Lit.int .u32 a0).wf = true) (a1 : Int) (w1 : (Lit.int .i64 a1).wf = true) (a2 : Option Addr) (len2 cap2 : Nat) (o2 : Opn (.slc (.con (.int .i64) (.con (.int .u32) (.con (.int .i64) (.con (.int .i64) (.con (.slc (.int .u8)) .nil)))))) (Wd.of w.heap) [.slice a2 len2 cap2]) (a3 : Option Addr) (len3 cap3 : Nat) (o3 : Opn (.slc (.int .i64)) (Wd.of w.heap) [.slice a3 len3 cap3]) :
    Calls Try.prog 5 #[.int .u32 a0, .int .i64 a1, .slice a2 len2 cap2, .slice a3 len3 cap3] w fun e w' => e = .returned (.bool true) ∧ Go.RowKit.Below w.heap.size w w' := by
  obtain ⟨l, vs, rfl, _, h1, h2, _⟩ := opn_pks o2
  obtain ⟨a, cap, gs, e, _, _, h3, _⟩ := opn_ints o3
  cases e
  exact calls_of_runs (fqOrder_r a0 a1 (of_src.1 h1) h2 (of_src.1 h3))
end Go.Proofs.Yteojoiglffkbmaa
