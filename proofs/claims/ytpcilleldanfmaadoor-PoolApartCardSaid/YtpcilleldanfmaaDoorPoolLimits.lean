/- The walk of PoolLimits: never more than may be; each that came is there or was told to be dropped, once. -/
import Derived.Test.YtpcilleldanfmaaDoorPoolFirst
import Derived.Test.YtpcilleldanfmaaDoorPoolDo
import Derived.Test.YtpcilleldanfmaaDoorFqCalm
set_option linter.unusedVariables false
set_option linter.unusedSimpArgs false
set_option maxRecDepth 8000
namespace Go.Proofs.YtpcilleldanfmaaDoor
open Go.Vc
/-- What is still to be told of: of numbers 1 to i, each once, none told of yet; so many were told of. -/
structure Pnd (n i : Nat) (pend : List Pk) (gs : List Bool) (out : Int) : Prop where
  sl : gs.length = n + 1
  rg : ∀ p ∈ pend, 1 ≤ p.id ∧ p.id ≤ i
  nd : (pend.map Pk.id).Nodup
  fr : ∀ p ∈ pend, gs[p.id.toNat]? = some false
  ct : out + pend.length = i
  up : ∀ k, i < k → k ≤ n → gs[k]? = some false
  o0 : 0 ≤ out
  i1 : i ≤ n
section
variable {n i : Nat} {pend pend' : List Pk} {gs : List Bool} {out : Int} {p : Pk} {P : Po}
theorem Pnd.perm (h : Pnd n i pend gs out) (hp : pend'.Perm pend) : Pnd n i pend' gs out :=
  ⟨h.sl, fun p hm => h.rg p (hp.mem_iff.1 hm), (hp.map _).nodup_iff.2 h.nd, fun p hm => h.fr p (hp.mem_iff.1 hm), by rw [hp.length_eq]; exact h.ct, h.up, h.o0, h.i1⟩
theorem Pnd.add (h : Pnd n i pend gs out) (hi : i < n) (hp : p.id = (i : Int) + 1) : Pnd n (i + 1) (p :: pend) gs out := by
  refine ⟨h.sl, fun x hx => ?_, ?_, fun x hx => ?_, ?_, fun k h1 h2 => h.up k (by omega) h2, h.o0, by omega⟩
  · rcases List.mem_cons.1 hx with rfl | hx
    · omega
    · have := h.rg x hx; omega
  · rw [List.map_cons, List.nodup_cons]
    refine ⟨fun hc => ?_, h.nd⟩
    obtain ⟨x, hx, e⟩ := List.mem_map.1 hc
    have := h.rg x hx; omega
  · rcases List.mem_cons.1 hx with rfl | hx
    · exact h.up _ (by omega) (by omega)
    · exact h.fr x hx
  · have := h.ct
    simp only [List.length_cons]; omega
theorem Pnd.next (h : Pnd n i (p :: pend) gs out) : 1 ≤ p.id ∧ p.id ≤ i ∧ gs[p.id.toNat]? = some false ∧ Pnd n i pend (gs.set p.id.toNat true) (out + 1) := by
  have hr := h.rg p (by simp)
  have hnd := h.nd
  rw [List.map_cons, List.nodup_cons] at hnd
  refine ⟨hr.1, hr.2, h.fr p (by simp), by simp [h.sl], fun x hx => h.rg x (by simp [hx]), hnd.2, fun x hx => ?_, ?_, fun k h1 h2 => ?_, by have := h.o0; omega, h.i1⟩
  · have hx' := h.rg x (by simp [hx])
    have hne : x.id ≠ p.id := fun e => hnd.1 (List.mem_map.2 ⟨x, hx, e⟩)
    rw [List.getElem?_set_ne (by omega)]
    exact h.fr x (by simp [hx])
  · have := h.ct
    simp only [List.length_cons] at this; omega
  · rw [List.getElem?_set_ne (by omega)]
    exact h.up k h1 h2
theorem cntQ_zero : ∀ {l : List Qu}, (∀ q ∈ l, q.cnt = 0) → cntQ l = 0
  | [], _ => rfl
  | q :: l, h => by simp only [cntQ]; rw [h q (by simp), cntQ_zero fun q hq => h q (by simp [hq])]
theorem len_zero (hP : PoOk P) (h : ∀ k, k < 128 → (P.qu k).cnt = 0) : P.len = 0 := by
  refine cntQ_zero fun q hq => ?_
  obtain ⟨k, hk⟩ := List.mem_iff_getElem?.1 hq
  have hlt := (List.getElem?_eq_some_iff.1 hk).1
  rw [hP.n] at hlt
  have e := (hP.qu hlt).1
  rw [hk] at e; cases e
  exact h k hlt
theorem drop_qu {a : Nat} (hP : PoOk P) (h1 : 1 ≤ a) (h2 : a ≤ 16) (hz : ∀ k, k < (a - 1) * 8 → (P.qu k).cnt = 0) : ∀ k, k < a * 8 → ((P.drop (a : Int)).1.qu k).cnt = 0 := by
  intro k hk
  have ht : thereZ (a : Int) 0 = true := thereZ_iff.2 ⟨by omega, by omega, by omega, by omega⟩
  have hw := (wipeN_spec hP (((a : Int) - 1).toNat * 8) 8 (by omega)).2.2.2 k
  unfold Po.drop
  rw [if_pos ht]
  dsimp only
  rw [hw]
  split
  · rfl
  · exact hz k (by omega)
set_option maxHeartbeats 2000000
theorem poolLimits_r {h : Heap} {a : Addr} {l : List Dp} {la : Option Addr} {cap : Nat} {vs : List Value} (hg : wcell (Wd.of h) 0 0 = some (ptE a)) (packets bytes : Int) (hs : src h la (l.length * 9) vs) (hq : Sq (DpV (Wd.of h)) l vs) :
    Runs Tryd.prog 4 #[.int .i64 packets, .int .i64 bytes, .slice la l.length cap] h fun v h' => v = .bool true ∧ Kept h h' := by
  refine vc_muezzinlaw14_PoolLimits _ _ _ _ _ _ _ ((first14_c (Me.start h) hg).mono ?_)
  rintro _ h1 ⟨rfl, W1, hle, m⟩
  refine ⟨_, rfl, bcase_false rfl ((number_c packets 20 _ (by decide) (by decide)).ret ⟨_, rfl, ?_⟩)⟩
  have n0 := Int.emod_nonneg packets (show (20 : Int) ≠ 0 by decide)
  have n1 := Int.emod_lt_of_pos packets (show (0 : Int) < 20 by decide)
  refine ⟨by simp only [fits]; omega, (number_c bytes 2000 _ (by decide) (by decide)).ret ⟨_, rfl, ?_⟩⟩
  have b0 := Int.emod_nonneg bytes (show (2000 : Int) ≠ 0 by decide)
  have b1 := Int.emod_lt_of_pos bytes (show (0 : Int) < 2000 by decide)
  refine ⟨by simp only [fits]; omega, dcase_intro (fun _ => ⟨rfl, m.kept hle⟩) fun hl60 => ?_⟩
  generalize packets % 20 = pn at *
  generalize bytes % 2000 = bn at *
  refine (poNew_c m (wcell_le hle hg) 7 50 1000 (pn + 1) (bn + 1)).mono ?_
  rintro _ h4 ⟨-, hok⟩
  obtain ⟨b, L, rfl, hv, m⟩ := hok ⟨by omega, by omega, by omega, by omega⟩
  have hP0 : PoOk (po0 7 50 1000 (pn + 1) (bn + 1)) := pok0 _ _ _ (by omega) (by omega) (by omega) (by omega)
  have l0 := len0 7 50 1000 (pn + 1) (bn + 1)
  have m0 : (po0 7 50 1000 (pn + 1) (bn + 1)).mp = pn + 1 := rfl
  have y0 : (po0 7 50 1000 (pn + 1) (bn + 1)).mb = bn + 1 := rfl
  generalize po0 7 50 1000 (pn + 1) (bn + 1) = P0 at *
  refine ⟨_, _, rfl, bcase_false rfl ⟨true, rfl, bcase_false rfl ⟨by simp only [fits]; omega, ⟨by omega, by omega, by omega, by omega⟩, ?_⟩⟩⟩
  intro bG h5 e1 e2
  replace m := m.push e2 e1
  clear e1 e2
  have eN : ((l.length : Int) + 1).toNat = l.length + 1 := by omega
  obtain ⟨TG, m⟩ : ∃ TG, Me W1 h5 ([(bG, bools (List.replicate (l.length + 1) false), TG)] :: L :: []) := by
    rw [joinL_one, eN] at m
    have e : List.replicate (l.length + 1) (Value.bool false) = bools (List.replicate (l.length + 1) false) := by simp [bools]
    rw [e] at m
    exact ⟨_, m⟩
  have hall0 : P0.all = [] := List.eq_nil_of_length_eq_zero (by rw [← Po.len_all]; exact l0)
  have hpn0 : Pnd l.length 0 P0.all (List.replicate (l.length + 1) false) 0 := by
    rw [hall0]
    refine ⟨by simp, fun p hp => (by cases hp), List.nodup_nil, fun p hp => (by cases hp), rfl, fun k h1 h2 => ?_, Int.le_refl _, by omega⟩
    rw [List.getElem?_replicate, if_pos (by omega)]
  refine ⟨fun x out y h' => ∃ (i : Nat) (W2 : Wd) (L : Grp) (P : Po) (gs : List Bool), x = i ∧ y = i ∧ i ≤ l.length ∧ (Wd.of h).le W2 ∧ Me W2 h' ([(bG, bools gs, TG)] :: L :: []) ∧ PoV W2 b P L ∧ PoOk P ∧ P.mp = pn + 1 ∧ P.mb = bn + 1 ∧ P.len ≤ P.mp ∧ Pnd l.length i P.all gs out, fun _ _ x _ => ((l.length : Int) - x).toNat,
    ⟨0, W1, L, P0, _, rfl, rfl, by omega, hle, m, hv, hP0, m0, y0, by omega, hpn0⟩, fun _ => ?_⟩
  clear m hv hP0 hpn0 l0 hall0
  rintro _ out _ h6 ⟨i, W2, L, P, gs, rfl, rfl, hi, hle, m, hv, hP, hmp, hmb, hlm, hpn⟩
  have kk := m.kept hle
  refine dcase_intro (fun q => ?_) fun q => ?_
  · obtain ⟨x, hx⟩ : ∃ x, l[i]? = some x := ⟨_, List.getElem?_eq_getElem (by omega)⟩
    obtain ⟨sb, so, pa, pc, rfl, hbt, hrd⟩ := dp_at hs hq hx
    have hc := (row_iff.1 (hrd _ kk)).2
    have ei : ∀ k : Nat, so + (i : Int).toNat * 9 + k = so + i * 9 + k := fun k => by omega
    refine ⟨⟨by omega, by omega⟩, _, _, _, by simpa using hc 8 _ rfl, dcase_intro (fun _ => ⟨rfl, kk⟩) fun h300 => ?_⟩
    refine ⟨fun xa h' => ∃ bX TX, xa = some ⟨bX, 0, none⟩ ∧ Me W2 h' ([(bX, [.int .i64 ((i : Int) + 1), .int .u32 x.p.flow, .int .i64 (x.b % 8), .int .i64 0, .slice pa x.p.body.length pc], TX)] :: [(bG, bools gs, TG)] :: L :: []), ?_, fun _ => ?_⟩
    · refine ⟨by simp only [fits]; omega, ⟨by omega, by omega⟩, _, by simpa using hc 5 _ rfl, ⟨by omega, by omega⟩, _, by simpa using hc 2 _ rfl, ⟨by omega, by omega⟩, _, _, _, by simpa using hc 8 _ rfl, ?_, ?_⟩
      · refine (number_c x.b 8 _ (by decide) (by decide)).ret ⟨_, rfl, by simpa using hc 8 _ rfl, by simpa using hc 5 _ rfl, ?_⟩
        intro b6 h8 e1 e2
        replace m := m.push e2 e1
        refine ⟨⟨rfl, m.wrsb 0 rfl rfl, by simp [Value.oneCell']⟩, ?_⟩
        intro h9 e3
        exact ⟨b6, _, rfl, m.setr 0 rfl e3⟩
      · intro b6 h8 e1 e2
        replace m := m.push e2 e1
        have hc := (row_iff.1 (hrd _ (m.kept hle))).2
        refine (number_c x.b 8 _ (by decide) (by decide)).ret ⟨_, rfl, by simpa using hc 8 _ rfl, by simpa using hc 5 _ rfl, ?_⟩
        refine ⟨⟨rfl, m.wrsb 0 rfl rfl, by simp [Value.oneCell']⟩, ?_⟩
        intro h9 e3
        exact ⟨b6, _, rfl, m.setr 0 rfl e3⟩
    clear m
    rintro _ h13 ⟨bX, TX, rfl, m⟩
    have hc := (row_iff.1 (hrd _ (m.kept hle))).2
    have t0 := Int.emod_nonneg x.b (show (8 : Int) ≠ 0 by decide)
    have t1 := Int.emod_lt_of_pos x.b (show (0 : Int) < 8 by decide)
    have a0 := Int.emod_nonneg x.a (show (16 : Int) ≠ 0 by decide)
    have a1 := Int.emod_lt_of_pos x.a (show (0 : Int) < 16 by decide)
    refine ⟨⟨by omega, by omega⟩, _, by simpa using hc 1 _ rfl, _, m.rowb 0 rfl rfl rfl, (number_c x.a 16 _ (by decide) (by decide)).ret ⟨_, rfl, m.rowb 0 rfl rfl rfl, by simp only [fits]; omega, ?_⟩⟩
    have hpv : PkV W2 ⟨(i : Int) + 1, x.p.flow, x.b % 8, 0, x.p.body⟩ [.int .i64 ((i : Int) + 1), .int .u32 x.p.flow, .int .i64 (x.b % 8), .int .i64 0, .slice pa x.p.body.length pc] := ⟨pa, pc, rfl, hbt.le hle⟩
    have hth : thereZ (x.a % 16 + 1) (x.b % 8) = true := thereZ_iff.2 ⟨by omega, by omega, by omega, by omega⟩
    have hp1 := hP.p1
    refine (poPut_c (aid := x.a % 16 + 1) (m.focus 2 rfl) hv hP (by omega) hpv (Int.le_refl _) (show (0 : Int) ≤ 1125899906842624 by decide) (by dsimp only; omega) (wcell_le hle hg)).mono ?_
    rintro _ h15 ⟨oa, oc, vs2, E, W3, L3, rfl, o, hle3, hs3, hv3, m⟩
    have e1 : P.putZ (x.a % 16 + 1) ⟨(i : Int) + 1, x.p.flow, x.b % 8, 0, x.p.body⟩ = P.put (pix (x.a % 16 + 1) (x.b % 8)) ⟨(i : Int) + 1, x.p.flow, x.b % 8, 0, x.p.body⟩ := if_pos hth
    have e2 : (if thereZ (x.a % 16 + 1) (⟨(i : Int) + 1, x.p.flow, x.b % 8, 0, x.p.body⟩ : Pk).tid = true then Value.nilIface else ptE a) = .nilIface := if_pos hth
    rw [e1] at hv3 o hs3 ⊢
    rw [e2]
    obtain ⟨p1, p2, p3, p4, p5⟩ := put_spec hP (pix_lt hth) (p := ⟨(i : Int) + 1, x.p.flow, x.b % 8, 0, x.p.body⟩) (Int.le_refl _) (show (0 : Int) ≤ 1125899906842624 by decide) (by dsimp only; omega) (by omega)
    have hdl := p3.length_eq
    rw [List.length_append, ← Po.len_all, List.length_cons, ← Po.len_all] at hdl
    have hpn1 := (hpn.add (p := ⟨(i : Int) + 1, x.p.flow, x.b % 8, 0, x.p.body⟩) (by omega) rfl).perm p3
    clear hpn
    generalize P.put (pix (x.a % 16 + 1) (x.b % 8)) ⟨(i : Int) + 1, x.p.flow, x.b % 8, 0, x.p.body⟩ = res at *
    obtain ⟨P3, d⟩ := res
    dsimp only at *
    refine ⟨_, _, _, _, rfl, true, rfl, bcase_false rfl ⟨by simp only [fits]; omega, ?_⟩⟩
    simp only [List.eraseIdx_cons_zero, List.eraseIdx_cons_succ] at m
    refine ⟨fun out' y h' => ∃ (k : Nat) (gs' : List Bool), y = k ∧ k ≤ d.length ∧ Me W3 h' ([(bG, bools gs', TG)] :: E :: L3 :: []) ∧ Pnd l.length (i + 1) (d.drop k ++ P3.all) gs' out', fun _ y _ => ((d.length : Int) - y).toNat,
      ⟨0, gs, rfl, by omega, (m.free 2 rfl).focus 2 rfl, hpn1⟩, fun _ => ?_⟩
    clear m hpn1
    rintro out' _ h16 ⟨k, gs', rfl, hk, m, hpn⟩
    refine dcase_intro (fun q1 => ?_) fun q1 => ?_
    · obtain ⟨y, hy⟩ : ∃ y, d[k]? = some y := ⟨_, List.getElem?_eq_getElem (by omega)⟩
      obtain ⟨cs, hcv, hrow, hrl⟩ := hs3.get (fun _ _ => PkV.len) hy
      obtain ⟨ya, yc, rfl, hby⟩ := hcv
      obtain ⟨eb, eo, rfl, hr⟩ := src_part (k := k * 5) (n := 5) (o.src m 1 rfl) hrl (by decide) hrow
      have hid := (row_iff.1 hr).2 0 _ rfl
      have hid : cell h16 eb (eo + (k : Int).toNat * 5) = some (.int .i64 y.id) := by simpa using hid
      rw [List.drop_eq_getElem_cons (by omega), (List.getElem?_eq_some_iff.1 hy).2, List.cons_append] at hpn
      obtain ⟨r1, r2, r3, hpn2⟩ := hpn.next
      have hsl := hpn.sl
      have hct := hpn2.ct
      have ho0 := hpn.o0
      refine ⟨fun z h' => z = false ∧ h' = h16, ⟨⟨by omega, by omega⟩, _, hid, dcase_neg (by omega) ⟨⟨by omega, by omega⟩, _, hid, by simp only [fits]; omega, by simp; omega, rfl⟩⟩, fun _ => ?_⟩
      rintro _ h16 ⟨rfl, rfl⟩
      refine bcase_false rfl ⟨⟨by omega, by omega⟩, _, hid, ⟨by omega, by omega⟩, _, m.cell 0 rfl (by rw [Nat.zero_add]; exact bools_get r3), bcase_false rfl ⟨⟨by omega, by omega⟩, _, hid, ⟨by omega, by omega⟩, ?_⟩⟩
      refine m.store 0 rfl (by rw [bools_len, hsl]; omega) fun h17 m => ?_
      rw [Nat.zero_add, bools_set] at m
      exact ⟨by simp only [fits]; omega, by simp only [fits]; omega, ⟨k + 1, _, by omega, by omega, m, hpn2⟩, by (try dsimp only); omega⟩
    · obtain rfl : k = d.length := by omega
      rw [List.drop_length, List.nil_append] at hpn
      have hct := hpn.ct
      rw [← Po.len_all] at hct
      have hm3 := m.focus 2 rfl
      simp only [List.eraseIdx_cons_zero, List.eraseIdx_cons_succ] at hm3
      refine ⟨fun z h' => z = false ∧ Me W3 h' (L3 :: [(bG, bools gs', TG)] :: E :: []), ?_, fun _ => ?_⟩
      · refine (poLen_c hm3 hv3 p1 (by omega)).mono ?_
        rintro _ h17 ⟨rfl, m⟩
        refine ⟨_, rfl, dcase_neg (by omega) ((poBytes_c m hv3 p1 (by omega)).mono ?_)⟩
        rintro _ h18 ⟨rfl, m⟩
        exact ⟨_, rfl, by simp; omega, m⟩
      clear m hm3
      rintro _ h19 ⟨rfl, m⟩
      refine bcase_false rfl ((poLen_c m hv3 p1 (by omega)).mono ?_)
      rintro _ h20 ⟨rfl, m⟩
      refine ⟨_, rfl, by simp only [fits]; omega, bcase_false (by simp; omega) ⟨by simp only [fits]; omega, ⟨i + 1, W3, L3, P3, gs', by omega, by omega, by omega, hle.trans hle3, (m.free 2 rfl).focus 1 rfl, hv3, p1, p2.mp.trans hmp, p2.mb.trans hmb, by rw [p2.mp]; exact p4, hpn⟩, by (try dsimp only); omega⟩⟩
  · obtain rfl : i = l.length := by omega
    have hp1 := hP.p1
    refine ⟨fun out x h' => ∃ (a : Nat) (W3 : Wd) (L : Grp) (P : Po) (gs : List Bool), x = a ∧ 1 ≤ a ∧ a ≤ 17 ∧ (Wd.of h).le W3 ∧ Me W3 h' ([(bG, bools gs, TG)] :: L :: []) ∧ PoV W3 b P L ∧ PoOk P ∧ P.len ≤ 512 ∧ Pnd l.length l.length P.all gs out ∧ ∀ k, k < (a - 1) * 8 → (P.qu k).cnt = 0, fun _ x _ => (17 - x).toNat,
      ⟨1, W2, L, P, gs, rfl, by omega, by omega, hle, m, hv, hP, by omega, hpn, fun k hk => by omega⟩, fun _ => ?_⟩
    clear m hv hpn hmp hmb hlm hP kk hp1
    rintro out _ h31 ⟨a', W3, L, P, gs, rfl, ha1, ha2, hle, m, hv, hP, hlm, hpn, hz⟩
    refine dcase_intro (fun q1 => ?_) fun q1 => ?_
    · refine (poDrop_c (aid := (a' : Int)) (m.focus 1 rfl) hv hP (by omega)).mono ?_
      rintro _ h32 ⟨W4, da, dc, vs2, E, L4, hle4, rfl, o, hs4, hv4, m⟩
      obtain ⟨p1, p2, p3⟩ := drop_spec hP (a' : Int)
      have hz4 := drop_qu hP (a := a') (by omega) (by omega) hz
      have hpn1 := hpn.perm p3
      have hln := p3.length_eq
      rw [List.length_append, ← Po.len_all, ← Po.len_all] at hln
      clear hpn
      generalize P.drop (a' : Int) = res at *
      obtain ⟨P4, d⟩ := res
      dsimp only at *
      simp only [List.eraseIdx_cons_zero, List.eraseIdx_cons_succ] at m
      refine ⟨_, _, _, rfl, fun out' y h' => ∃ (k : Nat) (gs' : List Bool), y = k ∧ k ≤ d.length ∧ Me W4 h' ([(bG, bools gs', TG)] :: E :: L4 :: []) ∧ Pnd l.length l.length (d.drop k ++ P4.all) gs' out', fun _ y _ => ((d.length : Int) - y).toNat,
        ⟨0, gs, rfl, by omega, m.focus 2 rfl, hpn1⟩, fun _ => ?_⟩
      clear m hpn1
      rintro out' _ h33 ⟨k, gs', rfl, hk, m, hpn⟩
      refine dcase_intro (fun q2 => ?_) fun q2 => ?_
      · obtain ⟨y, hy⟩ : ∃ y, d[k]? = some y := ⟨_, List.getElem?_eq_getElem (by omega)⟩
        obtain ⟨cs, hcv, hrow, hrl⟩ := hs4.get (fun _ _ => PkV.len) hy
        obtain ⟨ya, yc, rfl, hby⟩ := hcv
        obtain ⟨eb, eo, rfl, hr⟩ := src_part (k := k * 5) (n := 5) (o.src m 1 rfl) hrl (by decide) hrow
        have hid := (row_iff.1 hr).2 0 _ rfl
        have hid : cell h33 eb (eo + (k : Int).toNat * 5) = some (.int .i64 y.id) := by simpa using hid
        rw [List.drop_eq_getElem_cons (by omega), (List.getElem?_eq_some_iff.1 hy).2, List.cons_append] at hpn
        obtain ⟨r1, r2, r3, hpn2⟩ := hpn.next
        have hsl := hpn.sl
        have hct := hpn2.ct
        have ho0 := hpn.o0
        refine ⟨fun z h' => z = false ∧ h' = h33, ⟨⟨by omega, by omega⟩, _, hid, dcase_neg (by omega) ⟨⟨by omega, by omega⟩, _, hid, by simp; omega, rfl⟩⟩, fun _ => ?_⟩
        rintro _ h33 ⟨rfl, rfl⟩
        refine bcase_false rfl ⟨⟨by omega, by omega⟩, _, hid, ⟨by omega, by omega⟩, _, m.cell 0 rfl (by rw [Nat.zero_add]; exact bools_get r3), bcase_false rfl ⟨⟨by omega, by omega⟩, _, hid, ⟨by omega, by omega⟩, ?_⟩⟩
        refine m.store 0 rfl (by rw [bools_len, hsl]; omega) fun h17 m => ?_
        rw [Nat.zero_add, bools_set] at m
        exact ⟨by simp only [fits]; omega, by simp only [fits]; omega, ⟨k + 1, _, by omega, by omega, m, hpn2⟩, by (try dsimp only); omega⟩
      · obtain rfl : k = d.length := by omega
        rw [List.drop_length, List.nil_append] at hpn
        exact ⟨by simp only [fits]; omega, ⟨a' + 1, W4, L4, P4, gs', by omega, by omega, by omega, hle.trans hle4, m.free 1 rfl, hv4, p1, by omega, hpn, fun k hk => hz4 k (by omega)⟩, by (try dsimp only); omega⟩
    · obtain rfl : a' = 17 := by omega
      have hl0 := len_zero hP fun k hk => hz k (by omega)
      have hal : P.all = [] := List.eq_nil_of_length_eq_zero (by rw [← Po.len_all]; exact hl0)
      have hct := hpn.ct
      rw [hal, List.length_nil] at hct
      have hb0 : P.byt = 0 := by rw [Po.byt_all, hal]; rfl
      have hm := m.focus 1 rfl
      refine ⟨fun z h' => z = true ∧ h' = h31, bcase_true rfl ⟨by simp; omega, rfl⟩, fun _ => ?_⟩
      rintro _ h31 ⟨rfl, rfl⟩
      refine ⟨fun z h' => z = true ∧ Me W3 h' (L :: [(bG, bools gs, TG)] :: []), bcase_true rfl ((poLen_c hm hv hP (by omega)).mono ?_), fun _ => ?_⟩
      · rintro _ h32 ⟨rfl, m⟩
        exact ⟨_, rfl, by simp [hl0], m⟩
      clear m hm
      rintro _ h33 ⟨rfl, m⟩
      refine bcase_true rfl ((poBytes_c m hv hP (by omega)).mono ?_)
      rintro _ h34 ⟨rfl, m⟩
      exact ⟨_, rfl, by simp [hb0], m.kept hle⟩
end
theorem walk_PoolLimits (w : World) (hE : ∃ a, wcell (Wd.of w.heap) 0 0 = some (ptE a)) (a0 : Int) (w0 : (Lit.int .i64 a0).wf = true) (a1 : Int) (w1 : (Lit.int .i64 a1).wf = true) (a2 : Option Addr) (len2 cap2 : Nat) (o2 : Opn (.slc (.con (.int .i64) (.con (.int .i64) (.con (.int .i64) (.con (.int .i64) (.con (.con (.int .i64) (.con (.int .u32) (.con (.int .i64) (.con (.int .i64) (.con (.slc (.int .u8)) .nil))))) .nil)))))) (Wd.of w.heap) [.slice a2 len2 cap2]) :
    Calls Tryd.prog 4 #[.int .i64 a0, .int .i64 a1, .slice a2 len2 cap2] w fun e w' => e = .returned (.bool true) ∧ Go.RowKit.Below w.heap.size w w' := by
  obtain ⟨a, ha⟩ := hE
  obtain ⟨l, vs, rfl, h1, h2⟩ := opn_dps o2
  exact calls_of_runs (poolLimits_r ha a0 a1 (of_src.1 h1) h2)
end Go.Proofs.YtpcilleldanfmaaDoor
