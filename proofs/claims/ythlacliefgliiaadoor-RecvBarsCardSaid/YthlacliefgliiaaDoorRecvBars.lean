/- RecvBars: a question lets all that is kept ahead of it go up, in order. -/
import Derived.Test.YthlacliefgliiaaDoorBar
import Derived.Test.YthlacliefgliiaaDoorWin
import Derived.Test.YthlacliefgliiaaDoorRise
import Derived.Test.YthlacliefgliiaaDoorGenLBars
import Derived.Test.YthlacliefgliiaaDoorOpnInts
set_option linter.unusedVariables false
set_option linter.unusedSimpArgs false
set_option maxRecDepth 8000
namespace Go.Proofs.YthlacliefgliiaaDoor
open Go.Vc
theorem B1_len (k : Nat) : (B1 k).length ≤ 1500 := by show 1 ≤ 1500; decide
theorem gr_init {W0 W W' : Wd} {r : Nat} (h0 : W0.le W) (hr : W0 r = none) (hg : W.gr W' (some r)) : W0.le W' := fun b x e => hg b x (fun q => by cases q; rw [hr] at e; cases e) (h0 b x e)
def nats (l : List Nat) : List Int := l.map fun (k : Nat) => (k : Int)
theorem set_get {cm : List Bool} {q k : Nat} (hq : q < cm.length) : (cm.set q true)[k]? = some true ↔ k = q ∨ cm[k]? = some true := by
  rw [List.getElem?_set]
  by_cases h : q = k
  · subst h; simp [hq]
  · simp [h]; exact fun e => absurd e.symm h
section
variable {t : Nat} {S : Int} {B : Nat → List Int} {ks : List Nat} {p q d m n k z to : Nat} {x : Ses}
theorem move_okS {n : Int} (hok : SesOk x) (hn : 0 ≤ n ∧ n ≤ 4095) : SesOk (x.move n) := by
  obtain ⟨h1, h2⟩ := move_ok (x := x) hn hok.b
  exact ⟨hok.s, h1, hok.l, h2, hok.z, hok.k, hok.n⟩
theorem wk_okS (hok : SesOk x) (ht : t < 8) (hB : ∀ k, (B k).length ≤ 1500) (hl : ks.length ≤ 4096) : SesOk (x.wk (pos S p) (ks.map (frO t S B))) := by
  refine ⟨pos_bd, hok.f, hok.l, hok.b, hok.z, ?_, ?_⟩
  · intro f hf
    obtain ⟨k, hk, rfl⟩ := List.mem_map.1 hf
    exact dfm_ok (by omega) pos_bd (hB k)
  · show (ks.map (frO t S B)).length ≤ 4096; rw [List.length_map]; exact hl
/-- A question in numbers counted from the beginning. -/
theorem bar_off (hst : x.start = pos S p) (hks : x.kept = ks.map (frO t S B)) (hn : ks.Nodup) (hk : ∀ k ∈ ks, k < 2000) (h1 : p ≤ to) (h2 : to ≤ 1000) :
    ∃ m, x.bar (pos S to) = ((((List.range' p (to - p)).filter fun k => decide (k ∈ ks)) ++ List.range' to m).map (frO t S B), (x.wk (pos S (to + m)) ((cut (cut ks p (to - p)) to m).map (frO t S B))).move (pos S to)) ∧ (∀ i, i < m → to + i ∈ ks) ∧ to + m ∉ ks := by
  have hu : x.up (pos S to) = (((List.range' p (to - p)).filter fun k => decide (k ∈ ks)).map (frO t S B), x.wk (pos S to) ((cut ks p (to - p)).map (frO t S B))) := by
    have hdu : (distZ x.start (pos S to)).toNat = to - p := by
      rw [hst, pos_dist (by omega) (by omega)]; omega
    unfold Ses.up Ses.wk
    rw [hdu, hst, hks, up_off (to - p) hn hk (by omega)]
  unfold Ses.bar
  rw [if_pos (by rw [hst, pos_dist (by omega) (by omega)]; omega), hu]
  dsimp only
  obtain ⟨m, r1, r2, r3⟩ := run_in (x := x.wk (pos S to) ((cut ks p (to - p)).map (frO t S B))) (p := to) rfl rfl (cut_nodup hn) (fun k hk' => hk k (cut_mem.1 hk').1) (by omega)
  refine ⟨m, by rw [r1, List.map_append]; rfl, fun i hi => (cut_mem.1 (r2 i hi)).1, fun hc => r3 (cut_mem.2 ⟨hc, .inr (by omega)⟩)⟩
/-- A question that is behind the window, or where it begins. -/
theorem bar_no (hst : x.start = pos S (to + m)) (hks : x.kept = ks.map (frO t S B)) (hn : ks.Nodup) (hk : ∀ k ∈ ks, k < 2000) (hm : to + m ∉ ks) (h2 : to + m ≤ 1000) : (x.bar (pos S to)).1 = [] ∧ (x.bar (pos S to)).2.start = pos S (to + m) ∧ (x.bar (pos S to)).2.on = x.on := by
  by_cases h0 : m = 0
  · subst h0
    obtain ⟨m', e, h3, h4⟩ := bar_off (to := to) (B := B) (t := t) (ks := ks) hst hks hn hk (Nat.le_refl _) (by omega)
    have hm' : m' = 0 := Nat.eq_zero_of_not_pos fun hp => hm (h3 0 hp)
    subst hm'
    rw [e]
    refine ⟨?_, rfl, rfl⟩
    show (List.map _ ((List.range' (to + 0) (to - (to + 0))).filter _ ++ List.range' to 0)) = []
    rw [show to - (to + 0) = 0 by omega]; rfl
  · have e : x.bar (pos S to) = ([], x.move (pos S to)) := if_neg (by rw [hst, pos_distB (by omega) (by omega)]; omega)
    rw [e]
    exact ⟨rfl, hst, rfl⟩
end
/-- What is known as the frames come: all are kept. -/
structure BarI (W : Wd) (r b b1 : Nat) (T Tb : TypeId) (S : Int) (h : Heap) (cm : List Bool) (ks : List Nat) (x : Ses) (W' : Wd) : Prop where
  le : W.le W'
  st : St W' h b T 64 css0 0 (sesC x (some r)) ([(b1, cm.map Value.bool, Tb)] :: [])
  kv : KeptV W' (some r) x.kept
  w : Win 0 B1 S 64 0 ks x
  bd : ∀ k ∈ ks, 1 ≤ k ∧ k < 64
  al : ∀ k, cm[k]? = some true ↔ k ∈ ks
  cl : cm.length = 65
section
variable {W W' : Wd} {h h' : Heap} {b t j n c : Nat} {T : TypeId} {size : Int} {css : List (List Value)} {cs us vs : List Value} {G G' : List Grp} {v : Value} {f : Fm} {mv : Option Nat} {Q : Heap → Prop} {E : Grp}
theorem filt_succ {l : List Nat} {k : Nat} (h : Rise l) : l.filter (fun j => decide (j < k + 1)) = l.filter (fun j => decide (j < k)) ++ (if k ∈ l then [k] else []) := by
  refine rise_ext (rise_filter h) ?_ fun j => ?_
  · refine List.pairwise_append.2 ⟨rise_filter h, by split <;> simp, fun a ha b hb => ?_⟩
    have h1 := of_decide_eq_true (List.mem_filter.1 ha).2
    split at hb
    · simp at hb; omega
    · simp at hb
  · simp only [List.mem_filter, List.mem_append, decide_eq_true_eq]
    constructor
    · rintro ⟨h1, h2⟩
      by_cases h3 : j < k
      · exact .inl ⟨h1, h3⟩
      · have : j = k := by omega
        subst this
        right; rw [if_pos h1]; simp
    · rintro (⟨h1, h2⟩ | h2)
      · exact ⟨h1, by omega⟩
      · split at h2
        · rename_i hk; simp at h2; subst h2; exact ⟨hk, by omega⟩
        · simp at h2
theorem bars_r {l : List Int} {a : Option Addr} (start to0 : Int) (hE : Snt5 W) (m : Me W h []) (hl : wsrc W a l.length (ints .i64 l)) :
    Runs Tryd.prog 6 #[.int .i64 start, .slice a l.length c, .int .i64 to0] h fun v h' => v = .bool true ∧ ∃ W', W.le W' ∧ Me W' h' [] := by
  refine vc_muezzinlaw24_RecvBars _ _ _ _ _ _ _ ?_
  refine (first24_c hE m).mono ?_
  rintro _ h1 ⟨rfl, W1, hle1, m⟩
  refine ⟨true, rfl, bcase_false rfl ((number_c _ _ _ (by decide) (by decide)).ret ⟨_, rfl, ?_⟩)⟩
  obtain ⟨S, hS⟩ : ∃ S, S = start % 4096 := ⟨_, rfl⟩
  have hSb : 0 ≤ S ∧ S ≤ 4095 := by omega
  rw [← hS]
  refine (number_c _ _ _ (by decide) (by decide)).ret ⟨_, rfl, ?_⟩
  obtain ⟨to, hto⟩ : ∃ to : Nat, to0 % 64 = to := ⟨(to0 % 64).toNat, by omega⟩
  have hto64 : to < 64 := by omega
  rw [hto]
  refine dcase_intro (fun q => ⟨rfl, W1, hle1, m⟩) fun q30 => ?_
  refine (me_c m).mono ?_
  rintro _ h2 ⟨rfl, m⟩
  refine ⟨_, rfl, (bss_c m).mono ?_⟩
  rintro _ h3 ⟨rfl, m⟩
  refine ⟨_, rfl, (rnew_c m (by decide)).mono ?_⟩
  rintro _ h4 ⟨b, T, rfl, hs⟩
  have s := hs 0 (by decide)
  clear hs
  refine ⟨_, _, rfl, bcase_false rfl ⟨true, rfl, bcase_false rfl ?_⟩⟩
  refine (me_c s.m).mono ?_
  rintro _ h5 ⟨rfl, m5⟩
  refine ⟨_, rfl, (bss_c m5).mono ?_⟩
  rintro _ h6 ⟨rfl, m6⟩
  refine ⟨_, rfl, (bss_c m6).mono ?_⟩
  rintro _ h7 ⟨rfl, m7⟩
  refine ⟨_, rfl, rfl, rfl, rfl, ?_⟩
  refine (raddBytes_c (to := meL) (fr := bssL) (bss := bssL) (token := 0) (tid := 0) (size := 0) (sq := S) m7 rfl rfl rfl ⟨by decide, by decide, by decide, hSb⟩ false (fun q => by cases q)).mono ?_
  rintro _ h8 ⟨W2, a8, c8, hle2, rfl, m8, hb8⟩
  replace s := s.mem m8
  have hE2 := (hE.le hle1).le hle2
  refine ⟨_, _, _, _, rfl, ?_⟩
  refine (other_add (x := ses0) (mv := none) (token := 0) (sz := 0) (sq := S) (t := 0) hE2 s rfl ses0_ok (by decide) (by decide) ⟨by decide, by decide, by decide, hSb⟩ hb8).mono ?_
  rintro _ h9 ⟨W3, r, a9, c9, E9, vs9, a10, c10, hle3, hr3, rfl, o9, hs9, hk9, hb9, s9⟩
  have hr0 : W r = none := by
    cases hW : W r with
    | none => rfl
    | some y => have := hle2 r y (hle1 r y hW); rw [hr3] at this; cases this
  refine ⟨_, _, _, _, _, _, rfl, ⟨by decide, by decide, by decide, by decide⟩, ?_⟩
  intro b1 h10 e1 e2
  rw [show addSize 64 0 = 64 by decide] at s9
  have s10 := s9.drop.push e1 e2
  obtain ⟨Tb, hTb⟩ : ∃ Tb, St W3 h10 b T 64 css0 0 (sesC (newSes 64 S) (some r)) ([(b1, (List.replicate 65 false).map Value.bool, Tb)] :: []) := ⟨_, s10⟩
  have hle13 : W.le W3 := hle1.trans (hle2.trans hle3)
  refine ⟨fun i h => ∃ (k : Nat) (cm : List Bool) (ks : List Nat) (x : Ses) (W' : Wd), i = k ∧ k ≤ l.length ∧ BarI W r b b1 T Tb S h cm ks x W', fun i _ => ((l.length : Int) - i).toNat, ⟨0, List.replicate 65 false, [], newSes 64 S, W3, rfl, by omega, hle13, hTb, hk9, newSes_win (z := 64) hSb (by decide), by simp, fun k => ?_, rfl⟩, fun _ => ?_⟩
  · rw [List.getElem?_replicate]; split <;> simp
  clear hTb s10 s9 s
  rintro _ h12 ⟨k, cm, ks, x, W4, rfl, hk, I⟩
  refine dcase_intro (fun q => ?_) fun q => ?_
  · have hkl : k < l.length := by omega
    obtain ⟨bl, ol, rfl, hcl⟩ := src_cell (I.st.m.wsrc (wsrc_le I.le hl)) (ints_get (List.getElem?_eq_getElem hkl))
    refine ⟨⟨by omega, by omega⟩, l[k], by simpa using hcl, (number_c _ _ _ (by decide) (by decide)).ret ⟨_, rfl, by simp only [fits]; omega, by simp only [fits]; omega, ?_⟩⟩
    obtain ⟨q, hq⟩ : ∃ q : Nat, l[k] % 63 + 1 = q := ⟨(l[k] % 63 + 1).toNat, by omega⟩
    have hq64 : 1 ≤ q ∧ q < 64 := by omega
    rw [hq]
    intro b3 h14 e3 e4
    obtain ⟨W5, hle5, m6, hb3⟩ := bts_one (me_swap (I.st.push e3 e4).m)
    have s5 := I.st.mem m6
    refine ⟨by simp only [fits]; omega, ?_⟩
    refine (data_c (tid := ((0 : Nat) : Int)) (rt := false) s5.m hb3 (by decide) (by show 1 ≤ 1500; decide)).mono ?_
    rintro _ h15 ⟨W6, a4, c4, hle6, rfl, m7, hb4⟩
    have s6 := s5.mem m7
    rw [show (S + (q : Int)) % 4096 = pos S q from rfl] at hb4 ⊢
    have hfr : dfm ((0 : Nat) : Int) (pos S q) false [(q : Int)] = frO 0 S B1 q := rfl
    refine ⟨_, _, _, rfl, ?_⟩
    have hksl : ks.length ≤ 64 := nodup_bd 64 I.w.nd fun k hk => (I.bd k hk).2
    obtain ⟨mm, ks', hout, w', hbits, hmi, hks'⟩ := I.w.take (q := q) (by decide) B1_len (by decide) (by omega) (by omega) (by omega) (by omega)
    have hm0 : mm = 0 := by
      refine Nat.eq_zero_of_not_pos fun hp => ?_
      rcases ins_mem.1 (hmi 0 hp).2 with h | h
      · have := (I.bd _ h).1; omega
      · omega
    subst hm0
    have hks2 : ks' = ins ks q := by
      rcases hks' with ⟨h1, -, -⟩ | ⟨-, rfl, -⟩
      · omega
      · rw [cut_zero]
    subst hks2
    have hk6 : KeptV W6 (some r) x.kept := (I.kv.le hle5).le hle6
    refine (recvData_c (x := x) (mv := some r) (t := 0) (sq := pos S q) (rt := false) (body := [(q : Int)]) s6 hk6 (fun _ => by simp) hb4 pos_bd (by show 1 ≤ 1500; decide) (take_on I.w.on I.w.ok) (by rw [hfr]; exact w'.ok) (by rw [hfr, hout]; show (0 : Nat) ≤ 65536; decide)).mono ?_
    rw [hfr, hout]
    rintro _ h16 ⟨W7, a5, c5, E5, vs5, a6, c6, hg, rfl, o5, hs5, hk7, hb5, s7⟩
    obtain ⟨x', hx'⟩ : ∃ x', x' = (x.take (frO 0 S B1 q)).2 := ⟨_, rfl⟩
    rw [← hx'] at w' hk7 hb5 s7
    refine ⟨_, _, _, _, _, _, rfl, ⟨by omega, by omega⟩, ?_⟩
    have hcq : q < cm.length := by rw [I.cl]; omega
    have s8 := s7.drop
    refine s8.m.store 1 rfl (by rw [List.length_map]; show 0 + q < _; omega) fun h17 m8 => ?_
    have e8 : (cm.map Value.bool).set (0 + ((q : Nat) : Int).toNat) (.bool true) = (cm.set q true).map Value.bool := by
      rw [Nat.zero_add, Int.toNat_natCast, List.map_set]
    simp only [List.set_cons_zero, List.set_cons_succ] at m8
    rw [e8] at m8
    refine ⟨by simp only [fits]; omega, ⟨k + 1, cm.set q true, ins ks q, x', W7, by omega, by omega, gr_init (I.le.trans (hle5.trans hle6)) hr0 hg, s8.mem m8, hk7, w', fun j hj => ?_, fun j => ?_, by rw [List.length_set]; exact I.cl⟩, by dsimp only; omega⟩
    · rcases ins_mem.1 hj with h | h
      · exact I.bd j h
      · omega
    · rw [set_get hcq, ins_mem, I.al j]; exact Or.comm
  · have s0 := I.st
    refine (me_c s0.m).mono ?_
    rintro _ h13 ⟨rfl, m13⟩
    refine ⟨_, rfl, (bss_c m13).mono ?_⟩
    rintro _ h14 ⟨rfl, m14⟩
    refine ⟨_, rfl, (radd_c _ _ _).ret ⟨_, rfl, rfl, rfl, ?_⟩⟩
    rw [show addZ S (to : Int) = pos S to from rfl]
    refine (rbarBytes_c (to := meL) (fr := bssL) (tid := 0) (sq := pos S to) m14 rfl rfl (by decide) pos_bd).mono ?_
    rintro _ h15 ⟨W5, a5, c5, hle5, rfl, m15, hb5⟩
    have s5 := s0.mem m15
    refine ⟨_, _, _, _, rfl, ?_⟩
    have hk5 := I.kv.le hle5
    obtain ⟨mm, hbar, hmi, hmn⟩ := bar_off (to := to) I.w.st I.w.kp I.w.nd I.w.bd (Nat.zero_le to) (by omega)
    obtain ⟨ks2, hks2⟩ : ∃ ks2, ks2 = cut (cut ks 0 (to - 0)) to mm := ⟨_, rfl⟩
    obtain ⟨L1, hL1⟩ : ∃ L1, L1 = (List.range' 0 (to - 0)).filter fun k => decide (k ∈ ks) := ⟨_, rfl⟩
    obtain ⟨full, hfull⟩ : ∃ full, full = L1 ++ List.range' to mm := ⟨_, rfl⟩
    rw [← hks2, ← hL1, ← hfull] at hbar
    have hL1m : ∀ j, j ∈ L1 ↔ j < to ∧ j ∈ ks := fun j => by
      rw [hL1]
      simp only [List.mem_filter, List.mem_range'_1, decide_eq_true_eq]
      exact ⟨fun ⟨⟨_, h1⟩, h2⟩ => ⟨by omega, h2⟩, fun ⟨h1, h2⟩ => ⟨⟨by omega, by omega⟩, h2⟩⟩
    have hfm : ∀ j, j ∈ full ↔ (j < to ∧ j ∈ ks) ∨ (to ≤ j ∧ j < to + mm) := fun j => by
      rw [hfull, List.mem_append, hL1m, List.mem_range'_1]
    have hfk : ∀ j ∈ full, j ∈ ks := fun j hj => by
      rcases (hfm j).1 hj with h | h
      · exact h.2
      · have := hmi (j - to) (by omega)
        rwa [show to + (j - to) = j by omega] at this
    have hri : Rise full := by
      rw [hfull]
      refine List.pairwise_append.2 ⟨by rw [hL1]; exact rise_filter (rise_range' _ _), rise_range' _ _, fun a ha b hb => ?_⟩
      have h1 := ((hL1m a).1 ha).1
      have h2 := (List.mem_range'_1.1 hb).1
      omega
    have hto0 : to = 0 → mm = 0 := fun e => Nat.eq_zero_of_not_pos fun hp => by
      have := (I.bd _ (hmi 0 hp)).1; omega
    have htm : to + mm ≤ 64 := by
      rcases Nat.eq_zero_or_pos mm with h | h
      · omega
      · have := (I.bd _ (hmi (mm - 1) (by omega))).2; omega
    have hfl : full.length ≤ 64 := nodup_bd 64 (rise_nodup hri) fun j hj => (I.bd j (hfk j hj)).2
    have hksl : ks.length ≤ 64 := nodup_bd 64 I.w.nd fun k hk => (I.bd k hk).2
    have hks2l : ks2.length ≤ 64 := by
      rw [hks2]
      have h1 := cut_len (ks := cut ks 0 (to - 0)) (p := to) (m := mm)
      have h2 := cut_len (ks := ks) (p := 0) (m := to - 0)
      omega
    have hks2n : ks2.Nodup := by rw [hks2]; exact cut_nodup (cut_nodup I.w.nd)
    have hks2b : ∀ j ∈ ks2, j < 2000 := fun j hj => by
      rw [hks2] at hj
      exact I.w.bd j (cut_mem.1 (cut_mem.1 hj).1).1
    have hmn2 : to + mm ∉ ks2 := fun hc => by
      rw [hks2] at hc
      exact hmn (cut_mem.1 (cut_mem.1 hc).1).1
    obtain ⟨y, hy⟩ : ∃ y, y = (x.wk (pos S (to + mm)) (ks2.map (frO 0 S B1))).move (pos S to) := ⟨_, rfl⟩
    rw [← hy] at hbar
    have hyok : SesOk y := by rw [hy]; exact move_okS (wk_okS I.w.ok (by decide) B1_len (by omega)) pos_bd
    have hyon : y.on = true := by rw [hy]; exact I.w.on
    have hyst : y.start = pos S (to + mm) := by rw [hy]; rfl
    have hykp : y.kept = ks2.map (frO 0 S B1) := by rw [hy]; rfl
    have hyfr : y.fr = pos S to := by rw [hy]; rfl
    have hysz : y.size = 64 := by rw [hy]; exact I.w.z
    refine (other_bar (t := 0) (to := pos S to) s5 hk5 I.w.on I.w.ok pos_bd (by rw [I.w.fr, pos_dist (by omega) (by omega)]; omega) (by rw [hbar]; exact hyok) hb5).mono ?_
    rw [hbar]
    rintro _ h16 ⟨W6, a6, c6, E6, vs6, a7, c7, hg6, rfl, o6, hs6, hk6, hb6, s6⟩
    dsimp only at o6 hs6 hk6 hb6 s6
    refine ⟨_, _, _, _, _, _, rfl, ?_⟩
    obtain ⟨hn1, hn2, hn3⟩ := bar_no (to := to) (m := mm) hyst hykp hks2n hks2b hmn2 (by omega)
    have hyok2 : SesOk (y.bar (pos S to)).2 := by
      by_cases hd : distZ y.start (pos S to) < 2048
      · obtain ⟨m', e, h3, h4⟩ := bar_off (p := to + mm) (to := to + mm) (x := y) hyst hykp hks2n hks2b (Nat.le_refl _) (by omega)
        by_cases h0 : mm = 0
        · rw [h0, Nat.add_zero] at e
          rw [e]
          refine move_okS (wk_okS hyok (by decide) B1_len ?_) pos_bd
          have h5 := cut_len (ks := cut ks2 to (to - to)) (p := to) (m := m')
          have h6 := cut_len (ks := ks2) (p := to) (m := to - to)
          omega
        · rw [hyst, pos_distB (by omega) (by omega)] at hd; omega
      · have e : y.bar (pos S to) = ([], y.move (pos S to)) := if_neg hd
        rw [e]; exact move_okS hyok pos_bd
    have hcl6 : ∀ b o v, wcell W5 b o = some v → wcell W6 b o = some v := kept_cl hk5 hg6
    refine (other_bar (t := 0) (to := pos S to) s6 hk6 hyon hyok pos_bd (by rw [hyfr, pos_dist (by omega) (by omega)]; omega) hyok2 (bts_cl hcl6 hb5)).mono ?_
    rintro _ h17 ⟨W8, a8, c8, E8, vs8, a9, c9, hg8, rfl, o8, hs8, hk8, hb8, s8⟩
    obtain ⟨y2, hy2⟩ : ∃ y2, y2 = (y.bar (pos S to)).2 := ⟨_, rfl⟩
    rw [← hy2] at hn2 hn3 hk8 hb8 s8
    refine ⟨_, _, _, _, _, _, rfl, ?_⟩
    rw [hn1]
    have hle8 : W.le W8 := gr_init (gr_init (I.le.trans hle5) hr0 hg6) hr0 hg8
    have hs68 := hs6.mono fun f cs hv => fmv_cl (kept_cl hk6 hg8) hv
    have hlenO : (full.map (frO 0 S B1)).length = full.length := List.length_map _
    rw [hlenO] at o6 ⊢
    -- what is wanted
    refine ⟨fun a' l' c' e i h => ∃ (k : Nat) (E : Grp), i = k ∧ 1 ≤ k ∧ k ≤ 64 ∧ e = (if k ≤ to then (to : Int) else min (k : Int) ((to + mm : Nat) : Int)) ∧ l' = (full.filter fun j => decide (j < k)).length ∧ Ow a' (full.filter fun j => decide (j < k)).length c' 1 (ints .i64 (nats (full.filter fun j => decide (j < k)))) E ∧ St W8 h b T 64 css0 0 (sesC y2 (some r)) (E :: E8 :: E6 :: [(b1, cm.map Value.bool, Tb)] :: []),
      fun _ _ _ _ i _ => (64 - i).toNat, ⟨1, [], rfl, by decide, by decide, ?_, ?_, ?_, s8.mem (me_swap s8.m.nilI)⟩, fun _ => ?_⟩
    · by_cases h0 : to = 0
      · have := hto0 h0
        subst h0; subst this; rfl
      · rw [if_pos (by omega)]
    · have : full.filter (fun j => decide (j < 1)) = [] := List.filter_eq_nil_iff.2 fun j hj => by
        have := (I.bd j (hfk j hj)).1
        simp; omega
      rw [this]; rfl
    · have : full.filter (fun j => decide (j < 1)) = [] := List.filter_eq_nil_iff.2 fun j hj => by
        have := (I.bd j (hfk j hj)).1
        simp; omega
      rw [this]; exact Ow.nil
    rintro aw lw cw _ _ h18 ⟨k, Ew, rfl, hk1, hk64, rfl, rfl, ow, sw⟩
    have hfll := List.length_filter_le (fun j => decide (j < k)) full
    refine dcase_intro (fun qk => ?_) fun qk => ?_
    · have hk64' : k < 64 := by omega
      have hkcm : k < cm.length := by rw [I.cl]; omega
      refine ⟨⟨by omega, by omega⟩, cm[k], sw.m.cell 4 rfl (by rw [List.getElem?_map, Nat.zero_add, Int.toNat_natCast, List.getElem?_eq_getElem hkcm]; rfl), ?_⟩
      have hfs := filt_succ (k := k) hri
      refine bcase_intro (fun qc => ?_) fun qc => ?_
      · have hkks : k ∈ ks := (I.al k).1 (by rw [List.getElem?_eq_getElem hkcm, qc])
        have hkne : k ≠ to + mm := fun e => hmn (e ▸ hkks)
        refine dcase_intro (fun q1 => ?_) fun q1 => ?_
        · have hkt : k < to := by omega
          have hkf : k ∈ full := (hfm k).2 (.inl ⟨hkt, hkks⟩)
          rw [if_pos hkf] at hfs
          refine ow.appn (me_swap sw.m) (us := [.int .i64 (k : Int)]) rfl (by simp [Value.oneCell']) (by omega) (by decide) fun a7 c7 E7 h7 m7 o7 => ?_
          refine dcase_neg (by rw [if_pos (by omega)]; omega) ⟨by simp only [fits]; omega, ⟨k + 1, E7, by omega, by omega, by omega, ?_, ?_, ?_, sw.mem (me_swap m7)⟩, by dsimp only; omega⟩
          · rw [if_pos (by omega), if_pos (by omega)]
          · rw [hfs, List.length_append]; rfl
          · rw [hfs, List.length_append]
            have e : ints .i64 (nats (full.filter (fun j => decide (j < k)) ++ [k])) = ints .i64 (nats (full.filter fun j => decide (j < k))) ++ [.int .i64 (k : Int)] := by simp [nats, ints]
            rw [e]; exact o7
        · refine dcase_intro (fun q2 => ?_) fun q2 => ?_
          · have hto1 : 0 < to := by omega
            refine dcase_intro (fun q3 => ?_) fun q3 => ?_
            · have hkl : to ≤ k ∧ k < to + mm := by
                refine ⟨by omega, ?_⟩
                split at q3
                · have : k = to := by omega
                  subst this
                  refine Nat.lt_of_le_of_ne (by omega) hkne
                · omega
              have hkf : k ∈ full := (hfm k).2 (.inr hkl)
              rw [if_pos hkf] at hfs
              refine ow.appn (me_swap sw.m) (us := [.int .i64 (k : Int)]) rfl (by simp [Value.oneCell']) (by omega) (by decide) fun a7 c7 E7 h7 m7 o7 => ?_
              refine dcase_pos q3 ⟨by rw [← q3]; simp only [fits]; omega, by simp only [fits]; omega, ⟨k + 1, E7, by omega, by omega, by omega, ?_, ?_, ?_, sw.mem (me_swap m7)⟩, by dsimp only; omega⟩
              · rw [← q3, if_neg (by omega)]; omega
              · rw [hfs, List.length_append]; rfl
              · rw [hfs, List.length_append]
                have e : ints .i64 (nats (full.filter (fun j => decide (j < k)) ++ [k])) = ints .i64 (nats (full.filter fun j => decide (j < k))) ++ [.int .i64 (k : Int)] := by simp [nats, ints]
                rw [e]; exact o7
            · have hkf : k ∉ full := fun hc => by
                rcases (hfm k).1 hc with h | h
                · omega
                · apply q3
                  split <;> omega
              rw [if_neg hkf, List.append_nil] at hfs
              refine ⟨by simp only [fits]; omega, ⟨k + 1, Ew, by omega, by omega, by omega, ?_, by rw [hfs], by rw [hfs]; exact ow, sw⟩, by dsimp only; omega⟩
              split at q3
              · rw [if_pos (by omega), if_neg (by omega)]; omega
              · rw [if_neg (by omega), if_neg (by omega)]; omega
          · have h0 : to = 0 := by omega
            have hm0 := hto0 h0
            have hkf : k ∉ full := fun hc => by
              rcases (hfm k).1 hc with h | h <;> omega
            rw [if_neg hkf, List.append_nil] at hfs
            refine ⟨by simp only [fits]; omega, ⟨k + 1, Ew, by omega, by omega, by omega, ?_, by rw [hfs], by rw [hfs]; exact ow, sw⟩, by dsimp only; omega⟩
            rw [if_neg (by omega), if_neg (by omega)]; omega
      · have hkks : k ∉ ks := fun hc => by
          have := (I.al k).2 hc
          rw [List.getElem?_eq_getElem hkcm, qc] at this; simp at this
        have hkf : k ∉ full := fun hc => hkks (hfk k hc)
        rw [if_neg hkf, List.append_nil] at hfs
        refine ⟨by simp only [fits]; omega, ⟨k + 1, Ew, by omega, by omega, by omega, ?_, by rw [hfs], by rw [hfs]; exact ow, sw⟩, by dsimp only; omega⟩
        by_cases h1 : k < to
        · rw [if_pos (by omega), if_pos (by omega)]
        · have h2 : ¬ (to ≤ k ∧ k < to + mm) := fun hc => hkf ((hfm k).2 (.inr hc))
          by_cases h3 : k = to
          · subst h3
            rw [if_pos (by omega), if_neg (by omega)]; omega
          · rw [if_neg (by omega), if_neg (by omega)]; omega
    · obtain rfl : k = 64 := by omega
      have hff : full.filter (fun j => decide (j < 64)) = full := List.filter_eq_self.2 fun j hj => decide_eq_true (I.bd j (hfk j hj)).2
      rw [hff] at ow ⊢
      refine ⟨fun v h => v = false ∧ h = h18, bcase_false (by simp) ⟨rfl, rfl⟩, fun _ => ?_⟩
      rintro _ h30 ⟨rfl, rfl⟩
      refine bcase_false rfl (bcase_false rfl ?_)
      refine ⟨fun i h => ∃ ii : Nat, i = ii ∧ ii ≤ full.length ∧ h = h30, fun i _ => ((full.length : Int) - i).toNat, ⟨0, rfl, by omega, rfl⟩, fun _ => ?_⟩
      rintro _ h31 ⟨ii, rfl, hii, rfl⟩
      refine dcase_intro (fun q2 => ?_) fun q2 => ?_
      · have hil : ii < full.length := by omega
        obtain ⟨bq, oq, hbq, hc19, sa, sc, hc23, hbb⟩ := sq_cell (i := 3) (j := ii) (f := frO 0 S B1 full[ii]) (by rw [hlenO]; exact o6) sw.m rfl hs68 (Win.ok_out (by decide) B1_len) (by rw [List.getElem?_map, List.getElem?_eq_getElem hil]; rfl)
        subst hbq
        obtain ⟨bb, ob, rfl, -, -, hxb⟩ := bts_opn hbb (by show 0 < 1; decide)
        obtain ⟨bk, obk, rfl, hck⟩ := src_cell (ow.src1 sw.m 1 rfl) (ints_get (k := .i64) (i := ii) (x := ((full[ii] : Nat) : Int)) (by rw [nats, List.getElem?_map, List.getElem?_eq_getElem hil]; rfl))
        have hfb := (I.bd _ (hfk _ (List.getElem_mem hil))).2
        refine ⟨⟨by omega, by omega⟩, some ⟨bb, ob, none⟩, (frO 0 S B1 full[ii]).body.length, sc, by simpa using hc23, ⟨by decide, by show (0 : Int) < ((1 : Nat) : Int); decide⟩, ((full[ii] : Nat) : Int), sw.m.wcell (hxb 0 _ rfl), by simp only [fits]; omega, ⟨by omega, by omega⟩, ((full[ii] : Nat) : Int), by simpa using hck, bcase_false (by simp) ⟨by simp only [fits]; omega, ⟨ii + 1, by omega, by omega, rfl⟩, by dsimp only; omega⟩⟩
      · refine (session_c sw).ret ?_
        rw [hn3, hyon, hn2]
        refine ⟨pos S (to + mm), y2.size, true, rfl, ?_⟩
        refine ⟨fun v h => v = true ∧ h = h31, bcase_true rfl ⟨rfl, rfl⟩, fun _ => ?_⟩
        rintro _ h33 ⟨rfl, rfl⟩
        refine bcase_true rfl ((radd_c _ _ _).ret ⟨_, rfl, ?_, W8, hle8, sw.m.drop1.drop1.drop1.drop1.drop1⟩)
        have ee : addZ S (if 64 ≤ to then (to : Int) else min ((64 : Nat) : Int) ((to + mm : Nat) : Int)) = pos S (to + mm) := by
          rw [if_neg (by omega), show min ((64 : Nat) : Int) ((to + mm : Nat) : Int) = ((to + mm : Nat) : Int) by omega]; rfl
        rw [ee]; simp
end
theorem walk_RecvBars (w : World) (hE : Snt5 (Wd.of w.heap)) (a0 : Int) (w0 : (Lit.int .i64 a0).wf = true) (a1 : Option Addr) (len1 cap1 : Nat) (o1 : Opn (.slc (.int .i64)) (Wd.of w.heap) [.slice a1 len1 cap1]) (a2 : Int) (w2 : (Lit.int .i64 a2).wf = true) :
    Calls Tryd.prog 6 #[.int .i64 a0, .slice a1 len1 cap1, .int .i64 a2] w fun e w' => e = .returned (.bool true) ∧ Go.RowKit.Below w.heap.size w w' := by
  obtain ⟨a, c, l, e1, h1, h2, hl, -⟩ := opn_ints o1
  cases e1
  refine calls_of_runs ((bars_r a0 a2 hE (Me.start w.heap) hl).mono ?_)
  rintro v h' ⟨rfl, W', hle, m⟩
  exact ⟨rfl, m.kept hle⟩
end Go.Proofs.YthlacliefgliiaaDoor
