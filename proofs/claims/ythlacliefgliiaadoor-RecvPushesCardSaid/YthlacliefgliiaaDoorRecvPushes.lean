/- RecvPushes: a frame further on than the window lets go up what is kept ahead of the window that it makes. -/
import Derived.Test.YthlacliefgliiaaDoorWin
import Derived.Test.YthlacliefgliiaaDoorRise
import Derived.Test.YthlacliefgliiaaDoorGenLPushes
set_option linter.unusedVariables false
set_option linter.unusedSimpArgs false
set_option maxRecDepth 8000
namespace Go.Proofs.YthlacliefgliiaaDoor
open Go.Vc
def BP (q k : Nat) : List Int := if k = q then [200] else [(k : Int)]
theorem BP_len (q k : Nat) : (BP q k).length = 1 := by unfold BP; split <;> rfl
theorem BP_len' (q k : Nat) : (BP q k).length ≤ 1500 := by rw [BP_len]; decide
theorem gr_init {W0 W W' : Wd} {r : Nat} (h0 : W0.le W) (hr : W0 r = none) (hg : W.gr W' (some r)) : W0.le W' := fun b x e => hg b x (fun q => by cases q; rw [hr] at e; cases e) (h0 b x e)
def nats (l : List Nat) : List Int := l.map fun (k : Nat) => (k : Int)
section
variable {W W' : Wd} {h h' : Heap} {b t j n c : Nat} {T : TypeId} {size : Int} {css : List (List Value)} {cs us vs : List Value} {G G' : List Grp} {v : Value} {f : Fm} {mv : Option Nat} {Q : Heap → Prop} {E : Grp}
theorem below_c {l : List Nat} {a : Option Addr} (w : Nat) (o : Ow a l.length c 1 (ints .i64 (nats l)) E) (m : Me W h G) (i : Nat) (hi : G[i]? = some E) (hl : l.length ≤ 1048576) :
    Runs Tryd.prog 29 #[.slice a l.length c, .int .i64 (w : Int)] h fun v h' => v = .int .i64 ((l.filter fun k => decide (k < w)).length : Int) ∧ h' = h := by
  refine vc_muezzinlaw24_below _ _ _ _ _ _ ?_
  refine ⟨fun n i h1 => h1 = h ∧ ∃ k : Nat, i = k ∧ k ≤ l.length ∧ n = (((l.take k).filter fun k => decide (k < w)).length : Nat), fun _ i _ => ((l.length : Int) - i).toNat, ⟨rfl, 0, rfl, by omega, by simp⟩, fun _ => ?_⟩
  rintro _ _ h1 ⟨rfl, k, rfl, hk, rfl⟩
  have hlen := List.length_filter_le (fun k => decide (k < w)) (l.take k)
  rw [List.length_take] at hlen
  refine dcase_intro (fun q => ?_) fun q => ?_
  · have hkl : k < l.length := by omega
    obtain ⟨b1, o1, rfl, hc⟩ := src_cell (o.src1 m i hi) (ints_get (k := .i64) (i := k) (x := ((l[k] : Nat) : Int)) (by rw [nats, List.getElem?_map, List.getElem?_eq_getElem hkl]; rfl))
    have ht : l.take (k + 1) = l.take k ++ [l[k]] := by rw [List.take_add_one, List.getElem?_eq_getElem hkl]; rfl
    refine ⟨⟨by omega, by omega⟩, _, by simpa using hc, dcase_intro (fun q2 => ?_) fun q2 => ?_⟩
    · refine ⟨by simp only [fits]; omega, by simp only [fits]; omega, ⟨rfl, k + 1, by omega, by omega, ?_⟩, by dsimp only; omega⟩
      rw [ht, List.filter_append, List.length_append, List.filter_cons, if_pos (decide_eq_true (by omega))]; simp
    · refine ⟨by simp only [fits]; omega, ⟨rfl, k + 1, by omega, by omega, ?_⟩, by dsimp only; omega⟩
      rw [ht, List.filter_append, List.length_append, List.filter_cons, if_neg (by simp; omega)]; simp
  · obtain rfl : k = l.length := by omega
    rw [List.take_length]; exact ⟨rfl, rfl⟩
/-- What is known as the frames come: none goes up. -/
structure PshI (W : Wd) (r b : Nat) (T : TypeId) (S : Int) (z q : Nat) (h : Heap) (k : Nat) (kl : List Nat) (x : Ses) (W' : Wd) (E : Grp) : Prop where
  le : W.le W'
  st : St W' h b T z css0 0 (sesC x (some r)) (E :: [])
  kv : KeptV W' (some r) x.kept
  w : Win 0 (BP q) S z 0 kl x
  ri : Rise kl
  bd : ∀ j ∈ kl, 1 ≤ j ∧ j < k
theorem Rise.app {l : List Nat} {k : Nat} (h : Rise l) (hk : ∀ j ∈ l, j < k) : Rise (l ++ [k]) :=
  List.pairwise_append.2 ⟨h, List.pairwise_singleton _ _, fun a ha b hb => by simp at hb; subst hb; exact hk a ha⟩
theorem pushes_r (start size far bits : Int) (hb0 : 0 ≤ bits ∧ bits < 18446744073709551616) (hE : Snt5 W) (m : Me W h []) :
    Runs Tryd.prog 7 #[.int .i64 start, .int .i64 size, .int .i64 far, .int .u64 bits] h fun v h' => v = .bool true ∧ ∃ W', W.le W' ∧ Me W' h' [] := by
  refine vc_muezzinlaw24_RecvPushes _ _ _ _ _ _ ?_
  refine (first24_c hE m).mono ?_
  rintro _ h1 ⟨rfl, W1, hle1, m⟩
  refine ⟨true, rfl, bcase_false rfl ((number_c _ _ _ (by decide) (by decide)).ret ⟨_, rfl, ?_⟩)⟩
  obtain ⟨S, hS⟩ : ∃ S, S = start % 4096 := ⟨_, rfl⟩
  have hSb : 0 ≤ S ∧ S ≤ 4095 := by omega
  rw [← hS]
  refine (number_c _ _ _ (by decide) (by decide)).ret ⟨_, rfl, by simp only [fits]; omega, ?_⟩
  obtain ⟨z, hz⟩ : ∃ z : Nat, size % 20 + 4 = z := ⟨(size % 20 + 4).toNat, by omega⟩
  have hz1 : 4 ≤ z ∧ z ≤ 23 := by omega
  rw [hz]
  refine (number_c _ _ _ (by decide) (by decide)).ret ⟨_, rfl, by simp only [fits]; omega, ?_⟩
  obtain ⟨q, hq⟩ : ∃ q : Nat, (z : Int) + far % 900 = q := ⟨((z : Int) + far % 900).toNat, by omega⟩
  have hq1 : z ≤ q ∧ q < 1000 := by omega
  rw [hq]
  obtain ⟨w, hw⟩ : ∃ w : Nat, q + 1 = w + z := ⟨q + 1 - z, by omega⟩
  rw [show ((q : Int) - z) = ((w : Int) - 1) by omega, show ((w : Int) - 1 + 1) = w by omega]
  refine (me_c m).mono ?_
  rintro _ h2 ⟨rfl, m⟩
  refine ⟨_, rfl, (bss_c m).mono ?_⟩
  rintro _ h3 ⟨rfl, m⟩
  refine ⟨_, rfl, (rnew_c m (by omega)).mono ?_⟩
  rintro _ h4 ⟨b, T, rfl, hs⟩
  have s := hs 0 (by decide)
  clear hs
  refine ⟨_, _, rfl, bcase_false rfl ⟨true, rfl, bcase_false rfl ?_⟩⟩
  refine (me_c s.m).mono ?_
  rintro _ h5 ⟨rfl, m5⟩
  refine ⟨_, rfl, (bss_c m5).mono ?_⟩
  rintro _ h6 ⟨rfl, m6⟩
  refine ⟨_, rfl, (bss_c m6).mono ?_⟩
  rintro _ h7 ⟨rfl, m7⟩
  refine ⟨_, rfl, rfl, rfl, rfl, ?_⟩
  refine (raddBytes_c (to := meL) (fr := bssL) (bss := bssL) (token := 0) (tid := 0) (size := 0) (sq := S) m7 rfl rfl rfl ⟨by decide, by decide, by decide, hSb⟩ false (fun q => by cases q)).mono ?_
  rintro _ h8 ⟨W2, a8, c8, hle2, rfl, m8, hb8⟩
  replace s := s.mem m8
  have hE2 := (hE.le hle1).le hle2
  refine ⟨_, _, _, _, rfl, ?_⟩
  refine (other_add (x := ses0) (mv := none) (token := 0) (sz := 0) (sq := S) (t := 0) hE2 s rfl ses0_ok (by decide) (by omega) ⟨by decide, by decide, by decide, hSb⟩ hb8).mono ?_
  rintro _ h9 ⟨W3, r, a9, c9, E9, vs9, a10, c10, hle3, hr3, rfl, o9, hs9, hk9, hb9, s9⟩
  have hr0 : W r = none := by
    cases hW : W r with
    | none => rfl
    | some y => have := hle2 r y (hle1 r y hW); rw [hr3] at this; cases this
  refine ⟨_, _, _, _, _, _, rfl, ?_⟩
  rw [show addSize (z : Int) 0 = (z : Int) from if_neg (by decide)] at s9
  have s10 := s9.drop
  have hle13 : W.le W3 := hle1.trans (hle2.trans hle3)
  refine ⟨fun a' l' c' i h => ∃ (k : Nat) (kl : List Nat) (x : Ses) (W' : Wd) (E : Grp), i = k ∧ 1 ≤ k ∧ k ≤ z ∧ l' = kl.length ∧ Ow a' kl.length c' 1 (ints .i64 (nats kl)) E ∧ PshI W r b T S z q h k kl x W' E, fun _ _ _ i _ => ((z : Int) - i).toNat,
    ⟨1, [], newSes z S, W3, [], rfl, by omega, by omega, rfl, by simpa [nats, ints] using Ow.nil, hle13, s10.mem (me_swap s10.m.nilI), hk9, newSes_win (z := z) hSb (by omega), List.Pairwise.nil, by simp⟩, fun _ => ?_⟩
  clear s10 s9 s
  rintro ka _ kc _ h12 ⟨k, kl, x, W4, Ek, rfl, hk1, hkz, rfl, ok, I⟩
  have hkll : kl.length ≤ k := nodup_bd k I.w.nd fun j hj => (I.bd j hj).2
  refine dcase_intro (fun qk => ?_) fun qk => ?_
  · have hkz' : k < z := by omega
    refine ⟨by simp only [fits]; omega, ⟨by omega, by simp only [kbits]; omega⟩, dcase_intro (fun qb => ?_) fun qb => ?_⟩
    · refine ⟨by simp only [fits]; omega, ?_⟩
      intro b3 h14 e3 e4
      obtain ⟨W5, hle5, m6, hb3⟩ := bts_one (me_swap (I.st.push e3 e4).m)
      have s5 := I.st.mem m6
      refine ⟨by simp only [fits]; omega, ?_⟩
      refine (data_c (tid := ((0 : Nat) : Int)) (rt := false) s5.m hb3 (by decide) (by show 1 ≤ 1500; decide)).mono ?_
      rintro _ h15 ⟨W6, a4, c4, hle6, rfl, m7, hb4⟩
      have s6 := s5.mem m7
      rw [show (S + (k : Int)) % 4096 = pos S k from rfl] at hb4 ⊢
      have hfr : dfm ((0 : Nat) : Int) (pos S k) false [(k : Int)] = frO 0 S (BP q) k := by
        have : BP q k = [(k : Int)] := if_neg (by omega)
        unfold frO; rw [this]
      refine ⟨_, _, _, rfl, ?_⟩
      have hknk : k ∉ kl := fun hc => by have := (I.bd k hc).2; omega
      obtain ⟨mm, ks', hout, w', hbits, hmi, hks'⟩ := I.w.take (q := k) (by decide) (BP_len' q) (by omega) (by omega) (by omega) (by omega) (by omega)
      have hm0 : mm = 0 := by
        refine Nat.eq_zero_of_not_pos fun hp => ?_
        rcases ins_mem.1 (hmi 0 hp).2 with h | h
        · have := (I.bd _ h).1; omega
        · omega
      subst hm0
      have hks2 : ks' = kl ++ [k] := by
        rcases hks' with ⟨h1, -, -⟩ | ⟨-, rfl, -⟩
        · omega
        · rw [cut_zero]; unfold ins; rw [if_neg hknk]
      subst hks2
      have hk6 : KeptV W6 (some r) x.kept := (I.kv.le hle5).le hle6
      refine (recvData_c (x := x) (mv := some r) (t := 0) (sq := pos S k) (rt := false) (body := [(k : Int)]) s6 hk6 (fun _ => by simp) hb4 pos_bd (by show 1 ≤ 1500; decide) (take_on I.w.on I.w.ok) (by rw [hfr]; exact w'.ok) (by rw [hfr, hout]; show (0 : Nat) ≤ 65536; decide)).mono ?_
      rw [hfr, hout]
      rintro _ h16 ⟨W7, a5, c5, E5, vs5, a6, c6, hg, rfl, o5, hs5, hk7, hb5, s7⟩
      obtain ⟨x', hx'⟩ : ∃ x', x' = (x.take (frO 0 S (BP q) k)).2 := ⟨_, rfl⟩
      rw [← hx'] at w' hk7 hb5 s7
      refine ⟨_, _, _, _, _, _, rfl, bcase_false rfl ?_⟩
      have s8 := s7.drop
      refine ok.appn (me_swap s8.m) (us := [.int .i64 (k : Int)]) rfl (by simp [Value.oneCell']) (by omega) (by decide) fun a7 c7 E7 h7 m7 o7 => ?_
      refine ⟨by simp only [fits]; omega, ⟨k + 1, kl ++ [k], x', W7, E7, by omega, by omega, by omega, by simp, ?_, ?_⟩, by dsimp only; omega⟩
      · have e : ints .i64 (nats (kl ++ [k])) = ints .i64 (nats kl) ++ [.int .i64 (k : Int)] := by simp [nats, ints]
        rw [e, List.length_append]; exact o7
      · exact ⟨gr_init (I.le.trans (hle5.trans hle6)) hr0 hg, s8.mem (me_swap m7), hk7, w', Rise.app I.ri fun j hj => (I.bd j hj).2, fun j hj => by
          rcases List.mem_append.1 hj with h | h
          · have := I.bd j h; omega
          · simp at h; omega⟩
    · exact ⟨by simp only [fits]; omega, ⟨k + 1, kl, x, W4, Ek, by omega, by omega, by omega, rfl, ok, I.le, I.st, I.kv, I.w, I.ri, fun j hj => by have := I.bd j hj; omega⟩, by dsimp only; omega⟩
  · obtain rfl : k = z := by omega
    intro b3 h14 e3 e4
    obtain ⟨W5, hle5, m6, hb3⟩ := bts_one (me_swap (I.st.push e3 e4).m)
    have s5 := I.st.mem m6
    refine ⟨by simp only [fits]; omega, ?_⟩
    refine (data_c (tid := ((0 : Nat) : Int)) (rt := false) s5.m hb3 (by decide) (by show 1 ≤ 1500; decide)).mono ?_
    rintro _ h15 ⟨W6, a4, c4, hle6, rfl, m7, hb4⟩
    have s6 := s5.mem m7
    rw [show (S + (q : Int)) % 4096 = pos S q from rfl] at hb4 ⊢
    have hfr : dfm ((0 : Nat) : Int) (pos S q) false [200] = frO 0 S (BP q) q := by
      have : BP q q = [200] := if_pos rfl
      unfold frO; rw [this]
    refine ⟨_, _, _, rfl, ?_⟩
    obtain ⟨mm, htk, hmi, hmn⟩ := take_far (q := q) (w := w) I.w.on I.w.st I.w.kp I.w.nd I.w.bd I.w.z (by omega) (by omega) (by omega) (by omega) hw
    have hf0 : (List.range' 0 (w - 0)).filter (fun j => decide (j ∈ kl)) = kl.filter fun j => decide (j < w) := by
      refine rise_ext (rise_filter (rise_range' _ _)) (rise_filter I.ri) fun j => ?_
      simp only [List.mem_filter, List.mem_range'_1, decide_eq_true_eq]
      exact ⟨fun ⟨⟨_, h1⟩, h2⟩ => ⟨h2, by omega⟩, fun ⟨h2, h1⟩ => ⟨⟨by omega, by omega⟩, h2⟩⟩
    have hc0 : cut kl 0 (w - 0) = kl.filter fun j => decide (w ≤ j) := by
      unfold cut
      refine List.filter_congr fun j _ => decide_eq_decide.2 (by omega)
    rw [hf0] at htk
    rw [hc0] at htk hmi hmn
    have hsplit := rise_split (w := w) I.ri
    obtain ⟨K1, hK1⟩ : ∃ K1, K1 = kl.filter fun j => decide (j < w) := ⟨_, rfl⟩
    obtain ⟨K2, hK2⟩ : ∃ K2, K2 = kl.filter fun j => decide (w ≤ j) := ⟨_, rfl⟩
    rw [← hK1] at htk hsplit
    rw [← hK2] at htk hmi hmn hsplit
    have hK2b : ∀ j ∈ K2, w ≤ j ∧ j < q := fun j hj => by
      rw [hK2] at hj
      obtain ⟨h1, h2⟩ := List.mem_filter.1 hj
      have := I.bd j h1
      have := of_decide_eq_true h2
      omega
    have hrun := rise_run (K := K2) (w := w) (m := mm) (q := q) (by rw [hK2]; exact rise_filter I.ri) hK2b (fun i hi => ins_mem.1 (hmi i hi))
    have hmz : mm ≤ k := by
      refine Nat.le_of_not_lt fun hlt => ?_
      rcases ins_mem.1 (hmi k hlt) with h | h
      · have := (hK2b _ h).2; omega
      · omega
    have hk6 : KeptV W6 (some r) x.kept := (I.kv.le hle5).le hle6
    have hL1 : K1.length ≤ 23 := by
      have h1 := congrArg List.length hsplit
      rw [List.length_append] at h1; omega
    have hlenO : ((K1 ++ List.range' w mm).map (frO 0 S (BP q))).length = K1.length + mm := by simp
    have hcutl : (cut (ins K2 q) w mm).length ≤ 4096 := by
      have h1 := cut_len (ks := ins K2 q) (p := w) (m := mm)
      have h2 := ins_len (ks := K2) (q := q)
      have h3 := congrArg List.length hsplit
      rw [List.length_append] at h3; omega
    have hxok : SesOk ((x.stand (pos S q)).wk (pos S (w + mm)) ((cut (ins K2 q) w mm).map (frO 0 S (BP q)))) := wk_ok I.w.ok (by decide) (BP_len' q) hcutl
    refine (recvData_c (x := x) (mv := some r) (t := 0) (sq := pos S q) (rt := false) (body := [200]) s6 hk6 (fun _ => by simp) hb4 pos_bd (by show 1 ≤ 1500; decide) (take_on I.w.on I.w.ok) (by rw [hfr, htk]; exact hxok) (by rw [hfr, htk]; dsimp only; rw [hlenO]; omega)).mono ?_
    rw [hfr, htk]
    rintro _ h16 ⟨W7, a5, c5, E5, vs5, a6, c6, hg, rfl, o5, hs5, hk7, hb5, s7⟩
    refine ⟨_, _, _, _, _, _, rfl, by simp only [fits]; omega, by simp only [fits]; omega, ?_⟩
    dsimp only at o5 hs5 ⊢
    refine (below_c w ok s7.m 2 rfl (by omega)).ret ⟨_, rfl, ?_⟩
    rw [← hK1, hlenO]
    refine dcase_neg (by omega) (bcase_false rfl ?_)
    refine ⟨fun i h => ∃ ii : Nat, i = ii ∧ ii ≤ K1.length + mm ∧ h = h16, fun i _ => (((K1.length + mm : Nat) : Int) - i).toNat, ⟨0, rfl, by omega, rfl⟩, fun _ => ?_⟩
    rintro _ h23 ⟨ii, rfl, hii, rfl⟩
    refine dcase_intro (fun q2 => ?_) fun q2 => ?_
    · have hil : ii < K1.length + mm := by omega
      refine dcase_intro (fun q3 => ?_) fun q3 => ?_
      · have hik : ii < kl.length := by omega
        obtain ⟨u, hu⟩ : ∃ u, (K1 ++ List.range' w mm)[ii]? = some u := ⟨_, List.getElem?_eq_getElem (by simp; omega)⟩
        have hku : kl[ii]? = some u := by
          rw [hsplit]
          by_cases h1 : ii < K1.length
          · rw [List.getElem?_append_left h1] at hu ⊢; exact hu
          · rw [List.getElem?_append_right (by omega)] at hu ⊢
            have h3 := congrArg List.length hsplit
            rw [List.length_append] at h3
            have h4 := hrun (ii - K1.length) (by omega) (by omega)
            rw [List.getElem?_range' (by omega)] at hu
            rw [List.getElem?_eq_getElem (by omega), h4, ← hu]; simp
        have hub := I.bd u (List.mem_of_getElem? hku)
        obtain ⟨bq, oq, hbq, hc19, sa, sc, hc23, hbb⟩ := sq_cell (i := 1) (j := ii) (f := frO 0 S (BP q) u) o5 s7.m rfl hs5 (Win.ok_out (by decide) (BP_len' q)) (by rw [List.getElem?_map, hu]; rfl)
        subst hbq
        obtain ⟨bb, ob, rfl, -, -, hxb⟩ := bts_opn hbb (by show 0 < (BP q u).length; rw [BP_len]; decide)
        have hbu : (frO 0 S (BP q) u).body = [(u : Int)] := if_neg (by omega)
        obtain ⟨bk, obk, rfl, hck⟩ := src_cell (ok.src1 s7.m 2 rfl) (ints_get (k := .i64) (i := ii) (x := (u : Int)) (by rw [nats, List.getElem?_map, hku]; rfl))
        refine ⟨⟨by omega, by omega⟩, some ⟨bb, ob, none⟩, (frO 0 S (BP q) u).body.length, sc, by simpa using hc23, ⟨by decide, by rw [hbu]; show (0 : Int) < ((1 : Nat) : Int); decide⟩, (u : Int), s7.m.wcell (hxb 0 _ (by rw [hbu]; rfl)), by simp only [fits]; omega, ⟨by omega, by omega⟩, (u : Int), by simpa using hck, bcase_false (by simp) ⟨by simp only [fits]; omega, ⟨ii + 1, by omega, by omega, rfl⟩, by dsimp only; omega⟩⟩
      · exact ⟨by simp only [fits]; omega, ⟨ii + 1, by omega, by omega, rfl⟩, by dsimp only; omega⟩
    · refine (session_c s7).ret ?_
      have hon' : ((x.stand (pos S q)).wk (pos S (w + mm)) ((cut (ins K2 q) w mm).map (frO 0 S (BP q)))).on = true := by show (x.stand (pos S q)).on = true; rw [(stand_kept x (pos S q)).2.2.2.1]; exact I.w.on
      have hzz : ((x.stand (pos S q)).wk (pos S (w + mm)) ((cut (ins K2 q) w mm).map (frO 0 S (BP q)))).size = k := by show (x.stand (pos S q)).size = k; rw [(stand_kept x (pos S q)).2.2.1]; exact I.w.z
      rw [hon', hzz]
      refine ⟨pos S (w + mm), (k : Int), true, rfl, ?_⟩
      refine ⟨fun v h => v = true ∧ h = h23, bcase_true rfl ⟨rfl, rfl⟩, fun _ => ?_⟩
      rintro _ h25 ⟨rfl, rfl⟩
      refine ⟨fun v h => v = true ∧ h = h25, bcase_true rfl ⟨by simp, rfl⟩, fun _ => ?_⟩
      rintro _ h26 ⟨rfl, rfl⟩
      refine bcase_true rfl ((radd_c _ _ _).ret ⟨_, rfl, (rdist_c _ _ _).ret ⟨_, rfl, ?_, W7, gr_init (I.le.trans (hle5.trans hle6)) hr0 hg, s7.m.drop1.drop1.drop1⟩⟩)
      have ed : distZ (addZ S (w : Int)) (pos S (w + mm)) = (mm : Int) := by unfold distZ addZ pos; omega
      rw [ed, show decide ((mm : Int) ≤ k) = true from decide_eq_true (by omega)]
end
theorem walk_RecvPushes (w : World) (hE : Snt5 (Wd.of w.heap)) (a0 : Int) (w0 : (Lit.int .i64 a0).wf = true) (a1 : Int) (w1 : (Lit.int .i64 a1).wf = true) (a2 : Int) (w2 : (Lit.int .i64 a2).wf = true) (a3 : Int) (w3 : (Lit.int .u64 a3).wf = true) :
    Calls Tryd.prog 7 #[.int .i64 a0, .int .i64 a1, .int .i64 a2, .int .u64 a3] w fun e w' => e = .returned (.bool true) ∧ Go.RowKit.Below w.heap.size w w' := by
  have hb := wf_u64 w3
  refine calls_of_runs ((pushes_r a0 a1 a2 a3 ⟨hb.1, hb.2⟩ hE (Me.start w.heap)).mono ?_)
  rintro v h' ⟨rfl, W', hle, m⟩
  exact ⟨rfl, m.kept hle⟩
end Go.Proofs.YthlacliefgliiaaDoor
