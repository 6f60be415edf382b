/- RecvOrder: frames of a session go up once each, in the order of their numbers. -/
import Derived.Test.YthlacliefgliiaaDoorWin
import Derived.Test.YthlacliefgliiaaDoorGenAll2
set_option linter.unusedVariables false
set_option linter.unusedSimpArgs false
set_option maxRecDepth 8000
namespace Go.Proofs.YthlacliefgliiaaDoor
open Go.Vc
theorem B1_len (k : Nat) : (B1 k).length ≤ 1500 := by show 1 ≤ 1500; decide
theorem gr_init {W0 W W' : Wd} {r : Nat} (h0 : W0.le W) (hr : W0 r = none) (hg : W.gr W' (some r)) : W0.le W' := fun b x e => hg b x (fun q => by cases q; rw [hr] at e; cases e) (h0 b x e)
/-- What is known as the frames come. -/
structure OrdI (W : Wd) (r b b1 : Nat) (T Tb : TypeId) (S : Int) (h : Heap) (p : Nat) (cm : List Bool) (ks : List Nat) (x : Ses) (W' : Wd) (R : List Grp) : Prop where
  le : W.le W'
  st : St W' h b T 64 css0 0 (sesC x (some r)) ([(b1, cm.map Value.bool, Tb)] :: R)
  kv : KeptV W' (some r) x.kept
  w : Win 0 B1 S 64 p ks x
  lt : ∀ k ∈ ks, p < k ∧ k < 64 ∧ cm[k]? = some true
  al : ∀ k, k < 64 → cm[k]? = some true → k < p ∨ k ∈ ks
  cl : cm.length = 64
  bt : ∀ d, d < 64 → x.bits.toNat.testBit d = true → cm[d]? = some true
  p64 : p ≤ 64
section
variable {W W' : Wd} {h h' : Heap} {b t j n c : Nat} {T : TypeId} {size : Int} {css : List (List Value)} {cs us vs : List Value} {G G' : List Grp} {v : Value} {f : Fm} {mv : Option Nat} {Q : Heap → Prop} {E : Grp}
theorem set_get {cm : List Bool} {q k : Nat} (hq : q < cm.length) : (cm.set q true)[k]? = some true ↔ k = q ∨ cm[k]? = some true := by
  rw [List.getElem?_set]
  by_cases h : q = k
  · subst h; simp [hq]
  · simp [h]; exact fun e => absurd e.symm h
theorem order_r {l : List Int} {a : Option Addr} (start : Int) (hE : Snt5 W) (m : Me W h []) (hl : wsrc W a l.length (ints .i64 l)) :
    Runs Tryd.prog 5 #[.int .i64 start, .slice a l.length c] h fun v h' => v = .bool true ∧ ∃ W', W.le W' ∧ Me W' h' [] := by
  refine vc_muezzinlaw24_RecvOrder _ _ _ _ _ _ ?_
  refine (first24_c hE m).mono ?_
  rintro _ h1 ⟨rfl, W1, hle1, m⟩
  refine ⟨true, rfl, bcase_false rfl ((number_c _ _ _ (by decide) (by decide)).ret ⟨_, rfl, ?_⟩)⟩
  obtain ⟨S, hS⟩ : ∃ S, S = start % 4096 := ⟨_, rfl⟩
  have hSb : 0 ≤ S ∧ S ≤ 4095 := by omega
  rw [← hS]
  refine dcase_intro (fun q => ⟨rfl, W1, hle1, m⟩) fun q60 => ?_
  refine (me_c m).mono ?_
  rintro _ h2 ⟨rfl, m⟩
  refine ⟨_, rfl, (bss_c m).mono ?_⟩
  rintro _ h3 ⟨rfl, m⟩
  refine ⟨_, rfl, (rnew_c m (by decide)).mono ?_⟩
  rintro _ h4 ⟨b, T, rfl, hs⟩
  have s := hs 0 (by decide)
  clear hs
  refine ⟨_, _, rfl, bcase_false rfl ⟨true, rfl, bcase_false rfl ?_⟩⟩
  refine (me_c s.m).mono ?_
  rintro _ h5 ⟨rfl, m5⟩
  refine ⟨_, rfl, (bss_c m5).mono ?_⟩
  rintro _ h6 ⟨rfl, m6⟩
  refine ⟨_, rfl, (bss_c m6).mono ?_⟩
  rintro _ h7 ⟨rfl, m7⟩
  refine ⟨_, rfl, rfl, rfl, rfl, ?_⟩
  refine (raddBytes_c (to := meL) (fr := bssL) (bss := bssL) (token := 0) (tid := 0) (size := 64) (sq := S) m7 rfl rfl rfl ⟨by decide, by decide, by decide, hSb⟩ false (fun q => by cases q)).mono ?_
  rintro _ h8 ⟨W2, a8, c8, hle2, rfl, m8, hb8⟩
  replace s := s.mem m8
  have hE2 := (hE.le hle1).le hle2
  refine ⟨_, _, _, _, rfl, ?_⟩
  refine (other_add (x := ses0) (mv := none) (token := 0) (sz := 64) (sq := S) (t := 0) hE2 s rfl ses0_ok (by decide) (by decide) ⟨by decide, by decide, by decide, hSb⟩ hb8).mono ?_
  rintro _ h9 ⟨W3, r, a9, c9, E9, vs9, a10, c10, hle3, hr3, rfl, o9, hs9, hk9, hb9, s9⟩
  have hr0 : W r = none := by
    cases hW : W r with
    | none => rfl
    | some y => have := hle2 r y (hle1 r y hW); rw [hr3] at this; cases this
  refine ⟨_, _, _, _, _, _, rfl, ⟨by decide, by decide, by decide, by decide⟩, ?_⟩
  intro b1 h10 e1 e2
  rw [show addSize 64 64 = 64 by decide] at s9
  have s10 := s9.drop.push e1 e2
  obtain ⟨Tb, hTb⟩ : ∃ Tb, St W3 h10 b T 64 css0 0 (sesC (newSes 64 S) (some r)) ([(b1, (List.replicate 64 false).map Value.bool, Tb)] :: []) := ⟨_, s10⟩
  have hle13 : W.le W3 := hle1.trans (hle2.trans hle3)
  refine ⟨fun next i h => ∃ (k p : Nat) (cm : List Bool) (ks : List Nat) (x : Ses) (W' : Wd), i = k ∧ k ≤ l.length ∧ next = p ∧ OrdI W r b b1 T Tb S h p cm ks x W' [], fun _ i _ => ((l.length : Int) - i).toNat, ⟨0, 0, List.replicate 64 false, [], newSes 64 S, W3, rfl, by omega, rfl, ?_⟩, fun _ => ?_⟩
  · refine ⟨hle13, hTb, hk9, newSes_win (z := 64) hSb (by decide), by simp, fun k hk hc => ?_, rfl, fun d hd hb => ?_, by decide⟩
    · rw [List.getElem?_replicate] at hc; split at hc <;> simp at hc
    · have : (newSes 64 S).bits.toNat.testBit d = false := by show (0 : Int).toNat.testBit d = false; simp
      rw [this] at hb; cases hb
  clear hTb s10 s9 s
  rintro _ _ h12 ⟨k, p, cm, ks, x, W4, rfl, hk, rfl, I⟩
  refine dcase_intro (fun q => ?_) fun q => ?_
  · have hkl : k < l.length := by omega
    obtain ⟨bl, ol, rfl, hcl⟩ := src_cell (I.st.m.wsrc (wsrc_le I.le hl)) (ints_get (List.getElem?_eq_getElem hkl))
    refine ⟨⟨by omega, by omega⟩, l[k], by simpa using hcl, (number_c _ _ _ (by decide) (by decide)).ret ⟨_, rfl, ?_⟩⟩
    obtain ⟨q, hq⟩ : ∃ q : Nat, l[k] % 64 = q := ⟨(l[k] % 64).toNat, by omega⟩
    have hq64 : q < 64 := by omega
    rw [hq]
    refine ⟨by simp only [fits]; omega, ?_⟩
    intro b3 h14 e3 e4
    obtain ⟨W5, hle5, m6, hb3⟩ := bts_one (me_swap (I.st.push e3 e4).m)
    have s5 := I.st.mem m6
    refine ⟨by simp only [fits]; omega, ?_⟩
    refine (data_c (tid := ((0 : Nat) : Int)) (rt := false) s5.m hb3 (by decide) (by show 1 ≤ 1500; decide)).mono ?_
    rintro _ h15 ⟨W6, a4, c4, hle6, rfl, m7, hb4⟩
    have s6 := s5.mem m7
    rw [show (S + (q : Int)) % 4096 = pos S q from rfl] at hb4 ⊢
    have hfr : dfm ((0 : Nat) : Int) (pos S q) false [(q : Int)] = frO 0 S B1 q := rfl
    refine ⟨_, _, _, rfl, ?_⟩
    have hksl : ks.length ≤ 64 := nodup_bd 64 I.w.nd fun k hk => (I.lt k hk).2.1
    obtain ⟨mm, ks', hout, w', hbits, hmi, hks'⟩ := I.w.take (q := q) (by decide) B1_len (by decide) hq64 (by omega) (by have := I.p64; omega) (by omega)
    have hk6 : KeptV W6 (some r) x.kept := (I.kv.le hle5).le hle6
    have hksl' : ks'.length ≤ 65 := by
      rcases hks' with ⟨-, -, rfl⟩ | ⟨-, rfl, -⟩
      · omega
      · have := cut_len (ks := ins ks q) (p := p) (m := mm)
        have := ins_len (ks := ks) (q := q)
        omega
    have hmm : mm ≤ 65 := by
      rcases hks' with ⟨-, rfl, -⟩ | ⟨-, -, -⟩
      · omega
      · have : (List.range' p mm).length ≤ 2000 := by
          refine nodup_bd 2000 List.nodup_range' fun i hi => ?_
          obtain ⟨h1, h2⟩ := List.mem_range'_1.1 hi
          obtain ⟨h3, h4⟩ := hmi (i - p) (by omega)
          rw [show p + (i - p) = i by omega] at h4
          rcases ins_mem.1 h4 with h | h
          · have := (I.lt i h).2.1; omega
          · omega
        have : (List.range' p mm).length ≤ 64 := by
          refine nodup_bd 64 List.nodup_range' fun i hi => ?_
          obtain ⟨h1, h2⟩ := List.mem_range'_1.1 hi
          obtain ⟨h3, h4⟩ := hmi (i - p) (by omega)
          rw [show p + (i - p) = i by omega] at h4
          rcases ins_mem.1 h4 with h | h
          · exact (I.lt i h).2.1
          · omega
        rw [List.length_range'] at this
        omega
    refine (recvData_c (x := x) (mv := some r) (t := 0) (sq := pos S q) (rt := false) (body := [(q : Int)]) s6 hk6 (fun _ => by simp) hb4 pos_bd (by show 1 ≤ 1500; decide) (take_on I.w.on I.w.ok) w'.ok (by rw [hfr, hout, List.length_map, List.length_range']; omega)).mono ?_
    rw [hfr]
    rintro _ h16 ⟨W7, a5, c5, E5, vs5, a6, c6, hg, rfl, o5, hs5, hk7, hb5, s7⟩
    refine ⟨_, _, _, _, _, _, rfl, ⟨by omega, by omega⟩, ?_⟩
    rw [hout, List.length_map, List.length_range'] at o5 ⊢
    rw [hout] at hs5
    obtain ⟨x', hx'⟩ : ∃ x', x' = (x.take (frO 0 S B1 q)).2 := ⟨_, rfl⟩
    rw [← hx'] at w' hbits hk7 hb5 s7
    have hcq : q < cm.length := by rw [I.cl]; exact hq64
    refine s7.m.store 2 rfl (by rw [List.length_map]; show 0 + q < _; omega) fun h17 m8 => ?_
    have e8 : (cm.map Value.bool).set (0 + ((q : Nat) : Int).toNat) (.bool true) = (cm.set q true).map Value.bool := by
      rw [Nat.zero_add, Int.toNat_natCast, List.map_set]
    simp only [List.set_cons_zero, List.set_cons_succ] at m8
    rw [e8] at m8
    have s8 : St W7 h17 b T 64 css0 0 (sesC x' (some r)) (E5 :: [(b1, (cm.set q true).map Value.bool, Tb)] :: []) := s7.mem m8
    obtain ⟨cm', hcm'⟩ : ∃ cm', cm' = cm.set q true := ⟨_, rfl⟩
    rw [← hcm'] at s8
    have hcm1 : ∀ k, cm'[k]? = some true ↔ k = q ∨ cm[k]? = some true := fun k => by rw [hcm']; exact set_get hcq
    have hcl' : cm'.length = 64 := by rw [hcm', List.length_set]; exact I.cl
    have hin : ∀ k ∈ ins ks q, k < 64 ∧ cm'[k]? = some true := fun k hk => by
      rcases ins_mem.1 hk with h | h
      · exact ⟨(I.lt k h).2.1, (hcm1 k).2 (.inr (I.lt k h).2.2)⟩
      · subst h; exact ⟨hq64, (hcm1 k).2 (.inl rfl)⟩
    have hp64' : p + mm ≤ 64 := by
      rcases Nat.eq_zero_or_pos mm with h | h
      · have := I.p64; omega
      · have := (hin _ (hmi (mm - 1) (by omega)).2).1; omega
    have hle7 : W.le W7 := gr_init (I.le.trans (hle5.trans hle6)) hr0 hg
    have hI : OrdI W r b b1 T Tb S h17 (p + mm) cm' ks' x' W7 (E5 :: []) := by
      refine ⟨hle7, s8.mem (s8.m.perm ?_), hk7, w', fun k hk => ?_, fun k hk hc => ?_, hcl', fun d hd hb => ?_, hp64'⟩
      · simp only [List.flatten_cons, List.flatten_nil, List.append_nil]
        exact List.Perm.append_left _ List.perm_append_comm
      · rcases hks' with ⟨h1, rfl, rfl⟩ | ⟨h1, rfl, h3⟩
        · have := I.lt k hk
          exact ⟨this.1, this.2.1, (hcm1 k).2 (.inr this.2.2)⟩
        · obtain ⟨h4, h5⟩ := cut_mem.1 hk
          have h6 := hin k h4
          have h7 : k ≠ p + mm := fun e => h3 (e ▸ h4)
          have h8 : p ≤ k := by
            rcases ins_mem.1 h4 with h | h
            · have := (I.lt k h).1; omega
            · omega
          exact ⟨by omega, h6.1, h6.2⟩
      · rcases hks' with ⟨h1, rfl, rfl⟩ | ⟨h1, rfl, h3⟩
        · rcases (hcm1 k).1 hc with h | h
          · exact .inl (by omega)
          · exact I.al k hk h
        · by_cases h9 : k < p + mm
          · exact .inl h9
          · right
            refine cut_mem.2 ⟨?_, .inr (by omega)⟩
            rcases (hcm1 k).1 hc with h | h
            · exact ins_mem.2 (.inr h)
            · rcases I.al k hk h with h | h
              · omega
              · exact ins_mem.2 (.inl h)
      · rw [hbits, bit_or I.w.ok.b.1 I.w.ok.b.2 hq64, Bool.or_eq_true] at hb
        rcases hb with h | h
        · exact (hcm1 d).2 (.inr (I.bt d hd h))
        · exact (hcm1 d).2 (.inl (by simpa using (of_decide_eq_true h).symm))
    have hpn : p + mm < 64 → cm'[p + mm]? = some false := fun hlt => by
      have hlt' : p + mm < cm'.length := by omega
      cases hv : cm'[p + mm] with
      | false => rw [List.getElem?_eq_getElem hlt', hv]
      | true =>
        rcases hI.al (p + mm) hlt (by rw [List.getElem?_eq_getElem hlt', hv]) with h | h
        · omega
        · have := (hI.lt _ h).1; omega
    refine ⟨fun next j h => ∃ jj : Nat, j = jj ∧ next = ((p + jj : Nat) : Int) ∧ jj ≤ mm ∧ h = h17, fun _ j _ => ((mm : Int) - j).toNat, ⟨0, rfl, rfl, by omega, rfl⟩, fun _ => ?_⟩
    rintro _ _ h18 ⟨jj, rfl, rfl, hjm, rfl⟩
    refine dcase_intro (fun qj => ?_) fun qj => ?_
    · have hjl : jj < mm := by omega
      obtain ⟨hn64, hnc⟩ := hin _ (hmi jj hjl).2
      have hcellb : cell h18 b1 (p + jj) = some (.bool true) := s8.m.cell 2 rfl (by rw [List.getElem?_map, hnc]; rfl)
      obtain ⟨bq, oq, hbq, hc19, sa, sc, hc23, hbb⟩ := sq_cell (i := 1) (j := jj) (f := frO 0 S B1 (p + jj)) (out := (List.range' p mm).map (frO 0 S B1)) (by rw [List.length_map, List.length_range']; exact o5) s8.m rfl hs5 (Win.ok_out (by decide) B1_len) (by rw [List.getElem?_map, List.getElem?_range' hjl]; simp)
      subst hbq
      have hc19' : cell h18 bq ((oq + jj * 24) + 19) = some (.int .i64 (pos S (p + jj))) := hc19
      refine ⟨fun v h => v = false ∧ h = h18, dcase_neg (by omega) ⟨⟨by omega, by omega⟩, true, by rw [Nat.zero_add, Int.toNat_natCast]; exact hcellb, rfl, rfl⟩, fun _ => ?_⟩
      rintro _ h19 ⟨rfl, rfl⟩
      refine ⟨fun v h => v = false ∧ h = h19, bcase_false rfl ⟨⟨by omega, by omega⟩, pos S (p + jj), by simpa using hc19', by simp only [fits]; omega, ⟨by omega, by decide⟩, ?_, rfl⟩, fun _ => ?_⟩
      · simp [pos]
      rintro _ h20 ⟨rfl, rfl⟩
      refine ⟨fun v h => v = false ∧ h = h20, bcase_false rfl ⟨⟨by omega, by omega⟩, _, _, _, by simpa using hc23, rfl, rfl⟩, fun _ => ?_⟩
      rintro _ h21 ⟨rfl, rfl⟩
      obtain ⟨bb, ob, rfl, -, -, hxb⟩ := bts_opn hbb (by show 0 < 1; decide)
      refine bcase_false rfl ⟨⟨by omega, by omega⟩, some ⟨bb, ob, none⟩, (frO 0 S B1 (p + jj)).body.length, sc, by simpa using hc23, ⟨by decide, by show (0 : Int) < ((1 : Nat) : Int); decide⟩, ((p + jj : Nat) : Int), s8.m.wcell (hxb 0 _ rfl), by simp only [fits]; omega, bcase_false (by simp) ⟨by simp only [fits]; omega, by simp only [fits]; omega, ⟨jj + 1, rfl, by omega, by omega, rfl⟩, by dsimp only; omega⟩⟩
    · obtain rfl : jj = mm := by omega
      refine ⟨fun v h => v = false ∧ h = h18, dcase_intro (fun qn => ?_) (fun qn => ⟨rfl, rfl⟩), fun _ => ?_⟩
      · have hn : p + jj < 64 := by omega
        exact ⟨⟨by omega, by omega⟩, false, s8.m.cell 2 rfl (by rw [List.getElem?_map, Nat.zero_add, Int.toNat_natCast, hpn hn]; rfl), rfl, rfl⟩
      rintro _ h22 ⟨rfl, rfl⟩
      refine bcase_false rfl (bcase_false rfl ?_)
      have hon' : x'.on = true := w'.on
      have eS : x'.ackS = pos S 0 := by unfold Ses.ackS; rw [hon']; exact w'.fr
      have eM : x'.ackM = x'.bits := by unfold Ses.ackM; rw [hon']; rfl
      rw [eS, eM] at hb5
      refine (readAck_c (n := 28) hI.st.m hb5 rfl rfl (by decide) pos_bd w'.ok.b).mono ?_
      rintro _ h23 ⟨rfl, W8, hle8, m10⟩
      have sA := hI.st.mem m10
      refine ⟨_, _, rfl, ?_⟩
      intro b4 h24 e5 e6
      have sB := sA.push e5 e6
      refine ⟨⟨rfl, sB.m.wrsb 1 rfl rfl, ackC_one bssL meL 0 (pos S 0) x'.bits⟩, fun h25 e7 => ?_⟩
      have mC := sB.m.setr 1 rfl e7
      have sC : St W8 h25 b T 64 css0 0 (sesC x' (some r)) ([(b4, ackC bssL meL 0 (pos S 0) x'.bits, 44)] :: [(b1, cm'.map Value.bool, Tb)] :: E5 :: []) := sB.mem mC
      refine bcase_false rfl ?_
      refine ⟨fun j h => ∃ jj : Nat, j = jj ∧ jj ≤ 64 ∧ h = h25, fun j _ => (64 - j).toNat, ⟨0, rfl, by omega, rfl⟩, fun _ => ?_⟩
      rintro _ h26 ⟨j2, rfl, hj2, rfl⟩
      refine dcase_intro (fun q2 => ?_) fun q2 => ?_
      · refine ⟨pos S 0, sC.m.cell 1 rfl rfl, (radd_c _ _ _).ret ⟨_, rfl, sC.m.cell 1 rfl rfl, (rdist_c _ _ _).ret ⟨_, rfl, ?_⟩⟩⟩
        have ed : distZ (pos S 0) (addZ S (j2 : Int)) = (j2 : Int) := by unfold distZ addZ pos; omega
        rw [ed]
        refine ⟨fun v h => h = h26 ∧ (v = true → cm'[j2]? = some true), dcase_intro (fun q3 => ?_) (fun q3 => ⟨rfl, fun e => by cases e⟩), fun _ => ?_⟩
        · refine ⟨x'.bits, sC.m.cell 1 rfl rfl, by simp only [fits]; omega, ⟨by omega, by simp only [kbits]; omega⟩, rfl, fun e => ?_⟩
          rw [bit_at w'.ok.b.1 w'.ok.b.2] at e
          refine hI.bt j2 (by omega) ?_
          cases hv : x'.bits.toNat.testBit j2 with
          | true => rfl
          | false => rw [hv] at e; simp at e
        rintro y h27 ⟨rfl, hy⟩
        refine bcase_intro (fun qy => ?_) fun qy => ?_
        · exact ⟨⟨by omega, by omega⟩, true, sC.m.cell 2 rfl (by rw [List.getElem?_map, Nat.zero_add, Int.toNat_natCast, hy qy]; rfl), bcase_false rfl ⟨by simp only [fits]; omega, ⟨j2 + 1, by omega, by omega, rfl⟩, by dsimp only; omega⟩⟩
        · exact ⟨by simp only [fits]; omega, ⟨j2 + 1, by omega, by omega, rfl⟩, by dsimp only; omega⟩
      · refine ⟨by simp only [fits]; omega, ⟨k + 1, p + jj, cm', ks', x', W8, by omega, by omega, rfl, ?_⟩, by dsimp only; omega⟩
        exact ⟨hle7.trans hle8, ((sC.drop).mem (sC.drop.m.sub ⟨E5, by simp only [List.flatten_cons, List.flatten_nil, List.append_nil, List.append_assoc]; exact List.Perm.refl _⟩)), hk7.le hle8, w', hI.lt, hI.al, hI.cl, hI.bt, hI.p64⟩
  · refine bcase_true rfl ((waits_c I.st I.kv).ret ⟨_, rfl, ?_, W4, I.le, I.st.m.drop1.drop1⟩)
    have : x.kept.length ≤ 64 := by
      rw [I.w.kp, List.length_map]
      exact nodup_bd 64 I.w.nd fun k hk => (I.lt k hk).2.1
    rw [show decide ((x.kept.length : Int) ≤ 64) = true from decide_eq_true (by omega)]
end
theorem walk_RecvOrder (w : World) (hE : Snt5 (Wd.of w.heap)) (a0 : Int) (w0 : (Lit.int .i64 a0).wf = true) (a1 : Option Addr) (len1 cap1 : Nat) (o1 : Opn (.slc (.int .i64)) (Wd.of w.heap) [.slice a1 len1 cap1]) :
    Calls Tryd.prog 5 #[.int .i64 a0, .slice a1 len1 cap1] w fun e w' => e = .returned (.bool true) ∧ Go.RowKit.Below w.heap.size w w' := by
  obtain ⟨a, c, l, e1, h1, h2, hl, -⟩ := opn_ints o1
  cases e1
  refine calls_of_runs ((order_r a0 hE (Me.start w.heap) hl).mono ?_)
  rintro v h' ⟨rfl, W', hle, m⟩
  exact ⟨rfl, m.kept hle⟩
end Go.Proofs.YthlacliefgliiaaDoor
