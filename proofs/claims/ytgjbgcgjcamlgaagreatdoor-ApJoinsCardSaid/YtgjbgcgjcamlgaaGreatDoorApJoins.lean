/- ApJoins: stations come in and go; what may not be is told. -/
import Derived.Test.YtgjbgcgjcamlgaaGreatDoorNo
import Derived.Test.YtgjbgcgjcamlgaaGreatDoorApNew
import Derived.Test.YtgjbgcgjcamlgaaGreatDoorGenLApJoins
set_option linter.unusedVariables false
set_option linter.unusedSimpArgs false
set_option maxRecDepth 8000
namespace Go.Proofs.YtgjbgcgjcamlgaaGreatDoor
open Go.Vc
section
variable {W W' : Wd} {h h' : Heap} {G : List Grp} {E Q : Grp} {ads : List Addr} {n k i j b o : Nat} {vs us cs : List Value} {x : Ap} {v : Value} {tm : List On} {T : TypeId} {l : List Int} {q : On} {ss : List Sc} {c : Cf}
theorem partv_pt {a : Addr} {K : List Value → Prop} (h : K [ptE a]) : partv 1 (ptE a) K := h
theorem me_none (m : Me W h G) : Me W h [] := m.sub ⟨G.flatten, by simp⟩
theorem rt_row {A B E : Grp} {S : List Grp} {r : List Value} (hr : r.length = 5) (m : Me W h (A :: (S ++ (B :: E :: [(b, r, T)] :: G)))) : row h b 0 5 = some r := by
  have hb : Blk h b r T := m.has (b, r, T) (by simp)
  exact hb.row_eq (by rw [List.drop_zero]; exact List.take_of_length_le (by omega)) (by omega)
theorem me_rt {A B R E : Grp} {S : List Grp} (m : Me W h (R :: A :: (S ++ (B :: E :: [])))) : Me W h (A :: (S ++ (B :: E :: R :: []))) := m.perm (by
  classical
  exact List.perm_iff_count.2 fun a => by simp only [List.flatten_cons, List.flatten_append, List.count_append]; omega)
theorem ScR.ts {s2 : List Sc} {weight : Int} (r : ScR W i weight k ss s2) : s2.map (fun s => Value.pointer (some ⟨s.b, 0, none⟩)) = ss.map fun s => .pointer (some ⟨s.b, 0, none⟩) := by
  apply List.ext_getElem?
  intro j
  rw [List.getElem?_map, List.getElem?_map]
  by_cases hj : j < ss.length
  · obtain ⟨s', e1, e2, -⟩ := r.2 j _ (List.getElem?_eq_getElem hj)
    rw [e1, List.getElem?_eq_getElem hj]
    simp [e2]
  · have := r.1
    rw [List.getElem?_eq_none (show s2.length ≤ j by omega), List.getElem?_eq_none (show ss.length ≤ j by omega)]
theorem ScR.mem {s2 : List Sc} {weight : Int} {s' : Sc} (r : ScR W i weight 4 ss s2) (hss : ss.length = 4) (hs : s' ∈ s2) : ∃ s ∈ ss, s'.l.length = 16 ∧ ∃ o, s' = s.put i o ∧ W o = some (.cells (oneS ((i : Int) + 1) weight).toArray 179) := by
  obtain ⟨j, hj⟩ := List.mem_iff_getElem?.1 hs
  have hj2 := (List.getElem?_eq_some_iff.1 hj).1
  rw [r.1] at hj2
  obtain ⟨s3, e1, e2, e3, e4, e5⟩ := r.2 j _ (List.getElem?_eq_getElem hj2)
  rw [hj] at e1
  cases e1
  rw [if_pos (by omega)] at e5
  exact ⟨_, List.getElem_mem hj2, e4, e5⟩
theorem join_w {o : On} {most : Int} {bx : Nat} (w : ApW x) (ht : x.tb = tm.map onC) (ho : o.a.length = 6) (hu : us.length = 4) : ApW (x.join ((tm.set i o).map onC) i us most bx) := by
  have h1 := w.tbw (k := i) (cs := onC o) (onC_len ho)
  have e : (tm.set i o).map onC = x.tb.set i (onC o) := by rw [ht, List.map_set]
  have h2 := h1.pww (k := i) (cs := pwC us most) (by simp [pwC, hu])
  have h3 := h2.lsw (k := i) (v := .pointer (some ⟨bx, 0, none⟩))
  unfold Ap.join
  rw [e]
  exact h3
/-- An access point is made, of queues of nothing. -/
theorem apNew2_c (s : Snt W ads) (m : Me W h G) (h6 : c.bss.length = 6) (h4 : c.tx.length = 4) :
    Runs Tryz.prog 8 #[.agg (cfC c).toArray] h fun v h' => (CfOk c ∧ NewV W G (PlR c.seed c.tg c.iv) c v h') ∨ (¬ CfOk c ∧ v = .tuple #[.pointer none, erV ads (some 2)] ∧ Me W h' G) :=
  new_c s m (PlR c.seed c.tg c.iv) h6 h4 fun m => by
    by_cases hp : okPool c.pk c.bt
    · refine (poolNew2_c m hp).mono ?_
      rintro _ h' ⟨p, E, rfl, m', hE⟩
      exact .inl ⟨hp, p, E, rfl, m', hE⟩
    · refine (poolNew_no s m hp).mono ?_
      rintro _ h' ⟨rfl, rfl⟩
      exact .inr ⟨hp, rfl, rfl⟩
def tm1 : List On := nobody.set 0 ⟨true, addrL 1, 1⟩
def tm2 : List On := tm1.set 1 ⟨true, addrL 2, 1⟩
theorem tm1_w : TbW tm1 := ⟨rfl, fun o ho => by
  rcases List.mem_or_eq_of_mem_set ho with h | h
  · exact nobody_w.a o h
  · subst h; rfl⟩
theorem tm2_w : TbW tm2 := ⟨rfl, fun o ho => by
  rcases List.mem_or_eq_of_mem_set ho with h | h
  · exact tm1_w.a o h
  · subst h; rfl⟩
def tm3 : List On := tm2.set 0 ⟨false, [0, 0, 0, 0, 0, 0], 1⟩
theorem tm3_w : TbW tm3 := ⟨rfl, fun o ho => by
  rcases List.mem_or_eq_of_mem_set ho with h | h
  · exact tm2_w.a o h
  · subst h; rfl⟩
/-- What the access point of two is. -/
structure TwoV (W : Wd) (c : Cf) (p : Addr) (bl : Nat) (ss : List Sc) (z : Ap) : Prop where
  w : ApW z
  ht : z.tb = tm2.map onC
  hts : z.ts = ss.map fun s => .pointer (some ⟨s.b, 0, none⟩)
  hss : ss.length = 4
  one : ∀ s ∈ ss, OneV W 0 s
  mid : z.mid = [.slice none 0 0, .pointer (some p), .pointer (some ⟨bl, 0, none⟩)]
  hcc : z.cc = cfC c
  hwy : z.wy = .slice none 0 0
  pw : ∃ cs, z.pw[0]? = some cs ∧ cs[0]? = some (.bool true)
  ls : ∃ bx ps, z.ls[0]? = some (.pointer (some ⟨bx, 0, none⟩)) ∧ W bx = some (.cells (stC (rateC 2 0 1 20 0) ps).toArray 113) ∧ ps.length = 8 ∧ SesV W c ps
  no : ∀ k, 2 ≤ k → k < 16 → z.ls[k]? = some (.pointer none)
set_option maxHeartbeats 1000000 in
theorem apjoins_r (k aid : Int) (s : Snt W ads) (m : Me W h []) :
    Runs Tryz.prog 4 #[.int .i64 k, .int .i64 aid] h fun v h' => v = .bool true ∧ ∃ W', W.le W' ∧ Me W' h' [] := by
  refine vc_muezzinlaw26_ApJoins _ _ _ _ ?_
  refine (first26_c s m).mono ?_
  rintro _ h1 ⟨rfl, W1, hle1, m⟩
  have s1 := s.le hle1
  refine ⟨true, rfl, bcase_false rfl ((config_c m 0).mono ?_)⟩
  rintro _ h2 ⟨c, rfl, hok, hbss, h4, m⟩
  have h6 : c.bss.length = 6 := by rw [hbss]; rfl
  refine ⟨_, rfl, (apNew2_c s1 m h6 h4).mono ?_⟩
  rintro _ h3 (⟨-, b, p, bl, E, ss, rfl, hR, hss, hsl, m⟩ | ⟨hno, -, -⟩)
  rotate_left
  · exact absurd hok hno
  obtain ⟨x, hx⟩ : ∃ x, x = ap0 c p bl (ss.map fun s => .pointer (some ⟨s.b, 0, none⟩)) := ⟨_, rfl⟩
  rw [← hx] at m
  have w : ApW x := by rw [hx]; exact ap0_w h6 h4 (by rw [List.length_map]; exact hss)
  have ht : x.tb = nobody.map onC := by rw [hx]; exact nobody_c
  have hts : x.ts = ss.map fun s => .pointer (some ⟨s.b, 0, none⟩) := by rw [hx]; rfl
  have hcc : x.cc = cfC c := by rw [hx]; rfl
  have hpw : x.pw = List.replicate 16 one10 := by rw [hx]; rfl
  have hls : x.ls = List.replicate 16 (.pointer none) := by rw [hx]; rfl
  have hmid : x.mid = [.slice none 0 0, .pointer (some p), .pointer (some ⟨bl, 0, none⟩)] := by rw [hx]; rfl
  have hwy : x.wy = .slice none 0 0 := by rw [hx]; rfl
  clear hx
  refine ⟨_, _, rfl, bcase_false rfl ⟨true, rfl, bcase_false rfl ?_⟩⟩
  intro b1 h4' e1 e2
  replace m := m.push e2 e1
  refine ⟨⟨rfl, m.wrsb 0 rfl rfl, ?_⟩, fun h5 e3 => ?_⟩
  · intro u hu
    simp only [List.mem_cons, List.not_mem_nil, or_false] at hu
    rcases hu with rfl | rfl | rfl | rfl | rfl <;> rfl
  replace m := me_rt (me_setAll (us := rateC 2 0 1 20 0) m rfl e3)
  refine ⟨_, rt_row rfl m, (addr_c m 1 (by decide)).mono ?_⟩
  rintro _ h6' ⟨rfl, m⟩
  refine ⟨_, rfl, rt_row rfl m, ?_⟩
  refine (join_c (l := addrL 1) (i := 0) (mode := 2) (weight := 5) (most := 0) (q := on0) (cs := one10) (c := c) w nobody_w ht hcc h6 hok.b rfl (by decide) (by rw [hbss]; decide) (.inr rfl) (by decide) (by decide) (by decide) (by decide) (fun j q hj => absurd hj (Nat.not_lt_zero j)) rfl rfl (by decide) hts hss (fun s hs => by rw [hsl s hs]; exact ⟨rfl, rfl⟩) (by rw [hpw]; rfl) rfl m).mono ?_
  clear m
  rintro _ h7 ⟨rfl, W2, bx, ps, s2, hle2, hbx, hps, hses, hSc, m⟩
  have w1 := join_w (i := 0) (us := no4) (most := 0) (bx := bx) (o := ⟨true, addrL 1, 1⟩) w ht rfl rfl
  obtain ⟨y, hy⟩ : ∃ y, y = x.join ((nobody.set 0 ⟨true, addrL 1, on0.ep + 1⟩).map onC) 0 no4 0 bx := ⟨_, rfl⟩
  rw [← hy] at m
  replace w1 : ApW y := by rw [hy]; exact w1
  have ht1 : y.tb = tm1.map onC := by rw [hy]; rfl
  have hts1 : y.ts = s2.map fun s => .pointer (some ⟨s.b, 0, none⟩) := by rw [hSc.ts, ← hts, hy]; rfl
  have hcc1 : y.cc = cfC c := by rw [hy]; exact hcc
  have hpw1 : y.pw = (List.replicate 16 one10).set 0 (pwC no4 0) := by rw [← hpw, hy]; rfl
  have hls1 : y.ls = (List.replicate 16 (.pointer none)).set 0 (.pointer (some ⟨bx, 0, none⟩)) := by rw [← hls, hy]; rfl
  have hmid1 : y.mid = [.slice none 0 0, .pointer (some p), .pointer (some ⟨bl, 0, none⟩)] := by rw [hy]; exact hmid
  have hwy1 : y.wy = .slice none 0 0 := by rw [hy]; exact hwy
  have hs24 : s2.length = 4 := by rw [hSc.1, hss]
  clear hy
  refine ⟨_, _, rfl, _, rt_row rfl m, (addr_c m 2 (by decide)).mono ?_⟩
  rintro _ h8 ⟨rfl, m⟩
  refine ⟨_, rfl, rt_row rfl m, ?_⟩
  refine (join_c (l := addrL 2) (i := 1) (mode := 2) (weight := 5) (most := 8) (q := on0) (cs := one10) (c := c) w1 tm1_w ht1 hcc1 h6 hok.b rfl (by decide) (by rw [hbss]; decide) (.inr rfl) (by decide) (by decide) (by decide) (by decide) (fun j q hj hq => by
      obtain rfl : j = 0 := by omega
      cases hq; rfl) rfl rfl (by decide) hts1 hs24 (fun s hs => by
      obtain ⟨s', hs', h16, o, rfl, -⟩ := hSc.mem hss hs
      refine ⟨h16, ?_⟩
      show (s'.l.set 0 _)[1]? = _
      rw [hsl s' hs']; rfl) (by rw [hpw1]; rfl) rfl m).mono ?_
  clear m
  rintro _ h9 ⟨rfl, W3, bx2, ps2, s3, hle3, hbx2, hps2, hses2, hSc2, m⟩
  have w2 := join_w (i := 1) (us := no4) (most := 8) (bx := bx2) (o := ⟨true, addrL 2, 1⟩) w1 ht1 rfl rfl
  obtain ⟨z, hz⟩ : ∃ z, z = y.join ((tm1.set 1 ⟨true, addrL 2, on0.ep + 1⟩).map onC) 1 no4 8 bx2 := ⟨_, rfl⟩
  rw [← hz] at m
  replace w2 : ApW z := by rw [hz]; exact w2
  have hz2 : z.ls = ((List.replicate 16 (.pointer none)).set 0 (.pointer (some ⟨bx, 0, none⟩))).set 1 (.pointer (some ⟨bx2, 0, none⟩)) := by rw [← hls1, hz]; rfl
  have tv : TwoV W3 c p bl s3 z := by
    refine ⟨w2, by rw [hz]; rfl, by rw [hSc2.ts, ← hts1, hz]; rfl, by rw [hSc2.1, hs24], fun s hs => ?_, by rw [hz]; exact hmid1, by rw [hz]; exact hcc1, by rw [hz]; exact hwy1, ⟨pwC no4 0, ?_, rfl⟩, ⟨bx, ps, by rw [hz2]; rfl, hle3 _ _ hbx, hps, hses.le hle3⟩, fun k h1 h2 => ?_⟩
    · obtain ⟨s', hs', h16, o, rfl, -⟩ := hSc2.mem hs24 hs
      obtain ⟨s'', hs'', h16', o', rfl, ho'⟩ := hSc.mem hss hs'
      refine ⟨h16, o', 5, ?_, hle3 _ _ ho'⟩
      show ((s''.l.set 0 _).set 1 _)[0]? = _
      rw [hsl s'' hs'']; rfl
    · have : z.pw = ((List.replicate 16 one10).set 0 (pwC no4 0)).set 1 (pwC no4 8) := by rw [← hpw1, hz]; rfl
      rw [this]; rfl
    · rw [hz2, List.getElem?_set_ne (by omega), List.getElem?_set_ne (by omega), List.getElem?_replicate_of_lt h2]
  clear hz hz2 w2 hts1 hcc1 hpw1 hls1 hmid1 hwy1 ht1 w1 hSc hSc2 hses hses2 hbx hbx2 hps hps2 hts hcc hpw hls hmid hwy ht w hsl
  have s3' := (s1.le hle2).le hle3
  have hleA := hle1.trans (hle2.trans hle3)
  clear s1 s
  refine ⟨_, _, rfl, fun z h => z = false ∧ h = h9, ⟨true, rfl, bcase_false rfl ⟨true, rfl, rfl, rfl⟩⟩, fun _ => ?_⟩
  rintro _ h9 ⟨rfl, rfl⟩
  refine ⟨fun z h => z = false ∧ h = h9, bcase_false rfl ⟨rfl, rfl⟩, fun _ => ?_⟩
  rintro _ h9 ⟨rfl, rfl⟩
  refine bcase_false rfl (bcase_false rfl ⟨_, rt_row rfl m, (addr_c m 1 (by decide)).mono ?_⟩)
  rintro _ h10 ⟨rfl, m⟩
  refine ⟨_, rfl, rt_row rfl m, ?_⟩
  refine (joinTwice_c (l := addrL 1) (c := c) (mode := 2) (weight := 5) (most := 0) s3' tv.w tm2_w tv.ht tv.hcc h6 rfl (by decide) (.inr rfl) (by decide) (by decide) (.inr (by decide)) m).mono ?_
  clear m
  rintro _ h11 ⟨rfl, m⟩
  refine ⟨_, _, rfl, _, rt_row rfl m, (bss_c m).mono ?_⟩
  rintro _ h12 ⟨rfl, m⟩
  refine ⟨_, rfl, rt_row rfl m, ?_⟩
  refine (joinTwice_c (l := bssL) (c := c) (mode := 2) (weight := 5) (most := 0) s3' tv.w tm2_w tv.ht tv.hcc h6 rfl (by decide) (.inr rfl) (by decide) (by decide) (.inl hbss.symm) m).mono ?_
  clear m
  rintro _ h13 ⟨rfl, m⟩
  refine ⟨_, _, rfl, _, rt_row rfl m, _, rt_row rfl m, _, rt_row rfl m, rfl, rfl, rfl, rfl, ?_⟩
  intro b2 h16 e4 e5 b3 h17 e6 e7 b4 h18 e8 e9
  replace m := ((m.push e5 e4).push e7 e6).push e9 e8
  refine (number_c _ _ _ (by decide) (by decide)).ret ⟨_, rfl, ?_⟩
  have h40 := Int.emod_nonneg k (show (4 : Int) ≠ 0 by decide)
  have h41 := Int.emod_lt_of_pos k (show (0 : Int) < 4 by decide)
  obtain ⟨n5, hn5⟩ : ∃ n, n = k % 4 := ⟨_, rfl⟩
  rw [← hn5] at h40 h41 ⊢
  have hr : ∃ r wt mo, r.length = 5 ∧ (∀ {h : Heap} {G : List Grp}, Me W3 h ([(b4, [.int .i64 0, .int .i64 0, .int .i64 0, .int .i64 9], 3)] :: [(b3, [.int .i64 0, .int .i64 5, .int .i64 101, .int .i64 5], 3)] :: [(b2, rateC 2 0 1 20 0 ++ ([.int .i64 0, .int .i64 0, .int .i64 0, .int .i64 0, .int .i64 0] ++ (rateC 2 0 1 20 0 ++ (rateC 2 0 1 20 0 ++ []))), 42)] :: G) → row h b2 (0 + n5.toNat * 5) 5 = some r ∧ cell h b3 (0 + n5.toNat) = some (.int .i64 wt) ∧ cell h b4 (0 + n5.toNat) = some (.int .i64 mo)) ∧
      (∀ {h : Heap} {G : List Grp}, Me W3 h G → Runs Tryz.prog 31 #[.agg r.toArray] h fun v h' => (∃ t : Bool, v = .bool t ∧ (t = true → wt < 1 ∨ 100 < wt ∨ mo < 0 ∨ 8 < mo)) ∧ Me W3 h' G) := by
    have : n5 = 0 ∨ n5 = 1 ∨ n5 = 2 ∨ n5 = 3 := by omega
    rcases this with rfl | rfl | rfl | rfl
    · refine ⟨rateC 2 0 1 20 0, 0, 0, rfl, fun m => ⟨m.row 2 rfl rfl (Nat.le_of_ble_eq_true rfl), m.cell 1 rfl rfl, m.cell 0 rfl rfl⟩, fun m => (valid20_c m (.inr rfl)).mono ?_⟩
      rintro _ _ ⟨rfl, m⟩
      exact ⟨⟨true, rfl, fun _ => .inl (by decide)⟩, m⟩
    · refine ⟨rateC 0 0 0 0 0, 5, 0, rfl, fun m => ⟨m.row 2 rfl rfl (Nat.le_of_ble_eq_true rfl), m.cell 1 rfl rfl, m.cell 0 rfl rfl⟩, fun m => (valid0_c m).mono ?_⟩
      rintro _ _ ⟨rfl, m⟩
      exact ⟨⟨false, rfl, fun h => by cases h⟩, m⟩
    · refine ⟨rateC 2 0 1 20 0, 101, 0, rfl, fun m => ⟨m.row 2 rfl rfl (Nat.le_of_ble_eq_true rfl), m.cell 1 rfl rfl, m.cell 0 rfl rfl⟩, fun m => (valid20_c m (.inr rfl)).mono ?_⟩
      rintro _ _ ⟨rfl, m⟩
      exact ⟨⟨true, rfl, fun _ => .inr (.inl (by decide))⟩, m⟩
    · refine ⟨rateC 2 0 1 20 0, 5, 9, rfl, fun m => ⟨m.row 2 rfl rfl (Nat.le_of_ble_eq_true rfl), m.cell 1 rfl rfl, m.cell 0 rfl rfl⟩, fun m => (valid20_c m (.inr rfl)).mono ?_⟩
      rintro _ _ ⟨rfl, m⟩
      exact ⟨⟨true, rfl, fun _ => .inr (.inr (.inr (by decide)))⟩, m⟩
  obtain ⟨r, wt, mo, hr5, hread, hval⟩ := hr
  obtain ⟨g1, g2, g3⟩ := hread m
  refine ⟨⟨h40, h41⟩, r, g1, ⟨h40, h41⟩, wt, g2, ⟨h40, h41⟩, mo, g3, (addr_c m 3 (by decide)).mono ?_⟩
  rintro _ h20 ⟨rfl, m⟩
  obtain ⟨g1, g2, g3⟩ := hread m
  refine ⟨_, rfl, g3, g2, g1, ?_⟩
  refine (joinRange_c (l := addrL 3) (c := c) s3' tv.w tv.hcc h6 rfl (by decide) (by rw [hbss]; decide) hr5 hval (m.focus 3 rfl)).mono ?_
  clear m g1 g2 g3 hread hval
  rintro _ h21 ⟨rfl, m⟩
  replace m := (me_swap (me_swap (me_swap m).drop1).drop1).drop1
  refine ⟨_, _, rfl, (number_c _ _ _ (by decide) (by decide)).ret ⟨_, rfl, ?_⟩⟩
  have h140 := Int.emod_nonneg aid (show (14 : Int) ≠ 0 by decide)
  have h141 := Int.emod_lt_of_pos aid (show (0 : Int) < 14 by decide)
  have h3 : 3 ≤ aid % 14 + 3 ∧ aid % 14 + 3 ≤ 16 := by omega
  refine ⟨by simp only [fits]; omega, (offerNone_c s3' tv.w m h3 tv.no).ret ⟨_, _, rfl, ?_⟩⟩
  obtain ⟨bx0, ps0, hl0, hbx0, hps0, hses0⟩ := tv.ls
  refine (offerRange_c s3' tv.w m hl0 (by decide)).ret ⟨_, _, rfl, _, rt_row rfl m, (leaveNone_c s3' tv.w m h3 tv.no).mono ?_⟩
  clear m
  rintro _ h25 ⟨rfl, m⟩
  refine ⟨_, rfl, rt_row rfl m, (rateNone_c s3' tv.w m h3 tv.no).mono ?_⟩
  clear m
  rintro _ h26 ⟨rfl, m⟩
  refine ⟨_, rfl, (weighNone_c s3' tv.w m h3 tv.no).ret ⟨_, rfl, (dozeNone_c s3' tv.w m h3 tv.no).ret ⟨_, rfl, (triggerNone_c s3' tv.w m h3 tv.no).ret ⟨_, rfl, ?_⟩⟩⟩⟩
  obtain ⟨e6, he6, -⟩ := noneE s3' m
  rw [he6]
  refine partv_pt (partv_pt (partv_pt (partv_pt (partv_pt (partv_pt ?_)))))
  intro b5 h30 f1 f2
  replace m := m.push f2 f1
  refine ⟨fun z' h => ∃ k : Nat, z' = k ∧ k ≤ 6 ∧ Me W3 h ([(b5, [ptE e6, ptE e6, ptE e6, ptE e6, ptE e6, ptE e6], 33)] :: [(b, z.C, 101)] :: (s3.map Sc.g ++ ([(bl, limC c.st c.al (List.replicate 16 0), 158)] :: E :: [(b1, rateC 2 0 1 20 0, 42)] :: []))), fun z' _ => (6 - z').toNat, ⟨0, rfl, by omega, m⟩, fun _ => ?_⟩
  clear m
  rintro _ h31 ⟨k', rfl, hk6, m⟩
  refine dcase_intro (fun q1 => ?_) fun q1 => ?_
  · refine ⟨⟨by omega, by omega⟩, ptE e6, m.cell 0 rfl ?_, ?_⟩
    · rw [show 0 + ((k' : Int)).toNat = k' by omega]
      have : k' = 0 ∨ k' = 1 ∨ k' = 2 ∨ k' = 3 ∨ k' = 4 ∨ k' = 5 := by omega
      rcases this with rfl | rfl | rfl | rfl | rfl | rfl <;> rfl
    rw [← he6] at m ⊢
    refine (is_c (e := some 6) s3' m (by decide) 107).mono ?_
    rintro _ h32 ⟨rfl, m⟩
    exact ⟨_, rfl, bcase_false rfl ⟨by simp only [fits]; omega, ⟨k' + 1, by omega, by omega, m⟩, by dsimp only; omega⟩⟩
  replace m := m.drop1
  refine ⟨fun z' h => z' = true ∧ Me W3 h ([(b, z.C, 101)] :: (s3.map Sc.g ++ ([(bl, limC c.st c.al (List.replicate 16 0), 158)] :: E :: [(b1, rateC 2 0 1 20 0, 42)] :: []))), bcase_true rfl ((is_c (e := some 7) s3' m (by decide) 108).mono ?_), fun _ => ?_⟩
  · rintro _ h33 ⟨rfl, m⟩
    exact ⟨_, rfl, rfl, m⟩
  clear m
  rintro _ h34 ⟨rfl, m⟩
  refine ⟨fun z' h => z' = true ∧ Me W3 h ([(b, z.C, 101)] :: (s3.map Sc.g ++ ([(bl, limC c.st c.al (List.replicate 16 0), 158)] :: E :: [(b1, rateC 2 0 1 20 0, 42)] :: []))), bcase_true rfl ((is_c (e := some 7) s3' m (by decide) 108).mono ?_), fun _ => ?_⟩
  · rintro _ h33 ⟨rfl, m⟩
    exact ⟨_, rfl, rfl, m⟩
  clear m
  rintro _ h34 ⟨rfl, m⟩
  refine ⟨fun z' h => z' = true ∧ Me W3 h ([(b, z.C, 101)] :: (s3.map Sc.g ++ ([(bl, limC c.st c.al (List.replicate 16 0), 158)] :: E :: [(b1, rateC 2 0 1 20 0, 42)] :: []))), bcase_true rfl ((is_c (e := some 2) s3' m (by decide) 103).mono ?_), fun _ => ?_⟩
  · rintro _ h33 ⟨rfl, m⟩
    exact ⟨_, rfl, rfl, m⟩
  clear m
  rintro _ h34 ⟨rfl, m⟩
  refine ⟨fun z' h => z' = true ∧ Me W3 h ([(b, z.C, 101)] :: (s3.map Sc.g ++ ([(bl, limC c.st c.al (List.replicate 16 0), 158)] :: E :: [(b1, rateC 2 0 1 20 0, 42)] :: []))), bcase_true rfl ((is_c (e := some 2) s3' m (by decide) 103).mono ?_), fun _ => ?_⟩
  · rintro _ h33 ⟨rfl, m⟩
    exact ⟨_, rfl, rfl, m⟩
  clear m
  rintro _ h34 ⟨rfl, m⟩
  obtain ⟨pcs, hpc, hpc0⟩ := tv.pw
  refine ⟨fun z' h => z' = true ∧ ∃ (x' : Ap) (G' : List Grp), ApW x' ∧ x'.tb = tm3.map onC ∧ Me W3 h ([(b, x'.C, 101)] :: G'), bcase_true rfl ((leave1_c (q := ⟨true, addrL 1, 1⟩) (c := c) tv.w tm2_w tv.ht rfl rfl tv.hts tv.hss tv.one tv.mid hR hl0 hbx0 rfl hps0 hses0 tv.hwy (by simp [limC, ints]) hpc hpc0 m).mono ?_), fun _ => ?_⟩
  · rintro _ h41 ⟨rfl, x', w', ht', G', m⟩
    exact ⟨_, rfl, true, rfl, rfl, x', _, w', ht', m⟩
  clear m
  rintro _ h42 ⟨rfl, x', G', w', ht', m⟩
  refine bcase_true rfl ((stations_c w' tm3_w ht' m).mono ?_)
  clear m
  rintro _ h43 ⟨b6, T6, rfl, m⟩
  have h128 : (tm3.map onC).flatten.length = 128 := by rw [← ht']; exact w'.tl
  refine ⟨_, rfl, (all_c (o := 0) tm3_w m (m.row 0 rfl (by rw [List.drop_zero]; exact List.take_of_length_le (by omega)) (by omega))).mono ?_⟩
  rintro _ h44 ⟨a4, c4, E4, rfl, o4, m⟩
  exact ⟨_, _, _, rfl, rfl, W3, hleA, me_none m⟩
end
theorem walk_ApJoins (w : World) (hE : ∃ ads, Snt (Wd.of w.heap) ads) (a0 : Int) (w0 : (Lit.int .i64 a0).wf = true) (a1 : Int) (w1 : (Lit.int .i64 a1).wf = true) :
    Calls Tryz.prog 4 #[.int .i64 a0, .int .i64 a1] w fun e w' => e = .returned (.bool true) ∧ Go.RowKit.Below w.heap.size w w' := by
  obtain ⟨ads, s⟩ := hE
  refine calls_of_runs ((apjoins_r a0 a1 s (Me.start w.heap)).mono ?_)
  rintro v h' ⟨rfl, W', hle, m⟩
  exact ⟨rfl, m.kept hle⟩
end Go.Proofs.YtgjbgcgjcamlgaaGreatDoor
