import Derived.Test.YtepodifionoigaaGreatDoorMR24b
set_option linter.unusedVariables false
set_option linter.unusedSimpArgs false
set_option maxRecDepth 8000
namespace Go.Proofs.YtepodifionoigaaGreatDoor
open Go.Vc
section
variable {W W' : Wd} {h h' : Heap} {b t j n c bu i : Nat} {a : Option Addr} {T Tu : TypeId} {size : Int} {css : List (List Value)} {cs us vs : List Value} {G G' : List Grp} {v kv : Value} {x : Ses} {f : Fm} {E : Grp} {up : List Fm}
theorem Rp.push {b1 : Nat} {T1 : TypeId} (r : Rp W h b T size css t x up bu Tu G) (e1 : b1 = h.size) (e2 : h' = h.push (.cells vs.toArray T1)) : Rp W h' b T size css t x up bu Tu ([(b1, vs, T1)] :: G) := by
  obtain ⟨a, c, E, us', ua, uc, U, us, s, k⟩ := r
  refine ⟨a, c, E, us', ua, uc, U, us, s.mem ((s.m.push e2 e1).perm ?_), k⟩
  simp only [List.flatten_cons, List.append_assoc]
  refine (List.perm_append_comm (l₁ := [(b1, vs, T1)])).trans ?_
  simp only [List.append_assoc]
  refine List.Perm.append_left _ (List.Perm.append_left _ (List.Perm.append_left _ (List.Perm.append_left _ ?_)))
  exact List.perm_append_comm
theorem Rp.drop {A : Grp} (r : Rp W h b T size css t x up bu Tu (A :: G)) : Rp W h b T size css t x up bu Tu G := by
  obtain ⟨a, c, E, us', ua, uc, U, us, s, k⟩ := r
  refine ⟨a, c, E, us', ua, uc, U, us, s.mem (s.m.sub ⟨A, ?_⟩), k⟩
  simp only [List.flatten_cons, List.append_assoc]
  refine List.Perm.append_left _ (List.Perm.append_left _ (List.Perm.append_left _ (List.Perm.append_left _ ?_)))
  exact List.perm_append_comm
theorem Rp.me {A : Grp} (r : Rp W h b T size css t x up bu Tu (A :: G)) : ∃ G', Me W h (A :: G') := by
  obtain ⟨a, c, E, us', ua, uc, U, us, s, k⟩ := r
  exact ⟨_, s.m.focus 4 rfl⟩
theorem Rp.get (r : Rp W h b T size css t x up bu Tu G) (j : Nat) (hj : ∀ kv, (parC x kv)[j]? = some v) : cell h b (13 + t * 8 + j) = some v := by
  obtain ⟨a, c, E, us', ua, uc, U, us, s, k⟩ := r
  exact s.get j (hj _)
theorem Rp.get0 (r : Rp W h b T size css t x up bu Tu G) : cell h b (13 + t * 8) = some (.bool x.on) := r.get 0 (fun _ => rfl)
theorem Rp.set {Q : Heap → Prop} {y : Ses} (r : Rp W h b T size css t x up bu Tu G) (j : Nat) (hj : Nat.ble (j + 1) 8 = true) (he : ∀ kv, (parC x kv).set j v = parC y kv) (hk : y.kept = x.kept) (q : ∀ h', Rp W h' b T size css t y up bu Tu G → Q h') :
    wr h b (13 + t * 8 + j) ∧ ∀ h1, h1 = setc h b (13 + t * 8 + j) v → Q h1 := by
  obtain ⟨a, c, E, us', ua, uc, U, us, s, k⟩ := r
  refine s.set j hj fun h1 s1 => q h1 ?_
  rw [he] at s1
  refine ⟨a, c, E, us', ua, uc, U, us, ?_, ?_⟩
  · rw [hk]; exact s1
  · rw [hk]; exact k
theorem Rp.up1 {Q : Heap → Prop} (r : Rp W h b T size css t x up bu Tu G) (hv : FmV W f cs) (hc : cs.length = 24) (hu : up.length ≤ 600000) (q : ∀ h', Rp W h' b T size css t x (up ++ [f]) bu Tu G → Q h') :
    ∃ (s1 : Option Addr) (s1l s1c : Nat), cell h bu 0 = some (.slice s1 s1l s1c) ∧ ∀ (b3 : Nat) (h4 : Heap), b3 = h.size → h4 = h.push (.cells (cs ++ []).toArray 67) →
      ∃ news1 : List Value, (row h4 b3 0 24 = some news1 ∧ ∀ u ∈ news1, u.oneCell' = true) ∧ appK h4 s1 s1l s1c 1 24 67 72 news1 fun (a1 : Option Addr) (cap1 : Nat) (h5 : Heap) =>
        wr h5 bu 0 ∧ ∀ h6 : Heap, h6 = setc h5 bu 0 (.slice a1 (s1l + 1) cap1) → Q h6 := by
  obtain ⟨a, c, E, us', ua, uc, U, us, s, k1, k2, k3, k4⟩ := r
  refine ⟨_, _, _, s.m.cell 3 rfl rfl, ?_⟩
  rw [List.append_nil]
  refine k3.app1 (sz := 24) s.m 2 rfl hc hv.one' (by omega) (by decide) fun a' c' U' g3 m3 ou' => ?_
  simp only [List.set_cons_succ, List.set_cons_zero] at m3
  refine m3.store 3 rfl (Nat.le_of_ble_eq_true rfl) fun h4' m4 => q h4' ?_
  simp only [List.set_cons_succ, List.set_cons_zero] at m4
  have el : (up ++ [f]).length = up.length + 1 := by simp
  refine ⟨a, c, E, us', a', c', U', us ++ cs, ?_, k1, k2, ?_, k4.snoc hv⟩
  · rw [el]; exact s.mem m4
  · rw [el]; exact ou'
theorem Rp.keep1 {Q : Heap → Prop} (r : Rp W h b T size css t x up bu Tu G) (hv : FmV W f cs) (hc : cs.length = 24) (hl : x.kept.length ≤ 600000) (q : ∀ h', Rp W h' b T size css t { x with kept := x.kept ++ [f] } up bu Tu G → Q h') :
    ∃ (s1 : Option Addr) (s1l s1c : Nat), cell h b (13 + t * 8 + 3) = some (.slice s1 s1l s1c) ∧ ∀ (b3 : Nat) (h4 : Heap), b3 = h.size → h4 = h.push (.cells (cs ++ []).toArray 67) →
      ∃ news1 : List Value, (row h4 b3 0 24 = some news1 ∧ ∀ u ∈ news1, u.oneCell' = true) ∧ appK h4 s1 s1l s1c 1 24 67 72 news1 fun (a1 : Option Addr) (cap1 : Nat) (h5 : Heap) =>
        wr h5 b (13 + t * 8 + 3) ∧ ∀ h6 : Heap, h6 = setc h5 b (13 + t * 8 + 3) (.slice a1 (s1l + 1) cap1) → Q h6 := by
  obtain ⟨a, c, E, us', ua, uc, U, us, s, k1, k2, k3, k4⟩ := r
  refine ⟨_, _, _, s.get 3 rfl, ?_⟩
  rw [List.append_nil]
  refine k1.app1 (sz := 24) s.m 1 rfl hc hv.one' (by omega) (by decide) fun a' c' E' g3 m3 oe' => ?_
  simp only [List.set_cons_succ, List.set_cons_zero] at m3
  have el : (x.kept ++ [f]).length = x.kept.length + 1 := by simp
  refine (s.mem m3).set 3 rfl fun h4' s4 => q h4' ⟨a', c', E', us' ++ cs, ua, uc, U, us, ?_, ?_, k2.snoc hv, k3, k4⟩
  · show St W h4' b T size css t (parC { x with kept := x.kept ++ [f] } (.slice a' (x.kept ++ [f]).length c')) _
    rw [el]; exact s4
  · show Ow a' (x.kept ++ [f]).length c' 24 _ E'
    rw [el]; exact oe'
theorem Rp.find_c (r : Rp W h b T size css t x up bu Tu G) (hok : ∀ f ∈ x.kept, FmOk f) (hl : x.kept.length ≤ 100000) (n : Int) :
    Runs Tryz.prog 89 #[.pointer (some ⟨b, 13 + t * 8, none⟩), .int .i64 n] h fun v h' => v = .int .i64 (kix x.kept n) ∧ h' = h := by
  obtain ⟨a, c, E, us', ua, uc, U, us, s, k1, k2, k3, k4⟩ := r
  exact rfind_c (kl := 0) s (i := 0) rfl k1 k2 hok hl n
theorem kix_neg {l : List Fm} {n : Int} : kix l n < 0 ↔ (kfind l n).isSome = false := by
  unfold kix
  cases hq : kixN l n with
  | none => rw [(kix_none hq).1]; simp
  | some i =>
    obtain ⟨f, -, -, h3, -⟩ := kix_some hq
    rw [h3]; simp
theorem up_kept {x : Ses} {to : Int} : ∀ g ∈ (x.up to).2.kept, g ∈ x.kept := fun g hg => upP_sub _ hg
theorem up_lens (x : Ses) (to : Int) : (x.up to).1.length + (x.up to).2.kept.length = x.kept.length := upP_len _
theorem rput_c {Post : Value → Heap → Prop} (r : Rp W h b T size css t x up bu Tu ([(c, cs, 67)] :: G)) (hv : FmV W f cs) (hf : FmOk f) (hc : cs.length = 24) (hok : ∀ f ∈ x.kept, FmOk f) (hl : x.kept.length ≤ 50000) (hu : up.length ≤ 400000) (hst : 0 ≤ x.start ∧ x.start ≤ 4095)
    (q : ∀ h', Rp W h' b T size css t (x.put f).run.2 (up ++ (x.put f).run.1) bu Tu G → Post (.tuple #[]) h') :
    Runs Tryz.prog 89 #[.pointer (some ⟨b, 13 + t * 8, none⟩), .int .i64 f.sq] h fun r8 h27 => ∃ n18 : Int, r8 = (.int .i64 n18) ∧ bcase (decide (n18 < (0 : Int))) (
      ∃ (s5 : Option Addr) (s5l s5c : Nat), cell h27 b ((13 + t * 8) + 3) = some (.slice s5 s5l s5c) ∧
      ∃ cs5 : List Value, row h27 c 0 24 = some cs5 ∧ (cs5).length = 24 ∧
      ∀ (b12 : Nat) (h28 : Heap), b12 = h27.size → h28 = h27.push (.cells (((cs5) ++ [])).toArray 67) →
      ∃ news5 : List Value, (row h28 b12 0 24 = some news5 ∧ ∀ u ∈ news5, u.oneCell' = true) ∧
      appK h28 s5 s5l s5c 1 24 67 72 news5 fun (a5 : Option Addr) (cap5 : Nat) (h29 : Heap) =>
      wr h29 b ((13 + t * 8) + 3) ∧ ∀ h30 : Heap, h30 = setc h29 b ((13 + t * 8) + 3) (.slice a5 (s5l + 1) cap5) →
      Runs Tryz.prog 67 #[(.pointer (some ⟨b, (13 + t * 8), none⟩)), (.pointer (some ⟨bu, 0, none⟩))] h30 fun r9 h31 => Post (.tuple #[]) h31) (
      Runs Tryz.prog 67 #[(.pointer (some ⟨b, (13 + t * 8), none⟩)), (.pointer (some ⟨bu, 0, none⟩))] h27 fun r10 h32 => Post (.tuple #[]) h32) := by
  refine (r.find_c hok (by omega) f.sq).ret ⟨_, rfl, dcase_intro (fun q1 => ?_) fun q1 => ?_⟩
  · have hn := kix_neg.1 q1
    obtain ⟨s5, s5l, s5c, k1, k2⟩ := Rp.keep1 (Q := fun h30 => Runs Tryz.prog 67 #[(.pointer (some ⟨b, (13 + t * 8), none⟩)), (.pointer (some ⟨bu, 0, none⟩))] h30 fun r9 h31 => Post (.tuple #[]) h31) r hv hc (by omega) fun h' r2 => by
      have e : x.put f = { x with kept := x.kept ++ [f] } := by unfold Ses.put; rw [if_neg (by rw [hn]; decide)]
      refine (rrun_c r2 (fun g hg => ?_) (by show (x.kept ++ [f]).length ≤ 100000; simp; omega) (by omega) hst).mono fun _ h3 r3 => q h3 ?_
      · rcases List.mem_append.1 hg with hg | hg
        · exact hok g hg
        · simp at hg; subst hg; exact hf
      · rw [e]; exact r3.drop
    obtain ⟨G', m'⟩ := r.me
    exact ⟨s5, s5l, s5c, k1, cs, m'.row 0 rfl (by rw [List.drop_zero]; exact List.take_of_length_le (by omega)) (by omega), hc, k2⟩
  · have hn : (kfind x.kept f.sq).isSome = true := by
      cases hh : (kfind x.kept f.sq).isSome with
      | true => rfl
      | false => exact absurd (kix_neg.2 hh) q1
    have e : x.put f = x := by unfold Ses.put; rw [if_pos hn]
    refine (rrun_c r hok (by omega) (by omega) hst).mono fun _ h3 r3 => q h3 ?_
    rw [e]; exact r3.drop
set_option maxHeartbeats 1000000 in
theorem rframe_c (r : Rp W h b T size css t x up bu Tu G) (hv : FmV W f cs) (hf : FmOk f) (ht : f.tid = (t : Int)) (ht8 : t < 8) (hx : SesOk x) (hu : up.length ≤ 300000) :
    Runs Tryz.prog 58 #[.pointer (some ⟨b, 0, none⟩), .pointer (some ⟨bu, 0, none⟩), .agg cs.toArray] h fun v h' => Rp W h' b T size css t (x.take f).2 (up ++ (x.take f).1) bu Tu G := by
  obtain ⟨v, rfl, hb⟩ := hv
  have hv : FmV W f (fmc f v) := ⟨v, rfl, hb⟩
  have hc := fmc_len (v := v) hf
  refine vc_muezzinref24_Station_frame _ _ _ _ _ ?_
  intro b1 g1 e1 e2
  replace r := r.push e1 e2
  have cl : ∀ {h : Heap} {x : Ses} {up : List Fm} (_ : Rp W h b T size css t x up bu Tu ([(b1, fmc f v, 67)] :: G)) (k : Nat) (u : Value), (fmc f v)[k]? = some u → cell h b1 k = some u := fun r k u hu => by
    obtain ⟨G', m'⟩ := r.me
    exact m'.cell 0 rfl hu
  have rw24 : ∀ {h : Heap} {x : Ses} {up : List Fm} (_ : Rp W h b T size css t x up bu Tu ([(b1, fmc f v, 67)] :: G)), row h b1 0 24 = some (fmc f v) := fun r => by
    obtain ⟨G', m'⟩ := r.me
    exact m'.row 0 rfl (by rw [List.drop_zero]; exact List.take_of_length_le (by omega)) (by omega)
  refine ⟨_, cl r 18 _ (fmc_cell hf 0 rfl), ⟨by omega, by omega⟩, ?_⟩
  rw [ht, show ((t : Int)).toNat = t from rfl]
  refine ⟨_, r.get0, ?_⟩
  cases hon : x.on with
  | false =>
    have hr : x.take f = x.takeOff f := by unfold Ses.take; rw [hon]; rfl
    rw [hr]
    refine bcase_true rfl ⟨_, cl r 20 _ (fmc_cell hf 2 rfl), bcase_intro (fun q1 => ?_) fun q1 => ?_⟩
    · refine ⟨_, r.get 6 (fun _ => rfl), bcase_intro (fun q2 => ?_) fun q2 => ?_⟩
      · refine ⟨_, r.get 7 (fun _ => rfl), _, cl r 19 _ (fmc_cell hf 1 rfl), ?_⟩
        refine r.set (y := { x with came := true }) 6 rfl (fun _ => rfl) rfl fun g2 r2 => ?_
        refine ⟨_, cl r2 19 _ (fmc_cell hf 1 rfl), ?_⟩
        refine r2.set (y := { x with came := true, last := f.sq }) 7 rfl (fun _ => rfl) rfl fun g3 r3 => ?_
        refine bcase_intro (fun q3 => ?_) fun q3 => ?_
        · have e : (x.takeOff f).1 = [f] := by simp [Ses.takeOff]; simp at q3; intro _ _; exact q3
          rw [e]
          obtain ⟨s1, s1l, s1c, k1, k2⟩ := Rp.up1 (Q := fun h6 => Rp W h6 b T size css t (x.takeOff f).2 (up ++ [f]) bu Tu G) r3 hv hc (by omega) fun h' r' => r'.drop
          exact ⟨s1, s1l, s1c, k1, _, rw24 r3, hc, k2⟩
        · have e : (x.takeOff f).1 = [] := by simp at q3; simp [Ses.takeOff, q1, q2, q3]
          rw [e, List.append_nil]
          exact r3.drop
      · skip
        refine r.set (y := { x with came := true }) 6 rfl (fun _ => rfl) rfl fun g2 r2 => ?_
        refine ⟨_, cl r2 19 _ (fmc_cell hf 1 rfl), ?_⟩
        refine r2.set (y := { x with came := true, last := f.sq }) 7 rfl (fun _ => rfl) rfl fun g3 r3 => ?_
        have e : (x.takeOff f).1 = [f] := by first | simp [Ses.takeOff, q2] | simp [Ses.takeOff, q1]
        rw [e]
        obtain ⟨s1, s1l, s1c, k1, k2⟩ := Rp.up1 (Q := fun h6 => Rp W h6 b T size css t (x.takeOff f).2 (up ++ [f]) bu Tu G) r3 hv hc (by omega) fun h' r' => r'.drop
        exact ⟨s1, s1l, s1c, k1, _, rw24 r3, hc, k2⟩
    · skip
      refine r.set (y := { x with came := true }) 6 rfl (fun _ => rfl) rfl fun g2 r2 => ?_
      refine ⟨_, cl r2 19 _ (fmc_cell hf 1 rfl), ?_⟩
      refine r2.set (y := { x with came := true, last := f.sq }) 7 rfl (fun _ => rfl) rfl fun g3 r3 => ?_
      have e : (x.takeOff f).1 = [f] := by first | simp [Ses.takeOff, q2] | simp [Ses.takeOff, q1]
      rw [e]
      obtain ⟨s1, s1l, s1c, k1, k2⟩ := Rp.up1 (Q := fun h6 => Rp W h6 b T size css t (x.takeOff f).2 (up ++ [f]) bu Tu G) r3 hv hc (by omega) fun h' r' => r'.drop
      exact ⟨s1, s1l, s1c, k1, _, rw24 r3, hc, k2⟩
  | true =>
    have hr : x.take f = (x.stand f.sq).take2 f := by unfold Ses.take; rw [hon]; rfl
    rw [hr]
    refine bcase_false rfl ⟨_, cl r 19 _ (fmc_cell hf 1 rfl), ?_⟩
    obtain ⟨k1, k2, k3, k4, k5⟩ := stand_kept x f.sq
    obtain ⟨a, c, E, us', ua, uc, U, us, s, kk⟩ := r
    refine (rmark_c s f.sq ⟨hf.s0, hf.s1⟩ hx.f).mono ?_
    intro _ h17 s17
    have r17 : Rp W h17 b T size css t (x.stand f.sq) up bu Tu ([(b1, fmc f v, 67)] :: G) := ⟨a, c, E, us', ua, uc, U, us, by rw [k1]; exact s17, by rw [k1]; exact kk⟩
    have hok17 : ∀ g ∈ (x.stand f.sq).kept, FmOk g := by rw [k1]; exact hx.k
    have hl17 : (x.stand f.sq).kept.length ≤ 4096 := by rw [k1]; exact hx.n
    have hst17 : 0 ≤ (x.stand f.sq).start ∧ (x.stand f.sq).start ≤ 4095 := by rw [k2]; exact hx.s
    refine ⟨_, r17.start, _, cl r17 19 _ (fmc_cell hf 1 rfl), (rdist_c _ _ _).ret ⟨_, rfl, dcase_intro (fun q1 => ?_) fun q1 => ?_⟩⟩
    · have e : (x.stand f.sq).take2 f = ([], x.stand f.sq) := by unfold Ses.take2; rw [if_pos q1]
      rw [e, List.append_nil]
      exact r17.drop
    · refine ⟨_, r17.get 2 (fun _ => rfl), dcase_intro (fun q2 => ?_) fun q2 => ?_⟩
      · have e : (x.stand f.sq).take2 f = (((x.stand f.sq).up (addZ f.sq (1 - (x.stand f.sq).size))).1 ++ ((((x.stand f.sq).up (addZ f.sq (1 - (x.stand f.sq).size))).2.put f).run).1, ((((x.stand f.sq).up (addZ f.sq (1 - (x.stand f.sq).size))).2.put f).run).2) := by unfold Ses.take2; rw [if_neg q1, if_pos q2]
        refine ⟨_, cl r17 19 _ (fmc_cell hf 1 rfl), _, r17.get 2 (fun _ => rfl), by have := hx.z; rw [k3]; simp only [fits]; omega, (radd_c _ _ _).ret ⟨_, rfl, ?_⟩⟩
        refine (rto_c r17 hok17 (by omega) (by omega) hst17 _ addZ_b).mono ?_
        intro _ h20 r20
        have hlen := up_lens (x.stand f.sq) (addZ f.sq (1 - (x.stand f.sq).size))
        refine ⟨_, cl r20 19 _ (fmc_cell hf 1 rfl), ?_⟩
        refine rput_c (Post := fun _ h' => Rp W h' b T size css t ((x.stand f.sq).take2 f).2 (up ++ ((x.stand f.sq).take2 f).1) bu Tu G) r20 hv hf hc (fun g hg => hok17 g (up_kept g hg)) (by omega) (by rw [List.length_append]; omega) addZ_b fun h' r' => ?_
        rw [e, ← List.append_assoc]; exact r'
      · have e : (x.stand f.sq).take2 f = (((x.stand f.sq).put f).run.1, ((x.stand f.sq).put f).run.2) := by unfold Ses.take2; rw [if_neg q1, if_neg q2]
        refine ⟨_, cl r17 19 _ (fmc_cell hf 1 rfl), ?_⟩
        exact rput_c (Post := fun _ h' => Rp W h' b T size css t ((x.stand f.sq).take2 f).2 (up ++ ((x.stand f.sq).take2 f).1) bu Tu G) r17 hv hf hc hok17 (by omega) (by omega) hst17 fun h' r' => by rw [e]; exact r'
end
end Go.Proofs.YtepodifionoigaaGreatDoor
