/- container/heap over sched.turns: up, down, Push, Pop, Remove, Fix. -/
import Derived.Test.YthnmgpmgfhilhaaDoorTurn
set_option linter.unusedVariables false
set_option linter.unusedSimpArgs false
set_option maxRecDepth 8000
namespace Go.Proofs.YthnmgpmgfhilhaaDoor
open Go.Vc
noncomputable def tuI (bt : Nat) : Value := .iface 56 (ptrB bt)
theorem mLen : mth Tryd.prog 56 "Len" = some 32 := by kernel_rfl
theorem mLess : mth Tryd.prog 56 "Less" = some 65 := by kernel_rfl
theorem mSwap : mth Tryd.prog 56 "Swap" = some 68 := by kernel_rfl
theorem mPush : mth Tryd.prog 56 "Push" = some 67 := by kernel_rfl
theorem mPop : mth Tryd.prog 56 "Pop" = some 66 := by kernel_rfl
theorem bLen : bodied Tryd.prog 32 = true := by kernel_rfl
theorem bLess : bodied Tryd.prog 65 = true := by kernel_rfl
theorem bSwap : bodied Tryd.prog 68 = true := by kernel_rfl
theorem bPush : bodied Tryd.prog 67 = true := by kernel_rfl
theorem bPop : bodied Tryd.prog 66 = true := by kernel_rfl
section
variable {W : Wd} {h h' : Heap} {R : List Grp} {bt n i j k : Nat} {l l' : List En} {e : En} {L : Grp} {K : Value → Heap → Prop}
theorem iLen (m : Me W h (L :: R)) (hv : TuV bt l L) (q : K (.int .i64 (l.length : Int)) h) : ivk Tryd.prog (tuI bt) "Len" [] h K :=
  ivk_of mLen bLen ((len_c m hv).mono fun v h' ⟨e1, e2⟩ => by subst e1; subst e2; exact q)
theorem iLess (m : Me W h (L :: R)) (hv : TuV bt l L) (hi : i < l.length) (hk : k < l.length) {x y : Int} (ex : x = (i : Int)) (ey : y = (k : Int)) (q : K (.bool (decide ((gt l i).lt (gt l k)))) h) : ivk Tryd.prog (tuI bt) "Less" [.int .i64 x, .int .i64 y] h K := by
  subst ex; subst ey
  exact ivk_of mLess bLess ((less_c m hv hi hk).mono fun v h' ⟨e1, e2⟩ => by subst e1; subst e2; exact q)
theorem iSwap (m : Me W h (L :: R)) (hv : TuV bt l L) (hi : i < l.length) (hk : k < l.length) (hne : i ≠ k) {x y : Int} (ex : x = (i : Int)) (ey : y = (k : Int)) (q : ∀ v h' L', TuV bt (swp l i k) L' → Me W h' (L' :: R) → K v h') : ivk Tryd.prog (tuI bt) "Swap" [.int .i64 x, .int .i64 y] h K := by
  subst ex; subst ey
  exact ivk_of mSwap bSwap ((swap_c m hv hi hk hne).mono fun v h' ⟨L', e1, e2⟩ => q v h' L' e1 e2)
theorem wrap64 {n : Int} (h : fits .i64 n) : IntKind.i64.wrap n = n := by
  simp only [fits] at h
  simp [IntKind.wrap, IntKind.bits, IntKind.signed]
  omega
theorem par_wrap (hj : j ≤ 1000000) : IntKind.i64.wrap ((IntKind.i64.wrap ((j : Int) - 1)).tdiv 2) = ((par j : Nat) : Int) := by
  rw [wrap64 (n := (j : Int) - 1) (by simp only [fits]; omega)]
  have e : ((j : Int) - 1).tdiv 2 = ((par j : Nat) : Int) := by
    unfold par
    cases j with
    | zero => rfl
    | succ j =>
      rw [Int.tdiv_eq_ediv_of_nonneg (by omega)]
      omega
  rw [e, wrap64]
  simp only [fits]; unfold par; omega
/-- The list is the same but for the order, and behind n. -/
structure Prm (n : Nat) (l l' : List En) : Prop where
  p : l'.Perm l
  b : ∀ k, n ≤ k → gt l' k = gt l k
theorem Prm.refl : Prm n l l := ⟨.refl _, fun _ _ => rfl⟩
theorem Prm.swp {l0 : List En} (p : Prm n l0 l) (hi : i < n) (hk : k < n) (hn : n ≤ l.length) : Prm n l0 (swp l i k) :=
  ⟨(swp_perm (by omega) (by omega)).trans p.p, fun j hj => by rw [swp_at (by omega) (by omega) (by omega) (by omega)]; exact p.b j hj⟩
theorem Prm.len (p : Prm n l l') : l'.length = l.length := p.p.length_eq
theorem Prm.trans {l2 : List En} (p : Prm n l l') (q : Prm n l' l2) : Prm n l l2 := ⟨q.p.trans p.p, fun k hk => (q.b k hk).trans (p.b k hk)⟩
theorem up_c (m : Me W h (L :: R)) (hv : TuV bt l L) (hp : PU n l j) (hj : j < n) (hn : n ≤ l.length) (hl : l.length ≤ 1000000) : Runs Tryd.prog 40 #[tuI bt, .int .i64 (j : Int)] h fun v h' =>
    ∃ l' L', Prm n l l' ∧ HOk n l' ∧ TuV bt l' L' ∧ Me W h' (L' :: R) := by
  refine vc_container_heap_up _ _ _ _ ⟨fun x h' => ∃ (i : Nat) (l' : List En) (L' : Grp), x = i ∧ i < n ∧ Prm n l l' ∧ PU n l' i ∧ TuV bt l' L' ∧ Me W h' (L' :: R), fun x _ => x.toNat, ⟨j, l, L, rfl, hj, .refl, hp, hv, m⟩, fun _ => ?_⟩
  clear m hv hp hj
  rintro _ h1 ⟨j, l1, L1, rfl, hj, pm, hp, hv, m⟩
  have hl1 := pm.len
  rw [par_wrap (by omega)]
  refine ⟨by decide, dcase_intro (fun q => ⟨l1, L1, pm, hp.done fun h0 => ?_, hv, m⟩) fun q => ?_⟩
  · exfalso; unfold par at q; omega
  · have hj0 : 0 < j := by unfold par at q; omega
    have hpj : par j < j := by unfold par; omega
    refine iLess m hv (by omega) (by omega) rfl rfl ⟨_, rfl, ?_⟩
    by_cases hlt : (gt l1 j).lt (gt l1 (par j))
    · refine bcase_false (by simp [hlt]) (iSwap m hv (by omega) (by omega) (by omega) rfl rfl fun _ h3 L2 hv2 m2 => ⟨⟨par j, _, L2, rfl, by omega, pm.swp (by omega) hj (by omega), hp.swap hj0 (by omega) hlt hj, hv2, m2⟩, by (try dsimp only); omega⟩)
    · exact bcase_true (by simp [hlt]) ⟨l1, L1, pm, hp.done fun _ => hlt, hv, m⟩
theorem down_c {i0 : Nat} (m : Me W h (L :: R)) (hv : TuV bt l L) (hp : PD n l i0 i0) (hi : i0 < n) (hn : n ≤ l.length) (hl : l.length ≤ 1000000) : Runs Tryd.prog 41 #[tuI bt, .int .i64 (i0 : Int), .int .i64 (n : Int)] h fun v h' =>
    ∃ t l' L', v = .bool t ∧ Prm n l l' ∧ (t = true → HOk n l') ∧ (t = false → PU n l' i0) ∧ TuV bt l' L' ∧ Me W h' (L' :: R) := by
  refine vc_container_heap_down _ _ _ _ _ ⟨fun x h' => ∃ (i : Nat) (l' : List En) (L' : Grp), x = i ∧ i0 ≤ i ∧ i < n ∧ Prm n l l' ∧ PD n l' i0 i ∧ TuV bt l' L' ∧ Me W h' (L' :: R), fun x _ => ((n : Int) - x).toNat, ⟨i0, l, L, rfl, by omega, hi, .refl, hp, hv, m⟩, fun _ => ?_⟩
  clear m hv hp hi
  rintro _ h1 ⟨i, l1, L1, rfl, hi0, hi, pm, hp, hv, m⟩
  have hl1 := pm.len
  refine ⟨by simp only [fits]; omega, by simp only [fits]; omega, ?_⟩
  have fin : (∀ k, 0 < k → k < n → par k = i → ¬ (gt l1 k).lt (gt l1 i)) → ∃ t l' L', Value.bool (decide ((i0 : Int) < (i : Int))) = .bool t ∧ Prm n l l' ∧ (t = true → HOk n l') ∧ (t = false → PU n l' i0) ∧ TuV bt l' L' ∧ Me W h1 (L' :: R) := fun hr =>
    ⟨_, l1, L1, rfl, pm, fun q => hp.done (by simpa using q) hr, fun q => by
      have q' : ¬ (i0 : Int) < i := of_decide_eq_false q
      obtain rfl : i0 = i := by omega
      exact hp.stay hr, hv, m⟩
  refine dcase_intro (fun q => fin (hp.leaf (by omega))) fun q => dcase_neg (by omega) ⟨by simp only [fits]; omega, ?_⟩
  have go : ∀ (kd : Nat) (x : Int), x = (kd : Int) → Kid n l1 i kd → ivk Tryd.prog (tuI bt) "Less" [.int .i64 x, .int .i64 (i : Int)] h1 fun r4 h5 => ∃ t3 : Bool, r4 = .bool t3 ∧
      bcase (!t3) (∃ t l' L', Value.bool (decide ((i0 : Int) < (i : Int))) = .bool t ∧ Prm n l l' ∧ (t = true → HOk n l') ∧ (t = false → PU n l' i0) ∧ TuV bt l' L' ∧ Me W h5 (L' :: R))
        (ivk Tryd.prog (tuI bt) "Swap" [.int .i64 (i : Int), .int .i64 x] h5 fun r5 h6 =>
          (∃ (i : Nat) (l' : List En) (L' : Grp), x = i ∧ i0 ≤ i ∧ i < n ∧ Prm n l l' ∧ PD n l' i0 i ∧ TuV bt l' L' ∧ Me W h6 (L' :: R)) ∧ ((n : Int) - x).toNat < ((n : Int) - (i : Int)).toNat) := by
    intro kd x ex c
    have c1 := c.z
    have c2 := c.lt
    subst ex
    refine iLess m hv (by omega) (by omega) rfl rfl ⟨_, rfl, ?_⟩
    by_cases hlt : (gt l1 kd).lt (gt l1 i)
    · exact bcase_false (by simp [hlt]) (iSwap m hv (by omega) (by omega) (by omega) rfl rfl fun _ h3 L2 hv2 m2 => ⟨⟨kd, _, L2, rfl, by omega, by omega, pm.swp hi c2 (by omega), hp.swap hi0 c (by omega) hlt, hv2, m2⟩, by omega⟩)
    · exact bcase_true (by simp [hlt]) (fin (hp.rest c hlt))
  refine dcase_intro (fun q2 => ?_) fun q2 => go (2 * i + 1) _ (by omega) (kid1 (by omega) fun c => by omega)
  refine iLess (i := 2 * i + 2) (k := 2 * i + 1) m hv (by omega) (by omega) (by omega) (by omega) ⟨_, rfl, ?_⟩
  by_cases hlt : (gt l1 (2 * i + 2)).lt (gt l1 (2 * i + 1))
  · exact bcase_true (by simp [hlt]) (go (2 * i + 2) _ (by omega) (kid2 (by omega) hlt))
  · exact bcase_false (by simp [hlt]) (go (2 * i + 1) _ (by omega) (kid1 (by omega) fun c => hlt c.2))
theorem tpush_c {p : Int} (m : Me W h (L :: eBlk e p :: R)) (hv : TuV bt l L) (hl : l.length ≤ 1000000) : Runs Tryd.prog 67 #[ptrB bt, .iface 60 (ptrB e.b)] h fun v h' =>
    ∃ L', TuV bt (l ++ [e]) L' ∧ Me W h' (L' :: R) := by
  obtain ⟨a, c, E, T, o, m⟩ := hv.opn m
  refine vc_sched_turns_Push _ _ _ _ ⟨_, true, rfl, bcase_false rfl ⟨_, _, _, m.cell 0 rfl rfl, ?_⟩⟩
  refine m.store 3 rfl (by simp [eCells]) fun h1 m1 => ?_
  simp only [List.set_cons_succ, List.set_cons_zero] at m1
  refine ⟨_, _, _, m1.cell 0 rfl rfl, ?_⟩
  refine o.app1 (us := [ptrB e.b]) (bytes := 8) m1 1 rfl rfl (by simp [Value.oneCell', ptrB]) (by omega) (by decide) ?_
  intro a' c' E' h3 m3 o3
  simp only [List.set_cons_succ, List.set_cons_zero] at m3
  refine m3.store 0 rfl (by simp) fun h4 m4 => ?_
  simp only [List.set_cons_zero] at m4
  have e1 : eptrs l ++ [ptrB e.b] = eptrs (l ++ [e]) := by simp [eptrs]
  have e2 : (l ++ [e]).length = l.length + 1 := by simp
  rw [e1, ← e2] at o3
  rw [← e2] at m4
  refine TuV.shut (T := T) o3 (m4.perm ?_)
  rw [blks_app, Nat.zero_add]
  simp [eBlk, eCells]
theorem PU.app (hh : HOk l.length l) : PU (l.length + 1) (l ++ [e]) l.length := by
  have e1 : ∀ k, k < l.length → gt (l ++ [e]) k = gt l k := fun k hk => by unfold gt; rw [List.getElem?_append_left hk]
  refine ⟨fun k a b hk => ?_, fun h0 k a b hk => ?_⟩
  · have hp : par k < k := by unfold par; omega
    rw [e1 k (by omega), e1 (par k) (by omega)]
    exact hh k a (by omega)
  · unfold par at hk; omega
/-- A heap as it lies: its entries in any order that is a heap. -/
theorem push_c {p : Int} (m : Me W h (L :: eBlk e p :: R)) (hv : TuV bt l L) (hh : HOk l.length l) (hl : l.length < 1000000) : Runs Tryd.prog 33 #[tuI bt, .iface 60 (ptrB e.b)] h fun v h' =>
    ∃ l' L', v = .tuple #[] ∧ l'.Perm (l ++ [e]) ∧ HOk l'.length l' ∧ TuV bt l' L' ∧ Me W h' (L' :: R) := by
  refine vc_container_heap_Push _ _ _ _ (ivk_of mPush bPush ((tpush_c m hv (by omega)).mono ?_))
  rintro _ h1 ⟨L1, hv1, m1⟩
  have e2 : (l ++ [e]).length = l.length + 1 := by simp
  refine iLen m1 hv1 ⟨_, rfl, by simp only [fits]; omega, ?_⟩
  have e3 : (((l ++ [e]).length : Nat) : Int) - 1 = (l.length : Int) := by omega
  rw [e3]
  refine (up_c m1 hv1 (PU.app hh) (by omega) (by omega) (by omega)).mono ?_
  rintro _ h2 ⟨l2, L2, pm, hk, hv2, m2⟩
  exact ⟨l2, L2, rfl, pm.p, by rw [pm.len, e2]; exact hk, hv2, m2⟩
theorem split_last (hn : l.length = n + 1) : l = l.take n ++ [gt l n] := by
  have h1 : n < l.length := by omega
  have h2 := get_gt h1
  refine List.ext_getElem? fun k => ?_
  by_cases hk : k < n
  · rw [List.getElem?_append_left (by simp; omega), List.getElem?_take_of_lt hk]
  · have hkl : (l.take n).length ≤ k := by simp; omega
    rw [List.getElem?_append_right hkl]
    have e : (l.take n).length = n := by simp; omega
    rw [e]
    by_cases h3 : k = n
    · subst h3; simpa using h2
    · rw [List.getElem?_eq_none (by omega), List.getElem?_eq_none (by simp; omega)]
theorem pop_c (m : Me W h (L :: R)) (hv : TuV bt l L) (hn : l.length = n + 1) (hl : l.length ≤ 1000000) : Runs Tryd.prog 66 #[ptrB bt] h fun v h' =>
    ∃ L', v = .iface 60 (ptrB (gt l n).b) ∧ TuV bt (l.take n) L' ∧ Me W h' (L' :: eBlk (gt l n) (n : Int) :: R) := by
  obtain ⟨a, c, E, T, o, m⟩ := hv.opn m
  have hs := o.src1 m 1 rfl
  obtain ⟨ab, ao, rfl, hci⟩ := src_cell hs (eptrs_get (k := n) (by omega))
  have hle := o.le
  have e1 : ((l.length : Int) - 1).toNat = n := by omega
  refine vc_sched_turns_Pop _ _ _ ⟨_, _, _, m.cell 0 rfl rfl, _, _, _, m.cell 0 rfl rfl, by simp only [fits]; omega, ⟨by omega, by omega⟩, _, by rw [e1]; exact hci, _, _, _, m.cell 0 rfl rfl, _, _, _, m.cell 0 rfl rfl, by simp only [fits]; omega, ⟨by omega, by omega, by omega⟩, ?_⟩
  refine m.store 0 rfl (by simp) fun h1 m1 => ?_
  simp only [List.set_cons_zero] at m1
  rw [e1] at m1
  have o1 := (o.tail 0 (by omega)).head n (by omega)
  have e2 : ((eptrs l).drop (0 * 1)).take (n * 1) = eptrs (l.take n) := by simp [eptrs, List.map_take]
  rw [e2, Nat.sub_zero, Nat.zero_mul] at o1
  have e3 : (l.take n).length = n := by simp; omega
  have hb : blks l 0 = blks (l.take n) 0 ++ [eBlk (gt l n) (n : Int)] := by
    have q := blks_app (l := l.take n) (e := gt l n) (n := 0)
    rw [← split_last hn, e3, Nat.zero_add] at q
    exact q
  rw [hb] at m1
  obtain ⟨L', hv', m'⟩ := TuV.shut (bt := bt) (R := eBlk (gt l n) (n : Int) :: R) (T := T) (by rw [e3]; exact o1) (by rw [e3]; exact m1.perm (by simp))
  exact ⟨L', rfl, hv', m'⟩
theorem take_gt {n k : Nat} (hk : k < n) : gt (l.take n) k = gt l k := by unfold gt; rw [List.getElem?_take_of_lt hk]
theorem HOk.take (hh : HOk n l) : HOk n (l.take n) := fun k a b => by
  have hp : par k < k := by unfold par; omega
  rw [take_gt b, take_gt (by omega)]
  exact hh k a b
theorem erase_perm (hi : i < l.length) : (gt l i :: l.eraseIdx i).Perm l := by
  have e : gt l i = l[i] := by unfold gt; rw [List.getElem?_eq_getElem hi]; rfl
  rw [e]
  induction l generalizing i with
  | nil => simp at hi
  | cons x r ih =>
    cases i with
    | zero => simp
    | succ i =>
      simp only [List.getElem_cons_succ, List.eraseIdx_cons_succ]
      have hi' : i < r.length := by simpa using hi
      refine (List.Perm.swap _ _ _).trans ((ih hi' ?_).cons x)
      unfold gt; rw [List.getElem?_eq_getElem hi']; rfl
theorem remove_c (m : Me W h (L :: R)) (hv : TuV bt l L) (hh : HOk l.length l) (hi : i < l.length) (hl : l.length ≤ 1000000) : Runs Tryd.prog 34 #[tuI bt, .int .i64 (i : Int)] h fun v h' =>
    ∃ l' L' p, (l'.Perm (l.eraseIdx i)) ∧ HOk l'.length l' ∧ TuV bt l' L' ∧ Me W h' (L' :: eBlk (gt l i) p :: R) := by
  obtain ⟨n, hn⟩ : ∃ n, l.length = n + 1 := ⟨l.length - 1, by omega⟩
  have pop : ∀ (h5 : Heap) (l2 : List En) (L2 : Grp), l2.Perm l → HOk n l2 → gt l2 n = gt l i → TuV bt l2 L2 → Me W h5 (L2 :: R) → ivk Tryd.prog (tuI bt) "Pop" [] h5 fun r5 h6 => ∃ v1 : Value, r5 = v1 ∧
      ∃ l' L' p, (l'.Perm (l.eraseIdx i)) ∧ HOk l'.length l' ∧ TuV bt l' L' ∧ Me W h6 (L' :: eBlk (gt l i) p :: R) := by
    intro h5 l2 L2 pm hk hg hv2 m2
    have hl2 := pm.length_eq
    refine ivk_of mPop bPop ((pop_c (n := n) m2 hv2 (by omega) (by omega)).mono ?_)
    rintro _ h6 ⟨L3, rfl, hv3, m3⟩
    have e3 : (l2.take n).length = n := by simp; omega
    refine ⟨_, rfl, l2.take n, L3, _, ?_, by rw [e3]; exact HOk.take hk, hv3, by rw [← hg]; exact m3⟩
    have s := split_last (l := l2) (n := n) (by omega)
    have p1 : (gt l2 n :: l2.take n).Perm l2 := by
      have : (l2.take n ++ [gt l2 n]).Perm l2 := by rw [← s]
      exact (List.perm_append_singleton _ _).symm.trans this
    rw [hg] at p1
    exact (p1.trans (pm.trans (erase_perm hi).symm)).cons_inv
  refine vc_container_heap_Remove _ _ _ _ (iLen m hv ⟨_, rfl, by simp only [fits]; omega, ?_⟩)
  have e1 : ((l.length : Nat) : Int) - 1 = (n : Int) := by omega
  rw [e1]
  by_cases hin : n = i
  · subst hin
    refine bcase_false (by simp) (pop h l L (.refl _) (fun k a b => hh k a (by omega)) rfl hv m)
  · refine bcase_true (by simp; omega) (iSwap m hv hi (by omega) (by omega) rfl rfl fun _ h2 L2 hv2 m2 => ?_)
    have hsl := swp_len (l := l) (i := i) (k := n)
    rw [hn] at hh
    have hc := hh.cut (i := i) (by omega) (by omega)
    have hgn := swp_r (l := l) hi (k := n) (by omega)
    have hsp := swp_perm (l := l) hi (k := n) (by omega)
    refine (down_c m2 hv2 hc (by omega) (by omega) (by omega)).mono ?_
    rintro _ h3 ⟨t, l3, L3, rfl, pm, ht, hf, hv3, m3⟩
    have hl3 := pm.len
    refine ⟨_, rfl, ?_⟩
    cases t with
    | true => exact bcase_false rfl (pop h3 l3 L3 (pm.p.trans hsp) (ht rfl) ((pm.b n (by omega)).trans hgn) hv3 m3)
    | false =>
      refine bcase_true rfl ((up_c m3 hv3 (hf rfl) (by omega) (by omega) (by omega)).mono ?_)
      rintro _ h4 ⟨l4, L4, pm4, hk4, hv4, m4⟩
      have pm5 := pm.trans pm4
      exact pop h4 l4 L4 (pm5.p.trans hsp) hk4 ((pm5.b n (by omega)).trans hgn) hv4 m4
theorem HOk.chg (hh : HOk n l) (hi : i < l.length) : PD n (l.set i e) i i := by
  have e1 : ∀ k, k ≠ i → gt (l.set i e) k = gt l k := fun k hk => by unfold gt; rw [List.getElem?_set_ne (Ne.symm hk)]
  refine ⟨fun k a b h1 h2 => ?_, fun h0 k a b h1 => ?_⟩
  · rw [e1 k (by omega), e1 (par k) h1]; exact hh k a b
  · have hp : par k < k := by unfold par; omega
    have hq : par i < i := by unfold par; omega
    rw [e1 k (by omega), e1 (par i) (by omega)]
    exact (hh.pu i).g h0 k a b h1
theorem fix_c (m : Me W h (L :: R)) (hv : TuV bt l L) (hp : PD l.length l i i) (hi : i < l.length) (hl : l.length ≤ 1000000) : Runs Tryd.prog 35 #[tuI bt, .int .i64 (i : Int)] h fun v h' =>
    ∃ l' L', l'.Perm l ∧ HOk l'.length l' ∧ TuV bt l' L' ∧ Me W h' (L' :: R) := by
  refine vc_container_heap_Fix _ _ _ _ (iLen m hv ⟨_, rfl, (down_c m hv hp hi (by omega) hl).mono ?_⟩)
  rintro _ h3 ⟨t, l3, L3, rfl, pm, ht, hf, hv3, m3⟩
  have hl3 := pm.len
  refine ⟨_, rfl, ?_⟩
  cases t with
  | true => exact bcase_false rfl ⟨l3, L3, pm.p, by rw [hl3]; exact ht rfl, hv3, m3⟩
  | false =>
    refine bcase_true rfl ((up_c m3 hv3 (hf rfl) (by omega) (by omega) (by omega)).mono ?_)
    rintro _ h4 ⟨l4, L4, pm4, hk4, hv4, m4⟩
    exact ⟨l4, L4, pm4.p.trans pm.p, by rw [pm4.len, hl3]; exact hk4, hv4, m4⟩
end
end Go.Proofs.YthnmgpmgfhilhaaDoor
