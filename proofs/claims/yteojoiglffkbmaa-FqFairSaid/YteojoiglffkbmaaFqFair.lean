/- The walk of FqFair: turns go round; so what is taken differs by a turn and a packet at most. -/
import Derived.Test.YteojoiglffkbmaaFqFresh
import Derived.Test.YteojoiglffkbmaaOpnPk
set_option linter.unusedVariables false
set_option linter.unusedSimpArgs false
namespace Go.Proofs.Yteojoiglffkbmaa
open Go.Vc
/-- The bucket of flow j. -/
def bk (j : Nat) : Int := bucketZ (j : Int) 0
theorem bk_v : bk 0 = 0 ∧ bk 1 = 7 ∧ bk 2 = 8 ∧ bk 3 = 5 ∧ bk 4 = 1 ∧ bk 5 = 2 := by decide +kernel
theorem bk_inj {i j : Nat} (hi : i < 6) (hj : j < 6) (h : bk i = bk j) : i = j := by
  obtain ⟨h0, h1, h2, h3, h4, h5⟩ := bk_v
  have ci : i = 0 ∨ i = 1 ∨ i = 2 ∨ i = 3 ∨ i = 4 ∨ i = 5 := by omega
  have cj : j = 0 ∨ j = 1 ∨ j = 2 ∨ j = 3 ∨ j = 4 ∨ j = 5 := by omega
  rcases ci with rfl | rfl | rfl | rfl | rfl | rfl <;> rcases cj with rfl | rfl | rfl | rfl | rfl | rfl <;> simp_all
theorem bk_bd (j : Nat) : 0 ≤ bk j ∧ bk j < 16 := bucketZ_bd _ _
/-- The packets of flow j. -/
def pj (S : Nat → Nat) (j : Nat) : Pk := pkZ 0 j (S j)
section
variable {q : Qu} {S c : Nat → Nat} {T : Nat → Int} {n i kk j : Nat} {C : List Nat}
/-- Between puts. -/
structure Ps (q : Qu) (n : Nat) (S : Nat → Nat) (i kk : Nat) : Prop where
  calm : Calm q
  seed : q.seed = 0
  cnt : q.cnt = i * 110 + kk
  el : q.elder = []
  fr : q.fresh = ((List.range i) ++ if kk = 0 then [] else [i]).map bk
  fl : ∀ j, j < n → (q.flow (bk j)).l = List.replicate (if j < i then 110 else if j = i then kk else 0) (pj S j)
  d : ∀ j, j < i ∨ j = i ∧ kk ≠ 0 → (q.flow (bk j)).deficit = 300
theorem ps0 : Ps (qu0 0 1073741824 1073741824) n S 0 0 := by
  refine ⟨calm0 _ _, rfl, by show cntL (List.replicate 16 fl0) = _; decide, rfl, rfl, fun j hj => ?_, fun j hj => by omega⟩
  have : (qu0 0 1073741824 1073741824).flow (bk j) = fl0 := by
    unfold Qu.flow qu0
    simp only [List.getElem?_replicate]
    split <;> rfl
  rw [this, if_neg (by omega)]
  split <;> rfl
theorem Ps.next (o : Ps q n S i 110) : Ps q n S (i + 1) 0 := by
  refine ⟨o.calm, o.seed, by rw [o.cnt]; omega, o.el, ?_, fun j hj => ?_, fun j hj => o.d j (by omega)⟩
  · rw [o.fr, List.range_succ]; simp
  · rw [o.fl j hj]
    by_cases h : j < i
    · rw [if_pos h, if_pos (by omega)]
    · by_cases h2 : j = i
      · rw [if_neg h, if_pos h2, if_pos (by omega)]
      · rw [if_neg h, if_neg h2, if_neg (by omega)]; simp
theorem Ps.put (o : Ps q n S i kk) (hi : i < n) (hn : n ≤ 6) (hk : kk < 110) (hS : S i ≤ 800) : Ps (q.put (pj S i)) n S i (kk + 1) := by
  have hb : bucketZ (pj S i).flow q.seed = bk i := by rw [o.seed]; rfl
  have hlen : (pj S i).body.length = S i := pkZ_len _ _ _
  have hcq : q.cnt < 1048576 := by rw [o.cnt]; omega
  obtain ⟨k0, k1⟩ := bk_bd i
  have hcalm := o.calm.put (p := pj S i) rfl (by omega) hcq
  have hcnt := (o.calm.ok.put (p := pj S i) (Int.le_refl 0) (show (0 : Int) ≤ 1125899906842624 by decide) (by omega) hcq).2
  have hfi := o.fl i hi
  rw [if_neg (by omega), if_pos rfl] at hfi
  have key : ∀ g : Fl, g.l = (q.flow (bk i)).l ++ [pj S i] → ∀ j, j < n → ((q.setF (bk i) g).flow (bk j)).l = List.replicate (if j < i then 110 else if j = i then kk + 1 else 0) (pj S j) := fun g hg j hj => by
    by_cases h : j = i
    · subst h
      rw [flow_setF o.calm.ok k0 k1, hg, hfi, if_neg (by omega), if_pos rfl, List.replicate_succ']
    · rw [flow_setF_ne k0 (bk_bd j).1 (fun e => h (bk_inj (by omega) (by omega) e)), o.fl j hj, if_neg h, if_neg h]
  by_cases h : kk = 0
  · subst h
    have hno : ¬ (bucketZ (pj S i).flow q.seed ∈ q.fresh ∨ bucketZ (pj S i).flow q.seed ∈ q.elder) := by
      rw [hb, o.fr, o.el]
      simp
      intro x hx e
      have := bk_inj (by omega) (by omega) e; omega
    have e := put_out hno
    rw [hb] at e
    refine ⟨hcalm, by rw [put_seed]; exact o.seed, by rw [hcnt, o.cnt], by rw [e]; exact o.el, ?_, fun j hj => ?_, fun j hj => ?_⟩
    · rw [e]; show q.fresh ++ [bk i] = _; rw [o.fr]; simp
    · rw [e]; exact key _ (by simp) j hj
    · rw [e]
      show ((q.setF (bk i) _).flow (bk j)).deficit = 300
      by_cases h : j = i
      · subst h; rw [flow_setF o.calm.ok k0 k1]; rfl
      · rw [flow_setF_ne k0 (bk_bd j).1 (fun e => h (bk_inj (by omega) (by omega) e))]; exact o.d j (by omega)
  · have hin : bucketZ (pj S i).flow q.seed ∈ q.fresh ∨ bucketZ (pj S i).flow q.seed ∈ q.elder := by
      rw [hb, o.fr, if_neg h]; left; simp
    have e := put_in hin
    rw [hb] at e
    refine ⟨hcalm, by rw [put_seed]; exact o.seed, by rw [hcnt, o.cnt]; omega, by rw [e]; exact o.el, ?_, fun j hj => ?_, fun j hj => ?_⟩
    · rw [e]; show q.fresh = _; rw [o.fr, if_neg h, if_neg (by omega)]
    · rw [e]; exact key _ (by simp) j hj
    · rw [e]
      by_cases h2 : j = i
      · subst h2; rw [flow_setF o.calm.ok k0 k1]; exact o.d j (by omega)
      · rw [flow_setF_ne k0 (bk_bd j).1 (fun e => h2 (bk_inj (by omega) (by omega) e))]; exact o.d j (by omega)
/-- Round and round. -/
structure Rr (q : Qu) (n : Nat) (S c : Nat → Nat) (T : Nat → Int) (C : List Nat) : Prop where
  calm : Calm q
  ls : q.fresh ++ q.elder = C.map bk
  mem : ∀ j, j ∈ C ↔ j < n
  fl : ∀ j, j < n → (q.flow (bk j)).l = List.replicate (c j) (pj S j)
  lo : ∀ j, j < n → -(S j : Int) < (q.flow (bk j)).deficit
  rr : ∃ (R : Int) (A B : List Nat), C = A ++ B ∧ (∀ j ∈ A, T j = 300 * (1 + R) - (q.flow (bk j)).deficit) ∧ ∀ j ∈ B, T j = 300 * (2 + R) - (q.flow (bk j)).deficit
theorem Ps.rr (o : Ps q n S n 0) (hS : ∀ j, 1 ≤ S j) : Rr q n S (fun _ => 110) (fun _ => 0) (List.range n) := by
  refine ⟨o.calm, ?_, fun j => by simp, fun j hj => ?_, fun j hj => ?_, 0, List.range n, [], by simp, fun j hj => ?_, by simp⟩
  · rw [o.fr, o.el]; simp
  · rw [o.fl j hj, if_pos hj]
  · rw [o.d j (.inl hj)]; omega
  · rw [o.d j (.inl (by simpa using hj))]; rfl
theorem Rr.turn (o : Rr q n S c T C) : q.turn = (C.map bk).head? := by
  rw [← o.ls]
  unfold Qu.turn
  cases q.fresh <;> simp
theorem Rr.over (o : Rr q n S c T (j :: C)) (hn : n ≤ 6) (hd : (q.flow (bk j)).deficit ≤ 0) : Rr (q.over (bk j)) n S c T (C ++ [j]) ∧ (q.over (bk j)).meas < q.meas := by
  obtain ⟨k0, k1⟩ := bk_bd j
  have hj : j < n := (o.mem j).1 (by simp)
  have ht : q.turn = some (bk j) := o.turn
  obtain ⟨h1, h2⟩ := o.calm.over ht hd
  have hf := over_flow o.calm k0 k1
  have hne : ∀ i, i < n → i ≠ j → (q.over (bk j)).flow (bk i) = q.flow (bk i) := fun i hi h => over_flow_ne k0 (bk_bd i).1 fun e => h (bk_inj (by omega) (by omega) e)
  have hnd : (j :: C).Nodup := by
    have := o.calm.ok.nd
    rw [o.ls] at this
    exact (List.pairwise_map.1 this).imp fun h e => h (congrArg bk e)
  have hjC : j ∉ C := (List.nodup_cons.1 hnd).1
  refine ⟨⟨h1, ?_, fun i => ?_, fun i hi => ?_, fun i hi => ?_, ?_⟩, h2⟩
  · have hl := o.ls
    rw [over_fresh, over_elder]
    cases hfr : q.fresh with
    | nil =>
      rw [hfr, List.nil_append] at hl
      rw [if_pos rfl, hl]; simp
    | cons a r =>
      rw [hfr, List.cons_append, List.map_cons] at hl
      rw [if_neg (by simp), List.tail_cons, ← List.append_assoc, (List.cons.inj hl).2]; simp
  · rw [← o.mem i]; simp [or_comm]
  · by_cases h : i = j
    · subst h; rw [hf]; exact o.fl i hi
    · rw [hne i hi h]; exact o.fl i hi
  · have := o.lo i hi
    by_cases h : i = j
    · subst h; rw [hf]; show _ < (q.flow (bk i)).deficit + 300; omega
    · rw [hne i hi h]; exact this
  · obtain ⟨R, A, B, hC, hA, hB⟩ := o.rr
    have mC : ∀ i, i ∈ C → i < n := fun i hi => (o.mem i).1 (by simp [hi])
    have sw : ∀ (i : Nat) (x : Int), i < n → i ≠ j → T i = x - (q.flow (bk i)).deficit → T i = x - ((q.over (bk j)).flow (bk i)).deficit := fun i x hi h e => by rw [hne i hi h]; exact e
    cases A with
    | nil =>
      rw [List.nil_append] at hC
      refine ⟨R + 1, C, [j], rfl, fun i hi => ?_, fun i hi => ?_⟩
      · refine sw i _ (mC i hi) (fun e => hjC (e ▸ hi)) ?_
        have := hB i (by rw [← hC]; simp [hi]); omega
      · simp at hi; subst hi
        rw [hf]; show T i = _ - ((q.flow (bk i)).deficit + 300)
        have := hB i (by rw [← hC]; simp); omega
    | cons a A =>
      rw [List.cons_append] at hC
      obtain ⟨rfl, rfl⟩ := List.cons.inj hC
      refine ⟨R, A, B ++ [j], by simp, fun i hi => ?_, fun i hi => ?_⟩
      · exact sw i _ (mC i (by simp [hi])) (fun e => hjC (by rw [← e]; simp [hi])) (hA i (by simp [hi]))
      · simp only [List.mem_append, List.mem_singleton] at hi
        rcases hi with hi | rfl
        · exact sw i _ (mC i (by simp [hi])) (fun e => hjC (by rw [← e]; simp [hi])) (hB i hi)
        · rw [hf]; show T i = _ - ((q.flow (bk i)).deficit + 300)
          have := hA i (by simp); omega
theorem Rr.took {m : Nat} (o : Rr q n S c T (j :: C)) (hn : n ≤ 6) (hd : 0 < (q.flow (bk j)).deficit) (hc : c j = m + 1) :
    Rr (q.took (bk j) (pj S j) (List.replicate m (pj S j))) n S (fun i => if i = j then m else c i) (fun i => if i = j then T i + S j else T i) (j :: C) := by
  obtain ⟨k0, k1⟩ := bk_bd j
  have hj : j < n := (o.mem j).1 (by simp)
  have hl : (q.flow (bk j)).l = pj S j :: List.replicate m (pj S j) := by rw [o.fl j hj, hc, List.replicate_succ]
  have h1 := o.calm.took k0 k1 hd hl
  have hlen : (pj S j).body.length = S j := pkZ_len _ _ _
  have hf : (q.took (bk j) (pj S j) (List.replicate m (pj S j))).flow (bk j) = ((q.flow (bk j)).setL (List.replicate m (pj S j))).setD ((q.flow (bk j)).deficit - (pj S j).body.length) := flow_setF o.calm.ok k0 k1
  have hne : ∀ i, i < n → i ≠ j → (q.took (bk j) (pj S j) (List.replicate m (pj S j))).flow (bk i) = q.flow (bk i) := fun i hi h => flow_setF_ne k0 (bk_bd i).1 fun e => h (bk_inj (by omega) (by omega) e)
  have hdf : ((q.took (bk j) (pj S j) (List.replicate m (pj S j))).flow (bk j)).deficit = (q.flow (bk j)).deficit - S j := by rw [hf, ← hlen]; rfl
  refine ⟨h1, o.ls, o.mem, fun i hi => ?_, fun i hi => ?_, ?_⟩
  · by_cases h : i = j
    · subst h; rw [hf, if_pos rfl]; rfl
    · rw [hne i hi h, if_neg h]; exact o.fl i hi
  · by_cases h : i = j
    · subst h; rw [hdf]; omega
    · rw [hne i hi h]; exact o.lo i hi
  · obtain ⟨R, A, B, hC, hA, hB⟩ := o.rr
    have mC : ∀ i, i ∈ A ++ B → i < n := fun i hi => (o.mem i).1 (by rw [hC]; exact hi)
    refine ⟨R, A, B, hC, fun i hi => ?_, fun i hi => ?_⟩
    · have := hA i hi
      by_cases h : i = j
      · subst h; rw [hdf, if_pos rfl]; omega
      · rw [hne i (mC i (by simp [hi])) h, if_neg h]; exact this
    · have := hB i hi
      by_cases h : i = j
      · subst h; rw [hdf, if_pos rfl]; omega
      · rw [hne i (mC i (by simp [hi])) h, if_neg h]; exact this
theorem Rr.take (hn : n ≤ 6) (n0 : 0 < n) (hc : ∀ j, j < n → 0 < c j) : ∀ (f : Nat) {q : Qu} {C : List Nat}, q.meas < f → Rr q n S c T C → ∃ q' j C', j < n ∧ takeN 0 f q [] = (q', [], some (pj S j)) ∧ Rr q' n S (fun i => if i = j then c j - 1 else c i) (fun i => if i = j then T i + S j else T i) C'
  | 0, q, C, hm, _ => by omega
  | f + 1, q, C, hm, o => by
    cases C with
    | nil => have := (o.mem 0).2 n0; cases this
    | cons j C =>
      have hj : j < n := (o.mem j).1 (by simp)
      by_cases hd : (q.flow (bk j)).deficit ≤ 0
      · obtain ⟨o1, h1⟩ := o.over hn hd
        obtain ⟨q', j', C', h2, h3, h4⟩ := Rr.take hn n0 hc f (by omega) o1
        exact ⟨q', j', C', h2, by rw [takeC_over o.turn hd]; exact h3, h4⟩
      · obtain ⟨m, hm⟩ : ∃ m, c j = m + 1 := ⟨c j - 1, by have := hc j hj; omega⟩
        have hl : (q.flow (bk j)).l = pj S j :: List.replicate m (pj S j) := by rw [o.fl j hj, hm, List.replicate_succ]
        have h2 := o.took hn (by omega) hm
        refine ⟨_, j, j :: C, hj, takeC_took o.calm o.turn (by omega) hl, ?_⟩
        rw [hm]; exact h2
/-- What was taken of two differs little. -/
theorem Rr.near (o : Rr q n S c T C) (hi : i < n) (hj : j < n) : T i - T j ≤ 600 + S i + S j := by
  obtain ⟨R, A, B, hC, hA, hB⟩ := o.rr
  have h1 := o.lo i hi
  have h2 := (o.calm.ok.flow (bk_bd j).1 (bk_bd j).2).2.d1
  have key : ∀ x, x < n → T x = 300 * (1 + R) - (q.flow (bk x)).deficit ∨ T x = 300 * (2 + R) - (q.flow (bk x)).deficit := fun x hx => by
    have := (o.mem x).2 hx
    rw [hC] at this
    rcases List.mem_append.1 this with h | h
    · exact .inl (hA x h)
    · exact .inr (hB x h)
  rcases key i hi with h3 | h3 <;> rcases key j hj with h4 | h4 <;> omega
theorem Rr.bound (o : Rr q n S c T C) (hi : i < n) : ∃ R : Int, T i = 300 * R - (q.flow (bk i)).deficit := by
  obtain ⟨R, A, B, hC, hA, hB⟩ := o.rr
  have := (o.mem i).2 hi
  rw [hC] at this
  rcases List.mem_append.1 this with h | h
  · exact ⟨_, hA i h⟩
  · exact ⟨_, hB i h⟩
end
def sizeZ (xs : List Int) (i : Nat) : Nat := match xs[i]? with | some x => (x % 800 + 1).toNat | none => 100
theorem sizeZ_bd (xs : List Int) (i : Nat) : 1 ≤ sizeZ xs i ∧ sizeZ xs i ≤ 800 := by
  unfold sizeZ
  split
  · rename_i x _; omega
  · omega
theorem size_c {h : Heap} {b l cap i : Nat} {s : Option Addr} {xs : List Int} (hc : cell h b 0 = some (.slice s l cap)) (hs : src h s l (ints .i64 xs)) (hl : xs.length = l) :
    Runs Try.prog 14 #[.int .i64 i, .pointer (some ⟨b, 0, none⟩)] h fun v h' => v = .int .i64 (sizeZ xs i) ∧ h' = h := by
  refine vc_muezzinlaw13_FqFair_1 _ _ _ _ ⟨_, _, _, hc, ?_⟩
  refine dcase_intro (fun q => ⟨_, _, _, hc, ⟨by omega, by omega⟩, ?_⟩) fun q => ⟨?_, rfl⟩
  · obtain ⟨x, hx⟩ : ∃ x, xs[i]? = some x := ⟨_, List.getElem?_eq_getElem (by omega)⟩
    obtain ⟨b2, o2, rfl, hc2⟩ := src_cell hs (ints_get (k := .i64) hx)
    refine ⟨x, hc2, (number_c _ _ _ (by decide) (by decide)).ret ⟨_, rfl, by simp only [fits]; omega, ?_, rfl⟩⟩
    unfold sizeZ; rw [hx]; congr 1; dsimp only; omega
  · unfold sizeZ; rw [List.getElem?_eq_none (by omega)]; rfl
def rng (n : Nat) : List Int := List.map (fun j : Nat => (j : Int)) (List.range n)
def bks (n : Nat) : List Int := (List.range n).map bk
theorem rng_succ (n : Nat) : rng (n + 1) = rng n ++ [(n : Int)] := by simp [rng, List.range_succ]
theorem bks_succ (n : Nat) : bks (n + 1) = bks n ++ [bk n] := by simp [bks, List.range_succ]
theorem rng_len (n : Nat) : (rng n).length = n := by simp [rng]
theorem bks_len (n : Nat) : (bks n).length = n := by simp [bks]
theorem rng_get {n i : Nat} (h : i < n) : (rng n)[i]? = some (i : Int) := by simp [rng, h]
theorem ints_setF {k : IntKind} {l : List Int} {i : Nat} {x : Int} : (ints k l).set i (.int k x) = ints k (l.set i x) := by simp [ints, List.map_set]
set_option maxHeartbeats 1000000
set_option maxRecDepth 8000
theorem fqFair_r {xs : List Int} {a : Option Addr} {cap : Nat} {h : Heap} (n turns : Int) (hs : src h a xs.length (ints .i64 xs)) :
    Runs Try.prog 3 #[.int .i64 n, .slice a xs.length cap, .int .i64 turns] h fun v h' => v = .bool true ∧ Kept h h' := by
  refine vc_muezzinlaw13_FqFair _ _ _ _ _ _ _ ?_
  intro b1 h1 e1 e2
  have m := (Me.start h).push e2 e1
  clear e1 e2
  refine (first13_c _).mono ?_
  rintro _ h2 ⟨rfl, k1⟩
  replace m := m.on k1
  clear k1
  refine ⟨_, rfl, bcase_false rfl ((number_c _ _ _ (by decide) (by decide)).ret ⟨_, rfl, by simp only [fits]; omega, (number_c _ _ _ (by decide) (by decide)).ret ⟨_, rfl, ?_⟩⟩)⟩
  obtain ⟨N, hN⟩ : ∃ N : Nat, n % 5 + 2 = N := ⟨(n % 5 + 2).toNat, by (try dsimp only); omega⟩
  have hN6 : N ≤ 6 := by omega
  have hN0 : 2 ≤ N := by omega
  rw [hN]
  obtain ⟨t, ht⟩ : ∃ t : Nat, turns % 100 = t := ⟨(turns % 100).toNat, by (try dsimp only); omega⟩
  have ht1 : t < 100 := by omega
  rw [ht]
  clear hN ht
  refine (new_c m 0 1073741824 1073741824).mono ?_
  rintro _ h5 ⟨b, L, rfl, hv, m⟩
  refine ⟨_, rfl, bcase_false rfl ?_⟩
  obtain ⟨T1, m⟩ : ∃ T1, Me (Wd.of h) h5 (L :: [(b1, [.slice a xs.length cap], T1)] :: []) := ⟨_, m⟩
  -- the flows
  refine ⟨fun fa fl fc h' => fl = N ∧ ∃ E, Ow fa fl fc 1 (ints .u32 (rng N)) E ∧ Me (Wd.of h) h' (E :: L :: [(b1, [.slice a xs.length cap], T1)] :: []), ?_, fun _ => ?_⟩
  · refine ⟨fun fa fl fc ba bl bc f h' => ∃ (j : Nat) (E E2 : Grp), fl = j ∧ bl = j ∧ f = j ∧ j ≤ N ∧ Ow fa fl fc 1 (ints .u32 (rng j)) E ∧ Ow ba bl bc 1 (ints .i64 (bks j)) E2 ∧ Me (Wd.of h) h' (E :: E2 :: L :: [(b1, [.slice a xs.length cap], T1)] :: []),
      fun _ _ _ _ _ _ f _ => (1000 - f).toNat, ⟨0, [], [], rfl, rfl, rfl, by omega, Ow.nil, Ow.nil, m.nilI.nilI⟩, fun _ => ?_⟩
    clear m
    rintro fa fl fc ba bl bc _ h6 ⟨j, E, E2, rfl, hbl, rfl, hj, o1, o2, m⟩
    obtain rfl : fl = bl := hbl.symm
    refine dcase_intro (fun q1 => ?_) fun q1 => ?_
    · have hlt : (fl : Int) < 1000 := by omega
      refine bcase_true (decide_eq_true hlt) ?_
      refine ⟨fun fa fl' fc ba bl bc h' => fl' = fl + 1 ∧ bl = fl + 1 ∧ ∃ E E2, Ow fa (fl + 1) fc 1 (ints .u32 (rng (fl + 1))) E ∧ Ow ba (fl + 1) bc 1 (ints .i64 (bks (fl + 1))) E2 ∧ Me (Wd.of h) h' (E :: E2 :: L :: [(b1, [.slice a xs.length cap], T1)] :: []), ?_, fun _ => ?_⟩
      · refine (refbucket_c _ _ _).ret ⟨_, rfl, (has_c (o2.src1 m 1 rfl) (bks_len _) (by omega)).ret ⟨_, rfl, ?_⟩⟩
        have hnm : bucketZ (fl : Int) 0 ∉ bks fl := fun hm => by
          obtain ⟨x, hx, e⟩ := List.mem_map.1 hm
          have hx := List.mem_range.1 hx
          have := bk_inj (by omega) (by omega) (e : bk x = bk fl); omega
        refine bcase_true (by simp [hnm]) ?_
        refine o1.app1 m 0 rfl rfl (by simp [Value.oneCell']) (by omega) (by decide) fun a' c' E' h' m' o' => ?_
        refine o2.app1 m' 1 rfl rfl (by simp [Value.oneCell']) (by omega) (by decide) fun a2 c2 E3 h3 m3 o3 => ?_
        refine ⟨rfl, rfl, E', E3, ?_, ?_, m3⟩
        · rw [rng_succ, ints_app]; exact o'
        · rw [bks_succ, ints_app]; exact o3
      rintro fa' _ fc' ba' _ bc' h13 ⟨rfl, rfl, E', E3, o', o3, m'⟩
      exact ⟨by simp only [fits]; omega, ⟨fl + 1, E', E3, rfl, rfl, by omega, by omega, o', o3, m'⟩, by (try dsimp only); omega⟩
    · obtain rfl : fl = N := by omega
      exact ⟨rfl, E, o1, m.free 1 rfl⟩
  clear m
  rintro fa fl fc h14 ⟨hfl, E, o1, m⟩
  obtain rfl : N = fl := hfl.symm
  obtain ⟨S, hS⟩ : ∃ S, S = sizeZ xs := ⟨_, rfl⟩
  have hSb : ∀ j, 1 ≤ S j ∧ S j ≤ 800 := fun j => by rw [hS]; exact sizeZ_bd _ _
  -- the puts
  refine ⟨fun x h' => ∃ (i : Nat) (W1 : Wd) (L : Grp) (q : Qu), x = i ∧ i ≤ N ∧ (Wd.of h).le W1 ∧ Me W1 h' (E :: L :: [(b1, [.slice a xs.length cap], T1)] :: []) ∧ QuV W1 b q L ∧ Ps q N S i 0, fun x _ => ((N : Int) - x).toNat,
    ⟨0, _, L, _, rfl, by omega, Wd.le.refl _, m, hv, ps0⟩, fun _ => ?_⟩
  clear m hv
  rintro _ h15 ⟨i, W1, L, q, rfl, hi, hle, m, hv, o⟩
  refine dcase_intro (fun q1 => ?_) fun q1 => ?_
  · have hiN : i < N := by omega
    refine ⟨fun x h' => ∃ (k : Nat) (W1 : Wd) (L : Grp) (q : Qu), x = k ∧ k ≤ 110 ∧ (Wd.of h).le W1 ∧ Me W1 h' (E :: L :: [(b1, [.slice a xs.length cap], T1)] :: []) ∧ QuV W1 b q L ∧ Ps q N S i k, fun x _ => (110 - x).toNat,
      ⟨0, _, L, _, rfl, by omega, hle, m, hv, o⟩, fun _ => ?_⟩
    clear m hv o hle
    rintro _ h16 ⟨k, W1, L, q, rfl, hk, hle, m, hv, o⟩
    refine dcase_intro (fun q2 => ?_) fun q2 => ?_
    · have kk := m.kept hle
      obtain ⟨fb, fo, rfl, hfc⟩ := src_cell (o1.src1 m 0 rfl) (ints_get (k := .u32) (rng_get hiN))
      refine ⟨⟨by omega, by omega⟩, (i : Int), hfc, (size_c (m.cell 2 rfl rfl) (kk.src hs) rfl).ret ⟨_, rfl, hfc, ?_⟩⟩
      have hSi := hSb i
      rw [← hS]
      refine ⟨⟨by omega, by omega, by omega, by omega⟩, ?_⟩
      (intro bN hN1 eN1 eN2; replace m := m.push eN2 eN1; clear eN1 eN2)
      obtain ⟨W2, hle2, m2, hbt⟩ := made_bytes m
      have hlen : (pj S i).body.length = S i := pkZ_len _ _ _
      refine (put_c (m2.focus 1 rfl) (hv.le hle2) o.calm.ok (p := pj S i) (pkZ_v _ _ hbt) (by omega) (by rw [o.cnt]; omega)).mono ?_
      rintro _ h19 ⟨rfl, W3, L3, hle3, hv3, m3⟩
      replace m3 := m3.focus 1 rfl
      obtain ⟨fb2, fo2, e9, hfc2⟩ := src_cell (o1.src1 m3 0 rfl) (ints_get (k := .u32) (rng_get hiN))
      cases e9
      exact ⟨_, rfl, hfc2, by simp only [fits]; omega, ⟨k + 1, W3, L3, _, by omega, by omega, (hle.trans hle2).trans hle3, m3, hv3, o.put hiN hN6 (by omega) (by omega)⟩, by (try dsimp only); omega⟩
    · obtain rfl : k = 110 := by omega
      exact ⟨by simp only [fits]; omega, ⟨i + 1, W1, L, q, by omega, by omega, hle, m, hv, o.next⟩, by (try dsimp only); omega⟩
  · obtain rfl : N = i := by omega
    refine ⟨⟨by omega, by omega, by omega, by omega⟩, ?_⟩
    intro b6 h20 e1 e2
    replace m := m.push e2 e1
    clear e1 e2
    rw [joinL_one] at m
    have kk0 := m.kept hle
    obtain ⟨T6, m⟩ : ∃ T6, Me W1 h20 ([(b6, ints .i64 (List.replicate N 0), T6)] :: E :: L :: [(b1, [.slice a xs.length cap], T1)] :: []) := by
      have e : ints .i64 (List.replicate N 0) = List.replicate (N : Int).toNat (Value.int .i64 0) := by simp [ints]
      rw [e]; exact ⟨_, m⟩
    refine ⟨fun x h' => ∃ (k : Nat) (W1 : Wd) (L : Grp) (q : Qu) (c : Nat → Nat) (T : Nat → Int) (C : List Nat) (tk : List Int), x = k ∧ k ≤ t ∧ (Wd.of h).le W1 ∧ Me W1 h' ([(b6, ints .i64 tk, T6)] :: E :: L :: [(b1, [.slice a xs.length cap], T1)] :: []) ∧ QuV W1 b q L ∧ Rr q N S c T C ∧
        (∀ j, j < N → 110 ≤ c j + k) ∧ tk.length = N ∧ (∀ j, j < N → tk[j]? = some (T j)) ∧ ∀ j, j < N → 0 ≤ T j ∧ T j ≤ 800 * (k : Int), fun x _ => ((t : Int) - x).toNat,
      ⟨0, W1, L, q, _, _, _, List.replicate N 0, rfl, by omega, hle, m, hv, o.rr fun j => (hSb j).1, fun j _ => by omega, by simp, fun j hj => by simp [hj], fun j _ => by simp⟩, fun _ => ?_⟩
    clear m hv o hle kk0
    rintro _ h21 ⟨k, W1, L, q, c, T, C, tk, rfl, hk, hle, m, hv, o, hc, htl, htk, hTb⟩
    have kk := m.kept hle
    refine dcase_intro (fun q2 => ?_) fun q2 => ?_
    · refine (take_c (m.focus 2 rfl) hv o.calm.ok (by decide) (by decide)).mono ?_
      obtain ⟨q', j, C', hjN, e, o'⟩ := Rr.take hN6 (by omega) (fun j hj => by have := hc j hj; omega) (q.meas + 1) (Nat.lt_succ_self _) o
      have e : q.take 0 = (q', [], some (pj S j)) := e
      rw [e]
      rintro _ h22 ⟨sa, sc, vs1, E1, L2, cs, rfl, hcv, od, hsd1, hv2, m2⟩
      obtain ⟨pa, pc, rfl, hbp⟩ := hcv
      refine ⟨_, _, _, _, _, rfl, ?_⟩
      intro b7 h23 e1 e2
      replace m2 := m2.push e2 e1
      clear e1 e2
      refine ⟨⟨rfl, m2.wrsb 0 rfl rfl, by simp [Value.oneCell']⟩, ?_⟩
      intro h24 e3
      replace m2 := (m2.setr 0 rfl e3).free 1 rfl
      clear e3 m hv
      obtain ⟨T7, m⟩ : ∃ T7, Me W1 h24 ([(b7, [.int .i64 0, .int .u32 (j : Int), .int .i64 0, .int .i64 0, .slice pa (pj S j).body.length pc], T7)] :: L2 :: [(b6, ints .i64 tk, T6)] :: E :: [(b1, [.slice a xs.length cap], T1)] :: []) := ⟨_, m2⟩
      clear m2
      have hSj := hSb j
      have hlen : (pj S j).body.length = S j := pkZ_len _ _ _
      refine bcase_false rfl ⟨fun x h' => ∃ (i : Nat) (tk' : List Int), x = i ∧ i ≤ N ∧ Me W1 h' ([(b7, [.int .i64 0, .int .u32 (j : Int), .int .i64 0, .int .i64 0, .slice pa (pj S j).body.length pc], T7)] :: L2 :: [(b6, ints .i64 tk', T6)] :: E :: [(b1, [.slice a xs.length cap], T1)] :: []) ∧
          tk'.length = N ∧ ∀ y, y < N → tk'[y]? = some (if y < i then (if y = j then T y + S j else T y) else T y), fun x _ => ((N : Int) - x).toNat,
        ⟨0, tk, rfl, by omega, m, htl, fun y hy => by rw [if_neg (by omega)]; exact htk y hy⟩, fun _ => ?_⟩
      clear m
      rintro _ h25 ⟨i, tk', rfl, hi, m, htl', htk'⟩
      refine dcase_intro (fun q3 => ?_) fun q3 => ?_
      · have hiN : i < N := by omega
        obtain ⟨fb, fo, rfl, hfc⟩ := src_cell (o1.src1 m 3 rfl) (ints_get (k := .u32) (rng_get hiN))
        have hti := htk' i hiN
        rw [if_neg (by omega)] at hti
        have hTi := hTb i hiN
        refine ⟨(j : Int), m.cell 0 rfl rfl, ⟨by omega, by omega⟩, (i : Int), hfc, dcase_intro (fun q4 => ?_) fun q4 => ?_⟩
        · obtain rfl : i = j := by omega
          refine ⟨⟨by omega, by omega⟩, T i, m.cell 2 rfl (by rw [Nat.zero_add]; exact ints_get hti), _, _, _, m.cell 0 rfl rfl, by simp only [fits]; omega, ⟨by omega, by omega⟩, (m.blk 2 rfl).wr (by rw [ints_len, htl']; omega), ?_⟩
          intro h26 e1
          replace m := m.setc 2 rfl e1
          clear e1
          simp only [List.set_cons_zero, List.set_cons_succ, Nat.zero_add] at m
          rw [ints_setF] at m
          refine ⟨by simp only [fits]; omega, ⟨i + 1, _, by omega, by omega, m, by simp [htl'], fun y hy => ?_⟩, by (try dsimp only); omega⟩
          by_cases hyi : y = i
          · subst hyi
            rw [if_pos (by omega), if_pos rfl, ← hlen]
            exact List.getElem?_set_self (by omega)
          · have := htk' y hy
            show (tk'.set i _)[y]? = _
            rw [List.getElem?_set_ne (by omega), this, if_neg hyi]
            by_cases h3 : y < i
            · simp [h3, show y < i + 1 by omega]
            · simp [h3, show ¬ y < i + 1 by omega]
        · refine ⟨by simp only [fits]; omega, ⟨i + 1, tk', by omega, by omega, m, htl', fun y hy => ?_⟩, by (try dsimp only); omega⟩
          rw [htk' y hy]
          by_cases h3 : y < i
          · simp [h3, show y < i + 1 by omega]
          · by_cases h4 : y = i
            · simp [h3, show y < i + 1 by omega, show ¬ y = j by omega]
            · simp [h3, show ¬ y < i + 1 by omega]
      · obtain rfl : N = i := by omega
        refine ⟨by simp only [fits]; omega, ⟨k + 1, W1, L2, q', _, _, C', tk', by omega, by omega, hle, (((m.drop1).focus 1 rfl).focus 2 rfl).focus 1 rfl, hv2, o', fun y hy => ?_, htl', fun y hy => ?_, fun y hy => ?_⟩, by (try dsimp only); omega⟩
        · have := hc y hy
          by_cases h4 : y = j
          · subst h4; rw [if_pos rfl]; omega
          · rw [if_neg h4]; omega
        · rw [htk' y hy, if_pos hy]
        · have := hTb y hy
          by_cases h4 : y = j
          · subst h4; rw [if_pos rfl]; omega
          · rw [if_neg h4]; omega
    · refine ⟨fun x h' => h' = h21 ∧ ∃ i : Nat, x = i ∧ i ≤ N, fun x _ => ((N : Int) - x).toNat, ⟨rfl, 0, rfl, by omega⟩, fun _ => ?_⟩
      rintro _ h21 ⟨rfl, i, rfl, hi⟩
      refine dcase_intro (fun q3 => ?_) fun q3 => ⟨rfl, kk⟩
      refine ⟨fun x h' => h' = h21 ∧ ∃ y : Nat, x = y ∧ y ≤ N, fun x _ => ((N : Int) - x).toNat, ⟨rfl, 0, rfl, by omega⟩, fun _ => ?_⟩
      rintro _ h21 ⟨rfl, y, rfl, hy⟩
      refine dcase_intro (fun q4 => ?_) fun q4 => ⟨by simp only [fits]; omega, ⟨rfl, i + 1, by omega, by omega⟩, by (try dsimp only); omega⟩
      have h1 := hTb i (by omega)
      have h2 := hTb y (by omega)
      have h3 := hSb i
      have h4 := hSb y
      have hci : cell h21 b6 (0 + i) = some (.int .i64 (T i)) := m.cell 0 rfl (by rw [Nat.zero_add]; exact ints_get (htk i (by omega)))
      have hcy : cell h21 b6 (0 + y) = some (.int .i64 (T y)) := m.cell 0 rfl (by rw [Nat.zero_add]; exact ints_get (htk y (by omega)))
      refine ⟨⟨by omega, by omega⟩, _, hci, ⟨by omega, by omega⟩, _, hcy, by simp only [fits]; omega, (size_c (m.cell 3 rfl rfl) (kk.src hs) rfl).ret ⟨_, rfl, hcy, hci, ?_⟩⟩
      rw [← hS]
      refine ⟨by simp only [fits]; omega, (size_c (m.cell 3 rfl rfl) (kk.src hs) rfl).ret ⟨_, rfl, hcy, hci, ?_⟩⟩
      rw [← hS]
      have := o.near (i := i) (j := y) (by omega) (by omega)
      exact ⟨by simp only [fits]; omega, dcase_neg (by omega) ⟨by simp only [fits]; omega, ⟨rfl, y + 1, by omega, by omega⟩, by (try dsimp only); omega⟩⟩
theorem walk_FqFair (w : World) (a0 : Int) (w0 : (Lit.int .i64 a0).wf = true) (a1 : Option Addr) (len1 cap1 : Nat) (o1 : Opn (.slc (.int .i64)) (Wd.of w.heap) [.slice a1 len1 cap1]) (a2 : Int) (w2 : (Lit.int .i64 a2).wf = true) :
    Calls Try.prog 3 #[.int .i64 a0, .slice a1 len1 cap1, .int .i64 a2] w fun e w' => e = .returned (.bool true) ∧ Go.RowKit.Below w.heap.size w w' := by
  obtain ⟨a, cap, gs, e, _, _, h3, _⟩ := opn_ints o1
  cases e
  exact calls_of_runs (fqFair_r a0 a2 (of_src.1 h3))
end Go.Proofs.Yteojoiglffkbmaa
