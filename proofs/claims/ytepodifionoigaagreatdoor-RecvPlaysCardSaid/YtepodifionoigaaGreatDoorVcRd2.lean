import Derived.Test.YtepodifionoigaaGreatDoorVcRd
import Derived.LaidEql
import Derived.Laws.Tables
set_option linter.unusedVariables false
set_option linter.unusedSimpArgs false
namespace Go.Vc
variable {P : Program} {w : World}

theorem lowv_spec {lo : Option Value} {K : Int → Prop} (h : lowv lo K) : (lo = none ∧ K 0) ∨ ∃ k n, lo = some (.int k n) ∧ K n := by
  unfold lowv at h
  split at h
  · exact .inl ⟨rfl, h⟩
  · exact .inr ⟨_, _, rfl, h⟩
  · exact h.elim
theorem slice_key {t e : TypeId} {a : Option Addr} {len cap : Nat} {lo hi : Option Value} {K : Value → Prop} (h : Heap) (hu : P.underlying t = some (.slice e)) (hi' : hasInfo P e = true) (l : Int)
    (hl : lo = none ∧ l = 0 ∨ ∃ k, lo = some (.int k l))
    (hk : match hi with
      | none => (0 ≤ l ∧ l ≤ (len : Int)) ∧ K (.slice (slcAddr a l.toNat cap (l.toNat * sz P e)) (len - l.toNat) (cap - l.toNat))
      | some (.int _ m) => (0 ≤ l ∧ l ≤ m ∧ m ≤ (cap : Int)) ∧ K (.slice (slcAddr a l.toNat cap (l.toNat * sz P e)) (m.toNat - l.toNat) (cap - l.toNat))
      | _ => False) : ∃ u, K u ∧ Yields P (Instr.sliceAt t (.slice a len cap) lo hi none) h u := by
  split at hk
  · obtain ⟨⟨h1, h2⟩, h3⟩ := hk
    refine ⟨_, h3, fun w _ => ?_⟩
    have e1 := run_underlying (P := P) hu w
    have e2 := run_sizeOf (P := P) hi' w
    rcases hl with ⟨rfl, rfl⟩ | ⟨k, rfl⟩
    · simp [Instr.sliceAt, e1, Instr.slice, Instr.sliceBounds, e2, slcAddr]
    · simp [Instr.sliceAt, e1, Instr.slice, Instr.sliceBounds, Instr.sliceBound, asIntOf, e2, slcAddr, h1, h2]
  · rename_i k' m
    obtain ⟨⟨h1, h2, h3⟩, h4⟩ := hk
    refine ⟨_, h4, fun w _ => ?_⟩
    have e1 := run_underlying (P := P) hu w
    have e2 := run_sizeOf (P := P) hi' w
    have h0 : 0 ≤ m := by omega
    have h5 : l ≤ (m.toNat : Int) := by omega
    rcases hl with ⟨rfl, rfl⟩ | ⟨k, rfl⟩
    · simp [Instr.sliceAt, e1, Instr.slice, Instr.sliceBounds, Instr.sliceBound, asIntOf, e2, slcAddr, h0, h3]
    · simp [Instr.sliceAt, e1, Instr.slice, Instr.sliceBounds, Instr.sliceBound, asIntOf, e2, slcAddr, h0, h3, h1, h2]
      intro hlt; exact absurd hlt (by omega)
  · exact hk.elim
theorem slice_str {t : TypeId} {s : ByteArray} {lo hi : Option Value} {K : Value → Prop} (h : Heap) (hu : P.underlying t = some .string) (l : Int) (hl : lo = none ∧ l = 0 ∨ ∃ k, lo = some (.int k l))
    (hk : match hi with
      | none => (0 ≤ l ∧ l ≤ (s.size : Int)) ∧ K (.string (s.extract l.toNat s.size))
      | some (.int _ m) => (0 ≤ l ∧ l ≤ m ∧ m ≤ (s.size : Int)) ∧ K (.string (s.extract l.toNat m.toNat))
      | _ => False) : ∃ u, K u ∧ Yields P (Instr.sliceAt t (.string s) lo hi none) h u := by
  split at hk
  · obtain ⟨⟨h1, h2⟩, h3⟩ := hk
    refine ⟨_, h3, fun w _ => ?_⟩
    have e1 := run_underlying (P := P) hu w
    rcases hl with ⟨rfl, rfl⟩ | ⟨k, rfl⟩
    · simp [Instr.sliceAt, e1, Instr.slice, Instr.sliceBounds]
    · simp [Instr.sliceAt, e1, Instr.slice, Instr.sliceBounds, Instr.sliceBound, asIntOf, h1, h2]
  · rename_i k' m
    obtain ⟨⟨h1, h2, h3⟩, h4⟩ := hk
    refine ⟨_, h4, fun w _ => ?_⟩
    have e1 := run_underlying (P := P) hu w
    have h0 : 0 ≤ m := by omega
    have h5 : l ≤ (m.toNat : Int) := by omega
    rcases hl with ⟨rfl, rfl⟩ | ⟨k, rfl⟩
    · simp [Instr.sliceAt, e1, Instr.slice, Instr.sliceBounds, Instr.sliceBound, asIntOf, h0, h3]
    · simp [Instr.sliceAt, e1, Instr.slice, Instr.sliceBounds, Instr.sliceBound, asIntOf, h0, h3, h1, h2]
      intro hlt; exact absurd hlt (by omega)
  · exact hk.elim
theorem slice3v_sound {t : TypeId} {v : Value} {lo hi : Option Value} {mx : Value} {K : Value → Prop} (h : Heap) (hr : slice3v P t v lo hi mx K) :
    ∃ u, K u ∧ Yields P (Instr.sliceAt t v lo hi (some mx)) h u := by
  unfold slice3v at hr
  split at hr
  · rename_i e a len cap hu
    split at hr
    · rename_i hi'
      rcases lowv_spec hr with ⟨rfl, h2⟩ | ⟨k, l, rfl, h2⟩
      · split at h2
        · rename_i k1 m k2 x
          obtain ⟨⟨g1, g2, g3, g4⟩, g5⟩ := h2
          refine ⟨_, g5, fun w _ => ?_⟩
          have e1 := run_underlying (P := P) hu w
          have e2 := run_sizeOf (P := P) hi' w
          have q1 : 0 ≤ x := by omega
          have q2 : 0 ≤ m := by omega
          have q3 : m ≤ (x.toNat : Int) := by omega
          simp [Instr.sliceAt, e1, Instr.slice, Instr.sliceBounds, Instr.sliceBound, asIntOf, e2, slcAddr, q1, g4, q2, q3]
          intro hlt; exact absurd hlt (by omega)
        · exact h2.elim
      · split at h2
        · rename_i k1 m k2 x
          obtain ⟨⟨g1, g2, g3, g4⟩, g5⟩ := h2
          refine ⟨_, g5, fun w _ => ?_⟩
          have e1 := run_underlying (P := P) hu w
          have e2 := run_sizeOf (P := P) hi' w
          have q1 : 0 ≤ x := by omega
          have q2 : 0 ≤ m := by omega
          have q3 : m ≤ (x.toNat : Int) := by omega
          have q4 : l ≤ (m.toNat : Int) := by omega
          simp [Instr.sliceAt, e1, Instr.slice, Instr.sliceBounds, Instr.sliceBound, asIntOf, e2, slcAddr, q1, g4, q2, q3, g1, q4]
          rw [if_pos (by omega), if_pos (by omega)]
        · exact h2.elim
    · exact hr.elim
  · exact hr.elim
theorem slicev_sound {t : TypeId} {v : Value} {lo hi : Option Value} {K : Value → Prop} (h : Heap) (hr : slicev P t v lo hi K) :
    ∃ u, K u ∧ Yields P (Instr.sliceAt t v lo hi none) h u := by
  unfold slicev at hr
  split at hr
  · rename_i e a len cap hu
    split at hr
    · rename_i hi'
      rcases lowv_spec hr with ⟨h1, h2⟩ | ⟨k, n, h1, h2⟩
      · exact slice_key h hu hi' 0 (.inl ⟨h1, rfl⟩) h2
      · exact slice_key h hu hi' n (.inr ⟨k, h1⟩) h2
    · exact hr.elim
  · rename_i n e p hu
    split at hr
    · rename_i hi'
      obtain ⟨b, o, rfl, hr2⟩ := onAddr_spec hr
      refine ⟨_, hr2, fun w _ => ?_⟩
      have e1 := run_underlying (P := P) hu w
      have e2 := run_sizeOf (P := P) hi' w
      simp [Instr.sliceAt, e1, Instr.sureAddr, Instr.sliceBounds, e2, add_eq]
    · exact hr.elim
  · rename_i s hu
    rcases lowv_spec hr with ⟨h1, h2⟩ | ⟨k, n, h1, h2⟩
    · exact slice_str h hu 0 (.inl ⟨h1, rfl⟩) h2
    · exact slice_str h hu n (.inr ⟨k, h1⟩) h2
  · exact hr.elim

theorem mnv_sound {a b : Value} {K : Value → Prop} (ts : Array TypeId) (ty : TypeId) (h : Heap) (hr : mnv a b K) : ∃ u, K u ∧ Yields P (Builtin.min_ ts ty #[a, b]) h u := by
  unfold mnv at hr
  split at hr
  · split at hr
    · rename_i hk
      exact ⟨_, hr, fun w _ => by simp [Builtin.min_, Builtin.min2]; omega⟩
    · exact hr.elim
  · exact hr.elim
theorem mxv_sound {a b : Value} {K : Value → Prop} (ts : Array TypeId) (ty : TypeId) (h : Heap) (hr : mxv a b K) : ∃ u, K u ∧ Yields P (Builtin.max_ ts ty #[a, b]) h u := by
  unfold mxv at hr
  split at hr
  · split at hr
    · rename_i hk
      exact ⟨_, hr, fun w _ => by simp [Builtin.max_, Builtin.max2]; omega⟩
    · exact hr.elim
  · exact hr.elim
theorem bltv_sound {b : Builtin} {ts : Array TypeId} {vs : Array Value} {ty : TypeId} {K : Value → Prop} (h : Heap) (hr : bltv P b ts.toList vs.toList K) :
    ∃ u, K u ∧ ∀ (cs : Array Bool) (w : World), w.heap = h → (builtin b ts ty cs vs).run P w = .ok (.value u) w := by
  have up : ∀ {s : Sem Value} {u : Value}, Yields P s h u → ∀ w : World, w.heap = h → (do pure (Next.value (← s)) : Sem Next).run P w = .ok (.value u) w := by
    intro s u hy w hw
    simp [hy w hw]
  obtain ⟨vl⟩ := vs
  obtain ⟨tl⟩ := ts
  unfold bltv at hr
  simp only at hr
  split at hr
  · rename_i t v
    split at hr
    · rename_i hu
      refine ⟨_, hr, fun cs w hw => ?_⟩
      simp [builtin, Builtin.len_, run_underlying (P := P) hu w, goInt]
    · rename_i hu
      refine ⟨_, hr, fun cs w hw => ?_⟩
      simp [builtin, Builtin.len_, run_underlying (P := P) hu w, goInt]
    · rename_i hu
      refine ⟨_, hr, fun cs w hw => ?_⟩
      simp [builtin, Builtin.len_, run_underlying (P := P) hu w, goInt]
    · exact hr.elim
  · rename_i t v
    split at hr
    · rename_i hu
      refine ⟨_, hr, fun cs w hw => ?_⟩
      simp [builtin, Builtin.cap_, run_underlying (P := P) hu w, goInt]
    · exact hr.elim
  · rename_i a b
    obtain ⟨u, h3, h4⟩ := mnv_sound (P := P) _ ty h hr
    exact ⟨u, h3, fun cs => up h4⟩
  · rename_i a b
    obtain ⟨u, h3, h4⟩ := mxv_sound (P := P) _ ty h hr
    exact ⟨u, h3, fun cs => up h4⟩
  · exact hr.elim
theorem indexAt_sound {t : TypeId} {a i : Value} {K : Value → Prop} (h : Heap) (hr : (match i with
    | .int _ n => match P.underlying t, a with
      | some (.array len e), v => match hasInfo P e with
        | true => onPtr v fun b o => (0 ≤ n ∧ n < (len : Int)) ∧ K (.pointer (some ⟨b, o + mulc (sz P e) n.toNat, none⟩))
        | false => False
      | some (.slice e), .slice p len _ => match hasInfo P e with
        | true => (0 ≤ n ∧ n < (len : Int)) ∧ onAddr p fun b o => K (.pointer (some ⟨b, o + mulc (sz P e) n.toNat, none⟩))
        | false => False
      | _, _ => False
    | _ => False)) : ∃ u, K u ∧ Yields P (Instr.indexAt t a i) h u := by
  have mc : ∀ s n, mulc s n = n * s := by
    intro s n; unfold mulc; split <;> simp
  split at hr
  · rename_i k n
    split at hr
    · rename_i len e v hu
      split at hr
      · rename_i hi
        obtain ⟨b, o, rfl, ⟨h1, h2⟩, h3⟩ := onPtr_spec hr
        refine ⟨_, h3, fun w _ => ?_⟩
        have e1 := run_underlying (P := P) hu w
        have e2 := run_sizeOf (P := P) hi w
        simp [Instr.indexAt, asIntOf, e1, Instr.sureAddr, h1, h2, e2, add_eq, mc]
      · exact hr.elim
    · rename_i e p len c hu
      split at hr
      · rename_i hi
        obtain ⟨⟨h1, h2⟩, hr2⟩ := hr
        obtain ⟨b, o, rfl, h3⟩ := onAddr_spec hr2
        refine ⟨_, h3, fun w _ => ?_⟩
        have e1 := run_underlying (P := P) hu w
        have e2 := run_sizeOf (P := P) hi w
        simp [Instr.indexAt, asIntOf, e1, h1, h2, e2, add_eq, mc]
      · exact hr.elim
    · exact hr.elim
  · exact hr.elim

theorem index_sound {t : TypeId} {a i : Value} {K : Value → Prop} (h : Heap) (hr : (match i with
    | .int _ n => match P.underlying t, a with
      | some (.array len e), v => match hasInfo P e with
        | true => (0 ≤ n ∧ n < (len : Int)) ∧ aggv P e v (mulc (sz P e) n.toNat) K
        | false => False
      | some .string, .string s => (0 ≤ n ∧ n < (s.size : Int)) ∧ K (.int .u8 (strAt s n.toNat))
      | _, _ => False
    | _ => False)) : ∃ u, K u ∧ Yields P (Instr.index t a i) h u := by
  have mc : ∀ s n, mulc s n = n * s := by
    intro s n; unfold mulc; split <;> simp
  split at hr
  · rename_i k n
    split at hr
    · rename_i len e v hu
      split at hr
      · rename_i hi
        obtain ⟨⟨h1, h2⟩, h3⟩ := hr
        obtain ⟨cs, rfl, u, h4, h5⟩ := aggv_sound (P := P) h h3
        refine ⟨u, h4, fun w hw => ?_⟩
        have e1 := run_underlying (P := P) hu w
        have e2 := run_sizeOf (P := P) hi w
        have e3 := h5 w hw
        rw [mc] at e3
        simp [Instr.index, asIntOf, e1, h1, h2, e2, e3]
      · exact hr.elim
    · rename_i s hu
      obtain ⟨⟨h1, h2⟩, h3⟩ := hr
      refine ⟨_, h3, fun w _ => ?_⟩
      have e1 := run_underlying (P := P) hu w
      have e4 : n.toNat < s.size := by omega
      have e5 : s[n.toNat]? = some (s.data.toList.getD n.toNat 0) := by
        rw [getElem?_pos s n.toNat e4]
        have : n.toNat < s.data.toList.length := by simpa using e4
        rw [List.getD_eq_getElem?_getD, List.getElem?_eq_getElem this]
        rfl
      simp [Instr.index, asIntOf, e1, h1, e5, strAt]
    · exact hr.elim
  · exact hr.elim
theorem namev_spec {nm : Bool} {v : Value} {K : Value → Prop} (h : namev nm v K) : K v := by
  unfold namev at h
  split at h
  · exact h
  · split at h
    · exact h _ rfl
    · exact h
theorem fold_set : ∀ (new pre mid post : List Value) (off k : Nat), pre.length = off + k → mid.length = new.length →
    (new.zipIdx k).foldl (fun (cs : Array Value) (p : Value × Nat) => cs.setIfInBounds (off + p.2) p.1) (pre ++ mid ++ post).toArray = (pre ++ new ++ post).toArray
  | [], pre, mid, post, off, k, _, hm => by
    have : mid = [] := List.eq_nil_of_length_eq_zero hm
    subst this; rfl
  | c :: new, pre, mid, post, off, k, hp, hm => by
    match mid, hm with
    | m :: mid, hm =>
      have ih := fold_set new (pre ++ [c]) mid post off (k + 1) (by simp; omega) (by simpa using hm)
      have e : (pre ++ m :: mid ++ post).toArray.setIfInBounds (off + k) c = (pre ++ [c] ++ mid ++ post).toArray := by
        rw [← hp]; apply Array.ext'; simp
      simp only [List.zipIdx_cons, List.foldl_cons]
      rw [e, ih]
      simp
theorem joinL_length : ∀ {ch : List (List Value)}, (joinL ch).length = sumL (ch.map List.length)
  | [] => rfl
  | a :: r => by simp [joinL, sumL, joinL_length (ch := r)]
theorem joinL_append : ∀ (a b : List (List Value)), joinL (a ++ b) = joinL a ++ joinL b
  | [], b => rfl
  | x :: a, b => by simp [joinL, joinL_append a b]
theorem joinL_split {ch : List (List Value)} {i : Nat} {c : List Value} (h : ch[i]? = some c) : joinL ch = joinL (ch.take i) ++ c ++ joinL (ch.drop (i + 1)) := by
  have hlt := (List.getElem?_eq_some_iff.1 h).1
  have he := (List.getElem?_eq_some_iff.1 h).2
  have e : ch = ch.take i ++ (c :: ch.drop (i + 1)) := by rw [← he, ← List.drop_eq_getElem_cons hlt, List.take_append_drop]
  calc joinL ch = joinL (ch.take i ++ (c :: ch.drop (i + 1))) := by rw [← e]
    _ = _ := by rw [joinL_append]; simp [joinL]
theorem joinL_set {ch : List (List Value)} {i : Nat} {c d : List Value} (h : ch[i]? = some c) : joinL (ch.set i d) = joinL (ch.take i) ++ d ++ joinL (ch.drop (i + 1)) := by
  have hlt := (List.getElem?_eq_some_iff.1 h).1
  have h2 : (ch.set i d)[i]? = some d := by simp [hlt]
  rw [joinL_split h2]
  have e1 : (ch.set i d).take i = ch.take i := List.take_set_of_le (Nat.le_refl _)
  have e2 : (ch.set i d).drop (i + 1) = ch.drop (i + 1) := List.drop_set_of_lt (by omega)
  rw [e1, e2]
theorem partv_spec {n : Nat} {v : Value} {K : List Value → Prop} (h : partv n v K) : v.cells.toList.length = n ∧ K v.cells.toList ∧ v.cells.size = n := by
  unfold partv at h
  split at h
  · exact ⟨h.1, h.2, by simpa [Value.cells] using h.1⟩
  · rename_i n1
    split at h
    · have hc : v.oneCell' = true ∧ K [v] := by cases v <;> first | exact ⟨rfl, h⟩ | exact h.elim
      have : v.cells = #[v] := by cases v <;> first | rfl | exact (n1 _ rfl).elim
      rw [this]; exact ⟨rfl, hc.2, rfl⟩
    · exact h.elim
theorem partv_one {n : Nat} {v : Value} {K : List Value → Prop} (h : partv n v K) : (∃ cs, v = .agg cs) ∨ v.oneCell' = true := by
  unfold partv at h
  split at h
  · exact .inl ⟨_, rfl⟩
  · rename_i n1
    split at h
    · exact .inr (by cases v <;> first | rfl | exact h.elim)
    · exact h.elim
theorem partv_of {n : Nat} {v : Value} {K : List Value → Prop} (h1 : v.cells.toList.length = n) (h2 : (∃ cs, v = .agg cs) ∨ v.oneCell' = true) (k : K v.cells.toList) : partv n v K := by
  rcases h2 with ⟨cs, rfl⟩ | h2
  · exact ⟨h1, k⟩
  · cases v <;> first | (subst h1; exact k) | (cases h2; done)
theorem fill_chunks {place : Nat → Option (Nat × Nat)} {sizes : List Nat} (hpl : ∀ i n, sizes[i]? = some n → place i = some (sumL (sizes.take i), n)) :
    ∀ {parts : List (Nat × Value)} {ch : List (List Value)} {K : List (List Value) → Prop}, ch.map List.length = sizes → putParts sizes parts ch K →
      ∃ ch', K ch' ∧ (∀ K' : List (List Value) → Prop, K' ch' → putParts sizes parts ch K') ∧ Instr.fill place (joinL ch).toArray parts = some (joinL ch').toArray
  | [], ch, K, _, h => ⟨ch, h, fun _ k => k, rfl⟩
  | (i, v) :: r, ch, K, hch, h => by
    simp only [putParts] at h
    split at h
    · rename_i n hn
      obtain ⟨h1, h2, h3⟩ := partv_spec h
      have hlen : ch.length = sizes.length := by rw [← hch]; simp
      have hi : i < ch.length := by rw [hlen]; exact (List.getElem?_eq_some_iff.1 hn).1
      obtain ⟨c, hc⟩ : ∃ c, ch[i]? = some c := ⟨_, List.getElem?_eq_getElem hi⟩
      have hcn : c.length = n := by
        have : (ch.map List.length)[i]? = some c.length := by simp [hc]
        rw [hch, hn] at this; exact (Option.some.inj this).symm
      have hch2 : (ch.set i v.cells.toList).map List.length = sizes := by
        rw [List.map_set, h1, ← hch]
        apply List.ext_getElem?
        intro j
        rw [List.getElem?_set]
        split
        · rename_i hij; subst hij
          have := (List.getElem?_eq_some_iff.1 hc).2
          simp [hi, this, hcn]
        · rfl
      obtain ⟨ch', k1, k2, k3⟩ := fill_chunks hpl hch2 h2
      have hpre : (joinL (ch.take i)).length = sumL (sizes.take i) := by rw [joinL_length, ← hch, List.map_take]
      refine ⟨ch', k1, fun K' k => ?_, ?_⟩
      · simp only [putParts, hn]
        have := k2 K' k
        exact partv_of h1 (partv_one h) this
      · simp only [Instr.fill, hpl i n hn]
        have hb : ¬ (v.cells.size ≠ n ∨ sumL (sizes.take i) + v.cells.size > (joinL ch).toArray.size) := by
          have := congrArg List.length (joinL_split hc)
          simp only [List.length_append, hpre, hcn] at this
          simp only [List.size_toArray]
          omega
        have hb' : (decide (v.cells.size ≠ n) || decide (sumL (sizes.take i) + v.cells.size > (joinL ch).toArray.size)) = false := by simpa using hb
        rw [if_neg (by simpa using hb)]
        have ef := fold_set v.cells.toList (joinL (ch.take i)) c (joinL (ch.drop (i + 1))) (sumL (sizes.take i)) 0 (by simpa using hpre) (by rw [hcn, h1])
        rw [← joinL_split hc, ← joinL_set hc] at ef
        have eg : v.cells.zipIdx.foldl (fun (cs : Array Value) (p : Value × Nat) => cs.setIfInBounds (sumL (sizes.take i) + p.2) p.1) (joinL ch).toArray = (joinL (ch.set i v.cells.toList)).toArray := by
          rw [← ef, ← Array.foldl_toList]; simp
        rw [← k3, ← eg]
    · exact h.elim
theorem splitL_length : ∀ {sizes : List Nat} {l : List Value}, l.length = sumL sizes → (splitL sizes l).map List.length = sizes ∧ joinL (splitL sizes l) = l
  | [], l, h => ⟨rfl, by rw [List.eq_nil_of_length_eq_zero h]; rfl⟩
  | n :: r, l, h => by
    simp only [sumL] at h
    obtain ⟨h1, h2⟩ := splitL_length (sizes := r) (l := l.drop n) (by simp; omega)
    exact ⟨by simp [splitL, h1]; omega, by simp [splitL, joinL, h2]⟩
theorem lay_spec : ∀ {fs : List Field} {o : Nat} {sizes : List Nat}, lay P fs o = some sizes →
    ∃ places, fs.mapM (fun f => (P.info? f.type).map fun i => (f.offset, i.size)) = some places ∧ places.length = sizes.length ∧ ∀ i n, sizes[i]? = some n → places[i]? = some (o + sumL (sizes.take i), n)
  | [], o, sizes, h => by simp [lay] at h; subst h; exact ⟨[], by simp, rfl, by simp⟩
  | f :: r, o, sizes, h => by
    simp only [lay] at h
    split at h
    · rename_i l h1 h2 h3
      cases h
      obtain ⟨i, hi, hs⟩ := hasInfo_spec h2
      obtain ⟨places, k1, k2, k3⟩ := lay_spec h3
      have hoff := Nat.eq_of_beq_eq_true h1
      refine ⟨(f.offset, i.size) :: places, by simp [hi, k1], by simp [k2], ?_⟩
      intro j n hj
      cases j with
      | zero => simp at hj; subst hj; simp [sumL, hoff, hs]
      | succ j =>
        simp at hj
        have := k3 j n hj
        simp only [List.getElem?_cons_succ, List.take_succ_cons, sumL]
        rw [this, hs]
        simp [Nat.add_assoc]
    · cases h
theorem sumL_replicate_take {n m i : Nat} (h : i < n) : sumL ((List.replicate n m).take i) = i * m := by
  rw [List.take_replicate, Nat.min_eq_left (by omega)]
  induction i with
  | zero => simp [sumL]
  | succ i ih => rw [List.replicate_succ]; simp only [sumL]; rw [ih (by omega), Nat.succ_mul]; omega
theorem replicate_get {n m i k : Nat} (h : (List.replicate n m)[i]? = some k) : i < n ∧ k = m := by
  have := (List.getElem?_eq_some_iff.1 h)
  obtain ⟨h1, h2⟩ := this
  simp at h1 h2
  exact ⟨h1, h2.symm⟩
theorem buildv_sound {t : TypeId} {parts : List (Nat × Value)} {K : Value → Prop} (h : buildv P t parts K) :
    ∃ v, K v ∧ (∀ K' : Value → Prop, K' v → buildv P t parts K') ∧ ∀ w, (Instr.build t parts.toArray).run P w = .ok v w := by
  unfold buildv at h
  split at h
  · rename_i it fs hit hu
    split at h
    · rename_i z sizes hz hl
      split at h
      · rename_i hb
        have hb := Nat.eq_of_beq_eq_true hb
        obtain ⟨s1, s2⟩ := splitL_length hb
        obtain ⟨places, p1, p2, p3⟩ := lay_spec hl
        obtain ⟨ch', k1, k2, k3⟩ := fill_chunks (place := fun i => places[i]?) (fun i n hn => by simpa using p3 i n hn) s1 h
        refine ⟨_, k1, fun K' k => ?_, fun w => ?_⟩
        · unfold buildv
          simp only [hit, hu, hz, hl, hb, Nat.beq_refl]
          exact k2 _ k
        · refine run_build w t _ _ ?_
          unfold Program.built
          rw [s2] at k3
          simp only [hit, hu, hz, p1]
          simpa using k3
      · exact h.elim
    · exact h.elim
  · rename_i it n e hit hu
    split at h
    · rename_i z hz hi
      obtain ⟨ie, hie, hs⟩ := hasInfo_spec hi
      split at h
      · rename_i hb
        have hb := Nat.eq_of_beq_eq_true hb
        obtain ⟨s1, s2⟩ := splitL_length hb
        obtain ⟨ch', k1, k2, k3⟩ := fill_chunks (place := fun i => some (i * ie.size, ie.size)) (fun i n hn => by
          obtain ⟨r1, r2⟩ := replicate_get hn
          rw [sumL_replicate_take r1, r2, hs]) s1 h
        refine ⟨_, k1, fun K' k => ?_, fun w => ?_⟩
        · unfold buildv
          simp only [hit, hu, hz, hi, hb, Nat.beq_refl]
          exact k2 _ k
        · refine run_build w t _ _ ?_
          unfold Program.built
          rw [s2] at k3
          simp only [hit, hu, hz, hie]
          simpa using k3
      · exact h.elim
    · exact h.elim
  · exact h.elim
theorem anyOf_point {t : TypeId} {K : Value → Prop} (h : anyOf P t K) : ∃ v, K v ∧ ∀ K' : Value → Prop, K' v → anyOf P t K' := by
  unfold anyOf at h
  split at h
  · rename_i hu; obtain ⟨n, h⟩ := h; exact ⟨_, h, fun K' k => (by unfold anyOf; simp only [hu]; exact ⟨n, k⟩)⟩
  · rename_i hu; obtain ⟨n, h⟩ := h; exact ⟨_, h, fun K' k => (by unfold anyOf; simp only [hu]; exact ⟨n, k⟩)⟩
  · rename_i hu; obtain ⟨n, h⟩ := h; exact ⟨_, h, fun K' k => (by unfold anyOf; simp only [hu]; exact ⟨n, k⟩)⟩
  · rename_i hu; obtain ⟨n, l, m, h⟩ := h; exact ⟨_, h, fun K' k => (by unfold anyOf; simp only [hu]; exact ⟨n, l, m, k⟩)⟩
  · rename_i hu; obtain ⟨n, h⟩ := h; exact ⟨_, h, fun K' k => (by unfold anyOf; simp only [hu]; exact ⟨n, k⟩)⟩
  · rename_i hu; obtain ⟨n, h⟩ := h; exact ⟨_, h, fun K' k => (by unfold anyOf; simp only [hu]; exact ⟨n, k⟩)⟩
  · rename_i hu; obtain ⟨n, h⟩ := h; exact ⟨_, h, fun K' k => (by unfold anyOf; simp only [hu]; exact ⟨n, k⟩)⟩
  · rename_i d n1 n2 n3 n4 n5 n6 n7
    obtain ⟨v, h⟩ := h
    refine ⟨v, h, fun K' k => ?_⟩
    unfold anyOf
    split
    · rename_i hu; exact (n1 _ hu).elim
    · rename_i hu; exact (n2 hu).elim
    · rename_i hu; exact (n3 _ hu).elim
    · rename_i hu; exact (n4 _ hu).elim
    · rename_i hu; exact (n5 hu).elim
    · rename_i hu; exact (n6 _ hu).elim
    · rename_i hu; exact (n7 _ _ hu).elim
    · exact ⟨v, k⟩
theorem asv_sound {T : TypeId} {ok : Bool} {a : Value} {K : Value → Prop} (h : Heap) (hr : asv P T ok a K) : ∃ v, K v ∧ ∀ xT : TypeId, Yields P (Instr.typeAssert a xT T ok) h v := by
  unfold asv at hr
  split at hr
  · exact hr.elim
  · rename_i d nif hu
    have nif : ∀ ms, d ≠ .interface ms := fun ms e => nif _ (by rw [e])
    have key : ∀ (x : Value) (t : Bool), asr P T a = some (x, t) → (t = true ∨ ok = true) → ∀ xT : TypeId, Yields P (Instr.typeAssert a xT T ok) h (if ok then .tuple #[x, .bool t] else x) := by
      intro x t hx hok xT w hw
      have e1 := run_underlying (P := P) hu w
      unfold asr at hx
      have zz : ∀ z, zeroOf P T = some z → (zeroValue T).run P w = .ok z w := by
        intro z hz
        unfold zeroOf at hz
        split at hz
        · rename_i i hi; simp [zeroValue, typeInfo, hi, hz]
        · cases hz
      split at hx
      · rename_i u y
        split at hx
        · rename_i hb
          cases hx
          have hb := Nat.eq_of_beq_eq_true hb
          subst hb
          cases d <;> first | exact (nif _ rfl).elim | (cases ok <;> simp [Instr.typeAssert, e1])
        · rename_i hb
          split at hx
          · rename_i z hz
            cases hx
            rcases hok with hok | hok
            · cases hok
            · subst hok
              have hne : ¬ u = T := fun e => by subst e; rw [Nat.beq_refl] at hb; cases hb
              have e2 := zz _ hz
              cases d <;> first | exact (nif _ rfl).elim | simp [Instr.typeAssert, e1, hne, e2]
          · cases hx
      · split at hx
        · rename_i z hz
          cases hx
          rcases hok with hok | hok
          · cases hok
          · subst hok
            have e2 := zz _ hz
            cases d <;> first | exact (nif _ rfl).elim | simp [Instr.typeAssert, e1, e2]
        · cases hx
      · cases hx
    obtain ⟨x, h1, _⟩ := anyOf_point hr
    cases ok
    · exact ⟨_, h1.2, fun xT => by simpa using key x true h1.1 (.inl rfl) xT⟩
    · obtain ⟨t, h2, h3⟩ := h1
      exact ⟨_, h3, fun xT => by simpa using key x t h2 (.inr rfl) xT⟩
  · exact hr.elim
theorem rd_sound {x : Md} {ρ : Operand → Value} {o : Oper} {h : Heap} {K : Value → Prop} (hr : rd P x ρ o.op h K) :
    ∃ v, K v ∧ ∀ w : World, w.heap = h → (execOp ρ o).run P w = .ok (.value v) w := by
  have up : ∀ {s : Sem Value} {u : Value}, Yields P s h u → ∀ w : World, w.heap = h → (do pure (Next.value (← s)) : Sem Next).run P w = .ok (.value u) w := by
    intro s u hy w hw
    simp [hy w hw]
  obtain ⟨dst, op, ty, pos, after, guard⟩ := o
  simp only at hr
  unfold rd at hr
  split at hr
  · exact ⟨_, hr, fun w _ => rfl⟩
  · exact ⟨_, namev_spec hr, fun w _ => rfl⟩
  · rename_i c a b
    split at hr
    · rename_i t ht
      rcases bcase_spec hr with ⟨rfl, h1⟩ | ⟨rfl, h1⟩
      · exact ⟨_, h1, fun w _ => by simp [execOp, ht, asBool]⟩
      · exact ⟨_, h1, fun w _ => by simp [execOp, ht, asBool]⟩
    · exact hr.elim
  · rename_i op t a b ty'
    obtain ⟨v, h1, h2⟩ := bino_sound (P := P) a b h hr
    exact ⟨v, h1, fun w hw => up h2 w hw⟩
  · obtain ⟨v, h1, h2⟩ := unv_sound (P := P) h hr
    exact ⟨v, h1, fun w hw => up h2 w hw⟩
  · obtain ⟨v, h1, h2⟩ := convv_sound (P := P) h hr
    exact ⟨v, h1, fun w hw => up h2 w hw⟩
  · rename_i a
    split at hr
    · rename_i p hp
      obtain ⟨b, o, rfl, h1⟩ := onAddr_spec hr
      exact ⟨_, h1, fun w _ => by simp [execOp, hp]⟩
    · exact hr.elim
  · obtain ⟨v, h1, h2⟩ := fieldAt_sound (P := P) h hr
    exact ⟨v, h1, fun w hw => up h2 w hw⟩
  · rename_i t a f
    obtain ⟨fs, fd, hu, hf, hi, hs, hr3⟩ := fieldOff_spec hr
    obtain ⟨cs, hcs, v, h1, h2⟩ := aggv_sound (P := P) h hr3
    refine ⟨v, h1, fun w hw => up (s := Instr.field t (ρ a) f) (fun w hw => ?_) w hw⟩
    have e1 := run_underlying (P := P) hu w
    have e2 := h2 w hw
    simp [Instr.field, e1, hf, hcs, asAgg, e2]
  · obtain ⟨v, h1, h2⟩ := indexAt_sound (P := P) h hr
    exact ⟨v, h1, fun w hw => up h2 w hw⟩
  · rename_i t a
    obtain ⟨b, o, hp, h1⟩ := onPtr_spec hr
    obtain ⟨v, h1, h2⟩ := ldv_sound (P := P) h1
    refine ⟨v, h1, fun w hw => up (s := Instr.loadAt t (ρ a)) ?_ w hw⟩
    rw [hp]; exact h2
  · obtain ⟨v, h1, h2⟩ := index_sound (P := P) h hr
    exact ⟨v, h1, fun w hw => up h2 w hw⟩
  · rename_i a i
    split at hr
    · rename_i vs hv
      split at hr
      · rename_i v hi
        refine ⟨v, hr, fun w hw => up (s := Instr.extract (ρ a) i) (fun w _ => ?_) w hw⟩
        have : vs[i]? = some v := by simpa using hi
        simp [Instr.extract, hv, this]
      · exact hr.elim
    · exact hr.elim
  · obtain ⟨v, h1, h2⟩ := slicev_sound (P := P) h hr
    exact ⟨v, h1, fun w hw => up h2 w hw⟩
  · obtain ⟨v, h1, h2⟩ := slice3v_sound (P := P) h hr
    exact ⟨v, h1, fun w hw => up h2 w hw⟩
  · obtain ⟨v, h1, h2⟩ := asv_sound (P := P) h hr
    exact ⟨v, h1, fun w hw => up (h2 _) w hw⟩
  · rename_i t a
    split at hr
    · exact hr.elim
    · rename_i d n1 hu
      refine ⟨_, hr, fun w hw => up (s := Instr.makeInterface t (ρ a)) (fun w _ => ?_) w hw⟩
      have e1 := run_underlying (P := P) hu w
      cases d <;> first | exact (n1 _ rfl).elim | simp [Instr.makeInterface, e1]
    · exact hr.elim
  · rename_i f a b
    refine ⟨_, hr, fun w hw => rfl⟩
  · rename_i t parts
    obtain ⟨v, h1, _, h2⟩ := buildv_sound (P := P) hr
    have e : (parts.toList.map fun (i, x) => (i, ρ x)).toArray = parts.map fun (i, x) => (i, ρ x) := by apply Array.ext'; simp
    rw [e] at h2
    have hy : Yields P (Instr.build t (parts.map fun (i, x) => (i, ρ x))) h v := fun w _ => h2 w
    exact ⟨v, h1, fun w hw => up hy w hw⟩
  · rename_i b args ts
    have : (args.toList.map ρ) = (args.map ρ).toList := by simp
    rw [this] at hr
    obtain ⟨u, h1, h2⟩ := bltv_sound (P := P) (ty := ty) h hr
    refine ⟨u, h1, fun w hw => ?_⟩
    simp [execOp, resolve, invoke, h2 _ w hw]
  · exact hr.elim
theorem plainB_spec {h : Heap} {b : Nat} (hp : plainB h b = true) : ∃ c t, h[b]? = some (.cells c t (0, 0)) := by
  unfold plainB at hp
  split at hp
  · rename_i c t lo hi e
    simp only [Bool.and_eq_true] at hp
    obtain rfl := Nat.eq_of_beq_eq_true hp.1
    obtain rfl := Nat.eq_of_beq_eq_true hp.2
    exact ⟨c, t, e⟩
  · cases hp
theorem ptrOk_spec {u : TypeId} (hp : ptrOk P u = true) : ∃ e i j, P.underlying u = some (.pointer e) ∧ P.info? u = some i ∧ i.comparable = true ∧ P.info? e = some j ∧ j.size ≠ 0 := by
  unfold ptrOk at hp
  split at hp
  · rename_i e hu
    simp only [Bool.and_eq_true] at hp
    obtain ⟨h1, h2⟩ := hp
    split at h1
    · rename_i i hi
      split at h2
      · rename_i j hj
        exact ⟨e, i, j, hu, hi, h1, hj, fun hz => by rw [hz] at h2; cases h2⟩
      · cases h2
    · cases h1
  · cases hp
theorem run_equal_ifh {t : TypeId} {ms : _} {a b : Value} {k c : Bool} (hu : P.underlying t = some (.interface ms)) {w : World} (he : ifeqH P w.heap k a b = some c) : (Op.equal t a b).run P w = .ok c w := by
  have hu' := run_underlying (P := P) hu w
  unfold ifeqH at he
  split at he
  · rename_i u x v y
    split at he
    · rename_i hb
      cases he
      have hne : ¬ u = v := fun e => by subst e; rw [Nat.beq_refl] at hb; cases hb
      have key : ∀ d, (Op.equalIn (d + 1) t (.iface u x) (.iface v y)).run P w = .ok false w := by
        intro d; simp [Op.equalIn, hu', hne]
      exact key 9999
    · rename_i hb
      obtain rfl := Nat.eq_of_beq_eq_true hb
      split at he
      · rename_i p q hp
        obtain ⟨e, i, j, h1, h2, h3, h4, h5⟩ := ptrOk_spec hp
        unfold sameA at he
        split at he
        · rename_i hpq
          cases he; subst hpq
          exact run_equalIn_iface_ptr_same w 9998 p hu h1 h2 h3 h4
        · rename_i hpq
          split at he
          · rename_i hpl
            cases he
            simp only [Bool.and_eq_true] at hpl
            obtain ⟨c1, t1, k1⟩ := plainB_spec hpl.1
            obtain ⟨c2, t2, k2⟩ := plainB_spec hpl.2
            exact run_equalIn_iface_ptr_other w 9998 hu h1 h2 h3 h4 h5 hpq k1 k2
          · cases he
      · cases he
  · exact run_equal_if t ms hu he w
theorem run_equal_ptrs {t : TypeId} {p q : Option Addr} {c : Bool} (hk : ptrOk P t = true) {w : World} (he : ptrEq w.heap p q = some c) : (Op.equal t (.pointer p) (.pointer q)).run P w = .ok c w := by
  obtain ⟨e, i, j, h1, h2, h3, h4, h5⟩ := ptrOk_spec hk
  have hu' := run_underlying (P := P) h1 w
  have key : ∀ d, (Op.equalIn (d + 1) t (.pointer p) (.pointer q)).run P w = .ok c w := by
    intro d
    unfold ptrEq at he
    cases q with
    | none => cases he; cases p <;> simp [Op.equalIn, hu', isNilAddr]
    | some q =>
      cases p with
      | none => cases he; simp [Op.equalIn, hu']
      | some p =>
        dsimp only at he
        unfold sameA at he
        split at he
        · rename_i hpq
          cases he; subst hpq
          simp [Op.equalIn, hu', sizeOf, typeInfo, h4, run_sameAddr_same]
        · rename_i hpq
          split at he
          · rename_i hpl
            cases he
            simp only [Bool.and_eq_true] at hpl
            obtain ⟨c1, t1, k1⟩ := plainB_spec hpl.1
            obtain ⟨c2, t2, k2⟩ := plainB_spec hpl.2
            simp [Op.equalIn, hu', sizeOf, typeInfo, h4, h5, run_sameAddr_other w hpq k1 k2]
          · cases he
  exact key 9999
theorem eqGuard_ifh {op : BinOp} {t : TypeId} {x y : Operand} {a b : Value} {c : Bool} {w : World} (he : ifeqH P w.heap (isConst x || isConst y) a b = some c) : (eqGuard op t x y a b).run P w = .ok () w := by
  unfold ifeqH at he
  split at he
  · unfold eqGuard; cases op <;> rfl
  · exact eqGuard_if he
theorem isIf_spec {t : TypeId} (h : isIf P t = true) : ∃ ms, P.underlying t = some (.interface ms) := by
  unfold isIf at h
  split at h
  · rename_i ms hu; exact ⟨ms, hu⟩
  · cases h
theorem ifeqH_not {h : Heap} {k c : Bool} {a b : Value} (he : ifeqH P h k a b = some c) : (a = .nilIface ∨ ∃ u x, a = .iface u x) ∧ (b = .nilIface ∨ ∃ u x, b = .iface u x) := by
  unfold ifeqH at he
  split at he
  · exact ⟨.inr ⟨_, _, rfl⟩, .inr ⟨_, _, rfl⟩⟩
  · unfold ifeq at he
    split at he
    · exact ⟨.inl rfl, .inl rfl⟩
    · exact ⟨.inl rfl, .inr ⟨_, _, rfl⟩⟩
    · exact ⟨.inr ⟨_, _, rfl⟩, .inl rfl⟩
    · cases he
theorem rdh_sound {x : Md} {ρ : Operand → Value} {o : Oper} {h : Heap} {K : Value → Prop} (hr : rdh P x ρ o.op h K) :
    ∃ v, K v ∧ ∀ w : World, w.heap = h → (execOp ρ o).run P w = .ok (.value v) w := by
  unfold rdh at hr
  split at hr
  · rename_i op t a b ty hop
    split at hr
    · rename_i hif
      obtain ⟨ms, hu⟩ := isIf_spec hif
      obtain ⟨dst, op', ty', pos, after, guard⟩ := o
      simp only at hop
      subst hop
      unfold binh at hr
      split at hr
      · obtain ⟨c, h1, h2⟩ := hr
        refine ⟨_, h2, fun w hw => ?_⟩
        subst hw
        have e := eqGuard_ifh (P := P) (op := .eql) (t := t) h1
        have q := run_equal_ifh (P := P) hu h1
        obtain ⟨ha, hb⟩ := ifeqH_not h1
        rcases ha with ha | ⟨u, x, ha⟩ <;> rcases hb with hb | ⟨v, y, hb⟩ <;> rw [ha, hb] at e q <;> simp [execOp, e, Go.binOp, q, ha, hb]
      · obtain ⟨c, h1, h2⟩ := hr
        refine ⟨_, h2, fun w hw => ?_⟩
        subst hw
        have e := eqGuard_ifh (P := P) (op := .neq) (t := t) h1
        have q := run_equal_ifh (P := P) hu h1
        obtain ⟨ha, hb⟩ := ifeqH_not h1
        rcases ha with ha | ⟨u, x, ha⟩ <;> rcases hb with hb | ⟨v, y, hb⟩ <;> rw [ha, hb] at e q <;> simp [execOp, e, Go.binOp, q, ha, hb]
      · exact hr.elim
    · split at hr
      · obtain ⟨dst, op', ty', pos, after, guard⟩ := o
        simp only at hop
        subst hop
        unfold binp at hr
        split at hr
        · rename_i p q hpa hpb
          split at hr
          · rename_i hk
            obtain ⟨c, h1, h2⟩ := hr
            refine ⟨_, h2, fun w hw => ?_⟩
            subst hw
            have e := eqGuard_ptr (P := P) (w := w) (op := .eql) (t := t) (x := a) (y := b) (m := p) (n := q)
            have q := run_equal_ptrs (P := P) hk h1
            simp [execOp, hpa, hpb, e, Go.binOp, q]
          · rename_i hk
            obtain ⟨c, h1, h2⟩ := hr
            refine ⟨_, h2, fun w hw => ?_⟩
            subst hw
            have e := eqGuard_ptr (P := P) (w := w) (op := .neq) (t := t) (x := a) (y := b) (m := p) (n := q)
            have q := run_equal_ptrs (P := P) hk h1
            simp [execOp, hpa, hpb, e, Go.binOp, q]
          · exact hr.elim
        · exact hr.elim
      · rw [← hop] at hr; exact rd_sound hr
  · rename_i args ts hop
    split at hr
    · rename_i hmp
      split at hr
      · rename_i m ha
        obtain ⟨dst, op', ty', pos, after, guard⟩ := o
        simp only at hop
        subst hop
        unfold mlen at hr
        split at hr
        · rename_i m'
          obtain ⟨es, c, h1, h2⟩ := hr
          refine ⟨_, h2, fun w hw => ?_⟩
          subst hw
          have ha' : args.map ρ = #[.map m'] := by apply Array.ext'; simpa using ha
          unfold isMp at hmp
          split at hmp
          · rename_i t ht
            have ht' : ts = #[t] := by apply Array.ext'; simpa using ht
            subst ht'
            split at hmp
            · rename_i key elem hu
              cases m' with
              | none => cases h1; simp [execOp, resolve, invoke, builtin, ha', Builtin.len_, run_underlying hu, goInt]
              | some r =>
                unfold mobj at h1
                dsimp only at h1
                split at h1
                · rename_i es' c' hb
                  cases h1
                  simp [execOp, resolve, invoke, builtin, ha', Builtin.len_, run_underlying hu, getObj, Sem.run, hb, goInt]
                · cases h1
            · cases hmp
          · cases hmp
        · exact hr.elim
      · exact hr.elim
    · rw [← hop] at hr; exact rd_sound hr
  · exact rd_sound hr
end Go.Vc
