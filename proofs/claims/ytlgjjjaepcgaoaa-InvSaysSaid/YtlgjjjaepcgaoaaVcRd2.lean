/- The reckoner's rules for operations that read at most, all together. -/
import Derived.Test.YtlgjjjaepcgaoaaVcRd
set_option linter.unusedVariables false
set_option linter.unusedSimpArgs false
namespace Go.Vc
variable {P : Program} {w : World}

theorem lowv_spec {lo : Option Value} {K : Int → Prop} (h : lowv lo K) : (lo = none ∧ K 0) ∨ ∃ k n, lo = some (.int k n) ∧ K n := by
  unfold lowv at h
  split at h
  · exact .inl ⟨rfl, h⟩
  · exact .inr ⟨_, _, rfl, h⟩
  · exact h.elim
theorem slice_key {t e : TypeId} {a : Option Addr} {len cap : Nat} {lo hi : Option Value} {K : Value → Prop} (h : Heap) (hu : P.underlying t = some (.slice e)) (hi' : hasInfo P e = true) (l : Int)
    (hl : lo = none ∧ l = 0 ∨ ∃ k, lo = some (.int k l))
    (hk : match hi with
      | none => (0 ≤ l ∧ l ≤ (len : Int)) ∧ K (.slice (slcAddr a l.toNat cap (l.toNat * sz P e)) (len - l.toNat) (cap - l.toNat))
      | some (.int _ m) => (0 ≤ l ∧ l ≤ m ∧ m ≤ (cap : Int)) ∧ K (.slice (slcAddr a l.toNat cap (l.toNat * sz P e)) (m.toNat - l.toNat) (cap - l.toNat))
      | _ => False) : ∃ u, K u ∧ Yields P (Instr.sliceAt t (.slice a len cap) lo hi none) h u := by
  split at hk
  · obtain ⟨⟨h1, h2⟩, h3⟩ := hk
    refine ⟨_, h3, fun w _ => ?_⟩
    have e1 := run_underlying (P := P) hu w
    have e2 := run_sizeOf (P := P) hi' w
    rcases hl with ⟨rfl, rfl⟩ | ⟨k, rfl⟩
    · simp [Instr.sliceAt, e1, Instr.slice, Instr.sliceBounds, e2, slcAddr]
    · simp [Instr.sliceAt, e1, Instr.slice, Instr.sliceBounds, Instr.sliceBound, asIntOf, e2, slcAddr, h1, h2]
  · rename_i k' m
    obtain ⟨⟨h1, h2, h3⟩, h4⟩ := hk
    refine ⟨_, h4, fun w _ => ?_⟩
    have e1 := run_underlying (P := P) hu w
    have e2 := run_sizeOf (P := P) hi' w
    have h0 : 0 ≤ m := by omega
    have h5 : l ≤ (m.toNat : Int) := by omega
    rcases hl with ⟨rfl, rfl⟩ | ⟨k, rfl⟩
    · simp [Instr.sliceAt, e1, Instr.slice, Instr.sliceBounds, Instr.sliceBound, asIntOf, e2, slcAddr, h0, h3]
    · simp [Instr.sliceAt, e1, Instr.slice, Instr.sliceBounds, Instr.sliceBound, asIntOf, e2, slcAddr, h0, h3, h1, h2]
      intro hlt; exact absurd hlt (by omega)
  · exact hk.elim
theorem slicev_sound {t : TypeId} {v : Value} {lo hi : Option Value} {K : Value → Prop} (h : Heap) (hr : slicev P t v lo hi K) :
    ∃ u, K u ∧ Yields P (Instr.sliceAt t v lo hi none) h u := by
  unfold slicev at hr
  split at hr
  · rename_i e a len cap hu
    split at hr
    · rename_i hi'
      rcases lowv_spec hr with ⟨h1, h2⟩ | ⟨k, n, h1, h2⟩
      · exact slice_key h hu hi' 0 (.inl ⟨h1, rfl⟩) h2
      · exact slice_key h hu hi' n (.inr ⟨k, h1⟩) h2
    · exact hr.elim
  · rename_i n e p hu
    split at hr
    · rename_i hi'
      obtain ⟨b, o, rfl, hr2⟩ := onAddr_spec hr
      refine ⟨_, hr2, fun w _ => ?_⟩
      have e1 := run_underlying (P := P) hu w
      have e2 := run_sizeOf (P := P) hi' w
      simp [Instr.sliceAt, e1, Instr.sureAddr, Instr.sliceBounds, e2, add_eq]
    · exact hr.elim
  · exact hr.elim

theorem mn_eq (m n : Int) : (if m > n then n else m) = min m n := by omega
theorem mx_eq (m n : Int) : (if n > m then n else m) = max m n := by omega
theorem mnv_sound {a b : Value} {K : Value → Prop} (ts : Array TypeId) (ty : TypeId) (h : Heap) (hr : mnv a b K) : ∃ u, K u ∧ Yields P (Builtin.min_ ts ty #[a, b]) h u := by
  unfold mnv at hr
  split at hr
  · split at hr
    · rename_i hk
      exact ⟨_, hr, fun w _ => by simp [Builtin.min_, Builtin.min2]; omega⟩
    · exact hr.elim
  · exact hr.elim
theorem mxv_sound {a b : Value} {K : Value → Prop} (ts : Array TypeId) (ty : TypeId) (h : Heap) (hr : mxv a b K) : ∃ u, K u ∧ Yields P (Builtin.max_ ts ty #[a, b]) h u := by
  unfold mxv at hr
  split at hr
  · split at hr
    · rename_i hk
      exact ⟨_, hr, fun w _ => by simp [Builtin.max_, Builtin.max2]; omega⟩
    · exact hr.elim
  · exact hr.elim
theorem bltv_sound {b : Builtin} {ts : Array TypeId} {vs : Array Value} {ty : TypeId} {K : Value → Prop} (h : Heap) (hr : bltv P b ts.toList vs.toList K) :
    ∃ u, K u ∧ ∀ (cs : Array Bool) (w : World), w.heap = h → (builtin b ts ty cs vs).run P w = .ok (.value u) w := by
  have up : ∀ {s : Sem Value} {u : Value}, Yields P s h u → ∀ w : World, w.heap = h → (do pure (Next.value (← s)) : Sem Next).run P w = .ok (.value u) w := by
    intro s u hy w hw
    simp [hy w hw]
  obtain ⟨vl⟩ := vs
  obtain ⟨tl⟩ := ts
  unfold bltv at hr
  simp only at hr
  split at hr
  · rename_i t v
    split at hr
    · rename_i hu
      refine ⟨_, hr, fun cs w hw => ?_⟩
      simp [builtin, Builtin.len_, run_underlying (P := P) hu w, goInt]
    · rename_i hu
      refine ⟨_, hr, fun cs w hw => ?_⟩
      simp [builtin, Builtin.len_, run_underlying (P := P) hu w, goInt]
    · rename_i hu
      refine ⟨_, hr, fun cs w hw => ?_⟩
      simp [builtin, Builtin.len_, run_underlying (P := P) hu w, goInt]
    · exact hr.elim
  · rename_i t v
    split at hr
    · rename_i hu
      refine ⟨_, hr, fun cs w hw => ?_⟩
      simp [builtin, Builtin.cap_, run_underlying (P := P) hu w, goInt]
    · exact hr.elim
  · rename_i a b
    obtain ⟨u, h3, h4⟩ := mnv_sound (P := P) _ ty h hr
    exact ⟨u, h3, fun cs => up h4⟩
  · rename_i a b
    obtain ⟨u, h3, h4⟩ := mxv_sound (P := P) _ ty h hr
    exact ⟨u, h3, fun cs => up h4⟩
  · exact hr.elim
theorem indexAt_sound {t : TypeId} {a i : Value} {K : Value → Prop} (h : Heap) (hr : (match i with
    | .int _ n => match P.underlying t, a with
      | some (.array len e), v => match hasInfo P e with
        | true => onPtr v fun b o => (0 ≤ n ∧ n < (len : Int)) ∧ K (.pointer (some ⟨b, o + mulc (sz P e) n.toNat, none⟩))
        | false => False
      | some (.slice e), .slice p len _ => match hasInfo P e with
        | true => (0 ≤ n ∧ n < (len : Int)) ∧ onAddr p fun b o => K (.pointer (some ⟨b, o + mulc (sz P e) n.toNat, none⟩))
        | false => False
      | _, _ => False
    | _ => False)) : ∃ u, K u ∧ Yields P (Instr.indexAt t a i) h u := by
  have mc : ∀ s n, mulc s n = n * s := by
    intro s n; unfold mulc; split <;> simp
  split at hr
  · rename_i k n
    split at hr
    · rename_i len e v hu
      split at hr
      · rename_i hi
        obtain ⟨b, o, rfl, ⟨h1, h2⟩, h3⟩ := onPtr_spec hr
        refine ⟨_, h3, fun w _ => ?_⟩
        have e1 := run_underlying (P := P) hu w
        have e2 := run_sizeOf (P := P) hi w
        simp [Instr.indexAt, asIntOf, e1, Instr.sureAddr, h1, h2, e2, add_eq, mc]
      · exact hr.elim
    · rename_i e p len c hu
      split at hr
      · rename_i hi
        obtain ⟨⟨h1, h2⟩, hr2⟩ := hr
        obtain ⟨b, o, rfl, h3⟩ := onAddr_spec hr2
        refine ⟨_, h3, fun w _ => ?_⟩
        have e1 := run_underlying (P := P) hu w
        have e2 := run_sizeOf (P := P) hi w
        simp [Instr.indexAt, asIntOf, e1, h1, h2, e2, add_eq, mc]
      · exact hr.elim
    · exact hr.elim
  · exact hr.elim

theorem index_sound {t : TypeId} {a i : Value} {K : Value → Prop} (h : Heap) (hr : (match i with
    | .int _ n => match P.underlying t, a with
      | some (.array len e), v => match hasInfo P e with
        | true => (0 ≤ n ∧ n < (len : Int)) ∧ aggv P e v (mulc (sz P e) n.toNat) K
        | false => False
      | some .string, .string s => (0 ≤ n ∧ n < (s.size : Int)) ∧ K (.int .u8 (strAt s n.toNat))
      | _, _ => False
    | _ => False)) : ∃ u, K u ∧ Yields P (Instr.index t a i) h u := by
  have mc : ∀ s n, mulc s n = n * s := by
    intro s n; unfold mulc; split <;> simp
  split at hr
  · rename_i k n
    split at hr
    · rename_i len e v hu
      split at hr
      · rename_i hi
        obtain ⟨⟨h1, h2⟩, h3⟩ := hr
        obtain ⟨cs, rfl, u, h4, h5⟩ := aggv_sound (P := P) h h3
        refine ⟨u, h4, fun w hw => ?_⟩
        have e1 := run_underlying (P := P) hu w
        have e2 := run_sizeOf (P := P) hi w
        have e3 := h5 w hw
        rw [mc] at e3
        simp [Instr.index, asIntOf, e1, h1, h2, e2, e3]
      · exact hr.elim
    · rename_i s hu
      obtain ⟨⟨h1, h2⟩, h3⟩ := hr
      refine ⟨_, h3, fun w _ => ?_⟩
      have e1 := run_underlying (P := P) hu w
      have e4 : n.toNat < s.size := by omega
      have e5 : s[n.toNat]? = some (s.data.toList.getD n.toNat 0) := by
        rw [getElem?_pos s n.toNat e4]
        have : n.toNat < s.data.toList.length := by simpa using e4
        rw [List.getD_eq_getElem?_getD, List.getElem?_eq_getElem this]
        rfl
      simp [Instr.index, asIntOf, e1, h1, e5, strAt]
    · exact hr.elim
  · exact hr.elim
theorem namev_spec {nm : Bool} {v : Value} {K : Value → Prop} (h : namev nm v K) : K v := by
  unfold namev at h
  split at h
  · exact h
  · split at h
    · exact h _ rfl
    · exact h
theorem rd_sound {x : Md} {ρ : Operand → Value} {o : Oper} {h : Heap} {K : Value → Prop} (hr : rd P x ρ o.op h K) :
    ∃ v, K v ∧ ∀ w : World, w.heap = h → (execOp ρ o).run P w = .ok (.value v) w := by
  have up : ∀ {s : Sem Value} {u : Value}, Yields P s h u → ∀ w : World, w.heap = h → (do pure (Next.value (← s)) : Sem Next).run P w = .ok (.value u) w := by
    intro s u hy w hw
    simp [hy w hw]
  obtain ⟨dst, op, ty, pos, after, guard⟩ := o
  simp only at hr
  unfold rd at hr
  split at hr
  · exact ⟨_, hr, fun w _ => rfl⟩
  · exact ⟨_, namev_spec hr, fun w _ => rfl⟩
  · rename_i c a b
    split at hr
    · rename_i t ht
      rcases bcase_spec hr with ⟨rfl, h1⟩ | ⟨rfl, h1⟩
      · exact ⟨_, h1, fun w _ => by simp [execOp, ht, asBool]⟩
      · exact ⟨_, h1, fun w _ => by simp [execOp, ht, asBool]⟩
    · exact hr.elim
  · rename_i op t a b ty'
    obtain ⟨v, h1, h2⟩ := binv_sound (P := P) a b h hr
    exact ⟨v, h1, fun w hw => up h2 w hw⟩
  · obtain ⟨v, h1, h2⟩ := unv_sound (P := P) h hr
    exact ⟨v, h1, fun w hw => up h2 w hw⟩
  · obtain ⟨v, h1, h2⟩ := convv_sound (P := P) h hr
    exact ⟨v, h1, fun w hw => up h2 w hw⟩
  · rename_i a
    split at hr
    · rename_i p hp
      obtain ⟨b, o, rfl, h1⟩ := onAddr_spec hr
      exact ⟨_, h1, fun w _ => by simp [execOp, hp]⟩
    · exact hr.elim
  · obtain ⟨v, h1, h2⟩ := fieldAt_sound (P := P) h hr
    exact ⟨v, h1, fun w hw => up h2 w hw⟩
  · rename_i t a f
    obtain ⟨fs, fd, hu, hf, hi, hs, hr3⟩ := fieldOff_spec hr
    obtain ⟨cs, hcs, v, h1, h2⟩ := aggv_sound (P := P) h hr3
    refine ⟨v, h1, fun w hw => up (s := Instr.field t (ρ a) f) (fun w hw => ?_) w hw⟩
    have e1 := run_underlying (P := P) hu w
    have e2 := h2 w hw
    simp [Instr.field, e1, hf, hcs, asAgg, e2]
  · obtain ⟨v, h1, h2⟩ := indexAt_sound (P := P) h hr
    exact ⟨v, h1, fun w hw => up h2 w hw⟩
  · rename_i t a
    obtain ⟨b, o, hp, h1⟩ := onPtr_spec hr
    obtain ⟨v, h1, h2⟩ := ldv_sound (P := P) h1
    refine ⟨v, h1, fun w hw => up (s := Instr.loadAt t (ρ a)) ?_ w hw⟩
    rw [hp]; exact h2
  · obtain ⟨v, h1, h2⟩ := index_sound (P := P) h hr
    exact ⟨v, h1, fun w hw => up h2 w hw⟩
  · rename_i a i
    split at hr
    · rename_i vs hv
      split at hr
      · rename_i v hi
        refine ⟨v, hr, fun w hw => up (s := Instr.extract (ρ a) i) (fun w _ => ?_) w hw⟩
        have : vs[i]? = some v := by simpa using hi
        simp [Instr.extract, hv, this]
      · exact hr.elim
    · exact hr.elim
  · obtain ⟨v, h1, h2⟩ := slicev_sound (P := P) h hr
    exact ⟨v, h1, fun w hw => up h2 w hw⟩
  · rename_i t a
    split at hr
    · exact hr.elim
    · rename_i d n1 hu
      refine ⟨_, hr, fun w hw => up (s := Instr.makeInterface t (ρ a)) (fun w _ => ?_) w hw⟩
      have e1 := run_underlying (P := P) hu w
      cases d <;> first | exact (n1 _ rfl).elim | simp [Instr.makeInterface, e1]
    · exact hr.elim
  · rename_i f a b
    refine ⟨_, hr, fun w hw => rfl⟩
  · rename_i b args ts
    have : (args.toList.map ρ) = (args.map ρ).toList := by simp
    rw [this] at hr
    obtain ⟨u, h1, h2⟩ := bltv_sound (P := P) (ty := ty) h hr
    refine ⟨u, h1, fun w hw => ?_⟩
    simp [execOp, resolve, invoke, h2 _ w hw]
  · exact hr.elim
end Go.Vc
