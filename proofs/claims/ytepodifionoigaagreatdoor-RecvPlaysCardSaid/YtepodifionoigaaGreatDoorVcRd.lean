import Derived.Test.YtepodifionoigaaGreatDoorVcDefs
import Derived.ChangeKeysEq
set_option linter.unusedVariables false
set_option linter.unusedSimpArgs false
namespace Go.Vc
variable {P : Program} {w : World}

theorem keq_eq {a b : IntKind} (h : keq a b = true) : a = b := by cases a <;> cases b <;> first | rfl | cases h
theorem cell?_eq (w : World) (b o : Nat) : w.cell? ⟨b, o, none⟩ = cell w.heap b o := by
  unfold World.cell? cell
  cases h : w.heap[b]? with
  | none => rfl
  | some x => cases x <;> rfl
theorem add_eq (b o n : Nat) : (⟨b, o, none⟩ : Addr).add n = ⟨b, o + n, none⟩ := by
  unfold Addr.add; split <;> simp_all
theorem wrap_fits {k : IntKind} {n : Int} (h : fits k n) : k.wrap n = n := by
  cases k
  · exact IntWalk.i8_in n h
  · exact IntWalk.i16_in n h
  · exact IntWalk.i32_in n h
  · exact IntWalk.i64_in n h
  · exact IntWalk.u8_in n h
  · exact IntWalk.u16_in n h
  · exact IntWalk.u32_in n h
  · exact IntWalk.u64_in n h
theorem onAddr_spec {p : Option Addr} {K : Nat → Nat → Prop} (h : onAddr p K) : ∃ b o, p = some ⟨b, o, none⟩ ∧ K b o := by
  unfold onAddr at h
  split at h
  · exact ⟨_, _, rfl, h⟩
  · exact h.elim
theorem onPtr_spec {v : Value} {K : Nat → Nat → Prop} (h : onPtr v K) : ∃ b o, v = .pointer (some ⟨b, o, none⟩) ∧ K b o := by
  unfold onPtr at h
  split at h
  · obtain ⟨b, o, rfl, h⟩ := onAddr_spec h
    exact ⟨b, o, rfl, h⟩
  · exact h.elim
theorem bcase_spec {b : Bool} {x y : Prop} (h : bcase b x y) : (b = true ∧ x) ∨ (b = false ∧ y) := by
  cases b
  · exact .inr ⟨rfl, h⟩
  · exact .inl ⟨rfl, h⟩
theorem arith_spec {x : Bool} {k : IntKind} {e : Int} {K : Value → Prop} (h : arith x k e K) : K (.int k (k.wrap e)) := by
  cases x
  · exact h
  · rw [wrap_fits h.1]; exact h.2

def Yields (P : Program) (s : Sem Value) (h : Heap) (v : Value) : Prop := ∀ w : World, w.heap = h → s.run P w = .ok v w

theorem iop_sound {x : Bool} {op : BinOp} {k : IntKind} {m n : Int} {K : Value → Prop} (t : TypeId) (h : Heap) (hr : iop x op k m n K) (hns : op ≠ .shl ∧ op ≠ .shr) :
    ∃ v, K v ∧ Yields P (Go.binOp op t (.int k m) (.int k n)) h v := by
  cases op <;> simp only [iop] at hr
  case add => exact ⟨_, arith_spec hr, fun w _ => by simp [Go.binOp, Op.intArith]⟩
  case sub => exact ⟨_, arith_spec hr, fun w _ => by simp [Go.binOp, Op.intArith]⟩
  case mul => exact ⟨_, arith_spec hr, fun w _ => by simp [Go.binOp, Op.intArith]⟩
  case quo =>
    cases x
    · exact ⟨_, hr.2, fun w _ => by simp [Go.binOp, Op.intDiv, hr.1]⟩
    · obtain ⟨⟨h1, h2, h3⟩, h4⟩ := hr
      have e : m.tdiv n = m / n := Int.tdiv_eq_ediv_of_nonneg h1
      exact ⟨_, h4, fun w _ => by simp [Go.binOp, Op.intDiv, show ¬ n = 0 by omega, e, wrap_fits h3]⟩
  case rem =>
    cases x
    · exact ⟨_, hr.2, fun w _ => by simp [Go.binOp, Op.intDiv, hr.1]⟩
    · obtain ⟨⟨h1, h2⟩, h4⟩ := hr
      have e : m.tmod n = m % n := Int.tmod_eq_emod_of_nonneg h1
      exact ⟨_, h4, fun w _ => by simp [Go.binOp, Op.intDiv, show ¬ n = 0 by omega, e]⟩
  case and => exact ⟨_, hr, fun w _ => by simp [Go.binOp, intBits_and]⟩
  case or => exact ⟨_, hr, fun w _ => by simp [Go.binOp, intBits_or]⟩
  case xor => exact ⟨_, hr, fun w _ => by simp [Go.binOp, intBits_xor]⟩
  case andNot => exact ⟨_, hr, fun w _ => by simp [Go.binOp, intBits_andNot]⟩
  case eql => exact ⟨_, hr, fun w _ => by simp [Go.binOp, Op.intCmp, BEq.beq]⟩
  case neq => exact ⟨_, hr, fun w _ => by simp [Go.binOp, Op.intCmp, bne, BEq.beq]⟩
  case lss => exact ⟨_, hr, fun w _ => by simp [Go.binOp, Op.intCmp]⟩
  case leq => exact ⟨_, hr, fun w _ => by simp [Go.binOp, Op.intCmp]⟩
  case gtr => exact ⟨_, hr, fun w _ => by simp [Go.binOp, Op.intCmp]⟩
  case geq => exact ⟨_, hr, fun w _ => by simp [Go.binOp, Op.intCmp]⟩

theorem kbits_eq (k : IntKind) : kbits k = k.bits := by cases k <;> rfl
theorem shop_sound {x : Bool} {op : BinOp} {k yk : IntKind} {m n : Int} {K : Value → Prop} (t : TypeId) (h : Heap) (hr : shop x op k m n K) :
    ∃ v, K v ∧ Yields P (Go.binOp op t (.int k m) (.int yk n)) h v := by
  cases op <;> simp only [shop] at hr
  case shl => exact ⟨_, arith_spec hr.2, fun w _ => by
    have := shift_shl k yk m n hr.1.1 (by have := hr.1.2; rw [kbits_eq] at this; exact this)
    simp [Go.binOp, this, pow2]⟩
  case shr => exact ⟨_, hr.2, fun w _ => by
    have := shift_shr k yk m n hr.1.1 (by have := hr.1.2; rw [kbits_eq] at this; exact this)
    simp [Go.binOp, this, pow2]⟩

def Yields2 (P : Program) (op : BinOp) (t : TypeId) (x y : Operand) (a b : Value) (h : Heap) (v : Value) : Prop :=
  Yields P (do eqGuard op t x y a b; Go.binOp op t a b) h v
theorem eqGuard_int {op : BinOp} {t : TypeId} {x y : Operand} {k k' : IntKind} {m n : Int} : (eqGuard op t x y (.int k m) (.int k' n)).run P w = .ok () w := by
  unfold eqGuard; cases op <;> rfl
theorem eqGuard_bool {op : BinOp} {t : TypeId} {x y : Operand} {m n : Bool} : (eqGuard op t x y (.bool m) (.bool n)).run P w = .ok () w := by
  unfold eqGuard; cases op <;> rfl
theorem eqGuard_string {op : BinOp} {t : TypeId} {x y : Operand} {m n : ByteArray} : (eqGuard op t x y (.string m) (.string n)).run P w = .ok () w := by
  unfold eqGuard; cases op <;> rfl
theorem eqGuard_ptr {op : BinOp} {t : TypeId} {x y : Operand} {m n : Option Addr} : (eqGuard op t x y (.pointer m) (.pointer n)).run P w = .ok () w := by
  unfold eqGuard; cases op <;> rfl
theorem eqGuard_slice {op : BinOp} {t : TypeId} {x y : Operand} {m n : Option Addr} {a b c d : Nat} : (eqGuard op t x y (.slice m a b) (.slice n c d)).run P w = .ok () w := by
  unfold eqGuard; cases op <;> rfl

theorem run_equal_ptr_nil (t e : TypeId) (p : Option Addr) (hu : P.underlying t = some (.pointer e)) (w : World) : (Op.equal t (.pointer p) (.pointer none)).run P w = .ok (isNilAddr p) w := by
  have hu' := run_underlying (P := P) hu w
  have key : ∀ d, (Op.equalIn (d + 1) t (.pointer p) (.pointer none)).run P w = .ok (isNilAddr p) w := by
    intro d; cases p <;> simp [Op.equalIn, hu', isNilAddr]
  exact key 9999
theorem run_equal_slice_nil (t e : TypeId) (p : Option Addr) (l1 c1 l2 c2 : Nat) (hu : P.underlying t = some (.slice e)) (w : World) : (Op.equal t (.slice p l1 c1) (.slice none l2 c2)).run P w = .ok (isNilAddr p) w := by
  have hu' := run_underlying (P := P) hu w
  have key : ∀ d, (Op.equalIn (d + 1) t (.slice p l1 c1) (.slice none l2 c2)).run P w = .ok (isNilAddr p) w := by
    intro d; cases p <;> simp [Op.equalIn, hu', isNilAddr]
  exact key 9999
theorem eqGuard_map {op : BinOp} {t : TypeId} {x y : Operand} {m n : Option Nat} : (eqGuard op t x y (.map m) (.map n)).run P w = .ok () w := by
  unfold eqGuard; cases op <;> rfl
theorem run_equal_map_nil (t k e : TypeId) (m : Option Nat) (hu : P.underlying t = some (.map k e)) (w : World) : (Op.equal t (.map m) (.map none)).run P w = .ok (isNilM m) w := by
  have hu' := run_underlying (P := P) hu w
  have key : ∀ d, (Op.equalIn (d + 1) t (.map m) (.map none)).run P w = .ok (isNilM m) w := by
    intro d; cases m <;> simp [Op.equalIn, hu', isNilM]
  exact key 9999
theorem meq_eq {a b : Value} {c : Bool} (h : meq a b = some c) : ∃ m, a = .map m ∧ b = .map none ∧ c = isNilM m := by
  unfold meq at h
  split at h
  · cases h; exact ⟨_, rfl, rfl, rfl⟩
  · cases h
theorem sz_cellsOf {e : TypeId} (hi : hasInfo P e = true) : ∃ i, P.info? e = some i ∧ P.cellsOf e = sz P e := by
  unfold hasInfo at hi
  split at hi
  · rename_i i h; exact ⟨i, h, by simp [sz, h, Program.cellsOf]⟩
  · cases hi
theorem part_int {e : TypeId} {k : IntKind} {xs : Array Value} {l : List Int} {i : Nat} (he : P.underlying e = some (.int k)) (hx : xs.toList = l.map (Value.int k)) (hi : i < l.length) : (part e xs i).run P w = .ok (.int k l[i]) w := by
  have h1 : xs[i]? = some (.int k l[i]) := by rw [← Array.getElem?_toList, hx]; simp [hi]
  simp [part, isAgg, run_underlying he, h1]
theorem items_run {e : TypeId} {k : IntKind} {xs ys : Array Value} {l r : List Int} (he : P.underlying e = some (.int k)) (hx : xs.toList = l.map (Value.int k)) (hy : ys.toList = r.map (Value.int k)) (d : Nat) :
    ∀ is : List Nat, (∀ i ∈ is, i < l.length ∧ i < r.length) → (Op.eqItems (d + 1) e 1 xs ys is).run P w = .ok (is.all fun i => decide (l[i]? = r[i]?)) w
  | [], _ => rfl
  | i :: is, h => by
    obtain ⟨h1, h2⟩ := h i (by simp)
    have ih := items_run he hx hy d is fun j hj => h j (by simp [hj])
    have p1 := part_int (P := P) (w := w) he hx h1
    have p2 := part_int (P := P) (w := w) he hy h2
    have p3 := run_equalIn_int (P := P) w d e k k l[i] r[i] he
    simp only [Op.eqItems, Sem.run_bind, Nat.mul_one, p1, p2, p3, Result.andThen_ok, List.all_cons]
    by_cases hq : l[i] = r[i]
    · simp [hq, ih, h1, h2]
    · simp [hq, h1, h2]
theorem arrEq_run {t : TypeId} {xs ys : Array Value} {K : Bool → Prop} (hr : arrEq P t xs ys K) : ∃ c, K c ∧ P.eqGuardType P.depth t = false ∧ ∀ w : World, (Op.equal t (.agg xs) (.agg ys)).run P w = .ok c w := by
  unfold arrEq at hr
  split at hr
  · rename_i n e hu
    split at hr
    · rename_i k he hg
      split at hr
      · rename_i hs hi
        obtain ⟨l, r, hx, hy, ⟨hl, hrr⟩, hk⟩ := hr
        obtain ⟨i, hinf, hc⟩ := sz_cellsOf hi
        have hs1 : sz P e = 1 := Nat.eq_of_beq_eq_true hs
        refine ⟨_, hk, hg, fun w => ?_⟩
        have e1 := run_equalIn_array (P := P) w 9999 xs ys hu hinf
        rw [hc, hs1] at e1
        have e2 := items_run (P := P) (w := w) he hx hy 9998 (List.range n) fun i hi => by
          have := List.mem_range.1 hi; omega
        have e3 : ((List.range n).all fun i => decide (l[i]? = r[i]?)) = decide (l = r) := by
          rw [Bool.eq_iff_iff]
          simp only [List.all_eq_true, decide_eq_true_eq, List.mem_range]
          constructor
          · intro h
            refine List.ext_getElem? fun i => ?_
            by_cases hi : i < n
            · exact h i hi
            · rw [List.getElem?_eq_none (by omega), List.getElem?_eq_none (by omega)]
          · intro h i _; rw [h]
        rw [e3] at e2
        exact e1.trans e2
      · exact hr.elim
    · exact hr.elim
  · exact hr.elim
theorem eqGuard_agg {op : BinOp} {t : TypeId} {x y : Operand} {xs ys : Array Value} (hg : P.eqGuardType P.depth t = false) : (eqGuard op t x y (.agg xs) (.agg ys)).run P w = .ok () w := by
  unfold eqGuard; cases op <;> first | rfl | simp [hg]
theorem binv_sound {x : Bool} {op : BinOp} {t : TypeId} {a b : Value} {K : Value → Prop} (xo yo : Operand) (h : Heap) (hr : binv P x op t a b K) :
    ∃ v, K v ∧ Yields2 P op t xo yo a b h v := by
  unfold binv at hr
  split at hr
  · rename_i k m k' n
    have key : ∀ {v}, Yields P (Go.binOp op t (.int k m) (.int k' n)) h v → Yields2 P op t xo yo (.int k m) (.int k' n) h v := by
      intro v hy w hw
      have e := eqGuard_int (P := P) (w := w) (op := op) (t := t) (x := xo) (y := yo) (k := k) (k' := k') (m := m) (n := n)
      have := hy w hw
      simp [e, this]
    split at hr
    · obtain ⟨v, h1, h2⟩ := shop_sound (P := P) (yk := k') t h hr; exact ⟨v, h1, key h2⟩
    · obtain ⟨v, h1, h2⟩ := shop_sound (P := P) (yk := k') t h hr; exact ⟨v, h1, key h2⟩
    · rename_i n1 n2
      split at hr
      · rename_i hk
        have hk := keq_eq hk
        subst hk
        obtain ⟨v, h1, h2⟩ := iop_sound (P := P) t h hr ⟨fun e => n1 e, fun e => n2 e⟩
        exact ⟨v, h1, key h2⟩
      · exact hr.elim
  · rename_i m n
    split at hr
    · rename_i hu
      refine ⟨_, hr, fun w hw => ?_⟩
      have e := eqGuard_bool (P := P) (w := w) (op := .eql) (t := t) (x := xo) (y := yo) (m := m) (n := n)
      have := run_eql_bool (P := P) w t m n hu
      simp [e, this]
    · rename_i hu
      refine ⟨_, hr, fun w hw => ?_⟩
      have e := eqGuard_bool (P := P) (w := w) (op := .neq) (t := t) (x := xo) (y := yo) (m := m) (n := n)
      have := run_equal_bool (P := P) w t m n hu
      simp [e, Go.binOp, this]
    · exact hr.elim
  · rename_i m n
    split at hr
    · refine ⟨_, hr.2, fun w hw => ?_⟩
      have e := eqGuard_string (P := P) (w := w) (op := .add) (t := t) (x := xo) (y := yo) (m := m) (n := n)
      have h1 := hr.1
      have h2 : ¬ ((m.size + n.size : Nat) : Int) > IntKind.i64.max := by
        have : IntKind.i64.max = 9223372036854775807 := by decide
        omega
      simp [e, Go.binOp, Op.stringOp, h2]
      omega
    · refine ⟨_, hr, fun w hw => ?_⟩
      have e := eqGuard_string (P := P) (w := w) (op := .eql) (t := t) (x := xo) (y := yo) (m := m) (n := n)
      simp [e, Go.binOp, Op.stringOp]
    · refine ⟨_, hr, fun w hw => ?_⟩
      have e := eqGuard_string (P := P) (w := w) (op := .neq) (t := t) (x := xo) (y := yo) (m := m) (n := n)
      simp [e, Go.binOp, Op.stringOp]
    · exact hr.elim
  · rename_i p
    split at hr
    · rename_i hu
      refine ⟨_, hr, fun w hw => ?_⟩
      have e := eqGuard_ptr (P := P) (w := w) (op := .eql) (t := t) (x := xo) (y := yo) (m := p) (n := none)
      have := run_equal_ptr_nil (P := P) t _ p hu w
      simp [e, Go.binOp, this]
    · rename_i hu
      refine ⟨_, hr, fun w hw => ?_⟩
      have e := eqGuard_ptr (P := P) (w := w) (op := .neq) (t := t) (x := xo) (y := yo) (m := p) (n := none)
      have := run_equal_ptr_nil (P := P) t _ p hu w
      simp [e, Go.binOp, this]
    · exact hr.elim
  · rename_i p l1 c1 l2 c2
    split at hr
    · rename_i hu
      refine ⟨_, hr, fun w hw => ?_⟩
      have e := eqGuard_slice (P := P) (w := w) (op := .eql) (t := t) (x := xo) (y := yo) (m := p) (n := none) (a := l1) (b := c1) (c := l2) (d := c2)
      have := run_equal_slice_nil (P := P) t _ p l1 c1 l2 c2 hu w
      simp [e, Go.binOp, this]
    · rename_i hu
      refine ⟨_, hr, fun w hw => ?_⟩
      have e := eqGuard_slice (P := P) (w := w) (op := .neq) (t := t) (x := xo) (y := yo) (m := p) (n := none) (a := l1) (b := c1) (c := l2) (d := c2)
      have := run_equal_slice_nil (P := P) t _ p l1 c1 l2 c2 hu w
      simp [e, Go.binOp, this]
    · exact hr.elim
  · rename_i xs ys
    split at hr
    · obtain ⟨c, h1, h2, h3⟩ := arrEq_run hr
      refine ⟨_, h1, fun w hw => ?_⟩
      have e := eqGuard_agg (P := P) (w := w) (op := .eql) (t := t) (x := xo) (y := yo) (xs := xs) (ys := ys) h2
      simp [e, Go.binOp, h3 w]
    · obtain ⟨c, h1, h2, h3⟩ := arrEq_run hr
      refine ⟨_, h1, fun w hw => ?_⟩
      have e := eqGuard_agg (P := P) (w := w) (op := .neq) (t := t) (x := xo) (y := yo) (xs := xs) (ys := ys) h2
      simp [e, Go.binOp, h3 w]
    · exact hr.elim
  · exact hr.elim
theorem eqGuard_if {op : BinOp} {t : TypeId} {x y : Operand} {a b : Value} {c : Bool} (he : ifeq (isConst x || isConst y) a b = some c) : (eqGuard op t x y a b).run P w = .ok () w := by
  unfold ifeq at he
  split at he
  · split at he
    · rename_i hc
      unfold eqGuard
      cases x <;> cases y <;> simp [isConst] at hc <;> cases op <;> rfl
    · cases he
  · unfold eqGuard; cases op <;> rfl
  · unfold eqGuard; cases op <;> rfl
  · cases he
theorem run_equal_if (t : TypeId) (ms : _) {a b : Value} {k c : Bool} (hu : P.underlying t = some (.interface ms)) (he : ifeq k a b = some c) (w : World) : (Op.equal t a b).run P w = .ok c w := by
  have hu' := run_underlying (P := P) hu w
  have key : ∀ d, (Op.equalIn (d + 1) t a b).run P w = .ok c w := by
    intro d
    unfold ifeq at he
    split at he
    · split at he
      · cases he; simp [Op.equalIn, hu']
      · cases he
    · cases he; simp [Op.equalIn, hu']
    · cases he; simp [Op.equalIn, hu']
    · cases he
  exact key 9999
theorem bino_sound {x : Bool} {op : BinOp} {t : TypeId} {a b : Value} {K : Value → Prop} (xo yo : Operand) (h : Heap) (hr : bino P x op t xo yo a b K) :
    ∃ v, K v ∧ Yields2 P op t xo yo a b h v := by
  unfold bino at hr
  split at hr
  · rename_i ms hu
    split at hr
    · obtain ⟨c, h1, h2⟩ := hr
      refine ⟨_, h2, fun w hw => ?_⟩
      have e := eqGuard_if (P := P) (w := w) (op := .eql) (t := t) h1
      have := run_equal_if (P := P) t ms hu h1 w
      unfold ifeq at h1
      split at h1 <;> (try cases h1) <;> simp [e, Go.binOp, this]
    · obtain ⟨c, h1, h2⟩ := hr
      refine ⟨_, h2, fun w hw => ?_⟩
      have e := eqGuard_if (P := P) (w := w) (op := .neq) (t := t) h1
      have := run_equal_if (P := P) t ms hu h1 w
      unfold ifeq at h1
      split at h1 <;> (try cases h1) <;> simp [e, Go.binOp, this]
    · exact hr.elim
  · rename_i k e hu
    split at hr
    · obtain ⟨c, h1, h2⟩ := hr
      obtain ⟨m, rfl, rfl, rfl⟩ := meq_eq h1
      refine ⟨_, h2, fun w hw => ?_⟩
      have e := eqGuard_map (P := P) (w := w) (op := .eql) (t := t) (x := xo) (y := yo) (m := m) (n := none)
      have := run_equal_map_nil (P := P) t _ _ m hu w
      simp [e, Go.binOp, this]
    · obtain ⟨c, h1, h2⟩ := hr
      obtain ⟨m, rfl, rfl, rfl⟩ := meq_eq h1
      refine ⟨_, h2, fun w hw => ?_⟩
      have e := eqGuard_map (P := P) (w := w) (op := .neq) (t := t) (x := xo) (y := yo) (m := m) (n := none)
      have := run_equal_map_nil (P := P) t _ _ m hu w
      simp [e, Go.binOp, this]
    · exact hr.elim
  · exact binv_sound xo yo h hr
theorem unv_sound {x : Bool} {op : UnOp} {a : Value} {K : Value → Prop} (h : Heap) (hr : unv x op a K) : ∃ v, K v ∧ Yields P (Op.unary op a) h v := by
  unfold unv at hr
  split at hr
  · exact ⟨_, hr, fun w _ => by simp [Op.unary]⟩
  · exact ⟨_, arith_spec hr, fun w _ => by simp [Op.unary, Op.intArith]⟩
  · exact ⟨_, hr, fun w _ => by simp [Op.unary, intBits_xor]⟩
  · exact hr.elim
theorem convv_sound {x : Bool} {s d : TypeId} {a : Value} {K : Value → Prop} (h : Heap) (hr : convv P x s d a K) : ∃ v, K v ∧ Yields P (convert s d a) h v := by
  unfold convv at hr
  split at hr
  · rename_i hs hd
    exact ⟨_, arith_spec hr, fun w _ => by
      have h1 := run_underlying (P := P) hs w
      have h2 := run_underlying (P := P) hd w
      simp [convert, h1, h2, Conv.intToInt]⟩
  · exact hr.elim
theorem hasInfo_spec {t : TypeId} (h : hasInfo P t = true) : ∃ i, P.info? t = some i ∧ sz P t = i.size := by
  unfold hasInfo at h
  split at h
  · rename_i i hi; exact ⟨i, hi, by simp [sz, hi]⟩
  · cases h
theorem run_sizeOf {t : TypeId} (h : hasInfo P t = true) (w : World) : (sizeOf t).run P w = .ok (sz P t) w := by
  obtain ⟨i, hi, hs⟩ := hasInfo_spec h
  simp [sizeOf, typeInfo, hi, hs]
theorem fieldOff_spec {t : TypeId} {f : Nat} {K : Nat → TypeId → Prop} (hr : fieldOff P t f K) :
    ∃ fs fd, P.underlying t = some (.struct fs) ∧ fs[f]? = some fd ∧ hasInfo P fd.type = true ∧ sz P fd.type ≠ 0 ∧ K fd.offset fd.type := by
  unfold fieldOff at hr
  split at hr
  · rename_i fs hu
    split at hr
    · rename_i fd hf
      split at hr
      · rename_i n hi hs
        exact ⟨fs, fd, hu, hf, hi, by rw [hs]; omega, hr⟩
      · exact hr.elim
    · exact hr.elim
  · exact hr.elim
theorem fieldAt_sound {t : TypeId} {a : Value} {f : Nat} {K : Value → Prop} (h : Heap)
    (hr : onPtr a fun b o => fieldOff P t f fun off _ => K (.pointer (some ⟨b, o + off, none⟩))) : ∃ v, K v ∧ Yields P (Instr.fieldAt t a f) h v := by
  obtain ⟨b, o, rfl, hr2⟩ := onPtr_spec hr
  obtain ⟨fs, fd, hu, hf, hi, hs, hr3⟩ := fieldOff_spec hr2
  refine ⟨_, hr3, fun w _ => ?_⟩
  have h1 := run_underlying (P := P) hu w
  have h2 := run_sizeOf (P := P) hi w
  simp [Instr.fieldAt, h1, hf, Instr.sureAddr, fieldPlace, h2, hs, add_eq]
theorem row_cells {h : Heap} {b : Nat} : ∀ {n o : Nat} {cs : List Value}, row h b o n = some cs → cs.length = n ∧ ∀ j v, cs[j]? = some v → cell h b (o + j) = some v
  | 0, o, cs, hr => by simp [row] at hr; subst hr; simp
  | n + 1, o, cs, hr => by
    simp only [row] at hr
    split at hr
    · rename_i v r h1 h2
      cases hr
      obtain ⟨i1, i2⟩ := row_cells h2
      refine ⟨by simp [i1], fun j u hj => ?_⟩
      cases j with
      | zero => simp at hj; subst hj; simpa using h1
      | succ j => simp at hj; have := i2 j u hj; rw [show o + 1 + j = o + (j + 1) by omega] at this; exact this
    · cases hr
theorem run_loadCells_of_row {h : Heap} {b o n : Nat} {cs : List Value} (hr : row h b o n = some cs) (hw : w.heap = h) : (loadCells ⟨b, o, none⟩ n).run P w = .ok cs.toArray w := by
  obtain ⟨h1, h2⟩ := row_cells hr
  subst h1
  refine run_loadCells_list w _ cs fun j v hj => ?_
  rw [add_eq, cell?_eq, hw]; exact h2 j v hj
theorem one_spec {d : TypeDesc} {c : Option Value} {K : Value → Prop} (h : one d c K) : ∃ v, c = some v ∧ K v := by
  unfold one at h
  split at h
  · obtain ⟨n, h1, h2⟩ := h; exact ⟨_, h1, h2⟩
  · obtain ⟨n, h1, h2⟩ := h; exact ⟨_, h1, h2⟩
  · obtain ⟨n, h1, h2⟩ := h; exact ⟨_, h1, h2⟩
  · obtain ⟨n, l, m, h1, h2⟩ := h; exact ⟨_, h1, h2⟩
  · obtain ⟨n, h1, h2⟩ := h; exact ⟨_, h1, h2⟩
  · obtain ⟨n, h1, h2⟩ := h; exact ⟨_, h1, h2⟩
theorem ldv_sound {t : TypeId} {h : Heap} {b o : Nat} {K : Value → Prop} (hr : ldv P t h b o K) : ∃ v, K v ∧ Yields P (Instr.loadAt t (.pointer (some ⟨b, o, none⟩))) h v := by
  unfold ldv at hr
  split at hr
  · rename_i hu
    split at hr
    · rename_i hi
      obtain ⟨cs, h1, h2⟩ := hr
      refine ⟨_, h2, fun w hw => ?_⟩
      have e1 := run_underlying (P := P) hu w
      have e2 := run_sizeOf (P := P) hi w
      have e3 := run_loadCells_of_row (P := P) h1 hw
      simp [Instr.loadAt, Instr.sureAddr, loadVar, isAgg, e1, e2, e3]
    · exact hr.elim
  · rename_i hu
    split at hr
    · rename_i hi
      obtain ⟨cs, h1, h2⟩ := hr
      refine ⟨_, h2, fun w hw => ?_⟩
      have e1 := run_underlying (P := P) hu w
      have e2 := run_sizeOf (P := P) hi w
      have e3 := run_loadCells_of_row (P := P) h1 hw
      simp [Instr.loadAt, Instr.sureAddr, loadVar, isAgg, e1, e2, e3]
    · exact hr.elim
  · rename_i d n1 n2 hu
    obtain ⟨v, h1, h2⟩ := one_spec hr
    refine ⟨v, h2, fun w hw => ?_⟩
    have e1 := run_underlying (P := P) hu w
    have e2 : w.cell? ⟨b, o, none⟩ = some v := by rw [cell?_eq, hw]; exact h1
    cases d <;> first | exact (n1 _ rfl).elim | exact (n2 _ _ rfl).elim | simp [Instr.loadAt, Instr.sureAddr, loadVar, isAgg, e1, e2]
  · exact hr.elim
theorem aggv_sound {t : TypeId} {a : Value} {off : Nat} {K : Value → Prop} (h : Heap) (hr : aggv P t a off K) :
    ∃ cs, a = .agg cs ∧ ∃ v, K v ∧ Yields P (part t cs off) h v := by
  unfold aggv at hr
  split at hr
  · rename_i cs
    refine ⟨cs, rfl, ?_⟩
    split at hr
    · rename_i hu
      split at hr
      · rename_i hi
        refine ⟨_, hr, fun w hw => ?_⟩
        have e1 := run_underlying (P := P) hu w
        have e2 := run_sizeOf (P := P) hi w
        have e3 : cs.extract off (off + sz P t) = (List.take (sz P t) (List.drop off cs.toList)).toArray := by
          apply Array.ext'; simp [List.take_drop]
        simp [part, isAgg, e1, e2, e3]
      · exact hr.elim
    · rename_i hu
      split at hr
      · rename_i hi
        refine ⟨_, hr, fun w hw => ?_⟩
        have e1 := run_underlying (P := P) hu w
        have e2 := run_sizeOf (P := P) hi w
        have e3 : cs.extract off (off + sz P t) = (List.take (sz P t) (List.drop off cs.toList)).toArray := by
          apply Array.ext'; simp [List.take_drop]
        simp [part, isAgg, e1, e2, e3]
      · exact hr.elim
    · rename_i d n1 n2 hu
      obtain ⟨v, h1, h2⟩ := one_spec hr
      refine ⟨v, h2, fun w hw => ?_⟩
      have e1 := run_underlying (P := P) hu w
      have e2 : cs[off]? = some v := by simpa using h1
      cases d <;> first | exact (n1 _ rfl).elim | exact (n2 _ _ rfl).elim | simp [part, isAgg, e1, e2]
    · exact hr.elim
  · exact hr.elim
end Go.Vc
