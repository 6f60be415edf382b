import Derived.Test.YtepodifionoigaaGreatDoorVcEf
set_option linter.unusedVariables false
set_option linter.unusedSimpArgs false
namespace Go.Vc
variable {P : Program}
def Point (F : (Value → Prop) → Prop) (K : Value → Prop) : Prop := ∃ v, K v ∧ ∀ K' : Value → Prop, K' v → F K'
theorem Point.here {K : Value → Prop} {v : Value} (h : K v) : Point (fun K => K v) K := ⟨v, h, fun _ k => k⟩
theorem Point.of {F : (Value → Prop) → Prop} {K : Value → Prop} {v : Value} (h : K v) (f : ∀ K' : Value → Prop, K' v → F K') : Point F K := ⟨v, h, f⟩
theorem arith_point {x : Bool} {k : IntKind} {e : Int} {K : Value → Prop} (h : arith x k e K) : Point (arith x k e) K := by
  cases x
  · exact .of h fun _ k => k
  · exact .of h.2 fun _ k => ⟨h.1, k⟩
theorem iop_point {x : Bool} {op : BinOp} {k : IntKind} {m n : Int} {K : Value → Prop} (h : iop x op k m n K) : Point (iop x op k m n) K := by
  cases op <;> first
    | exact arith_point h
    | exact .of h fun _ k => k
    | exact h.elim
    | (cases x
       · exact .of h.2 fun _ k => ⟨h.1, k⟩
       · exact .of h.2 fun _ k => ⟨h.1, k⟩)
theorem shop_point {x : Bool} {op : BinOp} {k : IntKind} {m n : Int} {K : Value → Prop} (h : shop x op k m n K) : Point (shop x op k m n) K := by
  cases op <;> first
    | exact h.elim
    | exact .of h.2 fun _ k => ⟨h.1, k⟩
    | (obtain ⟨h1, h2⟩ := h; obtain ⟨v, h3, h4⟩ := arith_point h2; exact ⟨v, h3, fun K' k => ⟨h1, h4 K' k⟩⟩)
theorem arrEq_point {t : TypeId} {xs ys : Array Value} {f : Bool → Value} {K : Value → Prop} (h : arrEq P t xs ys fun c => K (f c)) : Point (fun K => arrEq P t xs ys fun c => K (f c)) K := by
  unfold arrEq at h
  split at h
  · rename_i n e hu
    split at h
    · rename_i k he hg
      split at h
      · rename_i hs hi
        obtain ⟨l, r, h1, h2, h3, h4⟩ := h
        exact .of h4 fun _ k => (by unfold arrEq; simp only [hu, he, hg, hs, hi]; exact ⟨l, r, h1, h2, h3, k⟩)
      · exact h.elim
    · exact h.elim
  · exact h.elim
theorem binv_point {x : Bool} {op : BinOp} {t : TypeId} {a b : Value} {K : Value → Prop} (h : binv P x op t a b K) : Point (binv P x op t a b) K := by
  unfold binv at h
  split at h
  · split at h
    · exact shop_point h
    · exact shop_point h
    · rename_i op' n1 n2
      split at h
      · rename_i hk
        cases op' <;> first | exact (n1 rfl).elim | exact (n2 rfl).elim | (obtain ⟨v, k1, k2⟩ := iop_point h; exact ⟨v, k1, fun K' k => (by unfold binv; simp only [hk]; exact k2 K' k)⟩)
      · exact h.elim
  · split at h
    · rename_i hu; exact .of h fun _ k => (by unfold binv; simp only [hu]; exact k)
    · rename_i hu; exact .of h fun _ k => (by unfold binv; simp only [hu]; exact k)
    · exact h.elim
  · split at h
    · exact .of h.2 fun _ k => ⟨h.1, k⟩
    · exact .of h fun _ k => k
    · exact .of h fun _ k => k
    · exact h.elim
  · split at h
    · rename_i hu; exact .of h fun _ k => (by unfold binv; simp only [hu]; exact k)
    · rename_i hu; exact .of h fun _ k => (by unfold binv; simp only [hu]; exact k)
    · exact h.elim
  · split at h
    · rename_i hu; exact .of h fun _ k => (by unfold binv; simp only [hu]; exact k)
    · rename_i hu; exact .of h fun _ k => (by unfold binv; simp only [hu]; exact k)
    · exact h.elim
  · split at h
    · exact arrEq_point h
    · exact arrEq_point h
    · exact h.elim
  · exact h.elim
theorem bino_point {x : Bool} {op : BinOp} {t : TypeId} {xo yo : Operand} {a b : Value} {K : Value → Prop} (h : bino P x op t xo yo a b K) : Point (bino P x op t xo yo a b) K := by
  unfold bino at h
  split at h
  · rename_i hu
    split at h
    · obtain ⟨c, h1, h2⟩ := h
      exact .of h2 fun _ k => (by unfold bino; simp only [hu]; exact ⟨c, h1, k⟩)
    · obtain ⟨c, h1, h2⟩ := h
      exact .of h2 fun _ k => (by unfold bino; simp only [hu]; exact ⟨c, h1, k⟩)
    · exact h.elim
  · rename_i hu
    split at h
    · obtain ⟨c, h1, h2⟩ := h
      exact .of h2 fun _ k => (by unfold bino; simp only [hu]; exact ⟨c, h1, k⟩)
    · obtain ⟨c, h1, h2⟩ := h
      exact .of h2 fun _ k => (by unfold bino; simp only [hu]; exact ⟨c, h1, k⟩)
    · exact h.elim
  · rename_i hu hu2
    obtain ⟨v, k1, k2⟩ := binv_point h
    refine ⟨v, k1, fun K' k => ?_⟩
    unfold bino
    split
    · rename_i ms he; exact absurd he (hu ms)
    · rename_i k0 e0 he; exact absurd he (hu2 k0 e0)
    · exact k2 K' k
theorem unv_point {x : Bool} {op : UnOp} {a : Value} {K : Value → Prop} (h : unv x op a K) : Point (unv x op a) K := by
  unfold unv at h
  split at h
  · exact .of h fun _ k => k
  · exact arith_point h
  · exact .of h fun _ k => k
  · exact h.elim
theorem convv_point {x : Bool} {s d : TypeId} {a : Value} {K : Value → Prop} (h : convv P x s d a K) : Point (convv P x s d a) K := by
  unfold convv at h
  split at h
  · rename_i hs hd; (obtain ⟨v, k1, k2⟩ := arith_point h; exact ⟨v, k1, fun K' k => (by unfold convv; simp only [hs, hd]; exact k2 K' k)⟩)
  · exact h.elim
theorem one_point {d : TypeDesc} {c : Option Value} {K : Value → Prop} (h : one d c K) : Point (one d c) K := by
  unfold one at h
  split at h
  · obtain ⟨n, h1, h2⟩ := h; exact .of h2 fun _ k => ⟨_, h1, k⟩
  · obtain ⟨n, h1, h2⟩ := h; exact .of h2 fun _ k => ⟨_, h1, k⟩
  · obtain ⟨n, h1, h2⟩ := h; exact .of h2 fun _ k => ⟨_, h1, k⟩
  · obtain ⟨n, l, m, h1, h2⟩ := h; exact .of h2 fun _ k => ⟨_, _, _, h1, k⟩
  · obtain ⟨n, h1, h2⟩ := h; exact .of h2 fun _ k => ⟨_, h1, k⟩
  · rename_i n1 n2 n3 n4 n5
    obtain ⟨n, h1, h2⟩ := h
    refine .of h2 fun _ k => ?_
    cases d <;> first | exact (n1 _ rfl).elim | exact (n2 rfl).elim | exact (n3 _ rfl).elim | exact (n4 _ rfl).elim | exact (n5 rfl).elim | exact ⟨_, h1, k⟩
theorem aggv_point {t : TypeId} {a : Value} {off : Nat} {K : Value → Prop} (h : aggv P t a off K) : Point (aggv P t a off) K := by
  unfold aggv at h
  split at h
  · split at h
    · rename_i hu
      split at h
      · rename_i hi; exact .of h fun _ k => (by unfold aggv; simp only [hu, hi]; exact k)
      · exact h.elim
    · rename_i hu
      split at h
      · rename_i hi; exact .of h fun _ k => (by unfold aggv; simp only [hu, hi]; exact k)
      · exact h.elim
    · rename_i d n1 n2 hu
      obtain ⟨v, h1, h2⟩ := one_point h
      refine ⟨v, h1, fun K' k => ?_⟩
      have := h2 K' k
      unfold aggv
      simp only [hu]
      cases d <;> first | exact (n1 _ rfl).elim | exact (n2 _ _ rfl).elim | exact this
    · exact h.elim
  · exact h.elim
theorem fieldOff_iff {t : TypeId} {f : Nat} {G : Nat → TypeId → Prop} : fieldOff P t f G ↔ ∃ fs fd, P.underlying t = some (.struct fs) ∧ fs[f]? = some fd ∧ hasInfo P fd.type = true ∧ sz P fd.type ≠ 0 ∧ G fd.offset fd.type := by
  refine ⟨fieldOff_spec, fun ⟨fs, fd, h1, h2, h3, h4, h5⟩ => ?_⟩
  unfold fieldOff
  simp only [h1, h2, h3]
  cases hs : sz P fd.type with
  | zero => exact absurd hs h4
  | succ n => exact h5
theorem slice3v_point {t : TypeId} {v : Value} {lo hi : Option Value} {mx : Value} {K : Value → Prop} (h : slice3v P t v lo hi mx K) : Point (slice3v P t v lo hi mx) K := by
  unfold slice3v at h
  split at h
  · rename_i e a len cap hu
    split at h
    · rename_i hi'
      rcases lowv_spec h with ⟨rfl, h2⟩ | ⟨k, n, rfl, h2⟩
      · split at h2
        · exact .of h2.2 fun _ k => (by unfold slice3v; simp only [hu, hi']; exact ⟨h2.1, k⟩)
        · exact h2.elim
      · split at h2
        · exact .of h2.2 fun _ k => (by unfold slice3v; simp only [hu, hi']; exact ⟨h2.1, k⟩)
        · exact h2.elim
    · exact h.elim
  · exact h.elim
theorem slicev_point {t : TypeId} {v : Value} {lo hi : Option Value} {K : Value → Prop} (h : slicev P t v lo hi K) : Point (slicev P t v lo hi) K := by
  unfold slicev at h
  split at h
  · rename_i e a len cap hu
    split at h
    · rename_i hi'
      rcases lowv_spec h with ⟨rfl, h2⟩ | ⟨k, n, rfl, h2⟩
      · split at h2
        · exact .of h2.2 fun _ k => (by unfold slicev; simp only [hu, hi']; exact ⟨h2.1, k⟩)
        · exact .of h2.2 fun _ k => (by unfold slicev; simp only [hu, hi']; exact ⟨h2.1, k⟩)
        · exact h2.elim
      · split at h2
        · exact .of h2.2 fun _ k => (by unfold slicev; simp only [hu, hi']; exact ⟨h2.1, k⟩)
        · exact .of h2.2 fun _ k => (by unfold slicev; simp only [hu, hi']; exact ⟨h2.1, k⟩)
        · exact h2.elim
    · exact h.elim
  · rename_i n e p hu
    split at h
    · rename_i hi'
      obtain ⟨b, o, rfl, h2⟩ := onAddr_spec h
      exact .of h2 fun _ k => (by unfold slicev; simp only [hu, hi']; exact k)
    · exact h.elim
  · rename_i s hu
    rcases lowv_spec h with ⟨rfl, h2⟩ | ⟨k, n, rfl, h2⟩
    · split at h2
      · exact .of h2.2 fun _ k => (by unfold slicev; simp only [hu]; exact ⟨h2.1, k⟩)
      · exact .of h2.2 fun _ k => (by unfold slicev; simp only [hu]; exact ⟨h2.1, k⟩)
      · exact h2.elim
    · split at h2
      · exact .of h2.2 fun _ k => (by unfold slicev; simp only [hu]; exact ⟨h2.1, k⟩)
      · exact .of h2.2 fun _ k => (by unfold slicev; simp only [hu]; exact ⟨h2.1, k⟩)
      · exact h2.elim
  · exact h.elim
theorem mnv_point {a b : Value} {K : Value → Prop} (h : mnv a b K) : Point (mnv a b) K := by
  unfold mnv at h
  split at h
  · split at h
    · rename_i hk; exact .of h fun _ k => (by unfold mnv; simp only [hk]; exact k)
    · exact h.elim
  · exact h.elim
theorem mxv_point {a b : Value} {K : Value → Prop} (h : mxv a b K) : Point (mxv a b) K := by
  unfold mxv at h
  split at h
  · split at h
    · rename_i hk; exact .of h fun _ k => (by unfold mxv; simp only [hk]; exact k)
    · exact h.elim
  · exact h.elim
theorem bltv_point {b : Builtin} {ts : List TypeId} {vs : List Value} {K : Value → Prop} (h : bltv P b ts vs K) : Point (bltv P b ts vs) K := by
  unfold bltv at h
  split at h
  · split at h
    · rename_i hu; exact .of h fun _ k => (by unfold bltv; simp only [hu]; exact k)
    · rename_i hu; exact .of h fun _ k => (by unfold bltv; simp only [hu]; exact k)
    · rename_i hu; exact .of h fun _ k => (by unfold bltv; simp only [hu]; exact k)
    · exact h.elim
  · split at h
    · rename_i hu; exact .of h fun _ k => (by unfold bltv; simp only [hu]; exact k)
    · exact h.elim
  · exact mnv_point h
  · exact mxv_point h
  · exact h.elim
theorem asv_point {T : TypeId} {ok : Bool} {a : Value} {K : Value → Prop} (hr : asv P T ok a K) : Point (asv P T ok a) K := by
  unfold asv at hr
  split at hr
  · exact hr.elim
  · rename_i d nif hu
    obtain ⟨x, h1, h2⟩ := anyOf_point hr
    cases ok
    · refine .of h1.2 fun K' k => ?_
      unfold asv
      split
      · rename_i hu'; rw [hu] at hu'; exact nif _ (Option.some.inj hu')
      · exact h2 _ ⟨h1.1, k⟩
      · rename_i hu'; rw [hu] at hu'; cases hu'
    · obtain ⟨t, h3, h4⟩ := h1
      refine .of h4 fun K' k => ?_
      unfold asv
      split
      · rename_i hu'; rw [hu] at hu'; exact nif _ (Option.some.inj hu')
      · exact h2 _ ⟨t, h3, k⟩
      · rename_i hu'; rw [hu] at hu'; cases hu'
  · exact hr.elim
def needsHeap : Op → Bool
  | .load .. => true
  | _ => false
theorem rd_indep {x : Md} {ρ : Operand → Value} {op : Op} {h h' : Heap} {K : Value → Prop} (hn : needsHeap op = false) (hr : rd P x ρ op h K) : rd P x ρ op h' K := by
  cases op
  case slice t a lo hi mx => cases mx <;> exact hr
  case call c => obtain ⟨callee, args, ts⟩ := c; cases callee <;> exact hr
  case load => cases hn
  all_goals exact hr
theorem namev_of {nm : Bool} {v : Value} {K : Value → Prop} (k : K v) : namev nm v K := by
  unfold namev
  split
  · exact k
  · split
    · intro x hx; rw [hx]; exact k
    · exact k
theorem rd_point {x : Md} {ρ : Operand → Value} {op : Op} {h : Heap} {K : Value → Prop} (hn : needsHeap op = false) (hr : rd P x ρ op h K) : Point (rd P x ρ op h) K := by
  unfold rd at hr
  split at hr
  · exact .of hr fun _ k => k
  · exact .of (namev_spec hr) fun K' k => namev_of k
  · split at hr
    · rename_i t ht
      rcases bcase_spec hr with ⟨rfl, h1⟩ | ⟨rfl, h1⟩ <;> exact .of h1 fun _ k => (by unfold rd; simp only [ht]; exact k)
    · exact hr.elim
  · exact bino_point hr
  · exact unv_point hr
  · exact convv_point hr
  · split at hr
    · rename_i p hp
      obtain ⟨b, o, rfl, h1⟩ := onAddr_spec hr
      exact .of h1 fun _ k => (by unfold rd; simp only [hp]; exact k)
    · exact hr.elim
  · rename_i t a f
    obtain ⟨b, o, hp, h1⟩ := onPtr_spec hr
    obtain ⟨fs, fd, k1, k2, k3, k4, k5⟩ := fieldOff_spec h1
    exact .of k5 fun K' k => (by unfold rd; simp only [hp]; exact (fieldOff_iff (G := fun off _ => K' (.pointer (some ⟨b, o + off, none⟩)))).2 ⟨fs, fd, k1, k2, k3, k4, k⟩)
  · rename_i t a f
    obtain ⟨fs, fd, k1, k2, k3, k4, k5⟩ := fieldOff_spec hr
    obtain ⟨v, k6, k7⟩ := aggv_point k5
    exact ⟨v, k6, fun K' k => (by unfold rd; exact (fieldOff_iff (G := fun off ty => aggv P ty (ρ a) off K')).2 ⟨fs, fd, k1, k2, k3, k4, k7 K' k⟩)⟩
  · split at hr
    · rename_i hi
      split at hr
      · rename_i hu
        split at hr
        · rename_i hi'
          obtain ⟨b, o, hp, h1⟩ := onPtr_spec hr
          exact .of h1.2 fun _ k => (by unfold rd; simp only [hi, hu, hi', hp]; exact ⟨h1.1, k⟩)
        · exact hr.elim
      · rename_i hu ha
        split at hr
        · rename_i hi'
          obtain ⟨b, o, rfl, h1⟩ := onAddr_spec hr.2
          exact .of h1 fun _ k => (by unfold rd; simp only [hi, hu, ha, hi']; exact ⟨hr.1, k⟩)
        · exact hr.elim
      · exact hr.elim
    · exact hr.elim
  · cases hn
  · split at hr
    · rename_i hi
      split at hr
      · rename_i hu
        split at hr
        · rename_i hi'
          obtain ⟨v, h3, h4⟩ := aggv_point hr.2
          exact ⟨v, h3, fun K' k => (by unfold rd; simp only [hi, hu, hi']; exact ⟨hr.1, h4 K' k⟩)⟩
        · exact hr.elim
      · rename_i hu ha
        exact .of hr.2 fun _ k => (by unfold rd; simp only [hi, hu, ha]; exact ⟨hr.1, k⟩)
      · exact hr.elim
    · exact hr.elim
  · split at hr
    · rename_i vs hv
      split at hr
      · rename_i v hi; exact .of hr fun _ k => (by unfold rd; simp only [hv, hi]; exact k)
      · exact hr.elim
    · exact hr.elim
  · exact slicev_point hr
  · exact slice3v_point hr
  · exact asv_point hr
  · split at hr
    · exact hr.elim
    · rename_i d n1 hu
      refine .of hr fun _ k => ?_
      unfold rd
      simp only [hu]
      cases d <;> first | exact (n1 _ rfl).elim | exact k
    · exact hr.elim
  · exact .of hr fun _ k => k
  · obtain ⟨v, h1, h2, _⟩ := buildv_sound (P := P) hr
    exact ⟨v, h1, h2⟩
  · exact bltv_point hr
  · exact hr.elim
theorem rd_sound_pure {x : Md} {ρ : Operand → Value} {o : Oper} {h : Heap} {K : Value → Prop} (hn : needsHeap o.op = false) (hr : rd P x ρ o.op h K) :
    ∃ v, K v ∧ ∀ w : World, (execOp ρ o).run P w = .ok (.value v) w := by
  obtain ⟨v, h1, h2⟩ := rd_point hn hr
  refine ⟨v, h1, fun w => ?_⟩
  obtain ⟨u, hu, h3⟩ := rd_sound (P := P) (o := o) (rd_indep (h' := w.heap) hn (h2 (fun u => u = v) rfl))
  subst hu
  exact h3 w rfl
end Go.Vc
