/- What a row's listed variables (api's errors) give a walk: each holds a pointer of its own. -/
import Derived.Test.YtgkpnfnkaplebaaGreatDoorErr
import Derived.Test.YtgkpnfnkaplebaaGreatDoorRows
import Derived.LaidMore
import Derived.LaidLaws
import Derived.LaidSub
set_option linter.unusedVariables false
set_option linter.unusedSimpArgs false
namespace Go.Proofs.YtgkpnfnkaplebaaGreatDoor
open Go.Vc
theorem star_es : "*" ++ "errors.errorString" = "*errors.errorString" := by decide
theorem rowES (u : TypeId) (h : Tryz.prog.typeName? 3 u = some "*errors.errorString") : u = 410 :=
  typeName_ptr_named (nm := "errors.errorString") (by rw [star_es]; kernel_rfl) (by kernel_rfl) (by decide) u (by rw [star_es]; exact h)
noncomputable def mkE (x : String × List UInt8) : String × DataW Unit := (x.1, .iface "*errors.errorString" (.ptr (.agg [.lit (.string x.2)])))
noncomputable def errTied (l : List (String × List UInt8)) : Bool := l.all fun x => ((Tryz.prog.globalNamed x.1).bind fun g => (Tryz.prog.globals[g]?).map (·.type)) == some 28
theorem cellsOf_es : Tryz.prog.cellsOf 412 = 1 := by kernel_rfl
theorem cellsOf_str : Tryz.prog.cellsOf 9 = 1 := by kernel_rfl
set_option maxRecDepth 100000 in
theorem laid_list {W : World} : ∀ (l : List (String × List UInt8)) (ps : List MemPlace), errTied l = true → DataW.LaidVars Tryz.prog W (l.map mkE) ps → ps.Nodup →
    (∀ b off, MemPlace.cell b off ∈ ps → (∃ c t, W.heap[b]? = some (.cells c t (0, 0))) ∧ ∀ u v, W.cell? ⟨b, off, none⟩ = some (.iface u v) → Value.okWide Tryz.prog W .any 0 u v) →
    ∃ ads : List Addr, ads.length = l.length ∧ ads.Nodup ∧ (∀ (i : Nat) (x : String × List UInt8) (a : Addr) (g : Nat), l[i]? = some x → ads[i]? = some a → Tryz.prog.globalNamed x.1 = some g → cell W.heap g 0 = some (ptE a)) ∧
      ∀ a ∈ ads, (∃ c t, W.heap[a.block]? = some (.cells c t (0, 0))) ∧ MemPlace.cell a.block a.off ∈ ps
  | [], ps, _, _, _, _ => ⟨[], rfl, List.nodup_nil, fun i x a g h => by simp at h, fun a h => by cases h⟩
  | x :: l, ps, ht, hL, hnd, hrows => by
    simp only [errTied, List.all_cons, Bool.and_eq_true, beq_iff_eq] at ht
    obtain ⟨g, t, cs, f, p, q, hg, hgt, hv, hd, hq, e⟩ := hL
    have hg' : Tryz.prog.globalNamed x.1 = some g := hg
    have ht1 := ht.1
    rw [hg', Option.bind_some, hgt] at ht1
    obtain rfl := Option.some.inj ht1
    subst e
    obtain ⟨cl⟩ := cs
    have hcell : ∀ v, cl = [v] → W.cell? ⟨g, 0, none⟩ = some v := fun v e => by
      subst e
      have hv' : W.var? Tryz.prog x.1 = some (⟨[v]⟩ : Array Value) := hv
      have h0 := World.var?_cell hg' hv' 0
      exact h0
    have hgm : ∀ v, cl = [v] → MemPlace.cell g 0 ∈ MemPlace.row ⟨g, 0, none⟩ (⟨cl⟩ : Array Value).size ++ p ++ q := fun v e => by
      subst e
      simp [MemPlace.row]
    obtain ⟨a, s, rfl, hc, hs, hz, rfl⟩ := errorString_of_trod Tryz.underlying28 rowES Tryz.underlying410 Tryz.underlying412 rfl rfl Tryz.underlying9 cellsOf_es cellsOf_str hd
      (fun u v e => (hrows g 0 (hgm _ e)).2 u v (hcell _ e))
    have hc0 := hcell _ rfl
    have hnd2 : q.Nodup := (List.nodup_append.1 hnd).2.1
    obtain ⟨ads, h1, h2, h3, h4⟩ := laid_list l q (by simpa [errTied] using ht.2) hq hnd2 (fun b off hm => hrows b off (List.mem_append_right _ hm))
    have ham : MemPlace.cell a.block a.off ∈ MemPlace.row a 1 := by simp [MemPlace.row]
    have hmem : MemPlace.cell a.block a.off ∈ MemPlace.row ⟨g, 0, none⟩ (⟨[.iface 410 (.pointer (some a))]⟩ : Array Value).size ++ MemPlace.row a 1 ++ q := List.mem_append_left _ (List.mem_append_right _ ham)
    have hno : a ∉ ads := fun hc => (List.nodup_append.1 hnd).2.2 _ (List.mem_append_right _ ham) _ (h4 a hc).2 rfl
    refine ⟨a :: ads, by simp [h1], List.nodup_cons.2 ⟨hno, h2⟩, fun i y b g' hi hb hg2 => ?_, fun b hb => ?_⟩
    · cases i with
      | zero =>
        simp at hi hb
        subst hi hb
        rw [hg'] at hg2; cases hg2
        rw [← cell?_eq]; exact hc0
      | succ i => exact h3 i y b g' (by simpa using hi) (by simpa using hb) hg2
    · rcases List.mem_cons.1 hb with rfl | hb
      · exact ⟨(hrows _ _ hmem).1, hmem⟩
      · exact ⟨(h4 b hb).1, List.mem_append_right _ (h4 b hb).2⟩
end Go.Proofs.YtgkpnfnkaplebaaGreatDoor
