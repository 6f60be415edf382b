import Derived.Test.YtepodifionoigaaGreatDoorVcDraw
import Derived.Below
set_option linter.unusedVariables false
set_option linter.unusedSimpArgs false
namespace Go.Vc
variable {P : Program}

def resG (tmps : Array Value) : ResultVar → Sem Value
  | .tmp t => pure (tmps.getD t undef)
  | .cell a t => do loadVar t (← asAddr (tmps.getD a undef))
theorem results_resG (fn : Func) (tmps : Array Value) : results fn tmps = (do
    let vs ← fn.results.mapM (resG tmps)
    pure (if h : vs.size = 1 then vs[0] else .tuple vs)) := by
  unfold results
  have : (fun x : ResultVar => (match x with
      | .tmp t => pure (tmps.getD t undef)
      | .cell a t => do loadVar t (← asAddr (tmps.getD a undef)) : Sem Value)) = resG tmps := by
    funext x; cases x <;> rfl
  rw [← this]
  rfl
theorem resv_sound {N : Nat} {t : Env} {a : Act} {w : World} {h : Heap} (hr : Rel N t a) (hw : w.heap = h) : ∀ {rs : List ResultVar} {K : List Value → Prop}, resv P rs t h K →
    ∃ vs, K vs ∧ (rs.mapM (resG a.tmps)).run P w = .ok vs w
  | [], K, hv => ⟨[], hv, rfl⟩
  | .tmp n :: r, K, hv => by
    obtain ⟨vs, h1, h2⟩ := resv_sound hr hw (rs := r) hv
    refine ⟨_, h1, ?_⟩
    have e1 : (resG a.tmps (.tmp n)).run P w = .ok (t n) w := by simp [resG, hr.read]
    simp only [List.mapM_cons, Sem.run_bind, e1, Result.andThen_ok, h2, Sem.run_pure]
  | .cell x T :: r, K, hv => by
    obtain ⟨b, o, hp, h1⟩ := onPtr_spec hv
    obtain ⟨v, h2, h3⟩ := ldv_sound (P := P) h1
    obtain ⟨vs, h4, h5⟩ := resv_sound hr hw (rs := r) h2
    refine ⟨_, h4, ?_⟩
    have e1 := h3 w hw
    simp only [Instr.loadAt, Instr.sureAddr, Sem.run_bind, Sem.run_pure, Result.andThen_ok] at e1
    have e2 : (resG a.tmps (.cell x T)).run P w = .ok v w := by simp [resG, hr.read, hp, asAddr, e1]
    simp only [List.mapM_cons, Sem.run_bind, e2, Result.andThen_ok, h5, Sem.run_pure]

theorem results_sound {N : Nat} {t : Env} {a : Act} {w : World} {h : Heap} {fn : Func} {K : Value → Prop} (hr : Rel N t a) (hw : w.heap = h) (hv : resv P fn.results.toList t h fun vs => K (pack vs)) :
    ∃ v, K v ∧ (results fn a.tmps).run P w = .ok v w := by
  obtain ⟨vs, h1, h2⟩ := resv_sound hr hw hv
  refine ⟨_, h1, ?_⟩
  rw [results_resG, Array.mapM_eq_mapM_toList]
  simp only [Sem.run_bind, Sem.run_map]
  rw [h2]
  simp only [Result.andThen_ok, Sem.run_pure]
  match vs with
  | [] => rfl
  | [v] => rfl
  | v :: u :: r => rfl

def ann (P : Program) (N : Nat) (exact : Nat → Md) (loop : Nat → List (Nat × Sh)) (cut : Nat → Option (List (Nat × Sh))) (seg : Nat → List (Nat × List (Nat × Sh))) : Ann := ⟨exact, loop, cut, seg, drawv P exact N⟩

theorem runs_of {f : FuncId} {fn : Func} {c : Code} {args : List Value} {h : Heap} {Post : Value → Heap → Prop} (exact : Nat → Md) (loop : Nat → List (Nat × Sh)) (cut : Nat → Option (List (Nat × Sh))) (seg : Nat → List (Nat × List (Nat × Sh)))
    (hf : P.funcs[f]? = some fn) (hb : fn.body = some c) (hl : args.length ≤ fn.ntmps)
    (hv : fnv P (ann P fn.ntmps exact loop cut seg) fn c args h Post) : Runs P f args.toArray h Post := by
  intro w hw
  refine calls_of_wp hf hb ?_
  have hr : Rel fn.ntmps (initEnv args) { tmps := args.toArray ++ Array.replicate (fn.ntmps - args.toArray.size) undef, defers := [] } := by
    refine ⟨rfl, by simp; omega, fun n => ?_⟩
    unfold initEnv
    rw [Array.getD_eq_getD_getElem?, Array.getElem?_append]
    split
    · rename_i hlt
      simp at hlt
      simp [hlt]
    · rename_i hlt
      simp at hlt
      rw [Array.getElem?_replicate]
      have : args[n]? = none := by simp; omega
      simp only [this]
      split <;> rfl
  have := vc_sound (P := P) (A := ann P fn.ntmps exact loop cut seg) drawv_ok c 0 _ (initEnv args) h _ w hv hr hw
  refine wp_mono this fun e a' w' hl => ?_
  cases e <;> simp only [lift] at hl
  case normal =>
    obtain ⟨t, h1, h2, _, h4⟩ := hl
    obtain ⟨v, h5, h6⟩ := results_sound (K := fun v => Post v w'.heap) h1 rfl h4
    exact ⟨h1.defers, v, h6, v, rfl, h5, h2⟩
  case ret =>
    obtain ⟨t, h1, h2, _, h4⟩ := hl
    obtain ⟨v, h5, h6⟩ := results_sound (K := fun v => Post v w'.heap) h1 rfl h4
    exact ⟨h1.defers, v, h6, v, rfl, h5, h2⟩
  case exit =>
    obtain ⟨t, h1, h2, _, h4⟩ := hl
    exact h4.elim

def Kept (h h' : Heap) : Prop := h.size ≤ h'.size ∧ ∀ b, b < h.size → h'[b]? = h[b]?
theorem Kept.refl (h : Heap) : Kept h h := ⟨Nat.le_refl _, fun _ _ => rfl⟩
theorem Kept.trans {a b c : Heap} (h : Kept a b) (k : Kept b c) : Kept a c := ⟨Nat.le_trans h.1 k.1, fun i hi => (k.2 i (Nat.lt_of_lt_of_le hi h.1)).trans (h.2 i hi)⟩
theorem calls_of_runs {f : FuncId} {args : Array Value} {w : World} {v : Value} (h : Runs P f args w.heap fun u h' => u = v ∧ Kept w.heap h') :
    Calls P f args w fun e w' => e = .returned v ∧ Go.RowKit.Below w.heap.size w w' :=
  (h w rfl).mono fun e w' ⟨u, he, ⟨hu, hk⟩, hs⟩ => ⟨by rw [he, hu], ⟨hs.os, hs.tape, hs.output, hk.1, hk.2⟩⟩

theorem Runs.ret {f : FuncId} {args : Array Value} {h : Heap} {v0 : Value} {Post : Value → Heap → Prop} (hr : Runs P f args h fun v h' => v = v0 ∧ h' = h) (k : Post v0 h) : Runs P f args h Post :=
  hr.mono (by rintro _ _ ⟨rfl, rfl⟩; exact k)
end Go.Vc
