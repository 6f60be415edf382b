/- The abstract machine: from a law's answer on it to the law. -/
import Derived.Test.YtgkpnfnkaplebaaGreatDoorAb16
import Derived.Test.YtgkpnfnkaplebaaGreatDoorDoor
set_option linter.unusedVariables false
set_option linter.unusedSimpArgs false
set_option linter.constructorNameAsVariable false
namespace Go.Proofs.YtgkpnfnkaplebaaGreatDoor
open Go.Vc Go.Ab
section
variable {W : Wd} {ads : List Addr} {φ φ' : Phi} {H H' : AH} {h h' : Heap}
/-- What a law is asked. -/
noncomputable def yesK : DV → AH → Option DV := fun d _ => onV d fun v => isB v fun t => must t (some .n)
theorem hr_start (h : Heap) : HR (Wd.of h) ads (fun _ => none) (AH.mk .e .h) h := by
  refine ⟨fun b x hx => hx, fun p t n es hg => ?_, fun p q t n es t' n' es' l l' hne hg => ?_, (fun p l hp => by cases hp), ⟨fun p es c hg => ?_, fun p q f z hg => ?_, fun p q es c es' c' l l' hne hg => ?_⟩⟩
  · have : T4.get Blk.dead p (.e : T4 Blk) = .c t n es := hg
    rw [T4.get_e] at this; cases this
  · have : T4.get Blk.dead p (.e : T4 Blk) = .c t n es := hg
    rw [T4.get_e] at this; cases this
  · have : T4.get Blk.dead p (.e : T4 Blk) = .m es c := hg
    rw [T4.get_e] at this; cases this
  · have : T4.get Blk.dead p (.e : T4 Blk) = .it q f z := hg
    rw [T4.get_e] at this; cases this
  · have : T4.get Blk.dead p (.e : T4 Blk) = .m es c := hg
    rw [T4.get_e] at this; cases this
/-- A law holds where the machine says yes. -/
theorem law_yes {P : Program} {f : FuncId} {g : G DV} {w : World} (hS : Snd P ads f g) (s : Sna (Wd.of w.heap) ads) {args : List DV} {vs : List Value} (ha : RAs ads (fun _ => none) args vs) (e : g args (AH.mk .e .h) yesK = some .n) :
    Calls P f vs.toArray w fun e w' => e = .returned (.bool true) ∧ Go.RowKit.Below w.heap.size w w' := by
  refine calls_of_runs (hS.2 _ s _ _ w.heap args vs yesK .n _ (hr_start w.heap) ha e fun φ' H' h' d v hl hr hd e => ?_)
  obtain ⟨x, rfl, hx, e⟩ := onV_spec hd e
  obtain ⟨t, rfl, rfl, e⟩ := isB_spec hx e
  obtain ⟨rfl, _⟩ := must_spec e
  have hk : ∀ b, b < w.heap.size → h'[b]? = w.heap[b]? := fun b hb => by
    have h1 : w.heap[b]? = some w.heap[b] := Array.getElem?_eq_getElem hb
    rw [h1]; exact hr.w b _ h1
  refine ⟨rfl, ?_, hk⟩
  rcases Nat.eq_zero_or_pos w.heap.size with h0 | h0
  · omega
  · have h1 := hk (w.heap.size - 1) (by omega)
    have h2 : w.heap[w.heap.size - 1]? = some w.heap[w.heap.size - 1] := Array.getElem?_eq_getElem (by omega)
    rw [h2] at h1
    have := (Array.getElem?_eq_some_iff.1 h1).1
    omega
theorem RAs.int {a : Int} {l : List (Nat × Nat)} {r : List DV} {vs : List Value} (h : ∀ p ∈ l, a % ((p.1 : Nat) : Int) = ((p.2 : Nat) : Int)) (k : RAs ads φ r vs) : RAs ads φ (.v (.y a l) :: r) (.int .i64 a :: vs) := ⟨_, _, rfl, RV.y h, k⟩
theorem RAs.bool {t : Bool} {r : List DV} {vs : List Value} (k : RAs ads φ r vs) : RAs ads φ (.v (.b t) :: r) (.bool t :: vs) := ⟨_, _, rfl, RV.b t, k⟩
theorem one_of {a : Int} {b r : Nat} (h : a % (b : Int) = (r : Int)) : ∀ p ∈ [(b, r)], a % ((p.1 : Nat) : Int) = ((p.2 : Nat) : Int) := by
  intro p hp
  simp only [List.mem_singleton] at hp
  subst hp; exact h
end
/-- The first twelve at least, listed. -/
theorem sna_of_met {W : World} (l : List (String × List UInt8)) (ht : errTied l = true) (hn : l.map (fun x => Tryz.prog.globalNamed x.1) = (errG.take l.length).map some) (h12 : Nat.ble errN l.length = true) (h : laidMet Tryz.prog (l.map mkE) W) :
    ∃ ads, Sna (Wd.of W.heap) ads := by
  obtain ⟨ps, h1, h2, h3⟩ := h
  obtain ⟨ads, k1, k2, k3, k4⟩ := laid_list l ps ht h1 h2 h3
  refine ⟨ads, by rw [k1]; exact Nat.le_of_ble_eq_true h12, k2, fun i a g hi hg => ?_, fun a ha => (k4 a ha).1⟩
  have hi' : i < l.length := by rw [← k1]; exact (List.getElem?_eq_some_iff.1 hi).1
  have e : (l.map (fun x => Tryz.prog.globalNamed x.1))[i]? = ((errG.take l.length).map some)[i]? := by rw [hn]
  rw [List.getElem?_map, List.getElem?_map, List.getElem?_take, if_pos hi', hg, List.getElem?_eq_getElem hi'] at e
  exact k3 i _ a g (List.getElem?_eq_getElem hi') hi (by simpa using e)
theorem sna_of_laid {W : World} {laid : List (String × DataW Unit)} (l : List (String × List UInt8)) (hl : laid = l.map mkE) (hp : ∀ w, laidMetH Tryz.prog laid w = laidMet Tryz.prog laid w) (ht : errTied l = true) (hn : l.map (fun x => Tryz.prog.globalNamed x.1) = (errG.take l.length).map some) (h12 : Nat.ble errN l.length = true) (h : laidMetH Tryz.prog laid W) :
    ∃ ads, Sna (Wd.of W.heap) ads := by
  rw [hp, hl] at h
  exact sna_of_met l ht hn h12 h
/-- The same out of a longer list, of which the others (tables) are not read. -/
theorem sna_of_laidF {W : World} {laid : List (String × DataW Unit)} (l : List (String × List UInt8)) (hl : (laid.filter fun x => (l.map (·.1)).contains x.1) = l.map mkE) (hp : ∀ w, laidMetH Tryz.prog laid w = laidMet Tryz.prog laid w) (ht : errTied l = true) (hn : l.map (fun x => Tryz.prog.globalNamed x.1) = (errG.take l.length).map some) (h12 : Nat.ble errN l.length = true) (h : laidMetH Tryz.prog laid W) :
    ∃ ads, Sna (Wd.of W.heap) ads := by
  rw [hp] at h
  have h2 := h.filter fun x => (l.map (·.1)).contains x.1
  rw [hl] at h2
  exact sna_of_met l ht hn h12 h2
end Go.Proofs.YtgkpnfnkaplebaaGreatDoor
