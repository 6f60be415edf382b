/- Contracts of functions that read, copy, compare slices: of the library and of muezzinref. -/
import Derived.Test.YthlacliefgliiaaDoorOwn
import Derived.Test.YthlacliefgliiaaDoorGenSl
set_option linter.unusedVariables false
set_option linter.unusedSimpArgs false
namespace Go.Proofs.YthlacliefgliiaaDoor
open Go.Vc

section
variable {W W' : Wd} {h h' : Heap} {G L : List Grp} {E : Grp} {s a b : Option Addr} {l c cap sz e bytes n : Nat} {cs vs : List Value} {xs ys : List Int} {x : Int}
/-- What was made beside what we have. -/
theorem _root_.Go.Vc.Me.beside (m : Me W h G) (k : Me (Wd.of h) h' L) : Me W h' (L ++ G) := by
  refine ⟨fun b x e => k.keep b x (m.keep b x e), fun x hx => ?_, fun x hx => ?_, ?_⟩
  · rw [List.flatten_append] at hx
    rcases List.mem_append.1 hx with hx | hx
    · exact k.has x hx
    · exact k.keep _ _ (m.has x hx)
  · rw [List.flatten_append] at hx
    rcases List.mem_append.1 hx with hx | hx
    · have := k.off x hx
      cases hW : W x.1 with
      | none => rfl
      | some y => rw [show Wd.of h x.1 = some y from m.keep _ _ hW] at this; cases this
    · exact m.off x hx
  · rw [List.flatten_append, List.map_append]
    refine List.nodup_append.2 ⟨k.nd, m.nd, fun i hi j hj hij => ?_⟩
    subst hij
    obtain ⟨x, hx, rfl⟩ := List.mem_map.1 hi
    obtain ⟨y, hy, hxy⟩ := List.mem_map.1 hj
    have h1 := k.off x hx
    have h2 : h[y.1]? = _ := m.has y hy
    rw [hxy] at h2
    rw [show Wd.of h x.1 = _ from h2] at h1; cases h1
theorem _root_.Go.Vc.Ow.bts (o : Ow a l c 1 (ints .u8 xs) E) (hl : xs.length = l) (hE : ∀ x ∈ E, W x.1 = some (.cells x.2.1.toArray x.2.2)) : Bts W (.slice a l c) xs := by
  subst hl
  refine ⟨a, c, rfl, o.le, ?_⟩
  rcases o with ⟨rfl, h1, rfl, h2, rfl⟩ | ⟨b, o, j, rest, t, T, rfl, h1, h2, h3, h4, rfl⟩
  · exact h2
  · show wrow W b o xs.length = some _
    have hb := hE _ (List.mem_singleton.2 rfl)
    dsimp only at hb
    refine wrow_of (by simp [ints]) fun k v hk => ?_
    unfold wcell
    rw [hb]
    have hkl := (List.getElem?_eq_some_iff.1 hk).1
    simp only [List.getElem?_toArray]
    rw [← h4, List.getElem?_append_right (by omega), Nat.add_sub_cancel_left, List.getElem?_append_left hkl]
    exact hk
/-- What a copy yields: a slice of its own with those cells. -/
def Made (h : Heap) (l sz : Nat) (cs : List Value) (v : Value) (h' : Heap) : Prop := ∃ a c E, v = .slice a l c ∧ Me (Wd.of h) h' [E] ∧ Ow a l c sz cs E
theorem clone_k {l sz bytes : Nat} (hs : src h s (l * sz) cs) (hl : cs.length = l * sz) (h1 : ∀ u ∈ cs, u.oneCell' = true) (hb : l * bytes ≤ 140737488355328) (hb0 : 0 < bytes) (hz : 0 < sz) :
    bcase (isNilAddr s) (Made h l sz cs (.slice none 0 0) h) (∀ (b1 : Nat) (h1 : Heap), b1 = h.size → h1 = h.push (.cells ([] : List Value).toArray e) →
      ∃ news1 : List Value, (src h1 s (l * sz) news1 ∧ ∀ u ∈ news1, u.oneCell' = true) ∧ appK h1 (some ⟨b1, 0, none⟩) 0 0 l sz e bytes news1 fun (a1 : Option Addr) (cap1 : Nat) (h2 : Heap) => Made h l sz cs (.slice a1 (0 + l) cap1) h2) := by
  refine bcase_intro (fun hn => ?_) fun hn => ?_
  · cases s with
    | some p => simp [isNilAddr] at hn
    | none =>
      have : cs = [] := hs
      subst this
      have h0 : l * sz = 0 := by simpa using hl.symm
      obtain rfl : l = 0 := by
        rcases Nat.mul_eq_zero.1 h0 with h | h
        · exact h
        · omega
      exact ⟨none, 0, [], rfl, (Me.start h).nilI, Ow.nil⟩
  · intro b1 h1' e1 e2
    have m := (Me.start h).push e2 e1
    have k := m.kept (Wd.le.refl _)
    refine ⟨cs, ⟨k.src hs, h1⟩, ?_⟩
    refine (Ow.fresh0 (l := 0) (sz := sz) (by simp)).app m 0 rfl hl (by simpa using hb) hb0 fun a' c' E' h' m' o' => ?_
    rw [Nat.zero_add] at o' ⊢
    exact ⟨a', c', E', rfl, by simpa using m', by simpa using o'⟩
end
theorem clone_byte_c {h : Heap} {s : Option Addr} {l c : Nat} {cs : List Value} (hs : src h s l cs) (hl : cs.length = l) (h1 : ∀ u ∈ cs, u.oneCell' = true) (hb : l ≤ 140737488355328) :
    Runs Tryd.prog 60 #[.slice s l c] h (Made h l 1 cs) :=
  vc_slices_Clone_byte _ _ _ _ _ (clone_k (l := l) (sz := 1) (bytes := 1) (cs := cs) (by simpa using hs) (by simpa using hl) h1 (by omega) (by decide) (by decide))

/-- Where a number stands first; -1. -/
def idxZ (x : Int) (xs : List Int) : Int := if x ∈ xs then (xs.idxOf x : Nat) else -1
theorem idxOf_at {x : Int} : ∀ {xs : List Int} {k : Nat}, xs[k]? = some x → (∀ j, j < k → xs[j]? ≠ some x) → xs.idxOf x = k
  | [], k, h, _ => by simp at h
  | y :: ys, 0, h, _ => by simp at h; subst h; simp
  | y :: ys, k + 1, h, hn => by
    have hy : ¬ y = x := fun e => hn 0 (by omega) (by simp [e])
    rw [List.idxOf_cons]
    have h1 := idxOf_at (xs := ys) (k := k) (by simpa using h) (fun j hj => by have := hn (j + 1) (by omega); simpa using this)
    have h2 : (y == x) = false := by simpa using hy
    simp [h2, h1]
theorem idxZ_found {x : Int} {xs : List Int} {k : Nat} (hk : xs[k]? = some x) (hn : ∀ j, j < k → xs[j]? ≠ some x) : idxZ x xs = k := by
  unfold idxZ
  rw [if_pos (List.mem_of_getElem? hk), idxOf_at hk hn]
theorem idxZ_none {x : Int} {xs : List Int} (hn : ∀ j, j < xs.length → xs[j]? ≠ some x) : x ∉ xs ∧ idxZ x xs = -1 := by
  have hm : x ∉ xs := fun hc => by
    obtain ⟨j, hj⟩ := List.mem_iff_getElem?.1 hc
    exact hn j (List.getElem?_eq_some_iff.1 hj).1 hj
  exact ⟨hm, by unfold idxZ; rw [if_neg hm]⟩
section
variable {h : Heap} {s : Option Addr} {l c : Nat} {xs ys : List Int} {x : Int}
end
end Go.Proofs.YthlacliefgliiaaDoor
