/- slices.SortFunc at []int with seq.Sort's closure: the kit's contract, told of our own memory. -/
import Derived.Test.YteojoiglffkbmaaSeqC
import Derived.Test.YteojoiglffkbmaaShelfSort
set_option linter.unusedVariables false
set_option linter.unusedSimpArgs false
namespace Go.Proofs.Yteojoiglffkbmaa
open Go.Vc Go.RowKit Go.Sort Go.Lib Go.Shelf
theorem same_drew {w w' : World} (h : w'.heap = w.heap) (s : Same w w') : ∃ q, w' = w.drewN q := by
  obtain ⟨h1, t1, d1, o1, u1⟩ := w
  obtain ⟨h2, t2, d2, o2, u2⟩ := w'
  obtain ⟨s1, s2, s3, s4⟩ := s
  simp only at h s1 s2 s3 s4
  subst h s1 s2 s3
  refine ⟨d2 - d1, ?_⟩
  unfold World.drewN
  simp only [World.mk.injEq, true_and, and_true]
  omega
def cfZ (s x y : Int) : Int := distZ s x - distZ s y
theorem swo_cf (s : Int) : SWO (ltOf (cfZ s)) where
  irrefl x := by simp [ltOf, cfZ]
  trans x y z h1 h2 := by unfold ltOf cfZ at *; simp only [decide_eq_true_eq] at *; omega
  ntrans x y z h1 h2 := by unfold ltOf cfZ at *; simp only [decide_eq_false_iff_not] at *; omega
theorem putCells_mid {j r : List Value} {xs : List Int} {d : Array Int} (hd : d.size = xs.length) :
    putCells (Value.int .i64) j.length d (j ++ (ints .i64 xs ++ r)).toArray = (j ++ (ints .i64 d.toList ++ r)).toArray := by
  have hl : d.toList.length = xs.length := by simpa using hd
  apply Array.ext
  · simp [putCells, ints, hl, hd]
  · intro i h1 h2
    have h3 : i < j.length + (xs.length + r.length) := by simpa [putCells, ints] using h1
    simp only [putCells, Array.getElem_mapIdx, List.getElem_toArray]
    by_cases c1 : i < j.length
    · rw [if_neg (by omega), List.getElem_append_left c1, List.getElem_append_left c1]
    · by_cases c2 : i < j.length + xs.length
      · rw [if_pos (by omega), List.getElem_append_right (by omega), List.getElem_append_left (by simp [ints]; omega)]
        simp only [ints, List.getElem_map]
        rw [getElem!_pos d (i - j.length) (by omega)]
        simp
      · rw [if_neg (by omega), List.getElem_append_right (by omega), List.getElem_append_right (by simp [ints]; omega), List.getElem_append_right (by omega), List.getElem_append_right (by simp only [ints, List.length_map]; omega)]
        congr 1
        simp only [ints, List.length_map]; omega
section
variable {W : Wd} {h : Heap} {G : List Grp} {E : Grp} {a : Option Addr} {cap b1 : Nat} {s : Int} {xs : List Int} {T1 : TypeId}
theorem sort_heap {w : World} {b : Nat} {j r : List Value} {T : TypeId} (hb : Blk w.heap b (j ++ (ints .i64 xs ++ r)) T) {d : Array Int} (hd : d.size = xs.length) (m : Nat) (os : Array Obj) :
    w.heap.size ≤ (sortWorld (Value.int .i64) w b j.length m d os).heap.size ∧ Blk (sortWorld (Value.int .i64) w b j.length m d os).heap b (j ++ (ints .i64 d.toList ++ r)) T ∧
    ∀ c, c < w.heap.size → c ≠ b → (sortWorld (Value.int .i64) w b j.length m d os).heap[c]? = w.heap[c]? := by
  have e : (sortWorld (Value.int .i64) w b j.length m d os).heap = w.heap.modify b (onCells (putCells (Value.int .i64) j.length d)) ++ os := rfl
  have hbl := (Array.getElem?_eq_some_iff.1 hb).1
  rw [e]
  refine ⟨by simp, ?_, fun c hc hne => ?_⟩
  · unfold Blk at *
    rw [Array.getElem?_append_left (by simpa using hbl), Array.getElem?_modify, if_pos rfl, hb]
    simp only [Option.map_some, onCells]
    rw [putCells_mid hd]
  · rw [Array.getElem?_append_left (by simpa using hc), Array.getElem?_modify, if_neg (Ne.symm hne)]
theorem sortfn_c (m : Me W h (E :: [(b1, [.int .i64 s], T1)] :: G)) (o : Ow a xs.length cap 1 (ints .i64 xs) E) (hl : xs.length < 4611686018427387904) :
    Runs Try.prog 58 #[.slice a xs.length cap, .func (.func 59) #[] #[.pointer (some ⟨b1, 0, none⟩)]] h fun v h' =>
      v = .tuple #[] ∧ ∃ ys E', ys.Perm xs ∧ (ys.Pairwise fun x y => distZ s x ≤ distZ s y) ∧ Ow a xs.length cap 1 (ints .i64 ys) E' ∧ Me W h' (E' :: [(b1, [.int .i64 s], T1)] :: G) := by
  intro w hw
  subst hw
  rcases o with ⟨rfl, h2, rfl, h4, rfl⟩ | ⟨b, o, j, rest, t, T, rfl, h1, h2, h3, h4, rfl⟩
  · have hx : xs.length = 0 := h2
    rw [hx]
    have hL : SlLaysF0.n6 Try.prog Try.laysSlF6_f58_ren := { Try.laysSlF6_f58 with }
    have hcon := AnyF.slices_SortFunc_none hL none 0 (.func (.func 59) #[] #[.pointer (some ⟨b1, 0, none⟩)]) w
    refine hcon.mono ?_
    rintro e w' ⟨he, rfl⟩
    have hxs : xs = [] := List.eq_nil_of_length_eq_zero hx
    subst hxs
    exact ⟨_, he, ⟨rfl, [], [], .refl _, List.Pairwise.nil, .inl ⟨rfl, rfl, rfl, rfl, rfl⟩, m⟩, Same.refl _⟩
  · have hne : b1 ≠ b := by
      have := m.nd
      simp at this
      exact fun e => this.1.1 e.symm
    have hb : Blk w.heap b (j ++ (ints .i64 xs ++ (rest ++ t))) T := m.blk 0 rfl
    have hc : cell w.heap b1 0 = some (.int .i64 s) := m.cell 1 rfl rfl
    have hb1 := (m.blk 1 rfl).lt
    subst h4
    have hd : xs.toArray.size = xs.length := by simp
    have eg : ∀ args w, (callFunc 59 args).run Try.prog w = .ok (.enter 59 args) w := enters_of Try.func59 (by kernel_rfl) rfl
    have hcmp : CmpLays1 Try.prog 59 #[.pointer (some ⟨b1, 0, none⟩)] (Value.int .i64) (cfZ s) b j.length xs.toArray.size w := by
      refine CmpReads.lays fun n os dk hdk x y => ?_
      obtain ⟨_, _, h5⟩ := sort_heap hb (d := dk) (by rw [hdk, hd]) n os
      have hc2 : cell (sortWorld (Value.int .i64) w b j.length n dk os).heap b1 0 = some (.int .i64 s) := by
        have := h5 b1 hb1 hne
        unfold cell at *
        rw [this]; exact hc
      refine (cmp_c x y _ hc2 _ rfl).mono ?_
      rintro e w' ⟨v, he, ⟨rfl, hh⟩, hs⟩
      exact ⟨he, same_drew hh hs⟩
    have hH : Holds (Value.int .i64) w b j.length xs.toArray := by
      intro i hi
      have hi' : i < xs.length := by simpa using hi
      have hx : (j ++ (ints .i64 xs ++ (rest ++ t)))[j.length + i]? = some (.int .i64 xs[i]) := by
        rw [List.getElem?_append_right (by omega), Nat.add_sub_cancel_left, List.getElem?_append_left (by simpa [ints] using hi')]
        simp [ints, hi']
      have hb' : w.heap[b]? = some (.cells (j ++ (ints .i64 xs ++ (rest ++ t))).toArray T) := hb
      constructor
      · unfold World.cell?
        dsimp only
        rw [hb']
        dsimp only [Option.isSome]
        rw [if_neg (by simp), List.getElem?_toArray, hx, getElem!_pos xs.toArray i hi]
        simp
      · unfold World.frozen?
        dsimp only
        rw [hb']
        simp
    have hcon := Try.slices_SortFunc (Value.int .i64) (fun _ => rfl) (cfZ s) (swo_cf s) 59 #[.pointer (some ⟨b1, 0, none⟩)] b j.length cap xs.toArray w eg hcmp hH (hb.lt) (by rw [hd]; exact hl)
    rw [hd] at hcon
    refine hcon.mono ?_
    rintro e w' ⟨he, d', n, os, hp, hs, rfl⟩
    have hd' : d'.size = xs.length := by rw [hp.1]; simp
    obtain ⟨k1, k2, k3⟩ := sort_heap hb (d := d') hd' n os
    refine ⟨_, he, ⟨rfl, d'.toList, _, ?_, ?_, ?_, m.turn1 k1 k2 k3⟩, ⟨rfl, rfl, rfl, Nat.le_add_right _ _⟩⟩
    · have := hp.2.2
      rw [Array.extract_eq_self_of_le (by rw [hd']; exact Nat.le_refl _), Array.extract_eq_self_of_le (by rw [hd]; exact Nat.le_refl _)] at this
      simpa using this
    · refine List.pairwise_iff_getElem.2 fun i k hi hk hik => ?_
      have hi' : i < d'.size := by simpa using hi
      have hk' : k < d'.size := by simpa using hk
      have := hs i k (Nat.zero_le _) hik (by omega)
      rw [getElem!_pos d' i hi', getElem!_pos d' k hk'] at this
      unfold ltOf cfZ at this
      simp only [decide_eq_false_iff_not] at this
      simp only [Array.getElem_toList]
      omega
    · exact .inr ⟨b, _, j, rest, t, T, rfl, h1, by simp [ints, hd'], h3, rfl, rfl⟩
end
end Go.Proofs.Yteojoiglffkbmaa
