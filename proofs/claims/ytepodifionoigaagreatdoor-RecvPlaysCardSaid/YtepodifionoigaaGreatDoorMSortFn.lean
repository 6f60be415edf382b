import Derived.Shelf.SlSortCmp.NoneTotal
import Derived.Ground.SlsfProg
import Derived.Test.YtepodifionoigaaGreatDoorProg
import Derived.Test.YtepodifionoigaaGreatDoorGenAll2
import Derived.Test.YtepodifionoigaaGreatDoorMFrm
import Derived.Test.YtepodifionoigaaGreatDoorMNum
set_option linter.unusedVariables false
set_option linter.unusedSimpArgs false
namespace Go.Proofs
open Go.Shelf
def Tryz.laysSlF6_f108_ren : Go.Shelf.Ren := ⟨fun | 6 => 108 | 15 => 118 | 14 => 117 | 28 => 129 | 29 => 130 | 20 => 121 | 21 => 122 | 22 => 123 | 23 => 124 | 24 => 125 | 25 => 126 | 26 => 127 | 27 => 128 | 46 => 131 | 47 => 132 | 48 => 133 | 49 => 134 | 50 => 135 | 57 => 136 | n => n, fun | 22 => 97 | 24 => 3 | 25 => 73 | 3 => 3 | 39 => 69 | 0 => 0 | 53 => 35 | 55 => 50 | 4 => 4 | 46 => 176 | 45 => 175 | 50 => 180 | 5 => 5 | 9 => 9 | 66 => 184 | 70 => 188 | 76 => 190 | 77 => 159 | n => n, fun | n => n⟩
theorem Tryz.laysSlF6_f108 : Go.Proofs.SlLaysF.n6 Tryz.prog Tryz.laysSlF6_f108_ren := {
  mixed := by kernel_rfl
  f6 := ⟨Tryz.f108.name, by decide, Tryz.func108.trans (congrArg some (by kernel_rfl))⟩
  f14 := ⟨Tryz.f117.name, by decide, Tryz.func117.trans (congrArg some (by kernel_rfl))⟩
  f15 := Tryz.func118.trans (congrArg some (by kernel_rfl))
  f20 := ⟨Tryz.f121.name, by decide, Tryz.func121.trans (congrArg some (by kernel_rfl))⟩
  f21 := ⟨Tryz.f122.name, by decide, Tryz.func122.trans (congrArg some (by kernel_rfl))⟩
  f22 := ⟨Tryz.f123.name, by decide, Tryz.func123.trans (congrArg some (by kernel_rfl))⟩
  f23 := ⟨Tryz.f124.name, by decide, Tryz.func124.trans (congrArg some (by kernel_rfl))⟩
  f24 := ⟨Tryz.f125.name, by decide, Tryz.func125.trans (congrArg some (by kernel_rfl))⟩
  f25 := ⟨Tryz.f126.name, by decide, Tryz.func126.trans (congrArg some (by kernel_rfl))⟩
  f26 := ⟨Tryz.f127.name, by decide, Tryz.func127.trans (congrArg some (by kernel_rfl))⟩
  f27 := ⟨Tryz.f128.name, by decide, Tryz.func128.trans (congrArg some (by kernel_rfl))⟩
  f28 := Tryz.func129.trans (congrArg some (by kernel_rfl))
  f29 := Tryz.func130.trans (congrArg some (by kernel_rfl))
  f46 := ⟨Tryz.f131.name, by decide, Tryz.func131.trans (congrArg some (by kernel_rfl))⟩
  f47 := Tryz.func132.trans (congrArg some (by kernel_rfl))
  f48 := Tryz.func133.trans (congrArg some (by kernel_rfl))
  f49 := ⟨Tryz.f134.name, by decide, Tryz.func134.trans (congrArg some (by kernel_rfl))⟩
  f50 := ⟨Tryz.f135.name, by decide, Tryz.func135.trans (congrArg some (by kernel_rfl))⟩
  f57 := ⟨Tryz.f136.name, by decide, Tryz.func136.trans (congrArg some (by kernel_rfl))⟩
  t0 := Tryz.underlying0
  a0 := Tryz.isAgg0
  z0 := Tryz.sizeOf0
  v0 := Tryz.zeroValue0
  t3 := Tryz.underlying3
  a3 := Tryz.isAgg3
  z3 := Tryz.sizeOf3
  v3 := Tryz.zeroValue3
  t4 := Tryz.underlying4
  a4 := Tryz.isAgg4
  z4 := Tryz.sizeOf4
  v4 := Tryz.zeroValue4
  t5 := Tryz.underlying5
  a5 := Tryz.isAgg5
  z5 := Tryz.sizeOf5
  v5 := Tryz.zeroValue5
  t9 := Tryz.underlying9
  a9 := Tryz.isAgg9
  z9 := Tryz.sizeOf9
  v9 := Tryz.zeroValue9
  t22 := Tryz.underlying97
  a22 := Tryz.isAgg97
  z22 := Tryz.sizeOf97
  v22 := Tryz.zeroValue97
  a24 := Tryz.isAgg3
  z24 := Tryz.sizeOf3
  t25 := Tryz.underlying73
  a25 := Tryz.isAgg73
  z25 := Tryz.sizeOf73
  v25 := Tryz.zeroValue73
  t39 := Tryz.underlying69
  a39 := Tryz.isAgg69
  z39 := Tryz.sizeOf69
  v39 := Tryz.zeroValue69
  t45 := Tryz.underlying175
  a45 := Tryz.isAgg175
  z45 := Tryz.sizeOf175
  v45 := Tryz.zeroValue175
  t46 := Tryz.underlying176
  a46 := Tryz.isAgg176
  z46 := Tryz.sizeOf176
  v46 := Tryz.zeroValue176
  t50 := Tryz.underlying180
  a50 := Tryz.isAgg180
  z50 := Tryz.sizeOf180
  v50 := Tryz.zeroValue180
  t53 := Tryz.underlying35
  a53 := Tryz.isAgg35
  z53 := Tryz.sizeOf35
  v53 := Tryz.zeroValue35
  t55 := Tryz.underlying50
  a55 := Tryz.isAgg50
  z55 := Tryz.sizeOf50
  v55 := Tryz.zeroValue50
  t66 := Tryz.underlying184
  a66 := Tryz.isAgg184
  z66 := Tryz.sizeOf184
  v66 := Tryz.zeroValue184
  t70 := Tryz.underlying188
  a70 := Tryz.isAgg188
  z70 := Tryz.sizeOf188
  v70 := Tryz.zeroValue188
  t76 := Tryz.underlying190
  a76 := Tryz.isAgg190
  z76 := Tryz.sizeOf190
  v76 := Tryz.zeroValue190
  t77 := Tryz.underlying159
  a77 := Tryz.isAgg159
  z77 := Tryz.sizeOf159
  v77 := Tryz.zeroValue159 }
open Go.RowKit Go.Lib Go.Sort in
theorem Tryz.slices_SortFunc {α : Type} [Inhabited α] (enc : α → Value) (h1 : OneCell enc) (cf : α → α → Int) (hO : SWO (ltOf cf)) (g : Nat) (cb : Array Value) (blk off cap : Nat) (d : Array α) (w : World) (eg : ∀ args w, (callFunc g args).run Tryz.prog w = .ok (.enter g args) w) (hcmp : CmpLays1 Tryz.prog g cb enc cf blk off d.size w) (hH : Holds enc w blk off d) (hblk : blk < w.heap.size) (hsz : d.size < 4611686018427387904) :
    Calls Tryz.prog 108 #[.slice (some ⟨blk, off, none⟩) d.size cap, .func (.func g) #[] cb] w fun e w' =>
      e = .returned (.tuple #[]) ∧ ∃ d' n os, PermIn 0 d.size d d' ∧ SortedIn (ltOf cf) 0 d.size d' ∧ w' = sortWorld enc w blk off n d' os := Any.slices_SortFunc Tryz.laysSlF6_f108 enc h1 cf hO g cb blk off cap d w eg hcmp hH hblk hsz
end Go.Proofs
set_option linter.unusedVariables false
set_option linter.unusedSimpArgs false
namespace Go.Proofs.YtepodifionoigaaGreatDoor
open Go.Vc Go.RowKit Go.Sort Go.Lib Go.Shelf
theorem cmp_c {b : Nat} {s : Int} (x y : Int) (h : Heap) (hc : cell h b 0 = some (.int .i64 s)) : Runs Tryz.prog 109 #[.int .i64 x, .int .i64 y, .pointer (some ⟨b, 0, none⟩)] h fun v h' => v = .int .i64 (distZ s x - distZ s y) ∧ h' = h := by
  refine vc_seq_Sort_1 _ _ _ _ _ ⟨s, hc, s, hc, (dist_c _ _ _).ret ⟨_, rfl, hc, (dist_c _ _ _).ret ⟨_, rfl, ?_, rfl, rfl⟩⟩⟩
  unfold distZ
  simp only [fits]
  omega
theorem same_drew {w w' : World} (h : w'.heap = w.heap) (s : Same w w') : ∃ q, w' = w.drewN q := by
  obtain ⟨h1, t1, d1, o1, u1⟩ := w
  obtain ⟨h2, t2, d2, o2, u2⟩ := w'
  obtain ⟨s1, s2, s3, s4⟩ := s
  simp only at h s1 s2 s3 s4
  subst h s1 s2 s3
  refine ⟨d2 - d1, ?_⟩
  unfold World.drewN
  simp only [World.mk.injEq, true_and, and_true]
  omega
def cfZ (s x y : Int) : Int := distZ s x - distZ s y
theorem swo_cf (s : Int) : SWO (ltOf (cfZ s)) where
  irrefl x := by simp [ltOf, cfZ]
  trans x y z h1 h2 := by unfold ltOf cfZ at *; simp only [decide_eq_true_eq] at *; omega
  ntrans x y z h1 h2 := by unfold ltOf cfZ at *; simp only [decide_eq_false_iff_not] at *; omega
theorem putCells_mid {j r : List Value} {xs : List Int} {d : Array Int} (hd : d.size = xs.length) :
    putCells (Value.int .i64) j.length d (j ++ (ints .i64 xs ++ r)).toArray = (j ++ (ints .i64 d.toList ++ r)).toArray := by
  have hl : d.toList.length = xs.length := by simpa using hd
  apply Array.ext
  · simp [putCells, ints, hl, hd]
  · intro i h1 h2
    have h3 : i < j.length + (xs.length + r.length) := by simpa [putCells, ints] using h1
    simp only [putCells, Array.getElem_mapIdx, List.getElem_toArray]
    by_cases c1 : i < j.length
    · rw [if_neg (by omega), List.getElem_append_left c1, List.getElem_append_left c1]
    · by_cases c2 : i < j.length + xs.length
      · rw [if_pos (by omega), List.getElem_append_right (by omega), List.getElem_append_left (by simp [ints]; omega)]
        simp only [ints, List.getElem_map]
        rw [getElem!_pos d (i - j.length) (by omega)]
        simp
      · rw [if_neg (by omega), List.getElem_append_right (by omega), List.getElem_append_right (by simp [ints]; omega), List.getElem_append_right (by omega), List.getElem_append_right (by simp only [ints, List.length_map]; omega)]
        congr 1
        simp only [ints, List.length_map]; omega
section
variable {W : Wd} {h : Heap} {G : List Grp} {E : Grp} {a : Option Addr} {cap b1 : Nat} {s : Int} {xs : List Int} {T1 : TypeId}
theorem sort_heap {w : World} {b : Nat} {j r : List Value} {T : TypeId} (hb : Blk w.heap b (j ++ (ints .i64 xs ++ r)) T) {d : Array Int} (hd : d.size = xs.length) (m : Nat) (os : Array Obj) :
    w.heap.size ≤ (sortWorld (Value.int .i64) w b j.length m d os).heap.size ∧ Blk (sortWorld (Value.int .i64) w b j.length m d os).heap b (j ++ (ints .i64 d.toList ++ r)) T ∧
    ∀ c, c < w.heap.size → c ≠ b → (sortWorld (Value.int .i64) w b j.length m d os).heap[c]? = w.heap[c]? := by
  have e : (sortWorld (Value.int .i64) w b j.length m d os).heap = w.heap.modify b (onCells (putCells (Value.int .i64) j.length d)) ++ os := rfl
  have hbl := (Array.getElem?_eq_some_iff.1 hb).1
  rw [e]
  refine ⟨by simp, ?_, fun c hc hne => ?_⟩
  · unfold Blk at *
    rw [Array.getElem?_append_left (by simpa using hbl), Array.getElem?_modify, if_pos rfl, hb]
    simp only [Option.map_some, onCells]
    rw [putCells_mid hd]
  · rw [Array.getElem?_append_left (by simpa using hc), Array.getElem?_modify, if_neg (Ne.symm hne)]
theorem sortfn_c (m : Me W h (E :: [(b1, [.int .i64 s], T1)] :: G)) (o : Ow a xs.length cap 1 (ints .i64 xs) E) (hl : xs.length < 4611686018427387904) :
    Runs Tryz.prog 108 #[.slice a xs.length cap, .func (.func 109) #[] #[.pointer (some ⟨b1, 0, none⟩)]] h fun v h' =>
      v = .tuple #[] ∧ ∃ ys E', ys.Perm xs ∧ (ys.Pairwise fun x y => distZ s x ≤ distZ s y) ∧ Ow a xs.length cap 1 (ints .i64 ys) E' ∧ Me W h' (E' :: [(b1, [.int .i64 s], T1)] :: G) := by
  intro w hw
  subst hw
  rcases o with ⟨rfl, h2, rfl, h4, rfl⟩ | ⟨b, o, j, rest, t, T, rfl, h1, h2, h3, h4, rfl⟩
  · have hx : xs.length = 0 := h2
    rw [hx]
    have hL : SlLaysF0.n6 Tryz.prog Tryz.laysSlF6_f108_ren := { Tryz.laysSlF6_f108 with }
    have hcon := AnyF.slices_SortFunc_none hL none 0 (.func (.func 109) #[] #[.pointer (some ⟨b1, 0, none⟩)]) w
    refine hcon.mono ?_
    rintro e w' ⟨he, rfl⟩
    have hxs : xs = [] := List.eq_nil_of_length_eq_zero hx
    subst hxs
    exact ⟨_, he, ⟨rfl, [], [], .refl _, List.Pairwise.nil, .inl ⟨rfl, rfl, rfl, rfl, rfl⟩, m⟩, Same.refl _⟩
  · have hne : b1 ≠ b := by
      have := m.nd
      simp at this
      exact fun e => this.1.1 e.symm
    have hb : Blk w.heap b (j ++ (ints .i64 xs ++ (rest ++ t))) T := m.blk 0 rfl
    have hc : cell w.heap b1 0 = some (.int .i64 s) := m.cell 1 rfl rfl
    have hb1 := (m.blk 1 rfl).lt
    subst h4
    have hd : xs.toArray.size = xs.length := by simp
    have eg : ∀ args w, (callFunc 109 args).run Tryz.prog w = .ok (.enter 109 args) w := enters_of Tryz.func109 (by kernel_rfl) rfl
    have hcmp : CmpLays1 Tryz.prog 109 #[.pointer (some ⟨b1, 0, none⟩)] (Value.int .i64) (cfZ s) b j.length xs.toArray.size w := by
      refine CmpReads.lays fun n os dk hdk x y => ?_
      obtain ⟨_, _, h5⟩ := sort_heap hb (d := dk) (by rw [hdk, hd]) n os
      have hc2 : cell (sortWorld (Value.int .i64) w b j.length n dk os).heap b1 0 = some (.int .i64 s) := by
        have := h5 b1 hb1 hne
        unfold cell at *
        rw [this]; exact hc
      refine (cmp_c x y _ hc2 _ rfl).mono ?_
      rintro e w' ⟨v, he, ⟨rfl, hh⟩, hs⟩
      exact ⟨he, same_drew hh hs⟩
    have hH : Holds (Value.int .i64) w b j.length xs.toArray := by
      intro i hi
      have hi' : i < xs.length := by simpa using hi
      have hx : (j ++ (ints .i64 xs ++ (rest ++ t)))[j.length + i]? = some (.int .i64 xs[i]) := by
        rw [List.getElem?_append_right (by omega), Nat.add_sub_cancel_left, List.getElem?_append_left (by simpa [ints] using hi')]
        simp [ints, hi']
      have hb' : w.heap[b]? = some (.cells (j ++ (ints .i64 xs ++ (rest ++ t))).toArray T) := hb
      constructor
      · unfold World.cell?
        dsimp only
        rw [hb']
        dsimp only [Option.isSome]
        rw [if_neg (by simp), List.getElem?_toArray, hx, getElem!_pos xs.toArray i hi]
        simp
      · unfold World.frozen?
        dsimp only
        rw [hb']
        simp
    have hcon := Tryz.slices_SortFunc (Value.int .i64) (fun _ => rfl) (cfZ s) (swo_cf s) 109 #[.pointer (some ⟨b1, 0, none⟩)] b j.length cap xs.toArray w eg hcmp hH (hb.lt) (by rw [hd]; exact hl)
    rw [hd] at hcon
    refine hcon.mono ?_
    rintro e w' ⟨he, d', n, os, hp, hs, rfl⟩
    have hd' : d'.size = xs.length := by rw [hp.1]; simp
    obtain ⟨k1, k2, k3⟩ := sort_heap hb (d := d') hd' n os
    refine ⟨_, he, ⟨rfl, d'.toList, _, ?_, ?_, ?_, m.turn1 k1 k2 k3⟩, ⟨rfl, rfl, rfl, Nat.le_add_right _ _⟩⟩
    · have := hp.2.2
      rw [Array.extract_eq_self_of_le (by rw [hd']; exact Nat.le_refl _), Array.extract_eq_self_of_le (by rw [hd]; exact Nat.le_refl _)] at this
      simpa using this
    · refine List.pairwise_iff_getElem.2 fun i k hi hk hik => ?_
      have hi' : i < d'.size := by simpa using hi
      have hk' : k < d'.size := by simpa using hk
      have := hs i k (Nat.zero_le _) hik (by omega)
      rw [getElem!_pos d' i hi', getElem!_pos d' k hk'] at this
      unfold ltOf cfZ at this
      simp only [decide_eq_false_iff_not] at this
      simp only [Array.getElem_toList]
      omega
    · exact .inr ⟨b, _, j, rest, t, T, rfl, h1, by simp [ints, hd'], h3, rfl, rfl⟩
end
end Go.Proofs.YtepodifionoigaaGreatDoor
