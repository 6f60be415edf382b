/- The walk of SeqSorts, over a contract of slices.SortFunc. -/
import Derived.Test.YteojoiglffkbmaaSortFn
import Derived.Test.YteojoiglffkbmaaOpnPk
set_option linter.unusedVariables false
set_option linter.unusedSimpArgs false
namespace Go.Proofs.Yteojoiglffkbmaa
open Go.Vc
def modL (l : List Int) : List Int := l.map (· % 4096)
def sumI : List Int → Int
  | [] => 0
  | x :: r => x + sumI r
theorem sumI_app : ∀ (a b : List Int), sumI (a ++ b) = sumI a + sumI b
  | [], b => by simp [sumI]
  | x :: r, b => by simp only [List.cons_append, sumI, sumI_app r b]; omega
theorem sumI_perm {a b : List Int} (h : a.Perm b) : sumI a = sumI b := by
  induction h with
  | nil => rfl
  | cons x _ ih => simp only [sumI, ih]
  | swap x y l => simp only [sumI]; omega
  | trans _ _ h1 h2 => exact h1.trans h2
theorem take_snoc' {α : Type} {l : List α} {k : Nat} {x : α} (h : l[k]? = some x) : l.take (k + 1) = l.take k ++ [x] := by
  rw [List.take_add_one, h]; rfl
/-- Two lists in order, the same things: the same list. -/
theorem sorted_one {f : Int → Int} : ∀ {a b : List Int}, a.Perm b → a.Pairwise (fun x y => f x ≤ f y) → b.Pairwise (fun x y => f x ≤ f y) → (∀ x ∈ a, ∀ y ∈ a, f x = f y → x = y) → a = b
  | [], b, h, _, _, _ => (List.nil_perm.1 h).symm
  | x :: r, [], h, _, _, _ => by have := h.length_eq; simp at this
  | x :: r, y :: t, h, h1, h2, hi => by
    obtain ⟨h3, h4⟩ := List.pairwise_cons.1 h1
    obtain ⟨h5, h6⟩ := List.pairwise_cons.1 h2
    have hxy : x = y := by
      have hx : x ∈ y :: t := h.subset (by simp)
      have hy : y ∈ x :: r := h.symm.subset (by simp)
      simp only [List.mem_cons] at hx hy
      rcases hx with hx | hx
      · exact hx
      · rcases hy with hy | hy
        · exact hy.symm
        · have := h3 y hy
          have := h5 x hx
          exact hi x (by simp) y (by simp [hy]) (by omega)
    subst hxy
    rw [sorted_one ((List.perm_cons x).1 h) h4 h6 fun u hu v hv => hi u (by simp [hu]) v (by simp [hv])]
section
variable {l : List Int} {a : Option Addr} {cap : Nat} {h : Heap} {start : Int}
theorem sort_c (hs : src h a l.length (ints .i64 l)) (hl : l.length ≤ 1000) : Runs Try.prog 40 #[.int .i64 start, .slice a l.length cap] h fun v h' =>
    ∃ a' c' ys E, v = .slice a' l.length c' ∧ Me (Wd.of h) h' [E] ∧ Ow a' l.length c' 1 (ints .i64 ys) E ∧ ys.Perm (modL l) ∧ ys.Pairwise fun x y => distZ start x ≤ distZ start y := by
  refine vc_seq_Sort _ _ _ _ _ _ ?_
  intro b1 h1 e1 e2
  have m := (Me.start h).push e2 e1
  clear e1 e2
  obtain ⟨T1, m⟩ : ∃ T1, Me (Wd.of h) h1 ([(b1, [.int .i64 start], T1)] :: []) := ⟨_, m⟩
  refine ⟨fun oa ol oc x h' => ∃ (k : Nat) (E : Grp), x = k ∧ k ≤ l.length ∧ ol = k ∧ Ow oa k oc 1 (ints .i64 (modL (l.take k))) E ∧ Me (Wd.of h) h' (E :: [(b1, [.int .i64 start], T1)] :: []), fun _ _ _ x _ => ((l.length : Int) - x).toNat,
    ⟨0, [], rfl, by omega, rfl, Ow.nil, m.nilI⟩, fun _ => ?_⟩
  clear m
  rintro oa ol oc _ h2 ⟨k, E, rfl, hk, hol, o, m⟩
  subst ol
  have kk := m.kept (Wd.le.refl _)
  refine dcase_intro (fun q => ?_) fun q => ?_
  · obtain ⟨x, hx⟩ : ∃ x, l[k]? = some x := ⟨_, List.getElem?_eq_getElem (by omega)⟩
    obtain ⟨sb, so, rfl, hc⟩ := src_cell (kk.src hs) (ints_get (k := .i64) hx)
    refine ⟨⟨by omega, by omega⟩, x, hc, (mod_c _ _).ret ⟨_, rfl, ?_⟩⟩
    refine o.app1 m 0 rfl rfl (by simp [Value.oneCell']) (by omega) (by decide) fun a' c' E' h' m' o' => ?_
    refine ⟨by simp only [fits]; omega, ⟨k + 1, E', by omega, by omega, rfl, ?_, m'⟩, by (try dsimp only); omega⟩
    rw [take_snoc' hx]
    simpa [modL, ints] using o'
  · obtain rfl : k = l.length := by omega
    rw [List.take_length] at o
    have hml : (modL l).length = l.length := by simp [modL]
    have sf := sortfn_c (xs := modL l) (a := oa) (cap := oc) m (by rw [hml]; exact o) (by omega)
    rw [hml] at sf
    refine sf.mono ?_
    rintro _ h6 ⟨rfl, ys, E', hp, hs2, o', m'⟩
    exact ⟨_, _, ys, E', rfl, m'.free 1 rfl, o', hp, hs2⟩
theorem sameInts_c {b : Option Addr} {c d : Nat} (hl : l.length ≤ 1000) (ha : src h a l.length (ints .i64 l)) (hb : src h b l.length (ints .i64 l)) : Runs Try.prog 43 #[.slice a l.length c, .slice b l.length d] h fun v h' => v = .bool true ∧ h' = h := by
  refine vc_muezzinref_SameInts _ _ _ _ _ _ _ _ (bcase_false (by simp) ?_)
  refine ⟨fun x h' => h' = h ∧ ∃ k : Nat, x = k ∧ k ≤ l.length, fun x _ => ((l.length : Int) - x).toNat, ⟨rfl, 0, rfl, by omega⟩, fun _ => ?_⟩
  rintro _ h1 ⟨rfl, k, rfl, hk⟩
  refine dcase_intro (fun q => ?_) fun q => ⟨rfl, rfl⟩
  obtain ⟨x, hx⟩ : ∃ x, l[k]? = some x := ⟨_, List.getElem?_eq_getElem (by omega)⟩
  obtain ⟨b1, o1, rfl, hc1⟩ := src_cell ha (ints_get (k := .i64) hx)
  obtain ⟨b2, o2, rfl, hc2⟩ := src_cell hb (ints_get (k := .i64) hx)
  exact ⟨⟨by omega, by omega⟩, x, hc1, ⟨by omega, by omega⟩, x, hc2, bcase_false (by simp) ⟨by simp only [fits]; omega, ⟨rfl, k + 1, by omega, by omega⟩, by (try dsimp only); omega⟩⟩
theorem seqSorts_r (hs : src h a l.length (ints .i64 l)) : Runs Try.prog 8 #[.int .i64 start, .slice a l.length cap] h fun v h' => v = .bool true ∧ Kept h h' := by
  refine vc_muezzinlaw1_SeqSorts _ _ _ _ _ _ ((first1_c _).ret ⟨_, rfl, bcase_false rfl (dcase_intro (fun _ => ⟨rfl, Kept.refl _⟩) fun q => ?_)⟩)
  refine (sort_c hs (by omega)).mono ?_
  rintro _ h2 ⟨a1, c1, ys, E, rfl, m, o, hp, hsd⟩
  refine ⟨_, _, _, rfl, bcase_false (by simp) ?_⟩
  have kk := m.kept (Wd.le.refl _)
  have hs2 := kk.src hs
  have hsy := o.src1 m 0 rfl
  have hml : (modL l).length = l.length := by simp [modL]
  have hyl : ys.length = l.length := by rw [hp.length_eq, hml]
  have hym : ∀ y ∈ ys, 0 ≤ y ∧ y ≤ 4095 := fun y hy => by
    obtain ⟨x, _, rfl⟩ := List.mem_map.1 (hp.subset hy)
    omega
  refine ⟨fun sum x h' => h' = h2 ∧ ∃ k : Nat, x = k ∧ k ≤ l.length ∧ sum = (sumI (ys.take k) - sumI ((modL l).take k)) % 4096, fun _ x _ => ((l.length : Int) - x).toNat, ⟨rfl, 0, rfl, by omega, by simp [sumI]⟩, fun _ => ?_⟩
  rintro _ _ h3 ⟨rfl, k, rfl, hk, rfl⟩
  refine dcase_intro (fun q1 => ?_) fun q1 => ?_
  · obtain ⟨y, hy⟩ : ∃ y, ys[k]? = some y := ⟨_, List.getElem?_eq_getElem (by omega)⟩
    obtain ⟨x, hx⟩ : ∃ x, l[k]? = some x := ⟨_, List.getElem?_eq_getElem (by omega)⟩
    have hmx : (modL l)[k]? = some (x % 4096) := by simp [modL, hx]
    obtain ⟨b1, o1, e1, hcy⟩ := src_cell hsy (ints_get (k := .i64) hy)
    obtain ⟨b2, o2, e2, hcx⟩ := src_cell hs2 (ints_get (k := .i64) hx)
    have hyb := hym y (List.mem_of_getElem? hy)
    refine ⟨fun h' => h' = h3, ?_, fun _ => ?_⟩
    · refine dcase_intro (fun q2 => ?_) fun q2 => ?_
      · obtain ⟨z, hz⟩ : ∃ z, ys[k - 1]? = some z := ⟨_, List.getElem?_eq_getElem (by omega)⟩
        obtain ⟨b3, o3, e3, hcz⟩ := src_cell hsy (ints_get (k := .i64) hz)
        rw [e1] at e3; cases e3
        subst e1
        have ek : ((k : Int) - 1).toNat = k - 1 := by omega
        have hzy : distZ start z ≤ distZ start y := by
          have := List.pairwise_iff_getElem.1 hsd (k - 1) k (by omega) (by omega) (by omega)
          rw [(List.getElem?_eq_some_iff.1 hz).2, (List.getElem?_eq_some_iff.1 hy).2] at this
          exact this
        refine ⟨by simp only [fits]; omega, ⟨by omega, by omega⟩, z, by rw [ek]; exact hcz, ⟨by omega, by omega⟩, y, hcy, (dist_c _ _ _).ret ⟨_, rfl, hcy, (dist_c _ _ _).ret ⟨_, rfl, dcase_neg (by omega) ?_⟩⟩⟩
        exact ⟨⟨by omega, by omega⟩, y, hcy, dcase_neg (by omega) ⟨⟨by omega, by omega⟩, y, hcy, dcase_neg (by omega) rfl⟩⟩
      · subst e1
        exact ⟨⟨by omega, by omega⟩, y, hcy, dcase_neg (by omega) ⟨⟨by omega, by omega⟩, y, hcy, dcase_neg (by omega) rfl⟩⟩
    rintro h3 rfl
    have hs0 := hsy
    have hx0 := hs2
    subst e1 e2
    have hax : addZ x 0 = x % 4096 := by unfold addZ; simp
    refine ⟨⟨by omega, by omega⟩, y, hcy, ⟨by omega, by omega⟩, x, hcx, (add_c _ _ _).ret ⟨_, rfl, hcy, by rw [hax]; simp only [fits]; omega, (add_c _ _ _).ret ⟨_, rfl, hcy, ?_⟩⟩⟩
    rw [hax]
    refine ⟨fun n x h' => h' = h3 ∧ ∃ j : Nat, x = j ∧ j ≤ l.length ∧ n = (((modL l).take j).count y : Int) - ((ys.take j).count y : Int), fun _ x _ => ((l.length : Int) - x).toNat, ⟨rfl, 0, rfl, by omega, by simp⟩, fun _ => ?_⟩
    rintro _ _ h9 ⟨rfl, j, rfl, hj, rfl⟩
    have hb1 : ((modL l).take j).count y ≤ 40 := Nat.le_trans List.count_le_length (by rw [List.length_take]; omega)
    have hb2 : (ys.take j).count y ≤ 40 := Nat.le_trans List.count_le_length (by rw [List.length_take]; omega)
    refine dcase_intro (fun q2 => ?_) fun q2 => ?_
    · obtain ⟨y2, hy2⟩ : ∃ y, ys[j]? = some y := ⟨_, List.getElem?_eq_getElem (by omega)⟩
      obtain ⟨x2, hx2⟩ : ∃ x, l[j]? = some x := ⟨_, List.getElem?_eq_getElem (by omega)⟩
      have hmx2 : (modL l)[j]? = some (x2 % 4096) := by simp [modL, hx2]
      obtain ⟨b5, o5, e5, hcy2⟩ := src_cell hs0 (ints_get (k := .i64) hy2)
      cases e5
      obtain ⟨b6, o6, e6, hcx2⟩ := src_cell hx0 (ints_get (k := .i64) hx2)
      cases e6
      have hax2 : addZ x2 0 = x2 % 4096 := by unfold addZ; simp
      refine ⟨fun n h' => h' = h9 ∧ n = (((modL l).take (j + 1)).count y : Int) - ((ys.take (j + 1)).count y : Int), ?_, fun _ => ?_⟩
      · refine ⟨fun n h' => h' = h9 ∧ n = (((modL l).take (j + 1)).count y : Int) - ((ys.take j).count y : Int), ?_, fun _ => ?_⟩
        · refine ⟨⟨by omega, by omega⟩, x2, hcx2, ⟨by omega, by omega⟩, y, hcy, (add_c _ _ _).ret ⟨_, rfl, hcy, ?_⟩⟩
          rw [hax2, take_snoc' hmx2, List.count_append, List.count_singleton]
          refine dcase_intro (fun q3 => ⟨by simp only [fits]; omega, rfl, ?_⟩) fun q3 => ⟨rfl, ?_⟩
          · rw [if_pos (by simp [q3])]; omega
          · rw [if_neg (by simp [q3])]; omega
        rintro _ h11 ⟨rfl, rfl⟩
        have hb3 : ((modL l).take (j + 1)).count y ≤ 40 := Nat.le_trans List.count_le_length (by rw [List.length_take]; omega)
        refine ⟨⟨by omega, by omega⟩, y2, hcy2, ⟨by omega, by omega⟩, y, hcy, ?_⟩
        rw [take_snoc' hy2, List.count_append, List.count_singleton]
        refine dcase_intro (fun q3 => ⟨by simp only [fits]; omega, rfl, ?_⟩) fun q3 => ⟨rfl, ?_⟩
        · rw [if_pos (by simp [q3])]; omega
        · rw [if_neg (by simp [q3])]; omega
      rintro _ h12 ⟨rfl, rfl⟩
      exact ⟨by simp only [fits]; omega, ⟨rfl, j + 1, by omega, by omega, rfl⟩, by (try dsimp only); omega⟩
    · obtain rfl : j = l.length := by omega
      have hz : (((modL l).take l.length).count y : Int) - ((ys.take l.length).count y : Int) = 0 := by
        rw [List.take_of_length_le (by omega), List.take_of_length_le (by omega), hp.count_eq]; omega
      rw [hz]
      refine bcase_false (by simp) ⟨by simp only [fits]; omega, ⟨rfl, k + 1, by omega, by omega, ?_⟩, by (try dsimp only); omega⟩
      rw [take_snoc' hy, take_snoc' hmx, sumI_app, sumI_app]
      unfold addZ
      simp only [sumI]
      omega
  · obtain rfl : k = l.length := by omega
    have hz : (sumI (ys.take l.length) - sumI ((modL l).take l.length)) % 4096 = 0 := by
      rw [List.take_of_length_le (by omega), List.take_of_length_le (by omega), sumI_perm hp]; simp
    rw [hz]
    refine ⟨fun x h' => x = true ∧ h' = h3, bcase_true rfl ⟨by simp, rfl⟩, fun _ => ?_⟩
    rintro _ h13 ⟨rfl, rfl⟩
    have hsy' : src h13 a1 ys.length (ints .i64 ys) := by rw [hyl]; exact hsy
    have sc := sort_c (start := start) (cap := c1) hsy' (by omega)
    rw [hyl] at sc
    refine bcase_true rfl (sc.mono ?_)
    rintro _ h14 ⟨a2, c2, zs, E2, rfl, m2, o2, hp2, hsd2⟩
    have hmy : modL ys = ys := by
      unfold modL
      refine (List.map_congr_left (g := id) fun y hy => ?_).trans (List.map_id ys)
      have := hym y hy
      exact Int.emod_eq_of_lt (by omega) (by omega)
    rw [hmy] at hp2
    have hzy : zs = ys := sorted_one hp2 hsd2 hsd fun x hx y hy e => by
      have h1 := hym x (hp2.subset hx)
      have h2 := hym y (hp2.subset hy)
      unfold distZ at e
      omega
    subst hzy
    have k2 := m2.kept (Wd.le.refl _)
    have hz2 := o2.src1 m2 0 rfl
    have hz3 := k2.src hsy
    rw [← hyl] at hz2 hz3 ⊢
    refine ⟨_, _, _, rfl, (sameInts_c (by omega) hz2 hz3).ret ⟨_, rfl, rfl, kk.trans k2⟩⟩
theorem walk_SeqSorts (w : World) (a0 : Int) (w0 : (Lit.int .i64 a0).wf = true) (a1 : Option Addr) (len1 cap1 : Nat) (o1 : Opn (.slc (.int .i64)) (Wd.of w.heap) [.slice a1 len1 cap1]) :
    Calls Try.prog 8 #[.int .i64 a0, .slice a1 len1 cap1] w fun e w' => e = .returned (.bool true) ∧ Go.RowKit.Below w.heap.size w w' := by
  obtain ⟨a, cap, gs, e, _, _, h3, _⟩ := opn_ints o1
  cases e
  exact calls_of_runs (seqSorts_r (of_src.1 h3))
end
end Go.Proofs.Yteojoiglffkbmaa
