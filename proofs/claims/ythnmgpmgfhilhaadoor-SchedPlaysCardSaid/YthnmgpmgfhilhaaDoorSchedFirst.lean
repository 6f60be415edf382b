/- What the laws of chapter 20 share: lists of numbers that are compared, the chapter's example. -/
import Derived.Test.YthnmgpmgfhilhaaDoorSched4
import Derived.Test.YthnmgpmgfhilhaaDoorGenSchedr
import Derived.Test.YthnmgpmgfhilhaaDoorGenSchedLaws
import Derived.Test.YthnmgpmgfhilhaaDoorNum
set_option linter.unusedVariables false
set_option linter.unusedSimpArgs false
set_option maxRecDepth 8000
namespace Go.Proofs.YthnmgpmgfhilhaaDoor
open Go.Vc
section
variable {W : Wd} {h h' : Heap} {R : List Grp} {G : List Grp} {b : Nat} {L : Grp} {S : Sts} {ads : List Addr} {a w air : Int}
theorem sameInts_c {xa ya : Option Addr} {xc yc : Nat} {xs ys : List Int} (h1 : src h xa xs.length (ints .i64 xs)) (h2 : src h ya ys.length (ints .i64 ys)) (hlim : xs.length ≤ 1000000) : Runs Tryd.prog 17 #[.slice xa xs.length xc, .slice ya ys.length yc] h fun v h' => v = .bool (decide (xs = ys)) ∧ h' = h := by
  refine vc_muezzinref_SameInts _ _ _ _ _ _ _ _ ?_
  by_cases hl : xs.length = ys.length
  case neg =>
    refine bcase_true (by simp; omega) ⟨?_, rfl⟩
    rw [decide_eq_false (fun c => hl (by rw [c]))]
  refine bcase_false (by simp; omega) ⟨fun x h' => ∃ i : Nat, x = i ∧ i ≤ xs.length ∧ xs.take i = ys.take i ∧ h' = h, fun x _ => ((xs.length : Int) - x).toNat, ⟨0, rfl, by omega, rfl, rfl⟩, fun _ => ?_⟩
  rintro _ _ ⟨i, rfl, hi, he, rfl⟩
  refine dcase_intro (fun q => ?_) fun q => ?_
  · have hx : xs[i]? = some xs[i] := List.getElem?_eq_getElem (by omega)
    have hy : ys[i]? = some ys[i] := List.getElem?_eq_getElem (by omega)
    obtain ⟨xb, xo, rfl, hcx⟩ := src_cell h1 (ints_get hx)
    obtain ⟨yb, yo, rfl, hcy⟩ := src_cell h2 (ints_get hy)
    refine ⟨⟨by omega, by omega⟩, _, hcx, ⟨by omega, by omega⟩, _, hcy, ?_⟩
    by_cases hxy : xs[i] = ys[i]
    · refine bcase_false (by simp [hxy]) ⟨by simp only [fits]; omega, ⟨i + 1, by omega, by omega, ?_, rfl⟩, by (try dsimp only); omega⟩
      rw [List.take_add_one, List.take_add_one, he, hx, hy, hxy]
    · refine bcase_true (by simp [hxy]) ⟨?_, rfl⟩
      rw [decide_eq_false]
      intro c; subst c; exact hxy rfl
  · have : i = xs.length := by omega
    subst this
    rw [List.take_length, hl, List.take_length] at he
    refine ⟨?_, rfl⟩
    rw [decide_eq_true he]
theorem has_c {xa : Option Addr} {xc : Nat} {xs : List Int} (h1 : src h xa xs.length (ints .i64 xs)) (hlim : xs.length ≤ 1000000) (n : Int) : Runs Tryd.prog 20 #[.slice xa xs.length xc, .int .i64 n] h fun v h' => v = .bool (decide (n ∈ xs)) ∧ h' = h := by
  refine vc_muezzinref_Has _ _ _ _ _ _ ⟨fun x h' => ∃ i : Nat, x = i ∧ i ≤ xs.length ∧ n ∉ xs.take i ∧ h' = h, fun x _ => ((xs.length : Int) - x).toNat, ⟨0, rfl, by omega, by simp, rfl⟩, fun _ => ?_⟩
  rintro _ _ ⟨i, rfl, hi, he, rfl⟩
  refine dcase_intro (fun q => ?_) fun q => ?_
  · have hx : xs[i]? = some xs[i] := List.getElem?_eq_getElem (by omega)
    obtain ⟨xb, xo, rfl, hcx⟩ := src_cell h1 (ints_get hx)
    refine ⟨⟨by omega, by omega⟩, _, hcx, dcase_intro (fun q2 => ⟨?_, rfl⟩) fun q2 => ⟨by simp only [fits]; omega, ⟨i + 1, by omega, by omega, ?_, rfl⟩, by (try dsimp only); omega⟩⟩
    · rw [decide_eq_true]
      rw [← q2]; exact List.getElem_mem _
    · rw [List.take_add_one, hx]
      intro c
      rcases List.mem_append.1 c with c | c
      · exact he c
      · simp at c; exact q2 c.symm
  · have : i = xs.length := by omega
    subst this
    rw [List.take_length] at he
    refine ⟨?_, rfl⟩
    rw [decide_eq_false he]
theorem eg_of {W : Wd} {ads : List Addr} {e : Er} (h : e = none) : EG W ads e := by rw [h]; exact EG.none
theorem cnt0 : onCnt sts0 = 0 := rfl
theorem one_mem {o : List Int} {a : Int} (h : o.length = 1) (ha : a ∈ o) : o = [a] := by
  cases o with
  | nil => simp at h
  | cons x r =>
    have : r = [] := List.eq_nil_of_length_eq_zero (by simpa using h)
    subst this
    simp at ha; rw [ha]
theorem schedFirst_c (m : Me W h R) : Runs Tryd.prog 8 #[] h fun v h' => v = .bool true ∧ Me W h' R := by
  refine vc_muezzinlaw20_first _ _ ((new_c m).mono ?_)
  rintro _ h1 ⟨b, L, rfl, hv, m⟩
  refine ⟨_, rfl, bcase_false rfl ((order_c m hv).mono ?_)⟩
  rintro _ h2 ⟨oa, oc, o, E, rfl, ow, io, m⟩
  have ho := io.n
  rw [cnt0] at ho
  refine ⟨_, _, _, rfl, (add_c (ads := []) (a := 3) (w := 10) (m.free 0 rfl) hv EG.none).mono ?_⟩
  rintro _ h3 ⟨L1, rfl, hv1, m⟩
  refine ⟨_, rfl, (active_c (ads := []) (a := 3) (on := true) m hv1 EG.none).mono ?_⟩
  rintro _ h4 ⟨L2, rfl, hv2, m⟩
  refine ⟨_, rfl, fun x h' => x = true ∧ h' = h4, dcase_pos (by omega) ⟨true, rfl, rfl, rfl⟩, fun _ => ?_⟩
  rintro _ h4 ⟨rfl, rfl⟩
  refine ⟨fun x h' => x = true ∧ h' = h4, bcase_true rfl ⟨true, rfl, rfl, rfl⟩, fun _ => ?_⟩
  rintro _ _ ⟨rfl, rfl⟩
  refine bcase_true rfl ((order_c m hv2).mono ?_)
  rintro _ h5 ⟨pa, pc, o, E, rfl, ow, io, m⟩
  refine ⟨_, _, _, rfl, ?_⟩
  intro b1 h6 e1 e2
  replace m := m.push e2 e1
  clear e1 e2
  have hn : o.length = 1 := io.n
  have hm : (3 : Int) ∈ o := (io.m 3).2 ⟨⟨10, 0, true⟩, rfl, rfl⟩
  have he := one_mem hn hm
  subst he
  refine (sameInts_c (ys := [3]) (ow.src1 m 1 rfl) (show src h6 (some ⟨b1, 0, none⟩) 1 (ints .i64 [3]) from m.row 0 rfl rfl (by simp)) (by simp)).mono ?_
  rintro _ h7 ⟨rfl, rfl⟩
  exact ⟨_, rfl, rfl, (m.free 0 rfl).free 0 rfl |>.free 0 rfl⟩
end
end Go.Proofs.YthnmgpmgfhilhaaDoor
