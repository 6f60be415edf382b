/- The program's pool of queues: Clone. -/
import Derived.Test.YtpcilleldanfmaaDoorPool3
set_option linter.unusedVariables false
set_option linter.unusedSimpArgs false
set_option maxRecDepth 8000
namespace Go.Proofs.YtpcilleldanfmaaDoor
open Go.Vc
section
variable {W W' : Wd} {h h' h1 : Heap} {G R : List Grp} {L L' E : Grp} {P P' : Po} {bs bs2 : List Nat} {Ls Ls2 : List Grp} {b b' k n i : Nat} {T : TypeId}
/-- A copy under way: so many queues are done. -/
def CloJ (W : Wd) (R : List Grp) (P : Po) (b b1 : Nat) (bs : List Nat) (Ls : List Grp) (T T1 : TypeId) (k : Nat) (h' : Heap) : Prop :=
  ∃ (W1 : Wd) (bs1 : List Nat) (Ls1 : List Grp), bs1.length = k ∧ W.le W1 ∧ Qs QuV W1 (P.q.take k) bs1 Ls1 ∧ Me W1 h' (Ls1.flatten :: [(b1, poH P ++ prs (bs1 ++ bs.drop k), T1)] :: Ls.flatten :: [(b, poH P ++ prs bs, T)] :: R)
theorem poH_one : ∀ u ∈ poH P ++ prs bs, u.oneCell' = true := by
  intro u hu
  rcases List.mem_append.1 hu with hu | hu
  · simp [poH] at hu
    rcases hu with rfl | rfl | rfl | rfl | rfl <;> rfl
  · obtain ⟨b, _, rfl⟩ := List.mem_map.1 hu
    rfl
theorem poClone_c (m : Me W h (L :: R)) (hv : PoV W b P L) (hP : PoOk P) : Runs Tryd.prog 19 #[.pointer (some ⟨b, 0, none⟩)] h fun v h' =>
    ∃ W' b' L', W.le W' ∧ v = .pointer (some ⟨b', 0, none⟩) ∧ PoV W' b' P L' ∧ Me W' h' (L' :: L :: R) := by
  (obtain ⟨bs, Ls, T, hq, rfl, mNew⟩ := hv.opn m; replace m := mNew; clear mNew)
  have hbs := hq.n1
  rw [hP.n] at hbs
  have hpl : (poH P ++ prs bs).length = 133 := by rw [List.length_append, prs_len, hbs]; rfl
  refine vc_pool_Pool_Clone _ _ _ ⟨_, m.row 1 rfl (us := poH P ++ prs bs) (by rw [List.drop_zero, ← hpl, List.take_length]) (by rw [hpl]; exact Nat.le_refl _), ?_⟩
  intro b1 h1 e1 e2
  replace m := m.push e2 e1
  clear e1 e2
  refine ⟨⟨hpl, m.wrs 0 rfl (by decide), poH_one⟩, ?_⟩
  intro h2 e3
  replace m := m.setr 0 rfl e3
  clear e3
  rw [setL_all (by rw [hpl]; rfl)] at m
  simp only [List.set_cons_zero] at m
  obtain ⟨T1, m⟩ : ∃ T1, Me W h2 ([(b1, poH P ++ prs bs, T1)] :: Ls.flatten :: [(b, poH P ++ prs bs, T)] :: R) := ⟨_, m⟩
  refine ⟨fun x h' => ∃ i : Nat, x = i ∧ i ≤ 16 ∧ CloJ W R P b b1 bs Ls T T1 (i * 8) h', fun x _ => (16 - x).toNat, ⟨0, rfl, by omega, W, [], [], rfl, Wd.le.refl _, Qs.nil, m.nilI⟩, fun _ => ?_⟩
  clear m
  rintro _ h3 ⟨i, rfl, hi, hj⟩
  refine dcase_intro (fun q => ?_) fun q => ?_
  · refine ⟨fun x h' => ∃ t : Nat, x = t ∧ t ≤ 8 ∧ CloJ W R P b b1 bs Ls T T1 (i * 8 + t) h', fun x _ => (8 - x).toNat, ⟨0, rfl, by omega, hj⟩, fun _ => ?_⟩
    clear hj
    rintro _ h4 ⟨t, rfl, ht, W1, bs1, Ls1, hbl, hle, hq1, m⟩
    refine dcase_intro (fun q2 => ?_) fun q2 => ?_
    · have hk : i * 8 + t < 128 := by omega
      obtain ⟨bk, Lk, e1, e2, hvk, hc⟩ := (hq.le fun _ _ _ => QuV.le hle).cellAt (hP.qu hk).1 m (j := 3) rfl
      have ix : 5 + (i : Int).toNat * 8 + (t : Int).toNat = 5 + (i * 8 + t) := by omega
      rw [ix]
      refine ⟨⟨by omega, by omega⟩, ⟨by omega, by omega⟩, _, hc, ⟨by omega, by omega⟩, (clone_c ((m.focus 2 rfl).pick _ e2) hvk (hP.qu hk).2.ok).mono ?_⟩
      rintro _ h5 ⟨W2, b', L', hle2, rfl, hv', m2⟩
      clear m
      simp only [List.eraseIdx_cons_zero, List.eraseIdx_cons_succ] at m2
      have m3 : Me W2 h5 (Lk :: (Ls.eraseIdx (i * 8 + t)).flatten :: (Ls1 ++ [L']).flatten :: [(b1, poH P ++ prs (bs1 ++ bs.drop (i * 8 + t)), T1)] :: [(b, poH P ++ prs bs, T)] :: R) := m2.perm (by
        simp only [List.flatten_cons, List.flatten_append, List.flatten_nil]
        exact permC fun c h0 hc => by simp only [hc, h0]; omega)
      have m4 := Me.unpick (i * 8 + t) e2 m3
      rw [set_same e2] at m4
      clear m2 m3
      refine ⟨_, rfl, ⟨by omega, by omega⟩, ?_⟩
      have hlt : i * 8 + t < bs.length := by omega
      refine m4.store 2 rfl (by rw [List.length_append, prs_len, List.length_append, List.length_drop]; simp only [poH, List.length_cons, List.length_nil]; omega) fun h6 m => ?_
      rw [poH_set, prs_set, List.set_append_right _ _ (by omega), hbl, Nat.sub_self, List.drop_eq_getElem_cons hlt, List.set_cons_zero] at m
      simp only [List.set_cons_zero, List.set_cons_succ] at m
      refine ⟨by simp only [fits]; omega, ⟨t + 1, by omega, by omega, W2, bs1 ++ [b'], Ls1 ++ [L'], by simp [hbl]; omega, hle.trans hle2, ?_, ?_⟩, by (try dsimp only); omega⟩
      · rw [show i * 8 + (t + 1) = i * 8 + t + 1 by omega, List.take_add_one, (hP.qu hk).1]
        exact (hq1.le fun _ _ _ => QuV.le hle2).app (Qs.one hv')
      · rw [show i * 8 + (t + 1) = i * 8 + t + 1 by omega, List.append_assoc, List.singleton_append]
        exact m.perm (by simp only [List.flatten_cons, List.flatten_append, List.flatten_nil]; exact permC fun c h0 hc => by simp only [hc, h0]; omega)
    · obtain rfl : t = 8 := by omega
      exact ⟨by simp only [fits]; omega, ⟨i + 1, by omega, by omega, by rw [show (i + 1) * 8 = i * 8 + 8 by omega]; exact ⟨W1, bs1, Ls1, hbl, hle, hq1, m⟩⟩, by (try dsimp only); omega⟩
  · obtain rfl : i = 16 := by omega
    obtain ⟨W1, bs1, Ls1, hbl, hle, hq1, m⟩ := hj
    rw [List.drop_of_length_le (by omega), List.append_nil] at m
    rw [List.take_of_length_le (by rw [hP.n]; omega)] at hq1
    refine ⟨W1, b1, Ls1.flatten ++ [(b1, poH P ++ prs bs1, T1)], hle, rfl, ⟨bs1, Ls1, T1, hq1, rfl⟩, m.perm ?_⟩
    simp only [List.flatten_cons]
    exact permC fun c h0 hc => by simp only [hc, h0]; omega
end
end Go.Proofs.YtpcilleldanfmaaDoor
