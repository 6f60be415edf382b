import Derived.Test.YtepodifionoigaaGreatDoorMSesG
import Derived.Test.YtepodifionoigaaGreatDoorR24f
set_option linter.unusedVariables false
set_option linter.unusedSimpArgs false
set_option maxRecDepth 8000
namespace Go.Proofs.YtepodifionoigaaGreatDoor
open Go.Vc
theorem kix_split : ∀ {l : List Fm} {n : Int} {i : Nat}, kixN l n = some i → ∃ f, kfind l n = some f ∧ f.sq = n ∧ f ∈ l ∧ l.Perm (f :: kdel l n) := by
  intro l n i h
  obtain ⟨f, h1, h2, h3, h4, -⟩ := kix_some h
  have hi := (List.getElem?_eq_some_iff.1 h1).1
  have he := (List.getElem?_eq_some_iff.1 h1).2
  refine ⟨f, h3, h2, List.mem_of_getElem? h1, ?_⟩
  have e : l = l.take i ++ f :: l.drop (i + 1) := by
    have := List.take_append_drop i l
    rw [List.drop_eq_getElem_cons hi, he] at this
    exact this.symm
  rw [h4]
  refine List.Perm.trans (by rw [← e]) (List.perm_middle (l₁ := l.take i) (a := f) (l₂ := l.drop (i + 1)))
theorem kfind_sq {l : List Fm} {n : Int} {f : Fm} (h : kfind l n = some f) : f.sq = n := by
  have := List.find?_some h
  simpa using this
theorem find_del {l : List Fm} {n : Int} : ((kfind l n).toList ++ kdel l n).Perm l := by
  cases hq : kixN l n with
  | none =>
    obtain ⟨h1, h2, -⟩ := kix_none hq
    rw [h1, h2]; exact List.Perm.refl _
  | some i =>
    obtain ⟨f, h1, -, -, h2⟩ := kix_split hq
    rw [h1]; exact h2.symm
theorem upP_perm : ∀ (d : Nat) {l : List Fm} {s : Int}, ((upP d l s).1 ++ (upP d l s).2).Perm l
  | 0, l, s => List.Perm.refl _
  | d + 1, l, s => by
    rw [upP_step]
    dsimp only
    rw [List.append_assoc]
    exact ((upP_perm d).append_left _).trans find_del
theorem addZ_d {b : Int} {k : Nat} (hb : 0 ≤ b ∧ b ≤ 4095) (hk : k < 4096) : distZ b (addZ b k) = k := by unfold distZ addZ; omega
theorem upP_dist : ∀ (d : Nat) {l : List Fm} {s b : Int} {k : Nat}, s = addZ b k → 0 ≤ b ∧ b ≤ 4095 → k + d ≤ 4096 → (∀ f ∈ (upP d l s).1, (k : Int) ≤ distZ b f.sq) ∧ (upP d l s).1.Pairwise fun f g => distZ b f.sq ≤ distZ b g.sq
  | 0, l, s, b, k, _, _, _ => ⟨fun f hf => (by cases hf), List.Pairwise.nil⟩
  | d + 1, l, s, b, k, hs, hb, hk => by
    have e : addZ s 1 = addZ b (k + 1 : Nat) := by rw [hs]; unfold addZ; omega
    obtain ⟨h1, h2⟩ := upP_dist d (l := kdel l s) (k := k + 1) e hb (by omega)
    rw [upP_step]
    dsimp only
    cases hq : kfind l s with
    | none => exact ⟨fun f hf => by have := h1 f hf; omega, h2⟩
    | some g =>
      have hg : distZ b g.sq = k := by rw [kfind_sq hq, hs]; exact addZ_d hb (by omega)
      refine ⟨fun f hf => ?_, List.pairwise_cons.2 ⟨fun f hf => ?_, h2⟩⟩
      · rcases List.mem_cons.1 hf with rfl | hf
        · omega
        · have := h1 f hf; omega
      · have := h1 f hf; omega
theorem sorted_one {f : Int → Int} : ∀ {a b : List Int}, a.Perm b → a.Pairwise (fun x y => f x ≤ f y) → b.Pairwise (fun x y => f x ≤ f y) → (∀ x ∈ a, ∀ y ∈ a, f x = f y → x = y) → a = b
  | [], b, h, _, _, _ => (List.nil_perm.1 h).symm
  | x :: r, [], h, _, _, _ => by have := h.length_eq; simp at this
  | x :: r, y :: t, h, h1, h2, hi => by
    obtain ⟨h3, h4⟩ := List.pairwise_cons.1 h1
    obtain ⟨h5, h6⟩ := List.pairwise_cons.1 h2
    have hxy : x = y := by
      have hx : x ∈ y :: t := h.subset (by simp)
      have hy : y ∈ x :: r := h.symm.subset (by simp)
      simp only [List.mem_cons] at hx hy
      rcases hx with hx | hx
      · exact hx
      · rcases hy with hy | hy
        · exact hy.symm
        · have := h3 y hy
          have := h5 x hx
          exact hi x (by simp) y (by simp [hy]) (by omega)
    subst hxy
    rw [sorted_one ((List.perm_cons x).1 h) h4 h6 fun u hu v hv => hi u (by simp [hu]) v (by simp [hv])]
theorem upP_sort {l : List Fm} {s : Int} {ys : List Int} (h : KNd l) (hk : ∀ f ∈ l, 0 ≤ f.sq ∧ f.sq ≤ 4095) (hs : 0 ≤ s ∧ s ≤ 4095) (hp : ys.Perm (l.map Fm.sq)) (hy : ys.Pairwise fun x y => distZ s x ≤ distZ s y) : (upP 4096 l s).1.map Fm.sq = ys := by
  have h0 := upP_perm 4096 (l := l) (s := s)
  rw [upP_all h hs hk, List.append_nil] at h0
  obtain ⟨-, h2⟩ := upP_dist 4096 (l := l) (s := s) (b := s) (k := 0) (by unfold addZ; omega) hs (by decide)
  have hpm : ((upP 4096 l s).1.map Fm.sq).Perm ys := (h0.map Fm.sq).trans hp.symm
  refine sorted_one (f := distZ s) hpm (List.pairwise_map.2 h2) hy fun x hx y hy e => ?_
  obtain ⟨f, hf, rfl⟩ := List.mem_map.1 hx
  obtain ⟨g, hg, rfl⟩ := List.mem_map.1 hy
  have h3 := hk f (h0.subset hf)
  have h4 := hk g (h0.subset hg)
  unfold distZ at e
  omega
theorem kfind_mem : ∀ {l : List Fm} {f : Fm}, KNd l → f ∈ l → kfind l f.sq = some f
  | g :: l, f, h, hf => by
    have h' : g.sq ∉ l.map Fm.sq ∧ (l.map Fm.sq).Nodup := by
      unfold KNd at h
      rw [List.map_cons] at h
      exact List.nodup_cons.1 h
    rcases List.mem_cons.1 hf with rfl | hf
    · simp [kfind]
    · have hne : g.sq ≠ f.sq := fun e => h'.1 (by rw [e]; exact List.mem_map_of_mem hf)
      have := kfind_mem (l := l) h'.2 hf
      simp only [kfind, List.find?_cons, beq_false_of_ne hne]
      exact this
theorem nodup_sub : ∀ {l m : List Nat}, l.Nodup → (∀ x ∈ l, x ∈ m) → l.length ≤ m.length
  | [], m, _, _ => Nat.zero_le _
  | x :: l, m, h, hs => by
    obtain ⟨h1, h2⟩ := List.nodup_cons.1 h
    have hx := hs x (by simp)
    have ih := nodup_sub (l := l) (m := m.erase x) h2 fun y hy => (List.mem_erase_of_ne (fun e => h1 (by rw [← e]; exact hy))).2 (hs y (by simp [hy]))
    rw [List.length_erase_of_mem hx] at ih
    have := List.length_pos_of_mem hx
    rw [List.length_cons]; omega
theorem map_inj {α : Type} {g : α → Nat} : ∀ {l : List α}, (l.map g).Nodup → ∀ a ∈ l, ∀ b ∈ l, g a = g b → a = b
  | x :: l, h, a, ha, b, hb, e => by
    rw [List.map_cons] at h
    obtain ⟨h1, h2⟩ := List.nodup_cons.1 h
    rcases List.mem_cons.1 ha with rfl | ha
    · rcases List.mem_cons.1 hb with rfl | hb
      · rfl
      · exact absurd (by rw [e]; exact List.mem_map_of_mem hb) h1
    · rcases List.mem_cons.1 hb with rfl | hb
      · rename_i ha'
        exact absurd (by rw [← e]; exact List.mem_map_of_mem ‹a ∈ l›) h1
      · exact map_inj h2 a ha b hb e
theorem nodup_of_map {α : Type} {g : α → Nat} : ∀ {l : List α}, (l.map g).Nodup → l.Nodup
  | [], _ => List.nodup_nil
  | x :: l, h => by
    rw [List.map_cons] at h
    obtain ⟨h1, h2⟩ := List.nodup_cons.1 h
    exact List.nodup_cons.2 ⟨fun hx => h1 (List.mem_map_of_mem hx), nodup_of_map h2⟩
theorem perm_seen {α : Type} {g : α → Nat} {ks es : List α} (hk : (ks.map g).Nodup) (he : (es.map g).Nodup) (h1 : ∀ e ∈ ks, e ∈ es) (h2 : ∀ e ∈ es, g e ∈ ks.map g) : ks.Perm es := by
  refine (List.perm_ext_iff_of_nodup (nodup_of_map hk) (nodup_of_map he)).2 fun e => ⟨h1 e, fun h => ?_⟩
  obtain ⟨e', h3, h4⟩ := List.mem_map.1 (h2 e h)
  rwa [map_inj he e' (h1 e' h3) e h h4] at h3
end Go.Proofs.YtepodifionoigaaGreatDoor
set_option linter.unusedVariables false
set_option linter.unusedSimpArgs false
set_option maxRecDepth 8000
namespace Go.Proofs.YtepodifionoigaaGreatDoor
open Go.Vc
def UpOk (l : List Fm) : Prop := ∀ f ∈ l, FmOk f
theorem upP_mem (d : Nat) {l : List Fm} {s : Int} {g : Fm} (hg : g ∈ (upP d l s).1) : g ∈ l := (upP_perm d).subset (List.mem_append_left _ hg)
theorem runP_mem : ∀ (n : Nat) {l : List Fm} {s : Int} {g : Fm}, g ∈ (runP n l s).1 → g ∈ l
  | 0, l, s, g, hg => by cases hg
  | n + 1, l, s, g, hg => by
    unfold runP at hg
    cases hq : kfind l s with
    | none => rw [hq] at hg; cases hg
    | some f =>
      rw [hq] at hg
      rcases List.mem_cons.1 hg with rfl | hg
      · exact List.mem_of_find?_eq_some hq
      · exact List.mem_of_mem_eraseP (runP_mem n hg)
theorem UpOk.app {a b : List Fm} (h : UpOk a) (k : UpOk b) : UpOk (a ++ b) := fun f hf => by
  rcases List.mem_append.1 hf with hf | hf
  · exact h f hf
  · exact k f hf
theorem UpOk.nil : UpOk [] := fun f hf => by cases hf
section
variable {x : Ses} {f : Fm} {to size : Int} {xs : List Ses} {bs : List Int}
theorem up_ok (h : SesG x) : UpOk (x.up to).1 := fun g hg => h.ok.k g (upP_mem _ hg)
theorem run_ok (h : SesG x) : UpOk x.run.1 := fun g hg => h.ok.k g (runP_mem _ hg)
theorem allK_ok (h : SesG x) : UpOk x.allK := fun g hg => h.ok.k g (upP_mem _ hg)
theorem take_ok (h : SesG x) (hf : FmOk f) : UpOk (x.take f).1 := by
  unfold Ses.take
  split
  · unfold Ses.take2
    split
    · exact UpOk.nil
    · split
      · exact (up_ok (stand_g h)).app (run_ok (put_g (up_g (stand_g h) addZ_b) hf))
      · exact run_ok (put_g (stand_g h) hf)
  · unfold Ses.takeOff
    dsimp only
    split
    · exact UpOk.nil
    · intro g hg
      simp only [List.mem_cons, List.not_mem_nil, or_false] at hg
      subst hg; exact hf
theorem barG_ok (h : SesG x) (ht : 0 ≤ to ∧ to ≤ 4095) : UpOk (x.barG to).1 := by
  unfold Ses.barG Ses.barY
  dsimp only
  split
  · exact (up_ok h).app (run_ok (up_g h ht))
  · exact UpOk.nil
theorem leaveP_ok : ∀ {l : List Ses}, (∀ x ∈ l, SesG x) → UpOk (leaveP l)
  | [], _ => UpOk.nil
  | x :: l, h => (allK_ok (h x (by simp))).app (leaveP_ok fun y hy => h y (by simp [hy]))
theorem all_ok : ∀ {l : List (List Int)} {d : Dst} {k : Nat}, DstG d k → UpOk d.up → (∀ p ∈ l, ∀ x ∈ p, 0 ≤ x ∧ x < 256) → UpOk (d.all l).up
  | [], d, k, _, hu, _ => hu
  | p :: l, d, k, h, hu, hx => by
    show UpOk ((d.one p).all l).up
    refine all_ok (k := k + 1) (h.one (hx p (by simp))) ?_ fun q hq => hx q (by simp [hq])
    unfold Dst.one
    split
    · rename_i hf
      have hk := (qfm_ok hf.1 (hx p (by simp))).1
      have t0 := hk.t0
      have t7 := hk.t7
      exact hu.app (take_ok (h.getD (t := (qfm p).tid.toNat) (by omega)).2 hk)
    · exact hu
theorem sesN_g {sq z : Int} (h : 0 ≤ sq ∧ sq ≤ 4095) (hz : 1 ≤ z ∧ z ≤ 64) : SesG (sesN sq z) :=
  ⟨⟨h, h, ⟨Int.le_refl 0, show (0 : Int) ≤ 4095 by decide⟩, ⟨Int.le_refl 0, show (0 : Int) < 18446744073709551616 by decide⟩, ⟨by show 0 ≤ z; omega, hz.2⟩, fun f hf => (by cases hf), Nat.zero_le _⟩, List.nodup_nil⟩
theorem sets_g {y : Ses} {t : Nat} (hg : ∀ x ∈ xs, SesG x) (hy : SesG y) : ∀ x ∈ xs.set t y, SesG x := fun x hx => by
  rcases List.mem_or_eq_of_mem_set hx with hx | rfl
  · exact hg x hx
  · exact hy
theorem getD_g {t : Nat} (hg : ∀ x ∈ xs, SesG x) : SesG (xs.getD t ses0) := by
  by_cases ht : t < xs.length
  · have : xs.getD t ses0 = xs[t] := by simp [List.getD, ht]
    rw [this]; exact hg _ (List.getElem_mem ht)
  · have : xs.getD t ses0 = ses0 := by simp [List.getD, show ¬ t < xs.length from ht]
    rw [this]; exact ses0_g
theorem oth_g (hg : ∀ x ∈ xs, SesG x) (hs : 1 ≤ size ∧ size ≤ 64) (hx : ∀ x ∈ bs, 0 ≤ x ∧ x < 256) : (oth size xs bs).xs.length = xs.length ∧ (∀ x ∈ (oth size xs bs).xs, SesG x) ∧ UpOk (oth size xs bs).up ∧ (oth size xs bs).up.length ≤ 10000 := by
  unfold oth
  split
  · rename_i hb
    have hl := hb.1
    have hw := wd_bd (xs := bs) (i := 18) hx (by omega)
    have h0 : 0 ≤ wd bs 18 / 16 ∧ wd bs 18 / 16 ≤ 4095 := by omega
    split
    · refine ⟨by dsimp only; rw [List.length_set], sets_g hg (barG_g (getD_g hg) h0), barG_ok (getD_g hg) h0, ?_⟩
      have hk := (getD_g (t := (wd bs 16 / 4096).toNat) hg).ok.n
      generalize xs.getD (wd bs 16 / 4096).toNat ses0 = x at hk ⊢
      unfold Ses.barG Ses.barY
      dsimp only
      split
      · have h1 := up_lens x (wd bs 18 / 16)
        have h2 := run_len (x.up (wd bs 18 / 16)).2
        dsimp only
        rw [List.length_append]; omega
      · exact Nat.zero_le _
    · exact ⟨rfl, hg, UpOk.nil, Nat.zero_le _⟩
  · split
    · rename_i hb
      have hl := hb.1.1
      split
      · rename_i hq
        have hw := wd_bd (xs := bs) (i := 31) hx (by omega)
        have h2 := wd_bd (xs := bs) (i := adOff bs) hx (by unfold adOff; split <;> omega)
        refine ⟨by dsimp only; rw [List.length_set], sets_g hg (sesN_g ?_ ?_), allK_ok (getD_g hg), ?_⟩
        · unfold adSq; rw [hq.1, if_neg (by decide)]; omega
        · unfold askSize adSize adPar; split <;> omega
        · have := allK_len (getD_g (t := (adTid bs).toNat) hg)
          dsimp only; omega
      · exact ⟨rfl, hg, UpOk.nil, Nat.zero_le _⟩
    · split
      · refine ⟨by dsimp only; rw [List.length_set], sets_g hg ses0_g, allK_ok (getD_g hg), ?_⟩
        have := allK_len (getD_g (t := (dlTid bs).toNat) hg)
        dsimp only; omega
      · exact ⟨rfl, hg, UpOk.nil, Nat.zero_le _⟩
end
end Go.Proofs.YtepodifionoigaaGreatDoor
