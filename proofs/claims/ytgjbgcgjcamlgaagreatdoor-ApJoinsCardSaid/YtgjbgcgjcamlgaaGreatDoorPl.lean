/- Queues of nothing: made, dropped. -/
import Derived.Test.YtgjbgcgjcamlgaaGreatDoorJoin3
import Derived.Test.YtgjbgcgjcamlgaaGreatDoorGenAp2
set_option linter.unusedVariables false
set_option linter.unusedSimpArgs false
set_option maxRecDepth 8000
namespace Go.Proofs.YtgjbgcgjcamlgaaGreatDoor
open Go.Vc
/-- A queue of nothing. -/
def FqE (cs : List Value) : Prop := ∀ k, k < 16 → cs[3 + k * 8]? = some (.slice none 0 0)
/-- Of a pool's queues so many were made, and are empty. -/
def PlQ (k : Nat) (vs : List Value) (Q : Grp) : Prop := ∀ j, j < k → ∃ q cs T, vs[5 + j]? = some (.pointer (some ⟨q, 0, none⟩)) ∧ (q, cs, T) ∈ Q ∧ FqE cs
def PlR (seed tg iv : Int) (p : Addr) (E : Grp) : Prop := ∃ b vs Q, p = ⟨b, 0, none⟩ ∧ E = (b, vs, 149) :: Q ∧ PlC seed tg iv vs ∧ PlQ 128 vs Q
section
variable {W W' : Wd} {h h' : Heap} {G : List Grp} {E Q : Grp} {ads : List Addr} {n k i j b o : Nat} {vs us cs : List Value} {T : TypeId}
theorem renew2_c {seed tg iv : Int} (m : Me W h ([(b, vs, T)] :: Q :: G)) (p : PlC seed tg iv vs) (pq : PlQ (i * 8) vs Q) (hi : i < 16) :
    Runs Tryz.prog 59 #[.pointer (some ⟨b, 0, none⟩), .int .i64 (i : Int)] h fun v h' => ∃ vs' Q', PlC seed tg iv vs' ∧ PlQ ((i + 1) * 8) vs' Q' ∧ Me W h' ([(b, vs', T)] :: Q' :: G) := by
  refine vc_pool_Pool_renew _ _ _ _ ⟨fun x h => ∃ (k : Nat) (vs' : List Value) (Q' : Grp), x = k ∧ k ≤ 8 ∧ PlC seed tg iv vs' ∧ PlQ (i * 8 + k) vs' Q' ∧ Me W h ([(b, vs', T)] :: Q' :: G), fun x _ => (8 - x).toNat, ⟨0, vs, Q, rfl, by omega, p, pq, m⟩, fun _ => ?_⟩
  rintro _ h1 ⟨k, vs', Q', rfl, hk, p, pq, m⟩
  refine dcase_intro (fun q => ?_) fun q => ⟨vs', Q', p, by
    obtain rfl : k = 8 := by omega
    rw [show (i + 1) * 8 = i * 8 + 8 by omega]; exact pq, m⟩
  have hp := p
  obtain ⟨p1, p2, p3, p4⟩ := p
  refine ⟨seed, m.cell 0 rfl p2, tg, m.cell 0 rfl p3, iv, m.cell 0 rfl p4, ⟨by omega, by omega⟩, vc_fq_New _ _ _ _ _ ?_⟩
  intro b1 h2 e1 e2
  obtain ⟨fc, hfc, hfe⟩ : ∃ fc : List Value, h2 = h1.push (.cells fc.toArray 241) ∧ FqE fc := ⟨_, e2, fun k hk => by
    have : k = 0 ∨ k = 1 ∨ k = 2 ∨ k = 3 ∨ k = 4 ∨ k = 5 ∨ k = 6 ∨ k = 7 ∨ k = 8 ∨ k = 9 ∨ k = 10 ∨ k = 11 ∨ k = 12 ∨ k = 13 ∨ k = 14 ∨ k = 15 := by omega
    rcases this with rfl | rfl | rfl | rfl | rfl | rfl | rfl | rfl | rfl | rfl | rfl | rfl | rfl | rfl | rfl | rfl <;> rfl⟩
  replace m := me_swap (m.push hfc e1)
  refine ⟨_, rfl, ⟨by omega, by omega⟩, ?_⟩
  rw [show (0 + 5 + (i : Int).toNat * 8 + (k : Int).toNat) = 5 + (i * 8 + k) by omega]
  refine m.store 0 rfl (by omega) fun h3 m => ?_
  simp only [List.set_cons_zero] at m
  have m4 : Me W h3 ([(b, vs'.set (5 + (i * 8 + k)) (.pointer (some ⟨b1, 0, none⟩)), T)] :: ((b1, fc, 241) :: Q') :: G) := m.perm (by
    simp only [List.flatten_cons, List.append_assoc, List.cons_append, List.nil_append]
    exact List.Perm.refl _)
  refine ⟨by simp only [fits]; omega, ⟨k + 1, _, _, by omega, by omega, hp.set (by omega), fun j hj => ?_, m4⟩, by dsimp only; omega⟩
  by_cases hjk : j = i * 8 + k
  · subst hjk
    exact ⟨b1, fc, 241, List.getElem?_set_self (by omega), List.mem_cons_self .., hfe⟩
  · obtain ⟨q', cs', T', g1, g2, g3⟩ := pq j (by omega)
    exact ⟨q', cs', T', by rw [List.getElem?_set_ne (by omega)]; exact g1, List.mem_cons_of_mem _ g2, g3⟩
theorem poolNew2_c {seed tg iv pk bt : Int} (m : Me W h G) (hp : okPool pk bt) :
    Runs Tryz.prog 22 #[.int .u32 seed, .int .i64 tg, .int .i64 iv, .int .i64 pk, .int .i64 bt] h fun v h' => ∃ p E, v = .tuple #[.pointer (some p), .nilIface] ∧ Me W h' (E :: G) ∧ PlR seed tg iv p E := by
  obtain ⟨⟨h1, h2⟩, h3, h4⟩ := hp
  refine vc_pool_New _ _ _ _ _ _ _ (dcase_neg (by omega) (dcase_neg (by omega) (dcase_neg (by omega) (dcase_neg (by omega) ?_))))
  intro b1 g1 e1 e2
  replace m := me_swap (m.push e2 e1).nilI
  refine ⟨fun x h => ∃ (k : Nat) (vs' : List Value) (Q : Grp), x = k ∧ k ≤ 16 ∧ PlC seed tg iv vs' ∧ PlQ (k * 8) vs' Q ∧ Me W h ([(b1, vs', 149)] :: Q :: G), fun x _ => (16 - x).toNat, ⟨0, _, [], rfl, by omega, ⟨rfl, rfl, rfl, rfl⟩, fun j hj => absurd hj (by omega), m⟩, fun _ => ?_⟩
  rintro _ g2 ⟨k, vs', Q, rfl, hk, p, pq, m⟩
  refine dcase_intro (fun q => ?_) fun q => ?_
  · refine (renew2_c m p pq (by omega)).mono ?_
    rintro _ g3 ⟨vs2, Q2, p2, pq2, m2⟩
    exact ⟨by simp only [fits]; omega, ⟨k + 1, vs2, Q2, by omega, by omega, p2, pq2, m2⟩, by dsimp only; omega⟩
  · obtain rfl : k = 16 := by omega
    exact ⟨⟨b1, 0, none⟩, _, rfl, m.join, b1, vs', Q, rfl, rfl, p, pq⟩
theorem fqAll0_c {h : Heap} {q : Nat} (hq : ∀ k, k < 16 → cell h q (3 + k * 8) = some (.slice none 0 0)) : Runs Tryz.prog 79 #[.pointer (some ⟨q, 0, none⟩)] h fun v h' => v = .slice none 0 0 ∧ h' = h := by
  refine vc_fq_Queue_All _ _ _ ⟨fun a l c x h' => a = none ∧ l = 0 ∧ c = 0 ∧ h' = h ∧ ∃ k : Nat, x = k ∧ k ≤ 16, fun _ _ _ x _ => (16 - x).toNat, ⟨rfl, rfl, rfl, rfl, 0, rfl, by omega⟩, fun _ => ?_⟩
  rintro _ _ _ _ h1 ⟨rfl, rfl, rfl, rfl, k, rfl, hk⟩
  refine dcase_intro (fun q2 => ?_) fun q2 => ⟨rfl, rfl⟩
  refine on_addr ⟨⟨by omega, by omega⟩, none, 0, 0, ?_, ?_⟩
  · rw [show (0 + 3 + ((k : Int)).toNat * 8) = 3 + k * 8 by omega]; exact hq k (by omega)
  refine ⟨fun a l c x h' => a = none ∧ l = 0 ∧ c = 0 ∧ x = 0 ∧ h' = h1, fun _ _ _ _ _ => 0, ⟨rfl, rfl, rfl, rfl, rfl⟩, fun _ => ?_⟩
  rintro _ _ _ _ h2 ⟨rfl, rfl, rfl, rfl, rfl⟩
  exact dcase_neg (by decide) ⟨by simp only [fits]; omega, ⟨rfl, rfl, rfl, rfl, k + 1, by omega, by omega⟩, by dsimp only; omega⟩
theorem poolDrop0_c {seed tg iv : Int} (m : Me W h ([(b, vs, T)] :: Q :: G)) (p : PlC seed tg iv vs) (pq : PlQ 128 vs Q) :
    Runs Tryz.prog 39 #[.pointer (some ⟨b, 0, none⟩), .int .i64 1] h fun v h' => (∃ a c, v = .slice a 0 c) ∧ Me W h' G := by
  have hlen := p.1
  refine vc_pool_Pool_Drop _ _ _ _ (vc_pool_there _ _ _ _ (dcase_pos (by decide) (dcase_pos (by decide) (dcase_pos (by decide) ⟨true, rfl, bcase_false rfl ?_⟩))))
  refine ⟨by simp only [fits]; omega, on_addr ⟨by decide, (vs.drop 5).take 8, m.row 0 rfl rfl (by show 5 + 8 ≤ vs.length; omega), ?_⟩⟩
  refine ⟨fun a l c x h => l = 0 ∧ ∃ (k : Nat) (E : Grp), x = k ∧ k ≤ 8 ∧ Ow a 0 c 5 [] E ∧ Me W h (E :: [(b, vs, T)] :: Q :: G), fun _ _ _ x _ => (8 - x).toNat, ⟨rfl, 0, [], rfl, by omega, Ow.nil, m.nilI⟩, fun _ => ?_⟩
  rintro a' _ c' _ h2 ⟨rfl, k, E, rfl, hk, ow, m2⟩
  refine dcase_intro (fun q => ?_) fun q => ?_
  · obtain ⟨qb, fc, T', g1, g2, g3⟩ := pq k (by omega)
    refine ⟨⟨by omega, by omega⟩, some ⟨qb, 0, none⟩, ?_, ?_⟩
    · rw [show ((k : Int)).toNat = k from rfl, List.getElem?_take_of_lt (by omega), List.getElem?_drop]; exact g1
    refine (fqAll0_c fun j hj => (m2.has (qb, fc, T') (by
      simp only [List.flatten_cons, List.mem_append]
      exact .inr (.inr (.inl g2)))).cell_eq (g3 j hj)).ret ⟨none, 0, 0, rfl, [], ⟨rfl, by simp⟩, ?_⟩
    refine ow.app m2 0 rfl rfl (by decide) (by decide) fun a4 c4 E4 h4 m4 o4 => ?_
    simp only [List.set_cons_zero] at m4
    exact ⟨by simp only [fits]; omega, ⟨rfl, k + 1, E4, by omega, by omega, o4, m4⟩, by dsimp only; omega⟩
  · refine ⟨by simp only [fits]; omega, ?_⟩
    have := renew_c (i := 0) m2.drop1 p (by decide)
    refine this.mono ?_
    rintro _ h5 ⟨vs', -, m5⟩
    exact ⟨⟨a', c', rfl⟩, m5.drop1.drop1⟩
end
end Go.Proofs.YtgjbgcgjcamlgaaGreatDoor
