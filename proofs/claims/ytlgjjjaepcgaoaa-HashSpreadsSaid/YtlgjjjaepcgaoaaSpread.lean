/- HashSpreads: its walk. -/
import Derived.Test.YtlgjjjaepcgaoaaHash
import Derived.Test.YtlgjjjaepcgaoaaHeap
import Derived.Test.YtlgjjjaepcgaoaaSpreadPlain
set_option linter.unusedSimpArgs false
set_option linter.unusedVariables false
namespace Go.Proofs.Ytlgjjjaepcgaoaa
open Go.RowKit
def HistAt (w0 : World) (k : Nat) (w : World) (l : List Int) : Prop := Blk w w0.heap.size 33 (l.map (Value.int .i64)) ∧ Below w0.heap.size w0 w ∧ Hist l k
theorem HistAt.start (w : World) : HistAt w 0 (w.alloc (.cells ((List.replicate 16 0).map (Value.int .i64)).toArray 33)) (List.replicate 16 0) :=
  ⟨Blk.new _ _ _, (Below.refl _ _).alloc (Nat.le_refl _) _, Hist.zero⟩
theorem HistAt.cell {w0 w : World} {k : Nat} {l : List Int} (h : HistAt w0 k w l) (j : Nat) (hj : j < 16) : w.cell? ⟨w0.heap.size, j, none⟩ = some (.int .i64 (l.getD j 0)) := by
  have hl := h.2.2.1
  exact h.1.cell (by rw [List.getElem?_map, List.getElem?_eq_getElem (by omega)]; simp [List.getD, List.getElem?_eq_getElem (show j < l.length by omega)])
theorem HistAt.inc {w0 w : World} {k : Nat} {l : List Int} (h : HistAt w0 k w l) (j : Nat) (hj : j < 16) : HistAt w0 (k + 1) (w.setCell ⟨w0.heap.size, j, none⟩ (.int .i64 (l.getD j 0 + 1))) (l.set j (l.getD j 0 + 1)) := by
  refine ⟨?_, h.2.1.setCell (Nat.le_refl _) _, h.2.2.inc hj⟩
  rw [List.map_set]; exact h.1.set j _

theorem bucket_some (a b : Int) (w : World) :
    Calls Try.prog 20 #[.int .u32 a, .int .u32 b] w fun e w' => (∃ q : Nat, q < 16 ∧ e = .returned (.int .i64 q)) ∧ w = w' :=
  (bucket_any a b w).mono fun e w' ⟨he, hw⟩ => ⟨⟨(mixZ a b % 16).toNat, by omega, by rw [he]; exact ret_i64 (by omega)⟩, hw⟩
set_option maxRecDepth 10000 in
set_option maxHeartbeats 1000000 in
theorem walk_HashSpreads (a s n : Int) (wa : (Lit.int .u32 a).wf = true) (ws : (Lit.int .u32 s).wf = true) (wn : (Lit.int .i64 n).wf = true) (w : World) :
    Calls Try.prog 7 #[.int .u32 a, .int .u32 s, .int .i64 n] w fun e w' => e = .returned (.bool true) ∧ Below w.heap.size w w' := by
  have n0 : 0 ≤ n % 4 := by omega
  have n1 : n % 4 ≤ 3 := by omega
  clear wa ws wn
  go_enter Try.func7, Try.ntmps7
  go_wp2_with fail
  refine (first12_any _).mono ?_; rintro e w' ⟨rfl, rfl⟩
  go_wp2_with fail
  refine (number_any _ _ _ (by omega) (by omega)).mono ?_; rintro e w' ⟨rfl, rfl⟩
  generalize n % 4 = m at *
  go_wp2_with fail
  go_loopw [9] (fun i wr => ∃ k : Nat, k ≤ 256 ∧ i = .int .u32 k ∧ ∃ l, HistAt w k wr l) (fun i _ => 256 - (intOf i).toNat)
  case atStart => exact ⟨0, by omega, rfl, _, HistAt.start w⟩
  case round =>
    obtain ⟨k, hk, rfl, l, hl⟩ := hrel
    by_cases hlt : k < 256
    · go_wp2_with fail
      refine (bucket_some _ _ _).mono ?_; rintro e w' ⟨⟨q, hq, rfl⟩, rfl⟩
      have hc := hl.cell q hq
      have hf := hl.1.free q
      have hb := hl.2.2.2.1 q
      have q0 : decide ((q : Int) < 0) = false := by simp
      have q1 : decide ((15 : Int) < (q : Int)) = false := by simp; omega
      have HL := Lib.hid hl
      clear hl
      generalize hx : l.getD q 0 = x at *
      have HX := Lib.hid hx
      clear hx
      go_wp2_with fail
      go_roundw
      case rel => exact ⟨k + 1, by omega, by go_num, l.set q (x + 1), by have := HL.out.inc q hq; rw [HX.out] at this; exact this⟩
      case measure => simp [intOf]; omega
    · have e : k = 256 := by omega
      have HE := Lib.hid e
      clear e
      go_wp2_with fail
      obtain ⟨wo, hwo⟩ : ∃ wo : World, wo = wr := ⟨_, rfl⟩
      subst hwo
      go_loop [11, 12] (fun s i => ∃ j : Nat, j ≤ 16 ∧ i = .int .i64 j ∧ s = .int .i64 (l.take j).sum) (fun _ i => 16 - (intOf i).toNat)
      case atStart => exact ⟨0, by omega, rfl, rfl⟩
      case round =>
        obtain ⟨j, hj, rfl, rfl⟩ := hrel
        by_cases hj2 : j < 16
        · have hc := hl.cell j hj2
          have hb := hl.2.2.2.1 j
          have hp := hl.2.2.part j
          have HS := Lib.hid (take_sum l j (by rw [hl.2.2.1]; exact hj2))
          have hp2 : 0 ≤ (l.take j).sum ∧ (l.take j).sum ≤ 10000 := by
            refine ⟨hp.1, ?_⟩
            have h1 : (k : Int) * j ≤ 256 * 16 := Int.mul_le_mul (by omega) (by omega) (by omega) (by omega)
            omega
          clear hp
          obtain ⟨p1, p2⟩ := hp2
          obtain ⟨b1, b2⟩ := hb
          have HL := Lib.hid hl
          clear hl
          generalize l.getD j 0 = x at *
          go_wp2_with fail
          go_round
          case rel => exact ⟨j + 1, by omega, by go_num, by rw [HS.out]⟩
          case measure => simp [intOf]; omega
        · have e : j = 16 := by omega
          have hs : ((l.take j).sum == 256) = true := by
            rw [List.take_of_length_le (by rw [hl.2.2.1]; omega), hl.2.2.2.2, HE.out]; rfl
          clear e
          have HB := Lib.hid hl.2.1
          clear hl
          go_wp2_with fail
          go_ret
          exact ⟨ret_bool (by simp), HB.out⟩
end Go.Proofs.Ytlgjjjaepcgaoaa
