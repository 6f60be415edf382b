import Derived.Test.YtepodifionoigaaGreatDoorClone
import Derived.Test.YtepodifionoigaaGreatDoorPlB
set_option linter.unusedVariables false
set_option linter.unusedSimpArgs false
set_option maxRecDepth 8000
namespace Go.Proofs.YtepodifionoigaaGreatDoor
open Go.Vc
structure Cw (W : Wd) (h : Heap) (b : Nat) (T : TypeId) (size : Int) (xs : List Ses) (mvs : List (Option Nat)) : Prop where
  l1 : xs.length = 8
  l2 : mvs.length = 8
  m : ∃ G, Me W h ([(b, ck (preC size) (List.zipWith sesC xs mvs) [], T)] :: G)
  k : ∀ (i : Nat) (mv : Option Nat) (x : Ses), mvs[i]? = some mv → xs[i]? = some x → ∃ l, KeptV W mv l ∧ l.length = x.kept.length
section
variable {W W' W1 : Wd} {h h' : Heap} {b bx t j n c i b1 l : Nat} {a : Option Addr} {T Tx T1 T2 : TypeId} {size : Int} {G G' : List Grp} {v : Value} {x : Ses} {xs xs' : List Ses} {mv : Option Nat} {mvs mv2 : List (Option Nat)} {E A : Grp}
theorem S8.cw (s : S8 W h b T size xs mvs G) : Cw W h b T size xs mvs := ⟨s.l1, s.l2, ⟨_, s.m⟩, fun i mv x e1 e2 => ⟨_, (s.ok.1 i x mv e2 e1).1, rfl⟩⟩
theorem Cw.st (k : Cw W h b T size xs mvs) (hx : xs[t]? = some x) : ∃ css mv G l, St W h b T size css t (sesC x mv) G ∧ KeptV W mv l ∧ l.length = x.kept.length := by
  obtain ⟨h1, h2, ⟨G, m⟩, hk⟩ := k
  have htl := (List.getElem?_eq_some_iff.1 hx).1
  obtain ⟨mv, hp⟩ : ∃ p, mvs[t]? = some p := ⟨_, List.getElem?_eq_getElem (by omega)⟩
  obtain ⟨k1, k2⟩ := scss_len h1 h2
  have hcs : (List.zipWith sesC xs mvs)[t]? = some (sesC x mv) := by rw [List.getElem?_zipWith, hx, hp]
  have e : stC size (List.zipWith sesC xs mvs) t (sesC x mv) = ck (preC size) (List.zipWith sesC xs mvs) [] := by
    show ck (preC size) ((List.zipWith sesC xs mvs).set t (sesC x mv)) [] = _
    rw [set_same hcs]
  obtain ⟨l, q1, q2⟩ := hk t mv x hp hx
  exact ⟨List.zipWith sesC xs mvs, mv, G, l, ⟨by rw [e]; exact m, k2, k1, by omega, rfl⟩, q1, q2⟩
theorem swaits_c (k : Cw W h b T size xs mvs) (tid : Int) :
    Runs Tryz.prog 11 #[.pointer (some ⟨b, 0, none⟩), .int .i64 tid] h fun v h' => v = .int .i64 (waitsV xs tid) ∧ h' = h := by
  refine vc_recv_Station_Waits _ _ _ _ ?_
  unfold waitsV outT
  refine dcase_intro (fun q1 => ⟨by simp [q1], rfl⟩) fun q1 => ?_
  refine dcase_intro (fun q2 => ⟨by simp [q2], rfl⟩) fun q2 => ?_
  obtain ⟨t, rfl⟩ : ∃ t : Nat, tid = (t : Int) := ⟨tid.toNat, by omega⟩
  have hxt := getD_some (t := t) k.l1 (by omega)
  rw [Int.toNat_natCast]
  obtain ⟨css, mv, G', l, s, q3, q4⟩ := k.st hxt
  rw [show (decide ((t : Int) < 0) || decide (8 ≤ (t : Int))) = false by simp [q1, q2], if_neg (by decide), ← q4]
  exact ⟨⟨by omega, by omega⟩, _, s.get 5 rfl, mlen_c s.m q3 ⟨rfl, rfl⟩⟩
theorem ssession_c (k : Cw W h b T size xs mvs) (tid : Int) :
    Runs Tryz.prog 13 #[.pointer (some ⟨b, 0, none⟩), .int .i64 tid] h fun v h' => v = sesV xs tid ∧ h' = h := by
  refine vc_recv_Station_Session _ _ _ _ ?_
  unfold sesV outT
  refine dcase_intro (fun q1 => ⟨by simp [q1], rfl⟩) fun q1 => ?_
  refine dcase_intro (fun q2 => ⟨by simp [q2], rfl⟩) fun q2 => ?_
  obtain ⟨t, rfl⟩ : ∃ t : Nat, tid = (t : Int) := ⟨tid.toNat, by omega⟩
  have hxt := getD_some (t := t) k.l1 (by omega)
  rw [Int.toNat_natCast]
  obtain ⟨x, hxx⟩ : ∃ x, x = xs.getD t ses0 := ⟨_, rfl⟩
  rw [← hxx] at hxt ⊢
  obtain ⟨css, mv, G', l, s, q3, q4⟩ := k.st hxt
  rw [show (decide ((t : Int) < 0) || decide (8 ≤ (t : Int))) = false by simp [q1, q2], Bool.false_or]
  refine ⟨⟨by omega, by omega⟩, x.on, s.get0 rfl, bcase_intro (fun q => ?_) fun q => ?_⟩
  · rw [if_pos q]; exact ⟨rfl, rfl⟩
  · rw [if_neg (by rw [q]; decide)]
    exact ⟨⟨by omega, by omega⟩, x.start, s.get 1 rfl, ⟨by omega, by omega⟩, x.size, s.get 2 rfl, rfl, rfl⟩
theorem and1u (z : Int) (h : 0 ≤ z ∧ z < 18446744073709551616) : bits .and .u64 z 1 = z % 2 := by
  have e : bits .and .u64 z 1 = IntKind.u64.wrap ((BitVec.ofInt 64 z &&& BitVec.ofInt 64 1).toNat : Int) := rfl
  have e2 : (BitVec.ofInt 64 z &&& BitVec.ofInt 64 1).toNat = (z % 18446744073709551616).toNat % 2 := by
    rw [BitVec.toNat_and, BitVec.toNat_ofInt, show (BitVec.ofInt 64 1).toNat = 2 ^ 1 - 1 from rfl, Nat.and_two_pow_sub_one_eq_mod]
    rfl
  rw [e, e2, wrap_fits (show fits .u64 _ by simp only [fits]; omega)]
  omega
theorem got_eq (hx : SesOk x) (n : Int) : x.got n = if (decide (n < 0) || decide (4096 ≤ n)) then false else gotX x n := by
  unfold Ses.got gotX
  by_cases h1 : n < 0
  · rw [decide_eq_true h1, Bool.true_or, if_pos rfl]
    split
    · rw [decide_eq_false (by omega)]; rfl
    · rw [decide_eq_false (by have := hx.l; omega), Bool.and_false]
  · by_cases h2 : 4096 ≤ n
    · rw [decide_eq_true h2, Bool.or_true, if_pos rfl]
      split
      · rw [decide_eq_true (show 0 ≤ n by omega), decide_eq_false (show ¬ n < 4096 by omega)]; rfl
      · rw [decide_eq_false (by have := hx.l; omega), Bool.and_false]
    · rw [decide_eq_false h1, decide_eq_false h2, Bool.or_false, if_neg (show ¬ (false = true) by decide)]
      by_cases hon : x.on = true
      · rw [if_pos hon, if_pos hon, decide_eq_true (show 0 ≤ n by omega), decide_eq_true (show n < 4096 by omega), Bool.true_and, Bool.true_and]
        congr 1
        have hb := hx.b
        have hq : 0 ≤ x.bits / pow2 (distZ x.fr n) ∧ x.bits / pow2 (distZ x.fr n) < 18446744073709551616 := by
          have hp : (0 : Int) ≤ pow2 (distZ x.fr n) := by unfold pow2; exact Int.le_of_lt (Int.pow_pos (by decide))
          exact ⟨Int.ediv_nonneg hb.1 hp, Int.lt_of_le_of_lt (Int.ediv_le_self _ hb.1) hb.2⟩
        unfold bitA
        rw [and1u _ hq]
        refine decide_eq_decide.2 ?_
        omega
      · rw [if_neg hon, if_neg hon]
theorem sgot_c (k : Cw W h b T size xs mvs) (hg : ∀ x ∈ xs, SesG x) (tid n : Int) :
    Runs Tryz.prog 16 #[.pointer (some ⟨b, 0, none⟩), .int .i64 tid, .int .i64 n] h fun v h' => v = .bool (gotV xs tid n) ∧ h' = h := by
  by_cases q1 : tid < 0
  · refine vc_recv_Station_Got _ _ _ _ _ (dcase_pos q1 ⟨?_, rfl⟩)
    unfold gotV outT; simp [q1]
  by_cases q2 : 8 ≤ tid
  · refine vc_recv_Station_Got _ _ _ _ _ (dcase_neg q1 (dcase_pos q2 ⟨?_, rfl⟩))
    unfold gotV outT; simp [q2]
  obtain ⟨t, rfl⟩ : ∃ t : Nat, tid = (t : Int) := ⟨tid.toNat, by omega⟩
  have hxt := getD_some (t := t) k.l1 (by omega)
  obtain ⟨css, mv, G', l, s, q3, q4⟩ := k.st hxt
  refine (got_c s n).mono ?_
  rintro _ _ ⟨rfl, rfl⟩
  refine ⟨?_, rfl⟩
  rw [got_eq (hg _ (List.mem_of_getElem? hxt)).ok]
  unfold gotV outT
  rw [show (decide ((t : Int) < 0) || decide (8 ≤ (t : Int))) = false by simp [q1, q2], Bool.false_or, Int.toNat_natCast]
theorem sesV_tup (xs : List Ses) (tid : Int) : ∃ p q is, sesV xs tid = .tuple #[.int .i64 p, .int .i64 q, .bool is] := by
  unfold sesV
  split
  · exact ⟨_, _, _, rfl⟩
  · exact ⟨_, _, _, rfl⟩
end
end Go.Proofs.YtepodifionoigaaGreatDoor
