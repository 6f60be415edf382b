/- Small lemmas on returned values, and the contract of muezzinworld.Number: the remainder that is not negative. -/
import Derived.Test.YtlgjjjaepcgaoaaRows
import Derived.WalkKit
import Derived.WalkSpells
import Derived.WalkLawsBesides
import Derived.ProofKit
import Derived.OpenShut
import Derived.Lib.Hide
namespace Go.Proofs.Ytlgjjjaepcgaoaa
open Go.RowKit

theorem ret_u32 {a b : Int} (h : a = b) : Ending.returned (.int .u32 a) = .returned (.int .u32 b) := by rw [h]
theorem ret_u64 {a b : Int} (h : a = b) : Ending.returned (.int .u64 a) = .returned (.int .u64 b) := by rw [h]
theorem ret_i64 {a b : Int} (h : a = b) : Ending.returned (.int .i64 a) = .returned (.int .i64 b) := by rw [h]
theorem ret_bool {a b : Bool} (h : a = b) : Ending.returned (.bool a) = .returned (.bool b) := by rw [h]

theorem tmod_neg' (n m : Int) (h : n.tmod m < 0) (hm : 0 < m) : n.tmod m + m = n % m := by
  by_cases hn : 0 ≤ n
  · rw [Int.tmod_eq_emod_of_nonneg hn] at h; have := Int.emod_nonneg n (show m ≠ 0 by omega); omega
  · have := Int.tmod_eq_emod (a := n) (b := m)
    split at this <;> omega
theorem tmod_pos' (n m : Int) (h : 0 ≤ n.tmod m) (hm : 0 < m) : n.tmod m = n % m := by
  by_cases hn : 0 ≤ n
  · exact Int.tmod_eq_emod_of_nonneg hn
  · have := Int.tmod_eq_emod (a := n) (b := m)
    have h1 := Int.emod_lt_of_pos n hm
    split at this <;> omega

theorem tmod_bd (n m : Int) (hm : 0 < m) : -m < n.tmod m ∧ n.tmod m < m := by
  have := Int.tmod_eq_emod (a := n) (b := m)
  have h1 := Int.emod_lt_of_pos n hm
  have h2 := Int.emod_nonneg n (show m ≠ 0 by omega)
  split at this <;> omega

set_option maxHeartbeats 400000 in
theorem number_any (n m : Int) (w : World) (hm : 0 < m) (hm2 : m ≤ 4611686018427387904) :
    Calls Try.prog 13 #[.int .i64 n, .int .i64 m] w fun e w' => e = .returned (.int .i64 (n % m)) ∧ w = w' := by
  have hm0 : (m == 0) = false := by simp; omega
  obtain ⟨b1, b2⟩ := tmod_bd n m hm
  by_cases h : n.tmod m < 0
  · have e := tmod_neg' n m h hm
    have H := Lib.hid e
    clear e
    go_enter Try.func13, Try.ntmps13
    go_wp2
    go_ret
    exact ⟨ret_i64 H.out, rfl⟩
  · have e := tmod_pos' n m (by omega) hm
    have H := Lib.hid e
    clear e
    go_enter Try.func13, Try.ntmps13
    go_wp2
    go_ret
    exact ⟨ret_i64 H.out, rfl⟩
end Go.Proofs.Ytlgjjjaepcgaoaa
