/- The law ApHandles holds: whatever its arguments leave, the abstract machine says yes. -/
import Derived.Test.YtmdcbepepiabmaaGreatDoorEApHandles0
import Derived.Test.YtmdcbepepiabmaaGreatDoorDoor
set_option linter.unusedVariables false
set_option maxRecDepth 100000
set_option maxHeartbeats 0
namespace Go.Proofs.YtmdcbepepiabmaaGreatDoor
open Go.Vc Go.Ab
theorem modApHandles0 (a : Int) : a % 12 = 0 ∨ a % 12 = 1 ∨ a % 12 = 2 ∨ a % 12 = 3 ∨ a % 12 = 4 ∨ a % 12 = 5 ∨ a % 12 = 6 ∨ a % 12 = 7 ∨ a % 12 = 8 ∨ a % 12 = 9 ∨ a % 12 = 10 ∨ a % 12 = 11 := by omega
theorem walk_ApHandles (w : World) (hE : ∃ ads, Snt (Wd.of w.heap) ads) (a0 : Int) (w0 : (Lit.int .i64 a0).wf = true) :
    Calls Tryz.prog 11 #[.int .i64 a0] w fun e w' => e = .returned (.bool true) ∧ Go.RowKit.Below w.heap.size w w' := by
  obtain ⟨ads, s⟩ := hE
  rcases modApHandles0 a0 with h0 | h0 | h0 | h0 | h0 | h0 | h0 | h0 | h0 | h0 | h0 | h0
  · exact law_yes (vs := [.int .i64 a0]) S11 s (RAs.int (by simp only [List.mem_cons, List.not_mem_nil, or_false]; rintro p (rfl) <;> (simp only []; omega)) (show RAs ads (fun _ => none) [] [] from rfl)) (eApHandles0 a0)
  · exact law_yes (vs := [.int .i64 a0]) S11 s (RAs.int (by simp only [List.mem_cons, List.not_mem_nil, or_false]; rintro p (rfl) <;> (simp only []; omega)) (show RAs ads (fun _ => none) [] [] from rfl)) (eApHandles1 a0)
  · exact law_yes (vs := [.int .i64 a0]) S11 s (RAs.int (by simp only [List.mem_cons, List.not_mem_nil, or_false]; rintro p (rfl) <;> (simp only []; omega)) (show RAs ads (fun _ => none) [] [] from rfl)) (eApHandles2 a0)
  · exact law_yes (vs := [.int .i64 a0]) S11 s (RAs.int (by simp only [List.mem_cons, List.not_mem_nil, or_false]; rintro p (rfl) <;> (simp only []; omega)) (show RAs ads (fun _ => none) [] [] from rfl)) (eApHandles3 a0)
  · exact law_yes (vs := [.int .i64 a0]) S11 s (RAs.int (by simp only [List.mem_cons, List.not_mem_nil, or_false]; rintro p (rfl) <;> (simp only []; omega)) (show RAs ads (fun _ => none) [] [] from rfl)) (eApHandles4 a0)
  · exact law_yes (vs := [.int .i64 a0]) S11 s (RAs.int (by simp only [List.mem_cons, List.not_mem_nil, or_false]; rintro p (rfl) <;> (simp only []; omega)) (show RAs ads (fun _ => none) [] [] from rfl)) (eApHandles5 a0)
  · exact law_yes (vs := [.int .i64 a0]) S11 s (RAs.int (by simp only [List.mem_cons, List.not_mem_nil, or_false]; rintro p (rfl) <;> (simp only []; omega)) (show RAs ads (fun _ => none) [] [] from rfl)) (eApHandles6 a0)
  · exact law_yes (vs := [.int .i64 a0]) S11 s (RAs.int (by simp only [List.mem_cons, List.not_mem_nil, or_false]; rintro p (rfl) <;> (simp only []; omega)) (show RAs ads (fun _ => none) [] [] from rfl)) (eApHandles7 a0)
  · exact law_yes (vs := [.int .i64 a0]) S11 s (RAs.int (by simp only [List.mem_cons, List.not_mem_nil, or_false]; rintro p (rfl) <;> (simp only []; omega)) (show RAs ads (fun _ => none) [] [] from rfl)) (eApHandles8 a0)
  · exact law_yes (vs := [.int .i64 a0]) S11 s (RAs.int (by simp only [List.mem_cons, List.not_mem_nil, or_false]; rintro p (rfl) <;> (simp only []; omega)) (show RAs ads (fun _ => none) [] [] from rfl)) (eApHandles9 a0)
  · exact law_yes (vs := [.int .i64 a0]) S11 s (RAs.int (by simp only [List.mem_cons, List.not_mem_nil, or_false]; rintro p (rfl) <;> (simp only []; omega)) (show RAs ads (fun _ => none) [] [] from rfl)) (eApHandles10 a0)
  · exact law_yes (vs := [.int .i64 a0]) S11 s (RAs.int (by simp only [List.mem_cons, List.not_mem_nil, or_false]; rintro p (rfl) <;> (simp only []; omega)) (show RAs ads (fun _ => none) [] [] from rfl)) (eApHandles11 a0)
end Go.Proofs.YtmdcbepepiabmaaGreatDoor
