/- The law ApBars holds: whatever its arguments leave, the abstract machine says yes. -/
import Derived.Test.YtcefbgcgldagfaaGreatDoorEApBars0
import Derived.Test.YtcefbgcgldagfaaGreatDoorEApBars1
import Derived.Test.YtcefbgcgldagfaaGreatDoorEApBars2
import Derived.Test.YtcefbgcgldagfaaGreatDoorGgApBarsD
import Derived.Test.YtcefbgcgldagfaaGreatDoorGg
import Derived.Test.YtcefbgcgldagfaaGreatDoorAb17
import Derived.Test.YtcefbgcgldagfaaGreatDoorRows
set_option linter.unusedVariables false
set_option maxRecDepth 100000
set_option maxHeartbeats 0
namespace Go.Proofs.YtcefbgcgldagfaaGreatDoor
open Go.Vc Go.Ab
section
variable (v1 : AV) (l1 l2 l3 l4 : List AV) (L1 : List AP) (d1 d2 d3 d4 : DV) (R1 : List DV) (n1 n2 n3 n4 n5 n6 n7 n8 n9 : Int) (m1 m2 m3 m4 m5 : Nat) (t1 t2 t3 t4 : Bool) (p1 p2 p3 p4 p5 : AP) (b1 b2 b3 b4 b5 : P4) (s1 s2 s3 s4 s5 : AS) (H1 : AH) (x1 x2 : List Int) (c1 c2 c3 c4 c5 c6 c7 c8 c9 c10 c11 c12 c13 c14 c15 c16 : G DV) (Ka1 : AH → Option DV) (Kb1 Kb2 Kb3 : DV → AH → Option DV) (Kc1 Kc2 : DV → DV → AH → Option DV) (Kd1 : DV → DV → DV → AH → Option DV)
variable {ads : List Addr}
theorem sx9 (h12 : SN ads 12 c1) (h13 : SN ads 13 c2) (h14 : SN ads 14 c3) (h15 : SN ads 15 c4) (h16 : SN ads 16 c5) (h25 : SN ads 25 c6) (h28 : SN ads 28 c7) : SN ads 9 (g9 c1 c2 c3 c4 c5 c6 c7) :=
  mk_snd [(nn12, c1), (nn13, c2), (nn14, c3), (nn15, c4), (nn16, c5), (nn25, c6), (nn28, c7)] ⟨fun n => match n with | 0 => [(7, .int .i64)] | 2 => [(8, .int .i64)] | 4 => [(10, .int .i64)] | _ => [], fun n => match n with | 20 => some [(9, .int .u64)] | 30 => some [(11, .int .u64)] | 31 => some [(125, .bool)] | _ => none⟩ [.any, .any] Tryz.func9 rfl (.cons h12 (.cons h13 (.cons h14 (.cons h15 (.cons h16 (.cons h25 (.cons h28 .nil)))))))
theorem S9 : SN ads 9 G9 := sx9 _ _ _ _ _ _ _ S12 gNumber.S S14 S15 S16 S25 S28
end
theorem modApBars_3 (a : Int) : a % 3 = 0 ∨ a % 3 = 1 ∨ a % 3 = 2 := by omega
theorem modApBars_6 (a : Int) : a % 6 = 0 ∨ a % 6 = 1 ∨ a % 6 = 2 ∨ a % 6 = 3 ∨ a % 6 = 4 ∨ a % 6 = 5 := by omega
theorem walk_ApBars (w : World) (hE : ∃ ads, Sna (Wd.of w.heap) ads) (a0 : Int) (w0 : (Lit.int .i64 a0).wf = true) (a1 : Int) (w1 : (Lit.int .i64 a1).wf = true) :
    Calls Tryz.prog 9 #[.int .i64 a0, .int .i64 a1] w fun e w' => e = .returned (.bool true) ∧ Go.RowKit.Below w.heap.size w w' := by
  obtain ⟨ads, s⟩ := hE
  rcases modApBars_6 a0 with h0 | h0 | h0 | h0 | h0 | h0
  · rcases modApBars_3 a1 with h1 | h1 | h1
    · exact law_yes (vs := [.int .i64 a0, .int .i64 a1]) S9 s (RAs.int (by simp only [List.mem_cons, List.not_mem_nil, or_false]; rintro p (rfl) <;> (simp only []; omega)) (RAs.int (by simp only [List.mem_cons, List.not_mem_nil, or_false]; rintro p (rfl) <;> (simp only []; omega)) (show RAs ads (fun _ => none) [] [] from rfl))) (eApBars0 a0 a1)
    · exact law_yes (vs := [.int .i64 a0, .int .i64 a1]) S9 s (RAs.int (by simp only [List.mem_cons, List.not_mem_nil, or_false]; rintro p (rfl) <;> (simp only []; omega)) (RAs.int (by simp only [List.mem_cons, List.not_mem_nil, or_false]; rintro p (rfl) <;> (simp only []; omega)) (show RAs ads (fun _ => none) [] [] from rfl))) (eApBars1 a0 a1)
    · exact law_yes (vs := [.int .i64 a0, .int .i64 a1]) S9 s (RAs.int (by simp only [List.mem_cons, List.not_mem_nil, or_false]; rintro p (rfl) <;> (simp only []; omega)) (RAs.int (by simp only [List.mem_cons, List.not_mem_nil, or_false]; rintro p (rfl) <;> (simp only []; omega)) (show RAs ads (fun _ => none) [] [] from rfl))) (eApBars2 a0 a1)
  · rcases modApBars_3 a1 with h1 | h1 | h1
    · exact law_yes (vs := [.int .i64 a0, .int .i64 a1]) S9 s (RAs.int (by simp only [List.mem_cons, List.not_mem_nil, or_false]; rintro p (rfl) <;> (simp only []; omega)) (RAs.int (by simp only [List.mem_cons, List.not_mem_nil, or_false]; rintro p (rfl) <;> (simp only []; omega)) (show RAs ads (fun _ => none) [] [] from rfl))) (eApBars3 a0 a1)
    · exact law_yes (vs := [.int .i64 a0, .int .i64 a1]) S9 s (RAs.int (by simp only [List.mem_cons, List.not_mem_nil, or_false]; rintro p (rfl) <;> (simp only []; omega)) (RAs.int (by simp only [List.mem_cons, List.not_mem_nil, or_false]; rintro p (rfl) <;> (simp only []; omega)) (show RAs ads (fun _ => none) [] [] from rfl))) (eApBars4 a0 a1)
    · exact law_yes (vs := [.int .i64 a0, .int .i64 a1]) S9 s (RAs.int (by simp only [List.mem_cons, List.not_mem_nil, or_false]; rintro p (rfl) <;> (simp only []; omega)) (RAs.int (by simp only [List.mem_cons, List.not_mem_nil, or_false]; rintro p (rfl) <;> (simp only []; omega)) (show RAs ads (fun _ => none) [] [] from rfl))) (eApBars5 a0 a1)
  · rcases modApBars_3 a1 with h1 | h1 | h1
    · exact law_yes (vs := [.int .i64 a0, .int .i64 a1]) S9 s (RAs.int (by simp only [List.mem_cons, List.not_mem_nil, or_false]; rintro p (rfl) <;> (simp only []; omega)) (RAs.int (by simp only [List.mem_cons, List.not_mem_nil, or_false]; rintro p (rfl) <;> (simp only []; omega)) (show RAs ads (fun _ => none) [] [] from rfl))) (eApBars6 a0 a1)
    · exact law_yes (vs := [.int .i64 a0, .int .i64 a1]) S9 s (RAs.int (by simp only [List.mem_cons, List.not_mem_nil, or_false]; rintro p (rfl) <;> (simp only []; omega)) (RAs.int (by simp only [List.mem_cons, List.not_mem_nil, or_false]; rintro p (rfl) <;> (simp only []; omega)) (show RAs ads (fun _ => none) [] [] from rfl))) (eApBars7 a0 a1)
    · exact law_yes (vs := [.int .i64 a0, .int .i64 a1]) S9 s (RAs.int (by simp only [List.mem_cons, List.not_mem_nil, or_false]; rintro p (rfl) <;> (simp only []; omega)) (RAs.int (by simp only [List.mem_cons, List.not_mem_nil, or_false]; rintro p (rfl) <;> (simp only []; omega)) (show RAs ads (fun _ => none) [] [] from rfl))) (eApBars8 a0 a1)
  · rcases modApBars_3 a1 with h1 | h1 | h1
    · exact law_yes (vs := [.int .i64 a0, .int .i64 a1]) S9 s (RAs.int (by simp only [List.mem_cons, List.not_mem_nil, or_false]; rintro p (rfl) <;> (simp only []; omega)) (RAs.int (by simp only [List.mem_cons, List.not_mem_nil, or_false]; rintro p (rfl) <;> (simp only []; omega)) (show RAs ads (fun _ => none) [] [] from rfl))) (eApBars9 a0 a1)
    · exact law_yes (vs := [.int .i64 a0, .int .i64 a1]) S9 s (RAs.int (by simp only [List.mem_cons, List.not_mem_nil, or_false]; rintro p (rfl) <;> (simp only []; omega)) (RAs.int (by simp only [List.mem_cons, List.not_mem_nil, or_false]; rintro p (rfl) <;> (simp only []; omega)) (show RAs ads (fun _ => none) [] [] from rfl))) (eApBars10 a0 a1)
    · exact law_yes (vs := [.int .i64 a0, .int .i64 a1]) S9 s (RAs.int (by simp only [List.mem_cons, List.not_mem_nil, or_false]; rintro p (rfl) <;> (simp only []; omega)) (RAs.int (by simp only [List.mem_cons, List.not_mem_nil, or_false]; rintro p (rfl) <;> (simp only []; omega)) (show RAs ads (fun _ => none) [] [] from rfl))) (eApBars11 a0 a1)
  · rcases modApBars_3 a1 with h1 | h1 | h1
    · exact law_yes (vs := [.int .i64 a0, .int .i64 a1]) S9 s (RAs.int (by simp only [List.mem_cons, List.not_mem_nil, or_false]; rintro p (rfl) <;> (simp only []; omega)) (RAs.int (by simp only [List.mem_cons, List.not_mem_nil, or_false]; rintro p (rfl) <;> (simp only []; omega)) (show RAs ads (fun _ => none) [] [] from rfl))) (eApBars12 a0 a1)
    · exact law_yes (vs := [.int .i64 a0, .int .i64 a1]) S9 s (RAs.int (by simp only [List.mem_cons, List.not_mem_nil, or_false]; rintro p (rfl) <;> (simp only []; omega)) (RAs.int (by simp only [List.mem_cons, List.not_mem_nil, or_false]; rintro p (rfl) <;> (simp only []; omega)) (show RAs ads (fun _ => none) [] [] from rfl))) (eApBars13 a0 a1)
    · exact law_yes (vs := [.int .i64 a0, .int .i64 a1]) S9 s (RAs.int (by simp only [List.mem_cons, List.not_mem_nil, or_false]; rintro p (rfl) <;> (simp only []; omega)) (RAs.int (by simp only [List.mem_cons, List.not_mem_nil, or_false]; rintro p (rfl) <;> (simp only []; omega)) (show RAs ads (fun _ => none) [] [] from rfl))) (eApBars14 a0 a1)
  · rcases modApBars_3 a1 with h1 | h1 | h1
    · exact law_yes (vs := [.int .i64 a0, .int .i64 a1]) S9 s (RAs.int (by simp only [List.mem_cons, List.not_mem_nil, or_false]; rintro p (rfl) <;> (simp only []; omega)) (RAs.int (by simp only [List.mem_cons, List.not_mem_nil, or_false]; rintro p (rfl) <;> (simp only []; omega)) (show RAs ads (fun _ => none) [] [] from rfl))) (eApBars15 a0 a1)
    · exact law_yes (vs := [.int .i64 a0, .int .i64 a1]) S9 s (RAs.int (by simp only [List.mem_cons, List.not_mem_nil, or_false]; rintro p (rfl) <;> (simp only []; omega)) (RAs.int (by simp only [List.mem_cons, List.not_mem_nil, or_false]; rintro p (rfl) <;> (simp only []; omega)) (show RAs ads (fun _ => none) [] [] from rfl))) (eApBars16 a0 a1)
    · exact law_yes (vs := [.int .i64 a0, .int .i64 a1]) S9 s (RAs.int (by simp only [List.mem_cons, List.not_mem_nil, or_false]; rintro p (rfl) <;> (simp only []; omega)) (RAs.int (by simp only [List.mem_cons, List.not_mem_nil, or_false]; rintro p (rfl) <;> (simp only []; omega)) (show RAs ads (fun _ => none) [] [] from rfl))) (eApBars17 a0 a1)
end Go.Proofs.YtcefbgcgldagfaaGreatDoor
