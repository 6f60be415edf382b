/- The law DeskErrors holds: whatever its arguments leave, the abstract machine says yes. -/
import Derived.Test.YtdkopdoicepgmaaGreatDoorEDeskErrors0
import Derived.Test.YtdkopdoicepgmaaGreatDoorEDeskErrors1
import Derived.Test.YtdkopdoicepgmaaGreatDoorEDeskErrors2
import Derived.Test.YtdkopdoicepgmaaGreatDoorGgDeskErrorsD
import Derived.Test.YtdkopdoicepgmaaGreatDoorGg
import Derived.Test.YtdkopdoicepgmaaGreatDoorAb17
import Derived.Test.YtdkopdoicepgmaaGreatDoorRows
set_option linter.unusedVariables false
set_option maxRecDepth 100000
set_option maxHeartbeats 0
namespace Go.Proofs.YtdkopdoicepgmaaGreatDoor
open Go.Vc Go.Ab
section
variable (v1 v2 v3 v4 v5 v6 : AV) (l1 l2 l3 l4 : List AV) (L1 L2 : List AP) (d1 d2 d3 d4 : DV) (R1 : List DV) (n1 n2 n3 n4 n5 n6 n7 n8 : Int) (m1 m2 m3 m4 : Nat) (t1 t2 t3 t4 : Bool) (p1 p2 p3 p4 p5 : AP) (b1 b2 b3 b4 b5 : P4) (s1 s2 s3 : AS) (H1 : AH) (x1 x2 : List Int) (c1 c2 c3 c4 c5 c6 c7 c8 c9 c10 c11 c12 c13 c14 c15 : G DV) (Ka1 Ka2 : AH → Option DV) (Kb1 Kb2 : DV → AH → Option DV) (Kc1 Kc2 : DV → DV → AH → Option DV) (Kd1 : DV → DV → DV → AH → Option DV)
variable {ads : List Addr}
theorem sx3 (h4 : SN ads 4 c1) (h5 : SN ads 5 c2) (h6 : SN ads 6 c3) (h7 : SN ads 7 c4) (h8 : SN ads 8 c5) (h9 : SN ads 9 c6) : SN ads 3 (g3 c1 c2 c3 c4 c5 c6) :=
  mk_snd [(nn4, c1), (nn5, c2), (nn6, c3), (nn7, c4), (nn8, c5), (nn9, c6)] ⟨fun _ => [], fun _ => none⟩ [.any] Tryz.func3 rfl (.cons h4 (.cons h5 (.cons h6 (.cons h7 (.cons h8 (.cons h9 .nil))))))
theorem S3 : SN ads 3 G3 := sx3 _ _ _ _ _ _ S4 S5 S6 gNumber.S S8 S9
end
theorem modDeskErrors_48 (a : Int) : a % 48 = 0 ∨ a % 48 = 1 ∨ a % 48 = 2 ∨ a % 48 = 3 ∨ a % 48 = 4 ∨ a % 48 = 5 ∨ a % 48 = 6 ∨ a % 48 = 7 ∨ a % 48 = 8 ∨ a % 48 = 9 ∨ a % 48 = 10 ∨ a % 48 = 11 ∨ a % 48 = 12 ∨ a % 48 = 13 ∨ a % 48 = 14 ∨ a % 48 = 15 ∨ a % 48 = 16 ∨ a % 48 = 17 ∨ a % 48 = 18 ∨ a % 48 = 19 ∨ a % 48 = 20 ∨ a % 48 = 21 ∨ a % 48 = 22 ∨ a % 48 = 23 ∨ a % 48 = 24 ∨ a % 48 = 25 ∨ a % 48 = 26 ∨ a % 48 = 27 ∨ a % 48 = 28 ∨ a % 48 = 29 ∨ a % 48 = 30 ∨ a % 48 = 31 ∨ a % 48 = 32 ∨ a % 48 = 33 ∨ a % 48 = 34 ∨ a % 48 = 35 ∨ a % 48 = 36 ∨ a % 48 = 37 ∨ a % 48 = 38 ∨ a % 48 = 39 ∨ a % 48 = 40 ∨ a % 48 = 41 ∨ a % 48 = 42 ∨ a % 48 = 43 ∨ a % 48 = 44 ∨ a % 48 = 45 ∨ a % 48 = 46 ∨ a % 48 = 47 := by omega
theorem walk_DeskErrors (w : World) (hE : ∃ ads, Sna (Wd.of w.heap) ads) (a0 : Int) (w0 : (Lit.int .i64 a0).wf = true) :
    Calls Tryz.prog 3 #[.int .i64 a0] w fun e w' => e = .returned (.bool true) ∧ Go.RowKit.Below w.heap.size w w' := by
  obtain ⟨ads, s⟩ := hE
  have z : RAs ads (fun _ => none) [] [] := rfl
  have q := fun {R : List DV} (ha : RAs ads (fun _ => none) R [.int .i64 a0]) (e : G3 R (AH.mk .e .h) yesK = some .n) => law_yes (vs := [.int .i64 a0]) S3 s ha e
  rcases modDeskErrors_48 a0 with h0 | h0 | h0 | h0 | h0 | h0 | h0 | h0 | h0 | h0 | h0 | h0 | h0 | h0 | h0 | h0 | h0 | h0 | h0 | h0 | h0 | h0 | h0 | h0 | h0 | h0 | h0 | h0 | h0 | h0 | h0 | h0 | h0 | h0 | h0 | h0 | h0 | h0 | h0 | h0 | h0 | h0 | h0 | h0 | h0 | h0 | h0 | h0
  · exact law_yes (vs := [.int .i64 a0]) S3 s (RAs.int (by simp only [List.mem_cons, List.not_mem_nil, or_false]; rintro p (rfl | rfl | rfl) <;> (simp only []; omega)) (show RAs ads (fun _ => none) [] [] from rfl)) (eDeskErrors0 a0)
  · exact law_yes (vs := [.int .i64 a0]) S3 s (RAs.int (by simp only [List.mem_cons, List.not_mem_nil, or_false]; rintro p (rfl | rfl | rfl) <;> (simp only []; omega)) (show RAs ads (fun _ => none) [] [] from rfl)) (eDeskErrors1 a0)
  · exact law_yes (vs := [.int .i64 a0]) S3 s (RAs.int (by simp only [List.mem_cons, List.not_mem_nil, or_false]; rintro p (rfl | rfl | rfl) <;> (simp only []; omega)) (show RAs ads (fun _ => none) [] [] from rfl)) (eDeskErrors2 a0)
  · exact law_yes (vs := [.int .i64 a0]) S3 s (RAs.int (by simp only [List.mem_cons, List.not_mem_nil, or_false]; rintro p (rfl | rfl | rfl) <;> (simp only []; omega)) (show RAs ads (fun _ => none) [] [] from rfl)) (eDeskErrors3 a0)
  · exact law_yes (vs := [.int .i64 a0]) S3 s (RAs.int (by simp only [List.mem_cons, List.not_mem_nil, or_false]; rintro p (rfl | rfl | rfl) <;> (simp only []; omega)) (show RAs ads (fun _ => none) [] [] from rfl)) (eDeskErrors4 a0)
  · exact law_yes (vs := [.int .i64 a0]) S3 s (RAs.int (by simp only [List.mem_cons, List.not_mem_nil, or_false]; rintro p (rfl | rfl | rfl) <;> (simp only []; omega)) (show RAs ads (fun _ => none) [] [] from rfl)) (eDeskErrors5 a0)
  · exact law_yes (vs := [.int .i64 a0]) S3 s (RAs.int (by simp only [List.mem_cons, List.not_mem_nil, or_false]; rintro p (rfl | rfl | rfl) <;> (simp only []; omega)) (show RAs ads (fun _ => none) [] [] from rfl)) (eDeskErrors6 a0)
  · exact law_yes (vs := [.int .i64 a0]) S3 s (RAs.int (by simp only [List.mem_cons, List.not_mem_nil, or_false]; rintro p (rfl | rfl | rfl) <;> (simp only []; omega)) (show RAs ads (fun _ => none) [] [] from rfl)) (eDeskErrors7 a0)
  · exact law_yes (vs := [.int .i64 a0]) S3 s (RAs.int (by simp only [List.mem_cons, List.not_mem_nil, or_false]; rintro p (rfl | rfl | rfl) <;> (simp only []; omega)) (show RAs ads (fun _ => none) [] [] from rfl)) (eDeskErrors8 a0)
  · exact law_yes (vs := [.int .i64 a0]) S3 s (RAs.int (by simp only [List.mem_cons, List.not_mem_nil, or_false]; rintro p (rfl | rfl | rfl) <;> (simp only []; omega)) (show RAs ads (fun _ => none) [] [] from rfl)) (eDeskErrors9 a0)
  · exact law_yes (vs := [.int .i64 a0]) S3 s (RAs.int (by simp only [List.mem_cons, List.not_mem_nil, or_false]; rintro p (rfl | rfl | rfl) <;> (simp only []; omega)) (show RAs ads (fun _ => none) [] [] from rfl)) (eDeskErrors10 a0)
  · exact law_yes (vs := [.int .i64 a0]) S3 s (RAs.int (by simp only [List.mem_cons, List.not_mem_nil, or_false]; rintro p (rfl | rfl | rfl) <;> (simp only []; omega)) (show RAs ads (fun _ => none) [] [] from rfl)) (eDeskErrors11 a0)
  · exact law_yes (vs := [.int .i64 a0]) S3 s (RAs.int (by simp only [List.mem_cons, List.not_mem_nil, or_false]; rintro p (rfl | rfl | rfl) <;> (simp only []; omega)) (show RAs ads (fun _ => none) [] [] from rfl)) (eDeskErrors12 a0)
  · exact law_yes (vs := [.int .i64 a0]) S3 s (RAs.int (by simp only [List.mem_cons, List.not_mem_nil, or_false]; rintro p (rfl | rfl | rfl) <;> (simp only []; omega)) (show RAs ads (fun _ => none) [] [] from rfl)) (eDeskErrors13 a0)
  · exact law_yes (vs := [.int .i64 a0]) S3 s (RAs.int (by simp only [List.mem_cons, List.not_mem_nil, or_false]; rintro p (rfl | rfl | rfl) <;> (simp only []; omega)) (show RAs ads (fun _ => none) [] [] from rfl)) (eDeskErrors14 a0)
  · exact law_yes (vs := [.int .i64 a0]) S3 s (RAs.int (by simp only [List.mem_cons, List.not_mem_nil, or_false]; rintro p (rfl | rfl | rfl) <;> (simp only []; omega)) (show RAs ads (fun _ => none) [] [] from rfl)) (eDeskErrors15 a0)
  · exact law_yes (vs := [.int .i64 a0]) S3 s (RAs.int (by simp only [List.mem_cons, List.not_mem_nil, or_false]; rintro p (rfl | rfl | rfl) <;> (simp only []; omega)) (show RAs ads (fun _ => none) [] [] from rfl)) (eDeskErrors16 a0)
  · exact law_yes (vs := [.int .i64 a0]) S3 s (RAs.int (by simp only [List.mem_cons, List.not_mem_nil, or_false]; rintro p (rfl | rfl | rfl) <;> (simp only []; omega)) (show RAs ads (fun _ => none) [] [] from rfl)) (eDeskErrors17 a0)
  · exact law_yes (vs := [.int .i64 a0]) S3 s (RAs.int (by simp only [List.mem_cons, List.not_mem_nil, or_false]; rintro p (rfl | rfl | rfl) <;> (simp only []; omega)) (show RAs ads (fun _ => none) [] [] from rfl)) (eDeskErrors18 a0)
  · exact law_yes (vs := [.int .i64 a0]) S3 s (RAs.int (by simp only [List.mem_cons, List.not_mem_nil, or_false]; rintro p (rfl | rfl | rfl) <;> (simp only []; omega)) (show RAs ads (fun _ => none) [] [] from rfl)) (eDeskErrors19 a0)
  · exact law_yes (vs := [.int .i64 a0]) S3 s (RAs.int (by simp only [List.mem_cons, List.not_mem_nil, or_false]; rintro p (rfl | rfl | rfl) <;> (simp only []; omega)) (show RAs ads (fun _ => none) [] [] from rfl)) (eDeskErrors20 a0)
  · exact law_yes (vs := [.int .i64 a0]) S3 s (RAs.int (by simp only [List.mem_cons, List.not_mem_nil, or_false]; rintro p (rfl | rfl | rfl) <;> (simp only []; omega)) (show RAs ads (fun _ => none) [] [] from rfl)) (eDeskErrors21 a0)
  · exact law_yes (vs := [.int .i64 a0]) S3 s (RAs.int (by simp only [List.mem_cons, List.not_mem_nil, or_false]; rintro p (rfl | rfl | rfl) <;> (simp only []; omega)) (show RAs ads (fun _ => none) [] [] from rfl)) (eDeskErrors22 a0)
  · exact law_yes (vs := [.int .i64 a0]) S3 s (RAs.int (by simp only [List.mem_cons, List.not_mem_nil, or_false]; rintro p (rfl | rfl | rfl) <;> (simp only []; omega)) (show RAs ads (fun _ => none) [] [] from rfl)) (eDeskErrors23 a0)
  · exact law_yes (vs := [.int .i64 a0]) S3 s (RAs.int (by simp only [List.mem_cons, List.not_mem_nil, or_false]; rintro p (rfl | rfl | rfl) <;> (simp only []; omega)) (show RAs ads (fun _ => none) [] [] from rfl)) (eDeskErrors24 a0)
  · exact law_yes (vs := [.int .i64 a0]) S3 s (RAs.int (by simp only [List.mem_cons, List.not_mem_nil, or_false]; rintro p (rfl | rfl | rfl) <;> (simp only []; omega)) (show RAs ads (fun _ => none) [] [] from rfl)) (eDeskErrors25 a0)
  · exact law_yes (vs := [.int .i64 a0]) S3 s (RAs.int (by simp only [List.mem_cons, List.not_mem_nil, or_false]; rintro p (rfl | rfl | rfl) <;> (simp only []; omega)) (show RAs ads (fun _ => none) [] [] from rfl)) (eDeskErrors26 a0)
  · exact law_yes (vs := [.int .i64 a0]) S3 s (RAs.int (by simp only [List.mem_cons, List.not_mem_nil, or_false]; rintro p (rfl | rfl | rfl) <;> (simp only []; omega)) (show RAs ads (fun _ => none) [] [] from rfl)) (eDeskErrors27 a0)
  · exact law_yes (vs := [.int .i64 a0]) S3 s (RAs.int (by simp only [List.mem_cons, List.not_mem_nil, or_false]; rintro p (rfl | rfl | rfl) <;> (simp only []; omega)) (show RAs ads (fun _ => none) [] [] from rfl)) (eDeskErrors28 a0)
  · exact law_yes (vs := [.int .i64 a0]) S3 s (RAs.int (by simp only [List.mem_cons, List.not_mem_nil, or_false]; rintro p (rfl | rfl | rfl) <;> (simp only []; omega)) (show RAs ads (fun _ => none) [] [] from rfl)) (eDeskErrors29 a0)
  · exact law_yes (vs := [.int .i64 a0]) S3 s (RAs.int (by simp only [List.mem_cons, List.not_mem_nil, or_false]; rintro p (rfl | rfl | rfl) <;> (simp only []; omega)) (show RAs ads (fun _ => none) [] [] from rfl)) (eDeskErrors30 a0)
  · exact law_yes (vs := [.int .i64 a0]) S3 s (RAs.int (by simp only [List.mem_cons, List.not_mem_nil, or_false]; rintro p (rfl | rfl | rfl) <;> (simp only []; omega)) (show RAs ads (fun _ => none) [] [] from rfl)) (eDeskErrors31 a0)
  · exact law_yes (vs := [.int .i64 a0]) S3 s (RAs.int (by simp only [List.mem_cons, List.not_mem_nil, or_false]; rintro p (rfl | rfl | rfl) <;> (simp only []; omega)) (show RAs ads (fun _ => none) [] [] from rfl)) (eDeskErrors32 a0)
  · exact law_yes (vs := [.int .i64 a0]) S3 s (RAs.int (by simp only [List.mem_cons, List.not_mem_nil, or_false]; rintro p (rfl | rfl | rfl) <;> (simp only []; omega)) (show RAs ads (fun _ => none) [] [] from rfl)) (eDeskErrors33 a0)
  · exact law_yes (vs := [.int .i64 a0]) S3 s (RAs.int (by simp only [List.mem_cons, List.not_mem_nil, or_false]; rintro p (rfl | rfl | rfl) <;> (simp only []; omega)) (show RAs ads (fun _ => none) [] [] from rfl)) (eDeskErrors34 a0)
  · exact law_yes (vs := [.int .i64 a0]) S3 s (RAs.int (by simp only [List.mem_cons, List.not_mem_nil, or_false]; rintro p (rfl | rfl | rfl) <;> (simp only []; omega)) (show RAs ads (fun _ => none) [] [] from rfl)) (eDeskErrors35 a0)
  · exact law_yes (vs := [.int .i64 a0]) S3 s (RAs.int (by simp only [List.mem_cons, List.not_mem_nil, or_false]; rintro p (rfl | rfl | rfl) <;> (simp only []; omega)) (show RAs ads (fun _ => none) [] [] from rfl)) (eDeskErrors36 a0)
  · exact law_yes (vs := [.int .i64 a0]) S3 s (RAs.int (by simp only [List.mem_cons, List.not_mem_nil, or_false]; rintro p (rfl | rfl | rfl) <;> (simp only []; omega)) (show RAs ads (fun _ => none) [] [] from rfl)) (eDeskErrors37 a0)
  · exact law_yes (vs := [.int .i64 a0]) S3 s (RAs.int (by simp only [List.mem_cons, List.not_mem_nil, or_false]; rintro p (rfl | rfl | rfl) <;> (simp only []; omega)) (show RAs ads (fun _ => none) [] [] from rfl)) (eDeskErrors38 a0)
  · exact law_yes (vs := [.int .i64 a0]) S3 s (RAs.int (by simp only [List.mem_cons, List.not_mem_nil, or_false]; rintro p (rfl | rfl | rfl) <;> (simp only []; omega)) (show RAs ads (fun _ => none) [] [] from rfl)) (eDeskErrors39 a0)
  · exact law_yes (vs := [.int .i64 a0]) S3 s (RAs.int (by simp only [List.mem_cons, List.not_mem_nil, or_false]; rintro p (rfl | rfl | rfl) <;> (simp only []; omega)) (show RAs ads (fun _ => none) [] [] from rfl)) (eDeskErrors40 a0)
  · exact law_yes (vs := [.int .i64 a0]) S3 s (RAs.int (by simp only [List.mem_cons, List.not_mem_nil, or_false]; rintro p (rfl | rfl | rfl) <;> (simp only []; omega)) (show RAs ads (fun _ => none) [] [] from rfl)) (eDeskErrors41 a0)
  · exact law_yes (vs := [.int .i64 a0]) S3 s (RAs.int (by simp only [List.mem_cons, List.not_mem_nil, or_false]; rintro p (rfl | rfl | rfl) <;> (simp only []; omega)) (show RAs ads (fun _ => none) [] [] from rfl)) (eDeskErrors42 a0)
  · exact law_yes (vs := [.int .i64 a0]) S3 s (RAs.int (by simp only [List.mem_cons, List.not_mem_nil, or_false]; rintro p (rfl | rfl | rfl) <;> (simp only []; omega)) (show RAs ads (fun _ => none) [] [] from rfl)) (eDeskErrors43 a0)
  · exact law_yes (vs := [.int .i64 a0]) S3 s (RAs.int (by simp only [List.mem_cons, List.not_mem_nil, or_false]; rintro p (rfl | rfl | rfl) <;> (simp only []; omega)) (show RAs ads (fun _ => none) [] [] from rfl)) (eDeskErrors44 a0)
  · exact law_yes (vs := [.int .i64 a0]) S3 s (RAs.int (by simp only [List.mem_cons, List.not_mem_nil, or_false]; rintro p (rfl | rfl | rfl) <;> (simp only []; omega)) (show RAs ads (fun _ => none) [] [] from rfl)) (eDeskErrors45 a0)
  · exact law_yes (vs := [.int .i64 a0]) S3 s (RAs.int (by simp only [List.mem_cons, List.not_mem_nil, or_false]; rintro p (rfl | rfl | rfl) <;> (simp only []; omega)) (show RAs ads (fun _ => none) [] [] from rfl)) (eDeskErrors46 a0)
  · exact law_yes (vs := [.int .i64 a0]) S3 s (RAs.int (by simp only [List.mem_cons, List.not_mem_nil, or_false]; rintro p (rfl | rfl | rfl) <;> (simp only []; omega)) (show RAs ads (fun _ => none) [] [] from rfl)) (eDeskErrors47 a0)
end Go.Proofs.YtdkopdoicepgmaaGreatDoor
