/- The law LabErrors holds: whatever its arguments leave, the abstract machine says yes. -/
import Derived.Test.YtjjkbedlnbaccaaGreatDoorELabErrors0
import Derived.Test.YtjjkbedlnbaccaaGreatDoorELabErrors1
import Derived.Test.YtjjkbedlnbaccaaGreatDoorELabErrors2
import Derived.Test.YtjjkbedlnbaccaaGreatDoorGgLabErrorsD
import Derived.Test.YtjjkbedlnbaccaaGreatDoorGg
import Derived.Test.YtjjkbedlnbaccaaGreatDoorAb17
import Derived.Test.YtjjkbedlnbaccaaGreatDoorRows
set_option linter.unusedVariables false
set_option maxRecDepth 100000
set_option maxHeartbeats 0
namespace Go.Proofs.YtjjkbedlnbaccaaGreatDoor
open Go.Vc Go.Ab
section
variable (v1 v2 v3 v4 v5 v6 v7 v8 : AV) (l1 l2 l3 : List AV) (L1 L2 : List AP) (d1 d2 d3 d4 : DV) (R1 : List DV) (n1 n2 n3 n4 n5 n6 n7 n8 : Int) (m1 m2 m3 m4 : Nat) (t1 t2 t3 t4 : Bool) (p1 p2 p3 p4 p5 : AP) (b1 b2 b3 b4 b5 : P4) (s1 s2 s3 s4 s5 : AS) (H1 : AH) (x1 x2 : List Int) (c1 c2 c3 c4 c5 c6 c7 c8 c9 c10 c11 c12 : G DV) (Ka1 : AH → Option DV) (Kb1 Kb2 : DV → AH → Option DV) (Kc1 : DV → DV → AH → Option DV) (Kd1 : DV → DV → DV → AH → Option DV)
variable {ads : List Addr}
theorem sx4 (h6 : SN ads 6 c1) (h7 : SN ads 7 c2) (h13 : SN ads 13 c3) (h17 : SN ads 17 c4) (h18 : SN ads 18 c5) (h19 : SN ads 19 c6) (h20 : SN ads 20 c7) (h21 : SN ads 21 c8) : SN ads 4 (g4 c1 c2 c3 c4 c5 c6 c7 c8) :=
  mk_snd [(nn6, c1), (nn7, c2), (nn13, c3), (nn17, c4), (nn18, c5), (nn19, c6), (nn20, c7), (nn21, c8)] ⟨fun _ => [], fun _ => none⟩ [.any, .any] Tryz.func4 rfl (.cons h6 (.cons h7 (.cons h13 (.cons h17 (.cons h18 (.cons h19 (.cons h20 (.cons h21 .nil))))))))
theorem S4 : SN ads 4 G4 := sx4 _ _ _ _ _ _ _ _ gNumber.S S7 S13 S17 S18 S19 S20 S21
end
theorem modLabErrors_6 (a : Int) : a % 6 = 0 ∨ a % 6 = 1 ∨ a % 6 = 2 ∨ a % 6 = 3 ∨ a % 6 = 4 ∨ a % 6 = 5 := by omega
theorem modLabErrors_16 (a : Int) : a % 16 = 0 ∨ a % 16 = 1 ∨ a % 16 = 2 ∨ a % 16 = 3 ∨ a % 16 = 4 ∨ a % 16 = 5 ∨ a % 16 = 6 ∨ a % 16 = 7 ∨ a % 16 = 8 ∨ a % 16 = 9 ∨ a % 16 = 10 ∨ a % 16 = 11 ∨ a % 16 = 12 ∨ a % 16 = 13 ∨ a % 16 = 14 ∨ a % 16 = 15 := by omega
theorem walk_LabErrors (w : World) (hE : ∃ ads, Sna (Wd.of w.heap) ads) (a0 : Int) (w0 : (Lit.int .i64 a0).wf = true) (a1 : Int) (w1 : (Lit.int .i64 a1).wf = true) :
    Calls Tryz.prog 4 #[.int .i64 a0, .int .i64 a1] w fun e w' => e = .returned (.bool true) ∧ Go.RowKit.Below w.heap.size w w' := by
  obtain ⟨ads, s⟩ := hE
  have z : RAs ads (fun _ => none) [] [] := rfl
  have q := fun {R : List DV} (ha : RAs ads (fun _ => none) R [.int .i64 a0, .int .i64 a1]) (e : G4 R (AH.mk .e .h) yesK = some .n) => law_yes (vs := [.int .i64 a0, .int .i64 a1]) S4 s ha e
  have r := fun {b0 r0 : Nat} (h0 : a0 % (b0 : Int) = (r0 : Int)) {b1 r1 : Nat} (h1 : a1 % (b1 : Int) = (r1 : Int)) (e : G4 [.v (.y a0 [(b0, r0)]), .v (.y a1 [(b1, r1)])] (AH.mk .e .h) yesK = some .n) => q (RAs.int (one_of h0) (RAs.int (one_of h1) z)) e
  rcases modLabErrors_6 a0 with h0 | h0 | h0 | h0 | h0 | h0
  · rcases modLabErrors_16 a1 with h1 | h1 | h1 | h1 | h1 | h1 | h1 | h1 | h1 | h1 | h1 | h1 | h1 | h1 | h1 | h1
    · exact r h0 h1 (eLabErrors0 a0 a1)
    · exact r h0 h1 (eLabErrors1 a0 a1)
    · exact r h0 h1 (eLabErrors2 a0 a1)
    · exact r h0 h1 (eLabErrors3 a0 a1)
    · exact r h0 h1 (eLabErrors4 a0 a1)
    · exact r h0 h1 (eLabErrors5 a0 a1)
    · exact r h0 h1 (eLabErrors6 a0 a1)
    · exact r h0 h1 (eLabErrors7 a0 a1)
    · exact r h0 h1 (eLabErrors8 a0 a1)
    · exact r h0 h1 (eLabErrors9 a0 a1)
    · exact r h0 h1 (eLabErrors10 a0 a1)
    · exact r h0 h1 (eLabErrors11 a0 a1)
    · exact r h0 h1 (eLabErrors12 a0 a1)
    · exact r h0 h1 (eLabErrors13 a0 a1)
    · exact r h0 h1 (eLabErrors14 a0 a1)
    · exact r h0 h1 (eLabErrors15 a0 a1)
  · rcases modLabErrors_16 a1 with h1 | h1 | h1 | h1 | h1 | h1 | h1 | h1 | h1 | h1 | h1 | h1 | h1 | h1 | h1 | h1
    · exact r h0 h1 (eLabErrors16 a0 a1)
    · exact r h0 h1 (eLabErrors17 a0 a1)
    · exact r h0 h1 (eLabErrors18 a0 a1)
    · exact r h0 h1 (eLabErrors19 a0 a1)
    · exact r h0 h1 (eLabErrors20 a0 a1)
    · exact r h0 h1 (eLabErrors21 a0 a1)
    · exact r h0 h1 (eLabErrors22 a0 a1)
    · exact r h0 h1 (eLabErrors23 a0 a1)
    · exact r h0 h1 (eLabErrors24 a0 a1)
    · exact r h0 h1 (eLabErrors25 a0 a1)
    · exact r h0 h1 (eLabErrors26 a0 a1)
    · exact r h0 h1 (eLabErrors27 a0 a1)
    · exact r h0 h1 (eLabErrors28 a0 a1)
    · exact r h0 h1 (eLabErrors29 a0 a1)
    · exact r h0 h1 (eLabErrors30 a0 a1)
    · exact r h0 h1 (eLabErrors31 a0 a1)
  · rcases modLabErrors_16 a1 with h1 | h1 | h1 | h1 | h1 | h1 | h1 | h1 | h1 | h1 | h1 | h1 | h1 | h1 | h1 | h1
    · exact r h0 h1 (eLabErrors32 a0 a1)
    · exact r h0 h1 (eLabErrors33 a0 a1)
    · exact r h0 h1 (eLabErrors34 a0 a1)
    · exact r h0 h1 (eLabErrors35 a0 a1)
    · exact r h0 h1 (eLabErrors36 a0 a1)
    · exact r h0 h1 (eLabErrors37 a0 a1)
    · exact r h0 h1 (eLabErrors38 a0 a1)
    · exact r h0 h1 (eLabErrors39 a0 a1)
    · exact r h0 h1 (eLabErrors40 a0 a1)
    · exact r h0 h1 (eLabErrors41 a0 a1)
    · exact r h0 h1 (eLabErrors42 a0 a1)
    · exact r h0 h1 (eLabErrors43 a0 a1)
    · exact r h0 h1 (eLabErrors44 a0 a1)
    · exact r h0 h1 (eLabErrors45 a0 a1)
    · exact r h0 h1 (eLabErrors46 a0 a1)
    · exact r h0 h1 (eLabErrors47 a0 a1)
  · rcases modLabErrors_16 a1 with h1 | h1 | h1 | h1 | h1 | h1 | h1 | h1 | h1 | h1 | h1 | h1 | h1 | h1 | h1 | h1
    · exact r h0 h1 (eLabErrors48 a0 a1)
    · exact r h0 h1 (eLabErrors49 a0 a1)
    · exact r h0 h1 (eLabErrors50 a0 a1)
    · exact r h0 h1 (eLabErrors51 a0 a1)
    · exact r h0 h1 (eLabErrors52 a0 a1)
    · exact r h0 h1 (eLabErrors53 a0 a1)
    · exact r h0 h1 (eLabErrors54 a0 a1)
    · exact r h0 h1 (eLabErrors55 a0 a1)
    · exact r h0 h1 (eLabErrors56 a0 a1)
    · exact r h0 h1 (eLabErrors57 a0 a1)
    · exact r h0 h1 (eLabErrors58 a0 a1)
    · exact r h0 h1 (eLabErrors59 a0 a1)
    · exact r h0 h1 (eLabErrors60 a0 a1)
    · exact r h0 h1 (eLabErrors61 a0 a1)
    · exact r h0 h1 (eLabErrors62 a0 a1)
    · exact r h0 h1 (eLabErrors63 a0 a1)
  · rcases modLabErrors_16 a1 with h1 | h1 | h1 | h1 | h1 | h1 | h1 | h1 | h1 | h1 | h1 | h1 | h1 | h1 | h1 | h1
    · exact r h0 h1 (eLabErrors64 a0 a1)
    · exact r h0 h1 (eLabErrors65 a0 a1)
    · exact r h0 h1 (eLabErrors66 a0 a1)
    · exact r h0 h1 (eLabErrors67 a0 a1)
    · exact r h0 h1 (eLabErrors68 a0 a1)
    · exact r h0 h1 (eLabErrors69 a0 a1)
    · exact r h0 h1 (eLabErrors70 a0 a1)
    · exact r h0 h1 (eLabErrors71 a0 a1)
    · exact r h0 h1 (eLabErrors72 a0 a1)
    · exact r h0 h1 (eLabErrors73 a0 a1)
    · exact r h0 h1 (eLabErrors74 a0 a1)
    · exact r h0 h1 (eLabErrors75 a0 a1)
    · exact r h0 h1 (eLabErrors76 a0 a1)
    · exact r h0 h1 (eLabErrors77 a0 a1)
    · exact r h0 h1 (eLabErrors78 a0 a1)
    · exact r h0 h1 (eLabErrors79 a0 a1)
  · rcases modLabErrors_16 a1 with h1 | h1 | h1 | h1 | h1 | h1 | h1 | h1 | h1 | h1 | h1 | h1 | h1 | h1 | h1 | h1
    · exact r h0 h1 (eLabErrors80 a0 a1)
    · exact r h0 h1 (eLabErrors81 a0 a1)
    · exact r h0 h1 (eLabErrors82 a0 a1)
    · exact r h0 h1 (eLabErrors83 a0 a1)
    · exact r h0 h1 (eLabErrors84 a0 a1)
    · exact r h0 h1 (eLabErrors85 a0 a1)
    · exact r h0 h1 (eLabErrors86 a0 a1)
    · exact r h0 h1 (eLabErrors87 a0 a1)
    · exact r h0 h1 (eLabErrors88 a0 a1)
    · exact r h0 h1 (eLabErrors89 a0 a1)
    · exact r h0 h1 (eLabErrors90 a0 a1)
    · exact r h0 h1 (eLabErrors91 a0 a1)
    · exact r h0 h1 (eLabErrors92 a0 a1)
    · exact r h0 h1 (eLabErrors93 a0 a1)
    · exact r h0 h1 (eLabErrors94 a0 a1)
    · exact r h0 h1 (eLabErrors95 a0 a1)
end Go.Proofs.YtjjkbedlnbaccaaGreatDoor
