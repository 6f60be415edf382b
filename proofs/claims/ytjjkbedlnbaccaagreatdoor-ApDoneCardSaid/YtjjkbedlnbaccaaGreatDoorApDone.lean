/- The law ApDone holds: whatever its arguments leave, the abstract machine says yes. -/
import Derived.Test.YtjjkbedlnbaccaaGreatDoorEApDone0
import Derived.Test.YtjjkbedlnbaccaaGreatDoorEApDone1
import Derived.Test.YtjjkbedlnbaccaaGreatDoorGgApDoneD
import Derived.Test.YtjjkbedlnbaccaaGreatDoorGg
import Derived.Test.YtjjkbedlnbaccaaGreatDoorAb17
import Derived.Test.YtjjkbedlnbaccaaGreatDoorRows
set_option linter.unusedVariables false
set_option maxRecDepth 100000
set_option maxHeartbeats 0
namespace Go.Proofs.YtjjkbedlnbaccaaGreatDoor
open Go.Vc Go.Ab
section
variable (v1 v2 : AV) (l1 l2 l3 : List AV) (L1 L2 : List AP) (d1 d2 d3 d4 : DV) (R1 : List DV) (n1 n2 n3 n4 n5 n6 n7 n8 : Int) (m1 m2 m3 m4 : Nat) (t1 t2 t3 t4 : Bool) (p1 p2 p3 p4 p5 : AP) (b1 b2 b3 b4 b5 : P4) (s1 s2 s3 s4 s5 : AS) (H1 : AH) (x1 x2 : List Int) (c1 c2 c3 c4 c5 c6 c7 c8 c9 c10 c11 c12 : G DV) (Ka1 : AH → Option DV) (Kb1 Kb2 : DV → AH → Option DV) (Kc1 : DV → DV → AH → Option DV) (Kd1 : DV → DV → DV → AH → Option DV)
variable {ads : List Addr}
theorem sx3 (h5 : SN ads 5 c1) (h6 : SN ads 6 c2) (h7 : SN ads 7 c3) (h8 : SN ads 8 c4) (h9 : SN ads 9 c5) (h10 : SN ads 10 c6) (h11 : SN ads 11 c7) (h12 : SN ads 12 c8) (h13 : SN ads 13 c9) (h14 : SN ads 14 c10) (h15 : SN ads 15 c11) (h16 : SN ads 16 c12) : SN ads 3 (g3 c1 c2 c3 c4 c5 c6 c7 c8 c9 c10 c11 c12) :=
  mk_snd [(nn5, c1), (nn6, c2), (nn7, c3), (nn8, c4), (nn9, c5), (nn10, c6), (nn11, c7), (nn12, c8), (nn13, c9), (nn14, c10), (nn15, c11), (nn16, c12)] ⟨fun n => match n with | 0 => [(8, .int .i64)] | 2 => [(9, .int .i64)] | _ => [], fun _ => none⟩ [.any, .any] Tryz.func3 rfl (.cons h5 (.cons h6 (.cons h7 (.cons h8 (.cons h9 (.cons h10 (.cons h11 (.cons h12 (.cons h13 (.cons h14 (.cons h15 (.cons h16 .nil))))))))))))
theorem S3 : SN ads 3 G3 := sx3 _ _ _ _ _ _ _ _ _ _ _ _ S5 gNumber.S S7 S8 S9 S10 S11 S12 S13 S14 S15 S16
end
theorem modApDone_2 (a : Int) : a % 2 = 0 ∨ a % 2 = 1 := by omega
theorem modApDone_3 (a : Int) : a % 3 = 0 ∨ a % 3 = 1 ∨ a % 3 = 2 := by omega
theorem modApDone_4 (a : Int) : a % 4 = 0 ∨ a % 4 = 1 ∨ a % 4 = 2 ∨ a % 4 = 3 := by omega
theorem walk_ApDone (w : World) (hE : ∃ ads, Sna (Wd.of w.heap) ads) (a0 : Int) (w0 : (Lit.int .i64 a0).wf = true) (a1 : Int) (w1 : (Lit.int .i64 a1).wf = true) :
    Calls Tryz.prog 3 #[.int .i64 a0, .int .i64 a1] w fun e w' => e = .returned (.bool true) ∧ Go.RowKit.Below w.heap.size w w' := by
  obtain ⟨ads, s⟩ := hE
  have z : RAs ads (fun _ => none) [] [] := rfl
  have q := fun {R : List DV} (ha : RAs ads (fun _ => none) R [.int .i64 a0, .int .i64 a1]) (e : G3 R (AH.mk .e .h) yesK = some .n) => law_yes (vs := [.int .i64 a0, .int .i64 a1]) S3 s ha e
  have r := fun {b0 r0 : Nat} (h0 : a0 % (b0 : Int) = (r0 : Int)) {b1 r1 : Nat} (h1 : a1 % (b1 : Int) = (r1 : Int)) (e : G3 [.v (.y a0 [(b0, r0)]), .v (.y a1 [(b1, r1)])] (AH.mk .e .h) yesK = some .n) => q (RAs.int (one_of h0) (RAs.int (one_of h1) z)) e
  rcases modApDone_3 a0 with h0 | h0 | h0
  · rcases modApDone_2 a1 with h1 | h1
    · exact r h0 h1 (eApDone0 a0 a1)
    · exact r h0 h1 (eApDone1 a0 a1)
  · rcases modApDone_3 a1 with h1 | h1 | h1
    · exact r h0 h1 (eApDone2 a0 a1)
    · exact r h0 h1 (eApDone3 a0 a1)
    · exact r h0 h1 (eApDone4 a0 a1)
  · rcases modApDone_4 a1 with h1 | h1 | h1 | h1
    · exact r h0 h1 (eApDone5 a0 a1)
    · exact r h0 h1 (eApDone6 a0 a1)
    · exact r h0 h1 (eApDone7 a0 a1)
    · exact r h0 h1 (eApDone8 a0 a1)
end Go.Proofs.YtjjkbedlnbaccaaGreatDoor
