/- The law ApSessions holds: whatever its arguments leave, the abstract machine says yes. -/
import Derived.Test.YthooeildnkfpkaaGreatDoorEApSessions0
import Derived.Test.YthooeildnkfpkaaGreatDoorEApSessions1
import Derived.Test.YthooeildnkfpkaaGreatDoorEApSessions2
import Derived.Test.YthooeildnkfpkaaGreatDoorGgApSessionsD
import Derived.Test.YthooeildnkfpkaaGreatDoorGg
import Derived.Test.YthooeildnkfpkaaGreatDoorAb17
import Derived.Test.YthooeildnkfpkaaGreatDoorRows
set_option linter.unusedVariables false
set_option maxRecDepth 100000
set_option maxHeartbeats 0
namespace Go.Proofs.YthooeildnkfpkaaGreatDoor
open Go.Vc Go.Ab
section
variable (v1 : AV) (l1 l2 l3 l4 : List AV) (L1 : List AP) (d1 d2 d3 d4 : DV) (R1 : List DV) (n1 n2 n3 n4 n5 n6 n7 n8 n9 : Int) (m1 m2 m3 m4 m5 : Nat) (t1 t2 t3 t4 : Bool) (p1 p2 p3 p4 p5 : AP) (b1 b2 b3 b4 b5 : P4) (s1 s2 s3 s4 s5 : AS) (H1 : AH) (x1 x2 : List Int) (c1 c2 c3 c4 c5 c6 c7 c8 c9 c10 c11 c12 c13 c14 c15 c16 : G DV) (Ka1 : AH → Option DV) (Kb1 Kb2 Kb3 : DV → AH → Option DV) (Kc1 Kc2 : DV → DV → AH → Option DV) (Kd1 : DV → DV → DV → AH → Option DV)
variable {ads : List Addr}
theorem sx3 (h6 : SN ads 6 c1) (h7 : SN ads 7 c2) (h8 : SN ads 8 c3) (h9 : SN ads 9 c4) (h10 : SN ads 10 c5) (h11 : SN ads 11 c6) (h12 : SN ads 12 c7) : SN ads 3 (g3 c1 c2 c3 c4 c5 c6 c7) :=
  mk_snd [(nn6, c1), (nn7, c2), (nn8, c3), (nn9, c4), (nn10, c5), (nn11, c6), (nn12, c7)] ⟨fun n => match n with | 0 => [(7, .int .i64)] | 2 => [(8, .int .i64)] | _ => [], fun n => match n with | 19 => some [] | _ => none⟩ [.any, .bool] Tryz.func3 rfl (.cons h6 (.cons h7 (.cons h8 (.cons h9 (.cons h10 (.cons h11 (.cons h12 .nil)))))))
theorem S3 : SN ads 3 G3 := sx3 _ _ _ _ _ _ _ S6 gNumber.S S8 S9 S10 S11 S12
end
theorem modApSessions_10 (a : Int) : a % 10 = 0 ∨ a % 10 = 1 ∨ a % 10 = 2 ∨ a % 10 = 3 ∨ a % 10 = 4 ∨ a % 10 = 5 ∨ a % 10 = 6 ∨ a % 10 = 7 ∨ a % 10 = 8 ∨ a % 10 = 9 := by omega
theorem walk_ApSessions (w : World) (hE : ∃ ads, Sna (Wd.of w.heap) ads) (a0 : Int) (w0 : (Lit.int .i64 a0).wf = true) (a1 : Bool) :
    Calls Tryz.prog 3 #[.int .i64 a0, .bool a1] w fun e w' => e = .returned (.bool true) ∧ Go.RowKit.Below w.heap.size w w' := by
  obtain ⟨ads, s⟩ := hE
  have z : RAs ads (fun _ => none) [] [] := rfl
  have q := fun {R : List DV} (ha : RAs ads (fun _ => none) R [.int .i64 a0, .bool a1]) (e : G3 R (AH.mk .e .h) yesK = some .n) => law_yes (vs := [.int .i64 a0, .bool a1]) S3 s ha e
  rcases modApSessions_10 a0 with h0 | h0 | h0 | h0 | h0 | h0 | h0 | h0 | h0 | h0
  · cases a1
    · exact q (RAs.int (one_of h0) (RAs.bool z)) (eApSessions1 a0)
    · exact q (RAs.int (one_of h0) (RAs.bool z)) (eApSessions0 a0)
  · cases a1
    · exact q (RAs.int (one_of h0) (RAs.bool z)) (eApSessions3 a0)
    · exact q (RAs.int (one_of h0) (RAs.bool z)) (eApSessions2 a0)
  · cases a1
    · exact q (RAs.int (one_of h0) (RAs.bool z)) (eApSessions5 a0)
    · exact q (RAs.int (one_of h0) (RAs.bool z)) (eApSessions4 a0)
  · cases a1
    · exact q (RAs.int (one_of h0) (RAs.bool z)) (eApSessions7 a0)
    · exact q (RAs.int (one_of h0) (RAs.bool z)) (eApSessions6 a0)
  · cases a1
    · exact q (RAs.int (one_of h0) (RAs.bool z)) (eApSessions9 a0)
    · exact q (RAs.int (one_of h0) (RAs.bool z)) (eApSessions8 a0)
  · cases a1
    · exact q (RAs.int (one_of h0) (RAs.bool z)) (eApSessions11 a0)
    · exact q (RAs.int (one_of h0) (RAs.bool z)) (eApSessions10 a0)
  · cases a1
    · exact q (RAs.int (one_of h0) (RAs.bool z)) (eApSessions13 a0)
    · exact q (RAs.int (one_of h0) (RAs.bool z)) (eApSessions12 a0)
  · cases a1
    · exact q (RAs.int (one_of h0) (RAs.bool z)) (eApSessions15 a0)
    · exact q (RAs.int (one_of h0) (RAs.bool z)) (eApSessions14 a0)
  · cases a1
    · exact q (RAs.int (one_of h0) (RAs.bool z)) (eApSessions17 a0)
    · exact q (RAs.int (one_of h0) (RAs.bool z)) (eApSessions16 a0)
  · cases a1
    · exact q (RAs.int (one_of h0) (RAs.bool z)) (eApSessions19 a0)
    · exact q (RAs.int (one_of h0) (RAs.bool z)) (eApSessions18 a0)
end Go.Proofs.YthooeildnkfpkaaGreatDoor
