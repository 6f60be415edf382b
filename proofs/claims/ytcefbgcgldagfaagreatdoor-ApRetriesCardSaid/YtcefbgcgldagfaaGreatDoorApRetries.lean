/- The law ApRetries holds: whatever its arguments leave, the abstract machine says yes. -/
import Derived.Test.YtcefbgcgldagfaaGreatDoorEApRetries0
import Derived.Test.YtcefbgcgldagfaaGreatDoorEApRetries1
import Derived.Test.YtcefbgcgldagfaaGreatDoorEApRetries2
import Derived.Test.YtcefbgcgldagfaaGreatDoorGgApRetriesD
import Derived.Test.YtcefbgcgldagfaaGreatDoorGg
import Derived.Test.YtcefbgcgldagfaaGreatDoorAb17
import Derived.Test.YtcefbgcgldagfaaGreatDoorRows
set_option linter.unusedVariables false
set_option maxRecDepth 100000
set_option maxHeartbeats 0
namespace Go.Proofs.YtcefbgcgldagfaaGreatDoor
open Go.Vc Go.Ab
section
variable (v1 : AV) (l1 l2 l3 l4 : List AV) (L1 : List AP) (d1 d2 d3 d4 : DV) (R1 : List DV) (n1 n2 n3 n4 n5 n6 n7 n8 n9 : Int) (m1 m2 m3 m4 m5 : Nat) (t1 t2 t3 t4 : Bool) (p1 p2 p3 p4 p5 : AP) (b1 b2 b3 b4 b5 : P4) (s1 s2 s3 s4 s5 : AS) (H1 : AH) (x1 x2 : List Int) (c1 c2 c3 c4 c5 c6 c7 c8 c9 c10 c11 c12 c13 c14 c15 c16 : G DV) (Ka1 : AH → Option DV) (Kb1 Kb2 Kb3 : DV → AH → Option DV) (Kc1 Kc2 : DV → DV → AH → Option DV) (Kd1 : DV → DV → DV → AH → Option DV)
variable {ads : List Addr}
theorem sx10 (h12 : SN ads 12 c1) (h13 : SN ads 13 c2) (h14 : SN ads 14 c3) (h15 : SN ads 15 c4) (h16 : SN ads 16 c5) (h25 : SN ads 25 c6) (h26 : SN ads 26 c7) (h28 : SN ads 28 c8) : SN ads 10 (g10 c1 c2 c3 c4 c5 c6 c7 c8) :=
  mk_snd [(nn12, c1), (nn13, c2), (nn14, c3), (nn15, c4), (nn16, c5), (nn25, c6), (nn26, c7), (nn28, c8)] ⟨fun n => match n with | 0 => [(8, .int .i64)] | 2 => [(9, .int .i64)] | 4 => [(10, .int .i64)] | _ => [], fun _ => none⟩ [.any, .any] Tryz.func10 rfl (.cons h12 (.cons h13 (.cons h14 (.cons h15 (.cons h16 (.cons h25 (.cons h26 (.cons h28 .nil))))))))
theorem S10 : SN ads 10 G10 := sx10 _ _ _ _ _ _ _ _ S12 gNumber.S S14 S15 S16 S25 S26 S28
end
theorem modApRetries_4 (a : Int) : a % 4 = 0 ∨ a % 4 = 1 ∨ a % 4 = 2 ∨ a % 4 = 3 := by omega
theorem modApRetries_8 (a : Int) : a % 8 = 0 ∨ a % 8 = 1 ∨ a % 8 = 2 ∨ a % 8 = 3 ∨ a % 8 = 4 ∨ a % 8 = 5 ∨ a % 8 = 6 ∨ a % 8 = 7 := by omega
theorem walk_ApRetries (w : World) (hE : ∃ ads, Sna (Wd.of w.heap) ads) (a0 : Int) (w0 : (Lit.int .i64 a0).wf = true) (a1 : Int) (w1 : (Lit.int .i64 a1).wf = true) :
    Calls Tryz.prog 10 #[.int .i64 a0, .int .i64 a1] w fun e w' => e = .returned (.bool true) ∧ Go.RowKit.Below w.heap.size w w' := by
  obtain ⟨ads, s⟩ := hE
  have z : RAs ads (fun _ => none) [] [] := rfl
  have q := fun {R : List DV} (ha : RAs ads (fun _ => none) R [.int .i64 a0, .int .i64 a1]) (e : G10 R (AH.mk .e .h) yesK = some .n) => law_yes (vs := [.int .i64 a0, .int .i64 a1]) S10 s ha e
  rcases modApRetries_8 a0 with h0 | h0 | h0 | h0 | h0 | h0 | h0 | h0
  · rcases modApRetries_4 a1 with h1 | h1 | h1 | h1
    · exact q (RAs.int (one_of h0) (RAs.int (one_of h1) z)) (eApRetries0 a0 a1)
    · exact q (RAs.int (one_of h0) (RAs.int (one_of h1) z)) (eApRetries1 a0 a1)
    · exact q (RAs.int (one_of h0) (RAs.int (one_of h1) z)) (eApRetries2 a0 a1)
    · exact q (RAs.int (one_of h0) (RAs.int (one_of h1) z)) (eApRetries3 a0 a1)
  · rcases modApRetries_4 a1 with h1 | h1 | h1 | h1
    · exact q (RAs.int (one_of h0) (RAs.int (one_of h1) z)) (eApRetries4 a0 a1)
    · exact q (RAs.int (one_of h0) (RAs.int (one_of h1) z)) (eApRetries5 a0 a1)
    · exact q (RAs.int (one_of h0) (RAs.int (one_of h1) z)) (eApRetries6 a0 a1)
    · exact q (RAs.int (one_of h0) (RAs.int (one_of h1) z)) (eApRetries7 a0 a1)
  · rcases modApRetries_4 a1 with h1 | h1 | h1 | h1
    · exact q (RAs.int (one_of h0) (RAs.int (one_of h1) z)) (eApRetries8 a0 a1)
    · exact q (RAs.int (one_of h0) (RAs.int (one_of h1) z)) (eApRetries9 a0 a1)
    · exact q (RAs.int (one_of h0) (RAs.int (one_of h1) z)) (eApRetries10 a0 a1)
    · exact q (RAs.int (one_of h0) (RAs.int (one_of h1) z)) (eApRetries11 a0 a1)
  · rcases modApRetries_4 a1 with h1 | h1 | h1 | h1
    · exact q (RAs.int (one_of h0) (RAs.int (one_of h1) z)) (eApRetries12 a0 a1)
    · exact q (RAs.int (one_of h0) (RAs.int (one_of h1) z)) (eApRetries13 a0 a1)
    · exact q (RAs.int (one_of h0) (RAs.int (one_of h1) z)) (eApRetries14 a0 a1)
    · exact q (RAs.int (one_of h0) (RAs.int (one_of h1) z)) (eApRetries15 a0 a1)
  · rcases modApRetries_4 a1 with h1 | h1 | h1 | h1
    · exact q (RAs.int (one_of h0) (RAs.int (one_of h1) z)) (eApRetries16 a0 a1)
    · exact q (RAs.int (one_of h0) (RAs.int (one_of h1) z)) (eApRetries17 a0 a1)
    · exact q (RAs.int (one_of h0) (RAs.int (one_of h1) z)) (eApRetries18 a0 a1)
    · exact q (RAs.int (one_of h0) (RAs.int (one_of h1) z)) (eApRetries19 a0 a1)
  · rcases modApRetries_4 a1 with h1 | h1 | h1 | h1
    · exact q (RAs.int (one_of h0) (RAs.int (one_of h1) z)) (eApRetries20 a0 a1)
    · exact q (RAs.int (one_of h0) (RAs.int (one_of h1) z)) (eApRetries21 a0 a1)
    · exact q (RAs.int (one_of h0) (RAs.int (one_of h1) z)) (eApRetries22 a0 a1)
    · exact q (RAs.int (one_of h0) (RAs.int (one_of h1) z)) (eApRetries23 a0 a1)
  · rcases modApRetries_4 a1 with h1 | h1 | h1 | h1
    · exact q (RAs.int (one_of h0) (RAs.int (one_of h1) z)) (eApRetries24 a0 a1)
    · exact q (RAs.int (one_of h0) (RAs.int (one_of h1) z)) (eApRetries25 a0 a1)
    · exact q (RAs.int (one_of h0) (RAs.int (one_of h1) z)) (eApRetries26 a0 a1)
    · exact q (RAs.int (one_of h0) (RAs.int (one_of h1) z)) (eApRetries27 a0 a1)
  · rcases modApRetries_4 a1 with h1 | h1 | h1 | h1
    · exact q (RAs.int (one_of h0) (RAs.int (one_of h1) z)) (eApRetries28 a0 a1)
    · exact q (RAs.int (one_of h0) (RAs.int (one_of h1) z)) (eApRetries29 a0 a1)
    · exact q (RAs.int (one_of h0) (RAs.int (one_of h1) z)) (eApRetries30 a0 a1)
    · exact q (RAs.int (one_of h0) (RAs.int (one_of h1) z)) (eApRetries31 a0 a1)
end Go.Proofs.YtcefbgcgldagfaaGreatDoor
