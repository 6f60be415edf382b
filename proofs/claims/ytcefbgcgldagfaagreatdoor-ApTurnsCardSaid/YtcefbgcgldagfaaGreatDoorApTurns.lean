/- The law ApTurns holds: whatever its arguments leave, the abstract machine says yes. -/
import Derived.Test.YtcefbgcgldagfaaGreatDoorEApTurns0
import Derived.Test.YtcefbgcgldagfaaGreatDoorEApTurns1
import Derived.Test.YtcefbgcgldagfaaGreatDoorGgApTurnsD
import Derived.Test.YtcefbgcgldagfaaGreatDoorGg
import Derived.Test.YtcefbgcgldagfaaGreatDoorAb17
import Derived.Test.YtcefbgcgldagfaaGreatDoorRows
set_option linter.unusedVariables false
set_option maxRecDepth 100000
set_option maxHeartbeats 0
namespace Go.Proofs.YtcefbgcgldagfaaGreatDoor
open Go.Vc Go.Ab
section
variable (v1 : AV) (l1 l2 l3 l4 : List AV) (L1 : List AP) (d1 d2 d3 d4 : DV) (R1 : List DV) (n1 n2 n3 n4 n5 n6 n7 n8 n9 : Int) (m1 m2 m3 m4 m5 : Nat) (t1 t2 t3 t4 : Bool) (p1 p2 p3 p4 p5 : AP) (b1 b2 b3 b4 b5 : P4) (s1 s2 s3 s4 s5 : AS) (H1 : AH) (x1 x2 : List Int) (c1 c2 c3 c4 c5 c6 c7 c8 c9 c10 c11 c12 c13 c14 c15 c16 : G DV) (Ka1 : AH → Option DV) (Kb1 Kb2 Kb3 : DV → AH → Option DV) (Kc1 Kc2 : DV → DV → AH → Option DV) (Kd1 : DV → DV → DV → AH → Option DV)
variable {ads : List Addr}
theorem sx3 (h12 : SN ads 12 c1) (h13 : SN ads 13 c2) (h14 : SN ads 14 c3) (h15 : SN ads 15 c4) (h16 : SN ads 16 c5) : SN ads 3 (g3 c1 c2 c3 c4 c5) :=
  mk_snd [(nn12, c1), (nn13, c2), (nn14, c3), (nn15, c4), (nn16, c5)] ⟨fun _ => [], fun n => match n with | 11 => some [(34, .bool)] | 17 => some [(9, .int .i64)] | _ => none⟩ [.any, .any] Tryz.func3 rfl (.cons h12 (.cons h13 (.cons h14 (.cons h15 (.cons h16 .nil)))))
theorem S3 : SN ads 3 G3 := sx3 _ _ _ _ _ S12 gNumber.S S14 S15 S16
end
theorem modApTurns_8 (a : Int) : a % 8 = 0 ∨ a % 8 = 1 ∨ a % 8 = 2 ∨ a % 8 = 3 ∨ a % 8 = 4 ∨ a % 8 = 5 ∨ a % 8 = 6 ∨ a % 8 = 7 := by omega
theorem walk_ApTurns (w : World) (hE : ∃ ads, Sna (Wd.of w.heap) ads) (a0 : Int) (w0 : (Lit.int .i64 a0).wf = true) (a1 : Int) (w1 : (Lit.int .i64 a1).wf = true) :
    Calls Tryz.prog 3 #[.int .i64 a0, .int .i64 a1] w fun e w' => e = .returned (.bool true) ∧ Go.RowKit.Below w.heap.size w w' := by
  obtain ⟨ads, s⟩ := hE
  have z : RAs ads (fun _ => none) [] [] := rfl
  have q := fun {R : List DV} (ha : RAs ads (fun _ => none) R [.int .i64 a0, .int .i64 a1]) (e : G3 R (AH.mk .e .h) yesK = some .n) => law_yes (vs := [.int .i64 a0, .int .i64 a1]) S3 s ha e
  rcases modApTurns_8 a0 with h0 | h0 | h0 | h0 | h0 | h0 | h0 | h0
  · rcases modApTurns_8 a1 with h1 | h1 | h1 | h1 | h1 | h1 | h1 | h1
    · exact q (RAs.int (one_of h0) (RAs.int (one_of h1) z)) (eApTurns0 a0 a1)
    · exact q (RAs.int (one_of h0) (RAs.int (one_of h1) z)) (eApTurns1 a0 a1)
    · exact q (RAs.int (one_of h0) (RAs.int (one_of h1) z)) (eApTurns2 a0 a1)
    · exact q (RAs.int (one_of h0) (RAs.int (one_of h1) z)) (eApTurns3 a0 a1)
    · exact q (RAs.int (one_of h0) (RAs.int (one_of h1) z)) (eApTurns4 a0 a1)
    · exact q (RAs.int (one_of h0) (RAs.int (one_of h1) z)) (eApTurns5 a0 a1)
    · exact q (RAs.int (one_of h0) (RAs.int (one_of h1) z)) (eApTurns6 a0 a1)
    · exact q (RAs.int (one_of h0) (RAs.int (one_of h1) z)) (eApTurns7 a0 a1)
  · rcases modApTurns_8 a1 with h1 | h1 | h1 | h1 | h1 | h1 | h1 | h1
    · exact q (RAs.int (one_of h0) (RAs.int (one_of h1) z)) (eApTurns8 a0 a1)
    · exact q (RAs.int (one_of h0) (RAs.int (one_of h1) z)) (eApTurns9 a0 a1)
    · exact q (RAs.int (one_of h0) (RAs.int (one_of h1) z)) (eApTurns10 a0 a1)
    · exact q (RAs.int (one_of h0) (RAs.int (one_of h1) z)) (eApTurns11 a0 a1)
    · exact q (RAs.int (one_of h0) (RAs.int (one_of h1) z)) (eApTurns12 a0 a1)
    · exact q (RAs.int (one_of h0) (RAs.int (one_of h1) z)) (eApTurns13 a0 a1)
    · exact q (RAs.int (one_of h0) (RAs.int (one_of h1) z)) (eApTurns14 a0 a1)
    · exact q (RAs.int (one_of h0) (RAs.int (one_of h1) z)) (eApTurns15 a0 a1)
  · rcases modApTurns_8 a1 with h1 | h1 | h1 | h1 | h1 | h1 | h1 | h1
    · exact q (RAs.int (one_of h0) (RAs.int (one_of h1) z)) (eApTurns16 a0 a1)
    · exact q (RAs.int (one_of h0) (RAs.int (one_of h1) z)) (eApTurns17 a0 a1)
    · exact q (RAs.int (one_of h0) (RAs.int (one_of h1) z)) (eApTurns18 a0 a1)
    · exact q (RAs.int (one_of h0) (RAs.int (one_of h1) z)) (eApTurns19 a0 a1)
    · exact q (RAs.int (one_of h0) (RAs.int (one_of h1) z)) (eApTurns20 a0 a1)
    · exact q (RAs.int (one_of h0) (RAs.int (one_of h1) z)) (eApTurns21 a0 a1)
    · exact q (RAs.int (one_of h0) (RAs.int (one_of h1) z)) (eApTurns22 a0 a1)
    · exact q (RAs.int (one_of h0) (RAs.int (one_of h1) z)) (eApTurns23 a0 a1)
  · rcases modApTurns_8 a1 with h1 | h1 | h1 | h1 | h1 | h1 | h1 | h1
    · exact q (RAs.int (one_of h0) (RAs.int (one_of h1) z)) (eApTurns24 a0 a1)
    · exact q (RAs.int (one_of h0) (RAs.int (one_of h1) z)) (eApTurns25 a0 a1)
    · exact q (RAs.int (one_of h0) (RAs.int (one_of h1) z)) (eApTurns26 a0 a1)
    · exact q (RAs.int (one_of h0) (RAs.int (one_of h1) z)) (eApTurns27 a0 a1)
    · exact q (RAs.int (one_of h0) (RAs.int (one_of h1) z)) (eApTurns28 a0 a1)
    · exact q (RAs.int (one_of h0) (RAs.int (one_of h1) z)) (eApTurns29 a0 a1)
    · exact q (RAs.int (one_of h0) (RAs.int (one_of h1) z)) (eApTurns30 a0 a1)
    · exact q (RAs.int (one_of h0) (RAs.int (one_of h1) z)) (eApTurns31 a0 a1)
  · rcases modApTurns_8 a1 with h1 | h1 | h1 | h1 | h1 | h1 | h1 | h1
    · exact q (RAs.int (one_of h0) (RAs.int (one_of h1) z)) (eApTurns32 a0 a1)
    · exact q (RAs.int (one_of h0) (RAs.int (one_of h1) z)) (eApTurns33 a0 a1)
    · exact q (RAs.int (one_of h0) (RAs.int (one_of h1) z)) (eApTurns34 a0 a1)
    · exact q (RAs.int (one_of h0) (RAs.int (one_of h1) z)) (eApTurns35 a0 a1)
    · exact q (RAs.int (one_of h0) (RAs.int (one_of h1) z)) (eApTurns36 a0 a1)
    · exact q (RAs.int (one_of h0) (RAs.int (one_of h1) z)) (eApTurns37 a0 a1)
    · exact q (RAs.int (one_of h0) (RAs.int (one_of h1) z)) (eApTurns38 a0 a1)
    · exact q (RAs.int (one_of h0) (RAs.int (one_of h1) z)) (eApTurns39 a0 a1)
  · rcases modApTurns_8 a1 with h1 | h1 | h1 | h1 | h1 | h1 | h1 | h1
    · exact q (RAs.int (one_of h0) (RAs.int (one_of h1) z)) (eApTurns40 a0 a1)
    · exact q (RAs.int (one_of h0) (RAs.int (one_of h1) z)) (eApTurns41 a0 a1)
    · exact q (RAs.int (one_of h0) (RAs.int (one_of h1) z)) (eApTurns42 a0 a1)
    · exact q (RAs.int (one_of h0) (RAs.int (one_of h1) z)) (eApTurns43 a0 a1)
    · exact q (RAs.int (one_of h0) (RAs.int (one_of h1) z)) (eApTurns44 a0 a1)
    · exact q (RAs.int (one_of h0) (RAs.int (one_of h1) z)) (eApTurns45 a0 a1)
    · exact q (RAs.int (one_of h0) (RAs.int (one_of h1) z)) (eApTurns46 a0 a1)
    · exact q (RAs.int (one_of h0) (RAs.int (one_of h1) z)) (eApTurns47 a0 a1)
  · rcases modApTurns_8 a1 with h1 | h1 | h1 | h1 | h1 | h1 | h1 | h1
    · exact q (RAs.int (one_of h0) (RAs.int (one_of h1) z)) (eApTurns48 a0 a1)
    · exact q (RAs.int (one_of h0) (RAs.int (one_of h1) z)) (eApTurns49 a0 a1)
    · exact q (RAs.int (one_of h0) (RAs.int (one_of h1) z)) (eApTurns50 a0 a1)
    · exact q (RAs.int (one_of h0) (RAs.int (one_of h1) z)) (eApTurns51 a0 a1)
    · exact q (RAs.int (one_of h0) (RAs.int (one_of h1) z)) (eApTurns52 a0 a1)
    · exact q (RAs.int (one_of h0) (RAs.int (one_of h1) z)) (eApTurns53 a0 a1)
    · exact q (RAs.int (one_of h0) (RAs.int (one_of h1) z)) (eApTurns54 a0 a1)
    · exact q (RAs.int (one_of h0) (RAs.int (one_of h1) z)) (eApTurns55 a0 a1)
  · rcases modApTurns_8 a1 with h1 | h1 | h1 | h1 | h1 | h1 | h1 | h1
    · exact q (RAs.int (one_of h0) (RAs.int (one_of h1) z)) (eApTurns56 a0 a1)
    · exact q (RAs.int (one_of h0) (RAs.int (one_of h1) z)) (eApTurns57 a0 a1)
    · exact q (RAs.int (one_of h0) (RAs.int (one_of h1) z)) (eApTurns58 a0 a1)
    · exact q (RAs.int (one_of h0) (RAs.int (one_of h1) z)) (eApTurns59 a0 a1)
    · exact q (RAs.int (one_of h0) (RAs.int (one_of h1) z)) (eApTurns60 a0 a1)
    · exact q (RAs.int (one_of h0) (RAs.int (one_of h1) z)) (eApTurns61 a0 a1)
    · exact q (RAs.int (one_of h0) (RAs.int (one_of h1) z)) (eApTurns62 a0 a1)
    · exact q (RAs.int (one_of h0) (RAs.int (one_of h1) z)) (eApTurns63 a0 a1)
end Go.Proofs.YtcefbgcgldagfaaGreatDoor
