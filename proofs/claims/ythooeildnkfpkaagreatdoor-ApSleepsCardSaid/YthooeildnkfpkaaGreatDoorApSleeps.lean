/- The law ApSleeps holds: whatever its arguments leave, the abstract machine says yes. -/
import Derived.Test.YthooeildnkfpkaaGreatDoorEApSleeps0
import Derived.Test.YthooeildnkfpkaaGreatDoorEApSleeps1
import Derived.Test.YthooeildnkfpkaaGreatDoorEApSleeps2
import Derived.Test.YthooeildnkfpkaaGreatDoorEApSleeps3
import Derived.Test.YthooeildnkfpkaaGreatDoorGgApSleepsD
import Derived.Test.YthooeildnkfpkaaGreatDoorGg
import Derived.Test.YthooeildnkfpkaaGreatDoorAb17
import Derived.Test.YthooeildnkfpkaaGreatDoorRows
set_option linter.unusedVariables false
set_option maxRecDepth 100000
set_option maxHeartbeats 0
namespace Go.Proofs.YthooeildnkfpkaaGreatDoor
open Go.Vc Go.Ab
section
variable (v1 : AV) (l1 l2 l3 l4 : List AV) (L1 : List AP) (d1 d2 d3 d4 : DV) (R1 : List DV) (n1 n2 n3 n4 n5 n6 n7 n8 n9 : Int) (m1 m2 m3 m4 m5 : Nat) (t1 t2 t3 t4 : Bool) (p1 p2 p3 p4 p5 : AP) (b1 b2 b3 b4 b5 : P4) (s1 s2 s3 s4 s5 : AS) (H1 : AH) (x1 x2 : List Int) (c1 c2 c3 c4 c5 c6 c7 c8 c9 c10 c11 c12 c13 c14 c15 c16 : G DV) (Ka1 : AH → Option DV) (Kb1 Kb2 Kb3 : DV → AH → Option DV) (Kc1 Kc2 : DV → DV → AH → Option DV) (Kd1 : DV → DV → DV → AH → Option DV)
variable {ads : List Addr}
theorem sx4 (h6 : SN ads 6 c1) (h7 : SN ads 7 c2) (h8 : SN ads 8 c3) (h9 : SN ads 9 c4) (h10 : SN ads 10 c5) (h12 : SN ads 12 c6) (h13 : SN ads 13 c7) (h14 : SN ads 14 c8) : SN ads 4 (g4 c1 c2 c3 c4 c5 c6 c7 c8) :=
  mk_snd [(nn6, c1), (nn7, c2), (nn8, c3), (nn9, c4), (nn10, c5), (nn12, c6), (nn13, c7), (nn14, c8)] ⟨fun n => match n with | 0 => [(10, .int .i64)] | 2 => [(11, .int .i64)] | 4 => [(12, .int .i64)] | _ => [], fun _ => none⟩ [.any, .any, .any] Tryz.func4 rfl (.cons h6 (.cons h7 (.cons h8 (.cons h9 (.cons h10 (.cons h12 (.cons h13 (.cons h14 .nil))))))))
theorem S4 : SN ads 4 G4 := sx4 _ _ _ _ _ _ _ _ S6 gNumber.S S8 S9 S10 S12 S13 S14
end
theorem modApSleeps_3 (a : Int) : a % 3 = 0 ∨ a % 3 = 1 ∨ a % 3 = 2 := by omega
theorem modApSleeps_8 (a : Int) : a % 8 = 0 ∨ a % 8 = 1 ∨ a % 8 = 2 ∨ a % 8 = 3 ∨ a % 8 = 4 ∨ a % 8 = 5 ∨ a % 8 = 6 ∨ a % 8 = 7 := by omega
theorem walk_ApSleeps (w : World) (hE : ∃ ads, Sna (Wd.of w.heap) ads) (a0 : Int) (w0 : (Lit.int .i64 a0).wf = true) (a1 : Int) (w1 : (Lit.int .i64 a1).wf = true) (a2 : Int) (w2 : (Lit.int .i64 a2).wf = true) :
    Calls Tryz.prog 4 #[.int .i64 a0, .int .i64 a1, .int .i64 a2] w fun e w' => e = .returned (.bool true) ∧ Go.RowKit.Below w.heap.size w w' := by
  obtain ⟨ads, s⟩ := hE
  have z : RAs ads (fun _ => none) [] [] := rfl
  have q := fun {R : List DV} (ha : RAs ads (fun _ => none) R [.int .i64 a0, .int .i64 a1, .int .i64 a2]) (e : G4 R (AH.mk .e .h) yesK = some .n) => law_yes (vs := [.int .i64 a0, .int .i64 a1, .int .i64 a2]) S4 s ha e
  rcases modApSleeps_8 a0 with h0 | h0 | h0 | h0 | h0 | h0 | h0 | h0
  · rcases modApSleeps_8 a1 with h1 | h1 | h1 | h1 | h1 | h1 | h1 | h1
    · rcases modApSleeps_3 a2 with h2 | h2 | h2
      · exact q (RAs.int (one_of h0) (RAs.int (one_of h1) (RAs.int (one_of h2) z))) (eApSleeps0 a0 a1 a2)
      · exact q (RAs.int (one_of h0) (RAs.int (one_of h1) (RAs.int (one_of h2) z))) (eApSleeps1 a0 a1 a2)
      · exact q (RAs.int (one_of h0) (RAs.int (one_of h1) (RAs.int (one_of h2) z))) (eApSleeps2 a0 a1 a2)
    · rcases modApSleeps_3 a2 with h2 | h2 | h2
      · exact q (RAs.int (one_of h0) (RAs.int (one_of h1) (RAs.int (one_of h2) z))) (eApSleeps3 a0 a1 a2)
      · exact q (RAs.int (one_of h0) (RAs.int (one_of h1) (RAs.int (one_of h2) z))) (eApSleeps4 a0 a1 a2)
      · exact q (RAs.int (one_of h0) (RAs.int (one_of h1) (RAs.int (one_of h2) z))) (eApSleeps5 a0 a1 a2)
    · rcases modApSleeps_3 a2 with h2 | h2 | h2
      · exact q (RAs.int (one_of h0) (RAs.int (one_of h1) (RAs.int (one_of h2) z))) (eApSleeps6 a0 a1 a2)
      · exact q (RAs.int (one_of h0) (RAs.int (one_of h1) (RAs.int (one_of h2) z))) (eApSleeps7 a0 a1 a2)
      · exact q (RAs.int (one_of h0) (RAs.int (one_of h1) (RAs.int (one_of h2) z))) (eApSleeps8 a0 a1 a2)
    · rcases modApSleeps_3 a2 with h2 | h2 | h2
      · exact q (RAs.int (one_of h0) (RAs.int (one_of h1) (RAs.int (one_of h2) z))) (eApSleeps9 a0 a1 a2)
      · exact q (RAs.int (one_of h0) (RAs.int (one_of h1) (RAs.int (one_of h2) z))) (eApSleeps10 a0 a1 a2)
      · exact q (RAs.int (one_of h0) (RAs.int (one_of h1) (RAs.int (one_of h2) z))) (eApSleeps11 a0 a1 a2)
    · rcases modApSleeps_3 a2 with h2 | h2 | h2
      · exact q (RAs.int (one_of h0) (RAs.int (one_of h1) (RAs.int (one_of h2) z))) (eApSleeps12 a0 a1 a2)
      · exact q (RAs.int (one_of h0) (RAs.int (one_of h1) (RAs.int (one_of h2) z))) (eApSleeps13 a0 a1 a2)
      · exact q (RAs.int (one_of h0) (RAs.int (one_of h1) (RAs.int (one_of h2) z))) (eApSleeps14 a0 a1 a2)
    · rcases modApSleeps_3 a2 with h2 | h2 | h2
      · exact q (RAs.int (one_of h0) (RAs.int (one_of h1) (RAs.int (one_of h2) z))) (eApSleeps15 a0 a1 a2)
      · exact q (RAs.int (one_of h0) (RAs.int (one_of h1) (RAs.int (one_of h2) z))) (eApSleeps16 a0 a1 a2)
      · exact q (RAs.int (one_of h0) (RAs.int (one_of h1) (RAs.int (one_of h2) z))) (eApSleeps17 a0 a1 a2)
    · rcases modApSleeps_3 a2 with h2 | h2 | h2
      · exact q (RAs.int (one_of h0) (RAs.int (one_of h1) (RAs.int (one_of h2) z))) (eApSleeps18 a0 a1 a2)
      · exact q (RAs.int (one_of h0) (RAs.int (one_of h1) (RAs.int (one_of h2) z))) (eApSleeps19 a0 a1 a2)
      · exact q (RAs.int (one_of h0) (RAs.int (one_of h1) (RAs.int (one_of h2) z))) (eApSleeps20 a0 a1 a2)
    · rcases modApSleeps_3 a2 with h2 | h2 | h2
      · exact q (RAs.int (one_of h0) (RAs.int (one_of h1) (RAs.int (one_of h2) z))) (eApSleeps21 a0 a1 a2)
      · exact q (RAs.int (one_of h0) (RAs.int (one_of h1) (RAs.int (one_of h2) z))) (eApSleeps22 a0 a1 a2)
      · exact q (RAs.int (one_of h0) (RAs.int (one_of h1) (RAs.int (one_of h2) z))) (eApSleeps23 a0 a1 a2)
  · rcases modApSleeps_8 a1 with h1 | h1 | h1 | h1 | h1 | h1 | h1 | h1
    · rcases modApSleeps_3 a2 with h2 | h2 | h2
      · exact q (RAs.int (one_of h0) (RAs.int (one_of h1) (RAs.int (one_of h2) z))) (eApSleeps24 a0 a1 a2)
      · exact q (RAs.int (one_of h0) (RAs.int (one_of h1) (RAs.int (one_of h2) z))) (eApSleeps25 a0 a1 a2)
      · exact q (RAs.int (one_of h0) (RAs.int (one_of h1) (RAs.int (one_of h2) z))) (eApSleeps26 a0 a1 a2)
    · rcases modApSleeps_3 a2 with h2 | h2 | h2
      · exact q (RAs.int (one_of h0) (RAs.int (one_of h1) (RAs.int (one_of h2) z))) (eApSleeps27 a0 a1 a2)
      · exact q (RAs.int (one_of h0) (RAs.int (one_of h1) (RAs.int (one_of h2) z))) (eApSleeps28 a0 a1 a2)
      · exact q (RAs.int (one_of h0) (RAs.int (one_of h1) (RAs.int (one_of h2) z))) (eApSleeps29 a0 a1 a2)
    · rcases modApSleeps_3 a2 with h2 | h2 | h2
      · exact q (RAs.int (one_of h0) (RAs.int (one_of h1) (RAs.int (one_of h2) z))) (eApSleeps30 a0 a1 a2)
      · exact q (RAs.int (one_of h0) (RAs.int (one_of h1) (RAs.int (one_of h2) z))) (eApSleeps31 a0 a1 a2)
      · exact q (RAs.int (one_of h0) (RAs.int (one_of h1) (RAs.int (one_of h2) z))) (eApSleeps32 a0 a1 a2)
    · rcases modApSleeps_3 a2 with h2 | h2 | h2
      · exact q (RAs.int (one_of h0) (RAs.int (one_of h1) (RAs.int (one_of h2) z))) (eApSleeps33 a0 a1 a2)
      · exact q (RAs.int (one_of h0) (RAs.int (one_of h1) (RAs.int (one_of h2) z))) (eApSleeps34 a0 a1 a2)
      · exact q (RAs.int (one_of h0) (RAs.int (one_of h1) (RAs.int (one_of h2) z))) (eApSleeps35 a0 a1 a2)
    · rcases modApSleeps_3 a2 with h2 | h2 | h2
      · exact q (RAs.int (one_of h0) (RAs.int (one_of h1) (RAs.int (one_of h2) z))) (eApSleeps36 a0 a1 a2)
      · exact q (RAs.int (one_of h0) (RAs.int (one_of h1) (RAs.int (one_of h2) z))) (eApSleeps37 a0 a1 a2)
      · exact q (RAs.int (one_of h0) (RAs.int (one_of h1) (RAs.int (one_of h2) z))) (eApSleeps38 a0 a1 a2)
    · rcases modApSleeps_3 a2 with h2 | h2 | h2
      · exact q (RAs.int (one_of h0) (RAs.int (one_of h1) (RAs.int (one_of h2) z))) (eApSleeps39 a0 a1 a2)
      · exact q (RAs.int (one_of h0) (RAs.int (one_of h1) (RAs.int (one_of h2) z))) (eApSleeps40 a0 a1 a2)
      · exact q (RAs.int (one_of h0) (RAs.int (one_of h1) (RAs.int (one_of h2) z))) (eApSleeps41 a0 a1 a2)
    · rcases modApSleeps_3 a2 with h2 | h2 | h2
      · exact q (RAs.int (one_of h0) (RAs.int (one_of h1) (RAs.int (one_of h2) z))) (eApSleeps42 a0 a1 a2)
      · exact q (RAs.int (one_of h0) (RAs.int (one_of h1) (RAs.int (one_of h2) z))) (eApSleeps43 a0 a1 a2)
      · exact q (RAs.int (one_of h0) (RAs.int (one_of h1) (RAs.int (one_of h2) z))) (eApSleeps44 a0 a1 a2)
    · rcases modApSleeps_3 a2 with h2 | h2 | h2
      · exact q (RAs.int (one_of h0) (RAs.int (one_of h1) (RAs.int (one_of h2) z))) (eApSleeps45 a0 a1 a2)
      · exact q (RAs.int (one_of h0) (RAs.int (one_of h1) (RAs.int (one_of h2) z))) (eApSleeps46 a0 a1 a2)
      · exact q (RAs.int (one_of h0) (RAs.int (one_of h1) (RAs.int (one_of h2) z))) (eApSleeps47 a0 a1 a2)
  · rcases modApSleeps_8 a1 with h1 | h1 | h1 | h1 | h1 | h1 | h1 | h1
    · rcases modApSleeps_3 a2 with h2 | h2 | h2
      · exact q (RAs.int (one_of h0) (RAs.int (one_of h1) (RAs.int (one_of h2) z))) (eApSleeps48 a0 a1 a2)
      · exact q (RAs.int (one_of h0) (RAs.int (one_of h1) (RAs.int (one_of h2) z))) (eApSleeps49 a0 a1 a2)
      · exact q (RAs.int (one_of h0) (RAs.int (one_of h1) (RAs.int (one_of h2) z))) (eApSleeps50 a0 a1 a2)
    · rcases modApSleeps_3 a2 with h2 | h2 | h2
      · exact q (RAs.int (one_of h0) (RAs.int (one_of h1) (RAs.int (one_of h2) z))) (eApSleeps51 a0 a1 a2)
      · exact q (RAs.int (one_of h0) (RAs.int (one_of h1) (RAs.int (one_of h2) z))) (eApSleeps52 a0 a1 a2)
      · exact q (RAs.int (one_of h0) (RAs.int (one_of h1) (RAs.int (one_of h2) z))) (eApSleeps53 a0 a1 a2)
    · rcases modApSleeps_3 a2 with h2 | h2 | h2
      · exact q (RAs.int (one_of h0) (RAs.int (one_of h1) (RAs.int (one_of h2) z))) (eApSleeps54 a0 a1 a2)
      · exact q (RAs.int (one_of h0) (RAs.int (one_of h1) (RAs.int (one_of h2) z))) (eApSleeps55 a0 a1 a2)
      · exact q (RAs.int (one_of h0) (RAs.int (one_of h1) (RAs.int (one_of h2) z))) (eApSleeps56 a0 a1 a2)
    · rcases modApSleeps_3 a2 with h2 | h2 | h2
      · exact q (RAs.int (one_of h0) (RAs.int (one_of h1) (RAs.int (one_of h2) z))) (eApSleeps57 a0 a1 a2)
      · exact q (RAs.int (one_of h0) (RAs.int (one_of h1) (RAs.int (one_of h2) z))) (eApSleeps58 a0 a1 a2)
      · exact q (RAs.int (one_of h0) (RAs.int (one_of h1) (RAs.int (one_of h2) z))) (eApSleeps59 a0 a1 a2)
    · rcases modApSleeps_3 a2 with h2 | h2 | h2
      · exact q (RAs.int (one_of h0) (RAs.int (one_of h1) (RAs.int (one_of h2) z))) (eApSleeps60 a0 a1 a2)
      · exact q (RAs.int (one_of h0) (RAs.int (one_of h1) (RAs.int (one_of h2) z))) (eApSleeps61 a0 a1 a2)
      · exact q (RAs.int (one_of h0) (RAs.int (one_of h1) (RAs.int (one_of h2) z))) (eApSleeps62 a0 a1 a2)
    · rcases modApSleeps_3 a2 with h2 | h2 | h2
      · exact q (RAs.int (one_of h0) (RAs.int (one_of h1) (RAs.int (one_of h2) z))) (eApSleeps63 a0 a1 a2)
      · exact q (RAs.int (one_of h0) (RAs.int (one_of h1) (RAs.int (one_of h2) z))) (eApSleeps64 a0 a1 a2)
      · exact q (RAs.int (one_of h0) (RAs.int (one_of h1) (RAs.int (one_of h2) z))) (eApSleeps65 a0 a1 a2)
    · rcases modApSleeps_3 a2 with h2 | h2 | h2
      · exact q (RAs.int (one_of h0) (RAs.int (one_of h1) (RAs.int (one_of h2) z))) (eApSleeps66 a0 a1 a2)
      · exact q (RAs.int (one_of h0) (RAs.int (one_of h1) (RAs.int (one_of h2) z))) (eApSleeps67 a0 a1 a2)
      · exact q (RAs.int (one_of h0) (RAs.int (one_of h1) (RAs.int (one_of h2) z))) (eApSleeps68 a0 a1 a2)
    · rcases modApSleeps_3 a2 with h2 | h2 | h2
      · exact q (RAs.int (one_of h0) (RAs.int (one_of h1) (RAs.int (one_of h2) z))) (eApSleeps69 a0 a1 a2)
      · exact q (RAs.int (one_of h0) (RAs.int (one_of h1) (RAs.int (one_of h2) z))) (eApSleeps70 a0 a1 a2)
      · exact q (RAs.int (one_of h0) (RAs.int (one_of h1) (RAs.int (one_of h2) z))) (eApSleeps71 a0 a1 a2)
  · rcases modApSleeps_8 a1 with h1 | h1 | h1 | h1 | h1 | h1 | h1 | h1
    · rcases modApSleeps_3 a2 with h2 | h2 | h2
      · exact q (RAs.int (one_of h0) (RAs.int (one_of h1) (RAs.int (one_of h2) z))) (eApSleeps72 a0 a1 a2)
      · exact q (RAs.int (one_of h0) (RAs.int (one_of h1) (RAs.int (one_of h2) z))) (eApSleeps73 a0 a1 a2)
      · exact q (RAs.int (one_of h0) (RAs.int (one_of h1) (RAs.int (one_of h2) z))) (eApSleeps74 a0 a1 a2)
    · rcases modApSleeps_3 a2 with h2 | h2 | h2
      · exact q (RAs.int (one_of h0) (RAs.int (one_of h1) (RAs.int (one_of h2) z))) (eApSleeps75 a0 a1 a2)
      · exact q (RAs.int (one_of h0) (RAs.int (one_of h1) (RAs.int (one_of h2) z))) (eApSleeps76 a0 a1 a2)
      · exact q (RAs.int (one_of h0) (RAs.int (one_of h1) (RAs.int (one_of h2) z))) (eApSleeps77 a0 a1 a2)
    · rcases modApSleeps_3 a2 with h2 | h2 | h2
      · exact q (RAs.int (one_of h0) (RAs.int (one_of h1) (RAs.int (one_of h2) z))) (eApSleeps78 a0 a1 a2)
      · exact q (RAs.int (one_of h0) (RAs.int (one_of h1) (RAs.int (one_of h2) z))) (eApSleeps79 a0 a1 a2)
      · exact q (RAs.int (one_of h0) (RAs.int (one_of h1) (RAs.int (one_of h2) z))) (eApSleeps80 a0 a1 a2)
    · rcases modApSleeps_3 a2 with h2 | h2 | h2
      · exact q (RAs.int (one_of h0) (RAs.int (one_of h1) (RAs.int (one_of h2) z))) (eApSleeps81 a0 a1 a2)
      · exact q (RAs.int (one_of h0) (RAs.int (one_of h1) (RAs.int (one_of h2) z))) (eApSleeps82 a0 a1 a2)
      · exact q (RAs.int (one_of h0) (RAs.int (one_of h1) (RAs.int (one_of h2) z))) (eApSleeps83 a0 a1 a2)
    · rcases modApSleeps_3 a2 with h2 | h2 | h2
      · exact q (RAs.int (one_of h0) (RAs.int (one_of h1) (RAs.int (one_of h2) z))) (eApSleeps84 a0 a1 a2)
      · exact q (RAs.int (one_of h0) (RAs.int (one_of h1) (RAs.int (one_of h2) z))) (eApSleeps85 a0 a1 a2)
      · exact q (RAs.int (one_of h0) (RAs.int (one_of h1) (RAs.int (one_of h2) z))) (eApSleeps86 a0 a1 a2)
    · rcases modApSleeps_3 a2 with h2 | h2 | h2
      · exact q (RAs.int (one_of h0) (RAs.int (one_of h1) (RAs.int (one_of h2) z))) (eApSleeps87 a0 a1 a2)
      · exact q (RAs.int (one_of h0) (RAs.int (one_of h1) (RAs.int (one_of h2) z))) (eApSleeps88 a0 a1 a2)
      · exact q (RAs.int (one_of h0) (RAs.int (one_of h1) (RAs.int (one_of h2) z))) (eApSleeps89 a0 a1 a2)
    · rcases modApSleeps_3 a2 with h2 | h2 | h2
      · exact q (RAs.int (one_of h0) (RAs.int (one_of h1) (RAs.int (one_of h2) z))) (eApSleeps90 a0 a1 a2)
      · exact q (RAs.int (one_of h0) (RAs.int (one_of h1) (RAs.int (one_of h2) z))) (eApSleeps91 a0 a1 a2)
      · exact q (RAs.int (one_of h0) (RAs.int (one_of h1) (RAs.int (one_of h2) z))) (eApSleeps92 a0 a1 a2)
    · rcases modApSleeps_3 a2 with h2 | h2 | h2
      · exact q (RAs.int (one_of h0) (RAs.int (one_of h1) (RAs.int (one_of h2) z))) (eApSleeps93 a0 a1 a2)
      · exact q (RAs.int (one_of h0) (RAs.int (one_of h1) (RAs.int (one_of h2) z))) (eApSleeps94 a0 a1 a2)
      · exact q (RAs.int (one_of h0) (RAs.int (one_of h1) (RAs.int (one_of h2) z))) (eApSleeps95 a0 a1 a2)
  · rcases modApSleeps_8 a1 with h1 | h1 | h1 | h1 | h1 | h1 | h1 | h1
    · rcases modApSleeps_3 a2 with h2 | h2 | h2
      · exact q (RAs.int (one_of h0) (RAs.int (one_of h1) (RAs.int (one_of h2) z))) (eApSleeps96 a0 a1 a2)
      · exact q (RAs.int (one_of h0) (RAs.int (one_of h1) (RAs.int (one_of h2) z))) (eApSleeps97 a0 a1 a2)
      · exact q (RAs.int (one_of h0) (RAs.int (one_of h1) (RAs.int (one_of h2) z))) (eApSleeps98 a0 a1 a2)
    · rcases modApSleeps_3 a2 with h2 | h2 | h2
      · exact q (RAs.int (one_of h0) (RAs.int (one_of h1) (RAs.int (one_of h2) z))) (eApSleeps99 a0 a1 a2)
      · exact q (RAs.int (one_of h0) (RAs.int (one_of h1) (RAs.int (one_of h2) z))) (eApSleeps100 a0 a1 a2)
      · exact q (RAs.int (one_of h0) (RAs.int (one_of h1) (RAs.int (one_of h2) z))) (eApSleeps101 a0 a1 a2)
    · rcases modApSleeps_3 a2 with h2 | h2 | h2
      · exact q (RAs.int (one_of h0) (RAs.int (one_of h1) (RAs.int (one_of h2) z))) (eApSleeps102 a0 a1 a2)
      · exact q (RAs.int (one_of h0) (RAs.int (one_of h1) (RAs.int (one_of h2) z))) (eApSleeps103 a0 a1 a2)
      · exact q (RAs.int (one_of h0) (RAs.int (one_of h1) (RAs.int (one_of h2) z))) (eApSleeps104 a0 a1 a2)
    · rcases modApSleeps_3 a2 with h2 | h2 | h2
      · exact q (RAs.int (one_of h0) (RAs.int (one_of h1) (RAs.int (one_of h2) z))) (eApSleeps105 a0 a1 a2)
      · exact q (RAs.int (one_of h0) (RAs.int (one_of h1) (RAs.int (one_of h2) z))) (eApSleeps106 a0 a1 a2)
      · exact q (RAs.int (one_of h0) (RAs.int (one_of h1) (RAs.int (one_of h2) z))) (eApSleeps107 a0 a1 a2)
    · rcases modApSleeps_3 a2 with h2 | h2 | h2
      · exact q (RAs.int (one_of h0) (RAs.int (one_of h1) (RAs.int (one_of h2) z))) (eApSleeps108 a0 a1 a2)
      · exact q (RAs.int (one_of h0) (RAs.int (one_of h1) (RAs.int (one_of h2) z))) (eApSleeps109 a0 a1 a2)
      · exact q (RAs.int (one_of h0) (RAs.int (one_of h1) (RAs.int (one_of h2) z))) (eApSleeps110 a0 a1 a2)
    · rcases modApSleeps_3 a2 with h2 | h2 | h2
      · exact q (RAs.int (one_of h0) (RAs.int (one_of h1) (RAs.int (one_of h2) z))) (eApSleeps111 a0 a1 a2)
      · exact q (RAs.int (one_of h0) (RAs.int (one_of h1) (RAs.int (one_of h2) z))) (eApSleeps112 a0 a1 a2)
      · exact q (RAs.int (one_of h0) (RAs.int (one_of h1) (RAs.int (one_of h2) z))) (eApSleeps113 a0 a1 a2)
    · rcases modApSleeps_3 a2 with h2 | h2 | h2
      · exact q (RAs.int (one_of h0) (RAs.int (one_of h1) (RAs.int (one_of h2) z))) (eApSleeps114 a0 a1 a2)
      · exact q (RAs.int (one_of h0) (RAs.int (one_of h1) (RAs.int (one_of h2) z))) (eApSleeps115 a0 a1 a2)
      · exact q (RAs.int (one_of h0) (RAs.int (one_of h1) (RAs.int (one_of h2) z))) (eApSleeps116 a0 a1 a2)
    · rcases modApSleeps_3 a2 with h2 | h2 | h2
      · exact q (RAs.int (one_of h0) (RAs.int (one_of h1) (RAs.int (one_of h2) z))) (eApSleeps117 a0 a1 a2)
      · exact q (RAs.int (one_of h0) (RAs.int (one_of h1) (RAs.int (one_of h2) z))) (eApSleeps118 a0 a1 a2)
      · exact q (RAs.int (one_of h0) (RAs.int (one_of h1) (RAs.int (one_of h2) z))) (eApSleeps119 a0 a1 a2)
  · rcases modApSleeps_8 a1 with h1 | h1 | h1 | h1 | h1 | h1 | h1 | h1
    · rcases modApSleeps_3 a2 with h2 | h2 | h2
      · exact q (RAs.int (one_of h0) (RAs.int (one_of h1) (RAs.int (one_of h2) z))) (eApSleeps120 a0 a1 a2)
      · exact q (RAs.int (one_of h0) (RAs.int (one_of h1) (RAs.int (one_of h2) z))) (eApSleeps121 a0 a1 a2)
      · exact q (RAs.int (one_of h0) (RAs.int (one_of h1) (RAs.int (one_of h2) z))) (eApSleeps122 a0 a1 a2)
    · rcases modApSleeps_3 a2 with h2 | h2 | h2
      · exact q (RAs.int (one_of h0) (RAs.int (one_of h1) (RAs.int (one_of h2) z))) (eApSleeps123 a0 a1 a2)
      · exact q (RAs.int (one_of h0) (RAs.int (one_of h1) (RAs.int (one_of h2) z))) (eApSleeps124 a0 a1 a2)
      · exact q (RAs.int (one_of h0) (RAs.int (one_of h1) (RAs.int (one_of h2) z))) (eApSleeps125 a0 a1 a2)
    · rcases modApSleeps_3 a2 with h2 | h2 | h2
      · exact q (RAs.int (one_of h0) (RAs.int (one_of h1) (RAs.int (one_of h2) z))) (eApSleeps126 a0 a1 a2)
      · exact q (RAs.int (one_of h0) (RAs.int (one_of h1) (RAs.int (one_of h2) z))) (eApSleeps127 a0 a1 a2)
      · exact q (RAs.int (one_of h0) (RAs.int (one_of h1) (RAs.int (one_of h2) z))) (eApSleeps128 a0 a1 a2)
    · rcases modApSleeps_3 a2 with h2 | h2 | h2
      · exact q (RAs.int (one_of h0) (RAs.int (one_of h1) (RAs.int (one_of h2) z))) (eApSleeps129 a0 a1 a2)
      · exact q (RAs.int (one_of h0) (RAs.int (one_of h1) (RAs.int (one_of h2) z))) (eApSleeps130 a0 a1 a2)
      · exact q (RAs.int (one_of h0) (RAs.int (one_of h1) (RAs.int (one_of h2) z))) (eApSleeps131 a0 a1 a2)
    · rcases modApSleeps_3 a2 with h2 | h2 | h2
      · exact q (RAs.int (one_of h0) (RAs.int (one_of h1) (RAs.int (one_of h2) z))) (eApSleeps132 a0 a1 a2)
      · exact q (RAs.int (one_of h0) (RAs.int (one_of h1) (RAs.int (one_of h2) z))) (eApSleeps133 a0 a1 a2)
      · exact q (RAs.int (one_of h0) (RAs.int (one_of h1) (RAs.int (one_of h2) z))) (eApSleeps134 a0 a1 a2)
    · rcases modApSleeps_3 a2 with h2 | h2 | h2
      · exact q (RAs.int (one_of h0) (RAs.int (one_of h1) (RAs.int (one_of h2) z))) (eApSleeps135 a0 a1 a2)
      · exact q (RAs.int (one_of h0) (RAs.int (one_of h1) (RAs.int (one_of h2) z))) (eApSleeps136 a0 a1 a2)
      · exact q (RAs.int (one_of h0) (RAs.int (one_of h1) (RAs.int (one_of h2) z))) (eApSleeps137 a0 a1 a2)
    · rcases modApSleeps_3 a2 with h2 | h2 | h2
      · exact q (RAs.int (one_of h0) (RAs.int (one_of h1) (RAs.int (one_of h2) z))) (eApSleeps138 a0 a1 a2)
      · exact q (RAs.int (one_of h0) (RAs.int (one_of h1) (RAs.int (one_of h2) z))) (eApSleeps139 a0 a1 a2)
      · exact q (RAs.int (one_of h0) (RAs.int (one_of h1) (RAs.int (one_of h2) z))) (eApSleeps140 a0 a1 a2)
    · rcases modApSleeps_3 a2 with h2 | h2 | h2
      · exact q (RAs.int (one_of h0) (RAs.int (one_of h1) (RAs.int (one_of h2) z))) (eApSleeps141 a0 a1 a2)
      · exact q (RAs.int (one_of h0) (RAs.int (one_of h1) (RAs.int (one_of h2) z))) (eApSleeps142 a0 a1 a2)
      · exact q (RAs.int (one_of h0) (RAs.int (one_of h1) (RAs.int (one_of h2) z))) (eApSleeps143 a0 a1 a2)
  · rcases modApSleeps_8 a1 with h1 | h1 | h1 | h1 | h1 | h1 | h1 | h1
    · rcases modApSleeps_3 a2 with h2 | h2 | h2
      · exact q (RAs.int (one_of h0) (RAs.int (one_of h1) (RAs.int (one_of h2) z))) (eApSleeps144 a0 a1 a2)
      · exact q (RAs.int (one_of h0) (RAs.int (one_of h1) (RAs.int (one_of h2) z))) (eApSleeps145 a0 a1 a2)
      · exact q (RAs.int (one_of h0) (RAs.int (one_of h1) (RAs.int (one_of h2) z))) (eApSleeps146 a0 a1 a2)
    · rcases modApSleeps_3 a2 with h2 | h2 | h2
      · exact q (RAs.int (one_of h0) (RAs.int (one_of h1) (RAs.int (one_of h2) z))) (eApSleeps147 a0 a1 a2)
      · exact q (RAs.int (one_of h0) (RAs.int (one_of h1) (RAs.int (one_of h2) z))) (eApSleeps148 a0 a1 a2)
      · exact q (RAs.int (one_of h0) (RAs.int (one_of h1) (RAs.int (one_of h2) z))) (eApSleeps149 a0 a1 a2)
    · rcases modApSleeps_3 a2 with h2 | h2 | h2
      · exact q (RAs.int (one_of h0) (RAs.int (one_of h1) (RAs.int (one_of h2) z))) (eApSleeps150 a0 a1 a2)
      · exact q (RAs.int (one_of h0) (RAs.int (one_of h1) (RAs.int (one_of h2) z))) (eApSleeps151 a0 a1 a2)
      · exact q (RAs.int (one_of h0) (RAs.int (one_of h1) (RAs.int (one_of h2) z))) (eApSleeps152 a0 a1 a2)
    · rcases modApSleeps_3 a2 with h2 | h2 | h2
      · exact q (RAs.int (one_of h0) (RAs.int (one_of h1) (RAs.int (one_of h2) z))) (eApSleeps153 a0 a1 a2)
      · exact q (RAs.int (one_of h0) (RAs.int (one_of h1) (RAs.int (one_of h2) z))) (eApSleeps154 a0 a1 a2)
      · exact q (RAs.int (one_of h0) (RAs.int (one_of h1) (RAs.int (one_of h2) z))) (eApSleeps155 a0 a1 a2)
    · rcases modApSleeps_3 a2 with h2 | h2 | h2
      · exact q (RAs.int (one_of h0) (RAs.int (one_of h1) (RAs.int (one_of h2) z))) (eApSleeps156 a0 a1 a2)
      · exact q (RAs.int (one_of h0) (RAs.int (one_of h1) (RAs.int (one_of h2) z))) (eApSleeps157 a0 a1 a2)
      · exact q (RAs.int (one_of h0) (RAs.int (one_of h1) (RAs.int (one_of h2) z))) (eApSleeps158 a0 a1 a2)
    · rcases modApSleeps_3 a2 with h2 | h2 | h2
      · exact q (RAs.int (one_of h0) (RAs.int (one_of h1) (RAs.int (one_of h2) z))) (eApSleeps159 a0 a1 a2)
      · exact q (RAs.int (one_of h0) (RAs.int (one_of h1) (RAs.int (one_of h2) z))) (eApSleeps160 a0 a1 a2)
      · exact q (RAs.int (one_of h0) (RAs.int (one_of h1) (RAs.int (one_of h2) z))) (eApSleeps161 a0 a1 a2)
    · rcases modApSleeps_3 a2 with h2 | h2 | h2
      · exact q (RAs.int (one_of h0) (RAs.int (one_of h1) (RAs.int (one_of h2) z))) (eApSleeps162 a0 a1 a2)
      · exact q (RAs.int (one_of h0) (RAs.int (one_of h1) (RAs.int (one_of h2) z))) (eApSleeps163 a0 a1 a2)
      · exact q (RAs.int (one_of h0) (RAs.int (one_of h1) (RAs.int (one_of h2) z))) (eApSleeps164 a0 a1 a2)
    · rcases modApSleeps_3 a2 with h2 | h2 | h2
      · exact q (RAs.int (one_of h0) (RAs.int (one_of h1) (RAs.int (one_of h2) z))) (eApSleeps165 a0 a1 a2)
      · exact q (RAs.int (one_of h0) (RAs.int (one_of h1) (RAs.int (one_of h2) z))) (eApSleeps166 a0 a1 a2)
      · exact q (RAs.int (one_of h0) (RAs.int (one_of h1) (RAs.int (one_of h2) z))) (eApSleeps167 a0 a1 a2)
  · rcases modApSleeps_8 a1 with h1 | h1 | h1 | h1 | h1 | h1 | h1 | h1
    · rcases modApSleeps_3 a2 with h2 | h2 | h2
      · exact q (RAs.int (one_of h0) (RAs.int (one_of h1) (RAs.int (one_of h2) z))) (eApSleeps168 a0 a1 a2)
      · exact q (RAs.int (one_of h0) (RAs.int (one_of h1) (RAs.int (one_of h2) z))) (eApSleeps169 a0 a1 a2)
      · exact q (RAs.int (one_of h0) (RAs.int (one_of h1) (RAs.int (one_of h2) z))) (eApSleeps170 a0 a1 a2)
    · rcases modApSleeps_3 a2 with h2 | h2 | h2
      · exact q (RAs.int (one_of h0) (RAs.int (one_of h1) (RAs.int (one_of h2) z))) (eApSleeps171 a0 a1 a2)
      · exact q (RAs.int (one_of h0) (RAs.int (one_of h1) (RAs.int (one_of h2) z))) (eApSleeps172 a0 a1 a2)
      · exact q (RAs.int (one_of h0) (RAs.int (one_of h1) (RAs.int (one_of h2) z))) (eApSleeps173 a0 a1 a2)
    · rcases modApSleeps_3 a2 with h2 | h2 | h2
      · exact q (RAs.int (one_of h0) (RAs.int (one_of h1) (RAs.int (one_of h2) z))) (eApSleeps174 a0 a1 a2)
      · exact q (RAs.int (one_of h0) (RAs.int (one_of h1) (RAs.int (one_of h2) z))) (eApSleeps175 a0 a1 a2)
      · exact q (RAs.int (one_of h0) (RAs.int (one_of h1) (RAs.int (one_of h2) z))) (eApSleeps176 a0 a1 a2)
    · rcases modApSleeps_3 a2 with h2 | h2 | h2
      · exact q (RAs.int (one_of h0) (RAs.int (one_of h1) (RAs.int (one_of h2) z))) (eApSleeps177 a0 a1 a2)
      · exact q (RAs.int (one_of h0) (RAs.int (one_of h1) (RAs.int (one_of h2) z))) (eApSleeps178 a0 a1 a2)
      · exact q (RAs.int (one_of h0) (RAs.int (one_of h1) (RAs.int (one_of h2) z))) (eApSleeps179 a0 a1 a2)
    · rcases modApSleeps_3 a2 with h2 | h2 | h2
      · exact q (RAs.int (one_of h0) (RAs.int (one_of h1) (RAs.int (one_of h2) z))) (eApSleeps180 a0 a1 a2)
      · exact q (RAs.int (one_of h0) (RAs.int (one_of h1) (RAs.int (one_of h2) z))) (eApSleeps181 a0 a1 a2)
      · exact q (RAs.int (one_of h0) (RAs.int (one_of h1) (RAs.int (one_of h2) z))) (eApSleeps182 a0 a1 a2)
    · rcases modApSleeps_3 a2 with h2 | h2 | h2
      · exact q (RAs.int (one_of h0) (RAs.int (one_of h1) (RAs.int (one_of h2) z))) (eApSleeps183 a0 a1 a2)
      · exact q (RAs.int (one_of h0) (RAs.int (one_of h1) (RAs.int (one_of h2) z))) (eApSleeps184 a0 a1 a2)
      · exact q (RAs.int (one_of h0) (RAs.int (one_of h1) (RAs.int (one_of h2) z))) (eApSleeps185 a0 a1 a2)
    · rcases modApSleeps_3 a2 with h2 | h2 | h2
      · exact q (RAs.int (one_of h0) (RAs.int (one_of h1) (RAs.int (one_of h2) z))) (eApSleeps186 a0 a1 a2)
      · exact q (RAs.int (one_of h0) (RAs.int (one_of h1) (RAs.int (one_of h2) z))) (eApSleeps187 a0 a1 a2)
      · exact q (RAs.int (one_of h0) (RAs.int (one_of h1) (RAs.int (one_of h2) z))) (eApSleeps188 a0 a1 a2)
    · rcases modApSleeps_3 a2 with h2 | h2 | h2
      · exact q (RAs.int (one_of h0) (RAs.int (one_of h1) (RAs.int (one_of h2) z))) (eApSleeps189 a0 a1 a2)
      · exact q (RAs.int (one_of h0) (RAs.int (one_of h1) (RAs.int (one_of h2) z))) (eApSleeps190 a0 a1 a2)
      · exact q (RAs.int (one_of h0) (RAs.int (one_of h1) (RAs.int (one_of h2) z))) (eApSleeps191 a0 a1 a2)
end Go.Proofs.YthooeildnkfpkaaGreatDoor
