/- The law DeskSends holds: whatever its arguments leave, the abstract machine says yes. -/
import Derived.Test.YtgkpnfnkaplebaaGreatDoorEDeskSends0
import Derived.Test.YtgkpnfnkaplebaaGreatDoorEDeskSends1
import Derived.Test.YtgkpnfnkaplebaaGreatDoorEDeskSends2
import Derived.Test.YtgkpnfnkaplebaaGreatDoorGgDeskSendsD
import Derived.Test.YtgkpnfnkaplebaaGreatDoorGg
import Derived.Test.YtgkpnfnkaplebaaGreatDoorAb17
import Derived.Test.YtgkpnfnkaplebaaGreatDoorRows
set_option linter.unusedVariables false
set_option maxRecDepth 100000
set_option maxHeartbeats 0
namespace Go.Proofs.YtgkpnfnkaplebaaGreatDoor
open Go.Vc Go.Ab
section
variable (v1 v2 v3 v4 v5 v6 : AV) (l1 l2 l3 l4 : List AV) (L1 L2 : List AP) (d1 d2 d3 d4 : DV) (R1 : List DV) (n1 n2 n3 n4 n5 n6 n7 n8 : Int) (m1 m2 m3 m4 : Nat) (t1 t2 t3 t4 : Bool) (p1 p2 p3 p4 p5 : AP) (b1 b2 b3 b4 b5 : P4) (s1 s2 s3 s4 s5 : AS) (H1 : AH) (x1 x2 : List Int) (c1 c2 c3 c4 c5 c6 c7 c8 c9 c10 c11 c12 c13 c14 c15 : G DV) (Ka1 Ka2 : AH → Option DV) (Kb1 Kb2 : DV → AH → Option DV) (Kc1 Kc2 : DV → DV → AH → Option DV) (Kd1 : DV → DV → DV → AH → Option DV)
variable {ads : List Addr}
theorem sx3 (h4 : SN ads 4 c1) (h5 : SN ads 5 c2) (h6 : SN ads 6 c3) (h7 : SN ads 7 c4) (h8 : SN ads 8 c5) (h9 : SN ads 9 c6) (h10 : SN ads 10 c7) : SN ads 3 (g3 c1 c2 c3 c4 c5 c6 c7) :=
  mk_snd [(nn4, c1), (nn5, c2), (nn6, c3), (nn7, c4), (nn8, c5), (nn9, c6), (nn10, c7)] ⟨fun n => match n with | 0 => [(9, .int .i64)] | _ => [], fun _ => none⟩ [.any, .any] Tryz.func3 rfl (.cons h4 (.cons h5 (.cons h6 (.cons h7 (.cons h8 (.cons h9 (.cons h10 .nil)))))))
theorem S3 : SN ads 3 G3 := sx3 _ _ _ _ _ _ _ S4 gNumber.S S6 S7 S8 S9 S10
end
theorem modDeskSends_8 (a : Int) : a % 8 = 0 ∨ a % 8 = 1 ∨ a % 8 = 2 ∨ a % 8 = 3 ∨ a % 8 = 4 ∨ a % 8 = 5 ∨ a % 8 = 6 ∨ a % 8 = 7 := by omega
theorem walk_DeskSends (w : World) (hE : ∃ ads, Sna (Wd.of w.heap) ads) (a0 : Int) (w0 : (Lit.int .i64 a0).wf = true) (a1 : Int) (w1 : (Lit.int .i64 a1).wf = true) :
    Calls Tryz.prog 3 #[.int .i64 a0, .int .i64 a1] w fun e w' => e = .returned (.bool true) ∧ Go.RowKit.Below w.heap.size w w' := by
  obtain ⟨ads, s⟩ := hE
  have z : RAs ads (fun _ => none) [] [] := rfl
  have q := fun {R : List DV} (ha : RAs ads (fun _ => none) R [.int .i64 a0, .int .i64 a1]) (e : G3 R (AH.mk .e .h) yesK = some .n) => law_yes (vs := [.int .i64 a0, .int .i64 a1]) S3 s ha e
  have r := fun {b0 r0 : Nat} (h0 : a0 % (b0 : Int) = (r0 : Int)) {b1 r1 : Nat} (h1 : a1 % (b1 : Int) = (r1 : Int)) (e : G3 [.v (.y a0 [(b0, r0)]), .v (.y a1 [(b1, r1)])] (AH.mk .e .h) yesK = some .n) => q (RAs.int (one_of h0) (RAs.int (one_of h1) z)) e
  rcases modDeskSends_8 a0 with h0 | h0 | h0 | h0 | h0 | h0 | h0 | h0
  · rcases modDeskSends_8 a1 with h1 | h1 | h1 | h1 | h1 | h1 | h1 | h1
    · exact r h0 h1 (eDeskSends0 a0 a1)
    · exact r h0 h1 (eDeskSends1 a0 a1)
    · exact r h0 h1 (eDeskSends2 a0 a1)
    · exact r h0 h1 (eDeskSends3 a0 a1)
    · exact r h0 h1 (eDeskSends4 a0 a1)
    · exact r h0 h1 (eDeskSends5 a0 a1)
    · exact r h0 h1 (eDeskSends6 a0 a1)
    · exact r h0 h1 (eDeskSends7 a0 a1)
  · rcases modDeskSends_8 a1 with h1 | h1 | h1 | h1 | h1 | h1 | h1 | h1
    · exact r h0 h1 (eDeskSends8 a0 a1)
    · exact r h0 h1 (eDeskSends9 a0 a1)
    · exact r h0 h1 (eDeskSends10 a0 a1)
    · exact r h0 h1 (eDeskSends11 a0 a1)
    · exact r h0 h1 (eDeskSends12 a0 a1)
    · exact r h0 h1 (eDeskSends13 a0 a1)
    · exact r h0 h1 (eDeskSends14 a0 a1)
    · exact r h0 h1 (eDeskSends15 a0 a1)
  · rcases modDeskSends_8 a1 with h1 | h1 | h1 | h1 | h1 | h1 | h1 | h1
    · exact r h0 h1 (eDeskSends16 a0 a1)
    · exact r h0 h1 (eDeskSends17 a0 a1)
    · exact r h0 h1 (eDeskSends18 a0 a1)
    · exact r h0 h1 (eDeskSends19 a0 a1)
    · exact r h0 h1 (eDeskSends20 a0 a1)
    · exact r h0 h1 (eDeskSends21 a0 a1)
    · exact r h0 h1 (eDeskSends22 a0 a1)
    · exact r h0 h1 (eDeskSends23 a0 a1)
  · rcases modDeskSends_8 a1 with h1 | h1 | h1 | h1 | h1 | h1 | h1 | h1
    · exact r h0 h1 (eDeskSends24 a0 a1)
    · exact r h0 h1 (eDeskSends25 a0 a1)
    · exact r h0 h1 (eDeskSends26 a0 a1)
    · exact r h0 h1 (eDeskSends27 a0 a1)
    · exact r h0 h1 (eDeskSends28 a0 a1)
    · exact r h0 h1 (eDeskSends29 a0 a1)
    · exact r h0 h1 (eDeskSends30 a0 a1)
    · exact r h0 h1 (eDeskSends31 a0 a1)
  · rcases modDeskSends_8 a1 with h1 | h1 | h1 | h1 | h1 | h1 | h1 | h1
    · exact r h0 h1 (eDeskSends32 a0 a1)
    · exact r h0 h1 (eDeskSends33 a0 a1)
    · exact r h0 h1 (eDeskSends34 a0 a1)
    · exact r h0 h1 (eDeskSends35 a0 a1)
    · exact r h0 h1 (eDeskSends36 a0 a1)
    · exact r h0 h1 (eDeskSends37 a0 a1)
    · exact r h0 h1 (eDeskSends38 a0 a1)
    · exact r h0 h1 (eDeskSends39 a0 a1)
  · rcases modDeskSends_8 a1 with h1 | h1 | h1 | h1 | h1 | h1 | h1 | h1
    · exact r h0 h1 (eDeskSends40 a0 a1)
    · exact r h0 h1 (eDeskSends41 a0 a1)
    · exact r h0 h1 (eDeskSends42 a0 a1)
    · exact r h0 h1 (eDeskSends43 a0 a1)
    · exact r h0 h1 (eDeskSends44 a0 a1)
    · exact r h0 h1 (eDeskSends45 a0 a1)
    · exact r h0 h1 (eDeskSends46 a0 a1)
    · exact r h0 h1 (eDeskSends47 a0 a1)
  · rcases modDeskSends_8 a1 with h1 | h1 | h1 | h1 | h1 | h1 | h1 | h1
    · exact r h0 h1 (eDeskSends48 a0 a1)
    · exact r h0 h1 (eDeskSends49 a0 a1)
    · exact r h0 h1 (eDeskSends50 a0 a1)
    · exact r h0 h1 (eDeskSends51 a0 a1)
    · exact r h0 h1 (eDeskSends52 a0 a1)
    · exact r h0 h1 (eDeskSends53 a0 a1)
    · exact r h0 h1 (eDeskSends54 a0 a1)
    · exact r h0 h1 (eDeskSends55 a0 a1)
  · rcases modDeskSends_8 a1 with h1 | h1 | h1 | h1 | h1 | h1 | h1 | h1
    · exact r h0 h1 (eDeskSends56 a0 a1)
    · exact r h0 h1 (eDeskSends57 a0 a1)
    · exact r h0 h1 (eDeskSends58 a0 a1)
    · exact r h0 h1 (eDeskSends59 a0 a1)
    · exact r h0 h1 (eDeskSends60 a0 a1)
    · exact r h0 h1 (eDeskSends61 a0 a1)
    · exact r h0 h1 (eDeskSends62 a0 a1)
    · exact r h0 h1 (eDeskSends63 a0 a1)
end Go.Proofs.YtgkpnfnkaplebaaGreatDoor
