/- The law ApLimits holds: whatever its arguments leave, the abstract machine says yes. -/
import Derived.Test.YthooeildnkfpkaaGreatDoorEApLimits0
import Derived.Test.YthooeildnkfpkaaGreatDoorEApLimits1
import Derived.Test.YthooeildnkfpkaaGreatDoorEApLimits2
import Derived.Test.YthooeildnkfpkaaGreatDoorEApLimits3
import Derived.Test.YthooeildnkfpkaaGreatDoorEApLimits4
import Derived.Test.YthooeildnkfpkaaGreatDoorEApLimits5
import Derived.Test.YthooeildnkfpkaaGreatDoorGgApLimitsD
import Derived.Test.YthooeildnkfpkaaGreatDoorGg
import Derived.Test.YthooeildnkfpkaaGreatDoorAb17
import Derived.Test.YthooeildnkfpkaaGreatDoorRows
set_option linter.unusedVariables false
set_option maxRecDepth 100000
set_option maxHeartbeats 0
namespace Go.Proofs.YthooeildnkfpkaaGreatDoor
open Go.Vc Go.Ab
section
variable (v1 : AV) (l1 l2 l3 l4 : List AV) (L1 : List AP) (d1 d2 d3 d4 : DV) (R1 : List DV) (n1 n2 n3 n4 n5 n6 n7 n8 n9 : Int) (m1 m2 m3 m4 m5 : Nat) (t1 t2 t3 t4 : Bool) (p1 p2 p3 p4 p5 : AP) (b1 b2 b3 b4 b5 : P4) (s1 s2 s3 s4 s5 : AS) (H1 : AH) (x1 x2 : List Int) (c1 c2 c3 c4 c5 c6 c7 c8 c9 c10 c11 c12 c13 c14 c15 c16 : G DV) (Ka1 : AH → Option DV) (Kb1 Kb2 Kb3 : DV → AH → Option DV) (Kc1 Kc2 : DV → DV → AH → Option DV) (Kd1 : DV → DV → DV → AH → Option DV)
variable {ads : List Addr}
theorem sx5 (h6 : SN ads 6 c1) (h7 : SN ads 7 c2) (h8 : SN ads 8 c3) (h9 : SN ads 9 c4) (h10 : SN ads 10 c5) (h13 : SN ads 13 c6) (h14 : SN ads 14 c7) (h15 : SN ads 15 c8) (h16 : SN ads 16 c9) (h17 : SN ads 17 c10) (h18 : SN ads 18 c11) : SN ads 5 (g5 c1 c2 c3 c4 c5 c6 c7 c8 c9 c10 c11) :=
  mk_snd [(nn6, c1), (nn7, c2), (nn8, c3), (nn9, c4), (nn10, c5), (nn13, c6), (nn14, c7), (nn15, c8), (nn16, c9), (nn17, c10), (nn18, c11)] ⟨fun n => match n with | 0 => [(7, .int .i64)] | 2 => [(9, .int .i64)] | _ => [], fun _ => none⟩ [.any, .any] Tryz.func5 rfl (.cons h6 (.cons h7 (.cons h8 (.cons h9 (.cons h10 (.cons h13 (.cons h14 (.cons h15 (.cons h16 (.cons h17 (.cons h18 .nil)))))))))))
theorem S5 : SN ads 5 G5 := sx5 _ _ _ _ _ _ _ _ _ _ _ S6 gNumber.S S8 S9 S10 S13 S14 S15 S16 S17 gPoolLen.S
end
theorem modApLimits_8 (a : Int) : a % 8 = 0 ∨ a % 8 = 1 ∨ a % 8 = 2 ∨ a % 8 = 3 ∨ a % 8 = 4 ∨ a % 8 = 5 ∨ a % 8 = 6 ∨ a % 8 = 7 := by omega
theorem modApLimits_30 (a : Int) : a % 30 = 0 ∨ a % 30 = 1 ∨ a % 30 = 2 ∨ a % 30 = 3 ∨ a % 30 = 4 ∨ a % 30 = 5 ∨ a % 30 = 6 ∨ a % 30 = 7 ∨ a % 30 = 8 ∨ a % 30 = 9 ∨ a % 30 = 10 ∨ a % 30 = 11 ∨ a % 30 = 12 ∨ a % 30 = 13 ∨ a % 30 = 14 ∨ a % 30 = 15 ∨ a % 30 = 16 ∨ a % 30 = 17 ∨ a % 30 = 18 ∨ a % 30 = 19 ∨ a % 30 = 20 ∨ a % 30 = 21 ∨ a % 30 = 22 ∨ a % 30 = 23 ∨ a % 30 = 24 ∨ a % 30 = 25 ∨ a % 30 = 26 ∨ a % 30 = 27 ∨ a % 30 = 28 ∨ a % 30 = 29 := by omega
theorem walk_ApLimits (w : World) (hE : ∃ ads, Sna (Wd.of w.heap) ads) (a0 : Int) (w0 : (Lit.int .i64 a0).wf = true) (a1 : Int) (w1 : (Lit.int .i64 a1).wf = true) :
    Calls Tryz.prog 5 #[.int .i64 a0, .int .i64 a1] w fun e w' => e = .returned (.bool true) ∧ Go.RowKit.Below w.heap.size w w' := by
  obtain ⟨ads, s⟩ := hE
  have z : RAs ads (fun _ => none) [] [] := rfl
  have q := fun {R : List DV} (ha : RAs ads (fun _ => none) R [.int .i64 a0, .int .i64 a1]) (e : G5 R (AH.mk .e .h) yesK = some .n) => law_yes (vs := [.int .i64 a0, .int .i64 a1]) S5 s ha e
  have r := fun {b0 r0 : Nat} (h0 : a0 % (b0 : Int) = (r0 : Int)) {b1 r1 : Nat} (h1 : a1 % (b1 : Int) = (r1 : Int)) (e : G5 [.v (.y a0 [(b0, r0)]), .v (.y a1 [(b1, r1)])] (AH.mk .e .h) yesK = some .n) => q (RAs.int (one_of h0) (RAs.int (one_of h1) z)) e
  rcases modApLimits_30 a0 with h0 | h0 | h0 | h0 | h0 | h0 | h0 | h0 | h0 | h0 | h0 | h0 | h0 | h0 | h0 | h0 | h0 | h0 | h0 | h0 | h0 | h0 | h0 | h0 | h0 | h0 | h0 | h0 | h0 | h0
  · rcases modApLimits_8 a1 with h1 | h1 | h1 | h1 | h1 | h1 | h1 | h1
    · exact r h0 h1 (eApLimits0 a0 a1)
    · exact r h0 h1 (eApLimits1 a0 a1)
    · exact r h0 h1 (eApLimits2 a0 a1)
    · exact r h0 h1 (eApLimits3 a0 a1)
    · exact r h0 h1 (eApLimits4 a0 a1)
    · exact r h0 h1 (eApLimits5 a0 a1)
    · exact r h0 h1 (eApLimits6 a0 a1)
    · exact r h0 h1 (eApLimits7 a0 a1)
  · rcases modApLimits_8 a1 with h1 | h1 | h1 | h1 | h1 | h1 | h1 | h1
    · exact r h0 h1 (eApLimits8 a0 a1)
    · exact r h0 h1 (eApLimits9 a0 a1)
    · exact r h0 h1 (eApLimits10 a0 a1)
    · exact r h0 h1 (eApLimits11 a0 a1)
    · exact r h0 h1 (eApLimits12 a0 a1)
    · exact r h0 h1 (eApLimits13 a0 a1)
    · exact r h0 h1 (eApLimits14 a0 a1)
    · exact r h0 h1 (eApLimits15 a0 a1)
  · rcases modApLimits_8 a1 with h1 | h1 | h1 | h1 | h1 | h1 | h1 | h1
    · exact r h0 h1 (eApLimits16 a0 a1)
    · exact r h0 h1 (eApLimits17 a0 a1)
    · exact r h0 h1 (eApLimits18 a0 a1)
    · exact r h0 h1 (eApLimits19 a0 a1)
    · exact r h0 h1 (eApLimits20 a0 a1)
    · exact r h0 h1 (eApLimits21 a0 a1)
    · exact r h0 h1 (eApLimits22 a0 a1)
    · exact r h0 h1 (eApLimits23 a0 a1)
  · rcases modApLimits_8 a1 with h1 | h1 | h1 | h1 | h1 | h1 | h1 | h1
    · exact r h0 h1 (eApLimits24 a0 a1)
    · exact r h0 h1 (eApLimits25 a0 a1)
    · exact r h0 h1 (eApLimits26 a0 a1)
    · exact r h0 h1 (eApLimits27 a0 a1)
    · exact r h0 h1 (eApLimits28 a0 a1)
    · exact r h0 h1 (eApLimits29 a0 a1)
    · exact r h0 h1 (eApLimits30 a0 a1)
    · exact r h0 h1 (eApLimits31 a0 a1)
  · rcases modApLimits_8 a1 with h1 | h1 | h1 | h1 | h1 | h1 | h1 | h1
    · exact r h0 h1 (eApLimits32 a0 a1)
    · exact r h0 h1 (eApLimits33 a0 a1)
    · exact r h0 h1 (eApLimits34 a0 a1)
    · exact r h0 h1 (eApLimits35 a0 a1)
    · exact r h0 h1 (eApLimits36 a0 a1)
    · exact r h0 h1 (eApLimits37 a0 a1)
    · exact r h0 h1 (eApLimits38 a0 a1)
    · exact r h0 h1 (eApLimits39 a0 a1)
  · rcases modApLimits_8 a1 with h1 | h1 | h1 | h1 | h1 | h1 | h1 | h1
    · exact r h0 h1 (eApLimits40 a0 a1)
    · exact r h0 h1 (eApLimits41 a0 a1)
    · exact r h0 h1 (eApLimits42 a0 a1)
    · exact r h0 h1 (eApLimits43 a0 a1)
    · exact r h0 h1 (eApLimits44 a0 a1)
    · exact r h0 h1 (eApLimits45 a0 a1)
    · exact r h0 h1 (eApLimits46 a0 a1)
    · exact r h0 h1 (eApLimits47 a0 a1)
  · rcases modApLimits_8 a1 with h1 | h1 | h1 | h1 | h1 | h1 | h1 | h1
    · exact r h0 h1 (eApLimits48 a0 a1)
    · exact r h0 h1 (eApLimits49 a0 a1)
    · exact r h0 h1 (eApLimits50 a0 a1)
    · exact r h0 h1 (eApLimits51 a0 a1)
    · exact r h0 h1 (eApLimits52 a0 a1)
    · exact r h0 h1 (eApLimits53 a0 a1)
    · exact r h0 h1 (eApLimits54 a0 a1)
    · exact r h0 h1 (eApLimits55 a0 a1)
  · rcases modApLimits_8 a1 with h1 | h1 | h1 | h1 | h1 | h1 | h1 | h1
    · exact r h0 h1 (eApLimits56 a0 a1)
    · exact r h0 h1 (eApLimits57 a0 a1)
    · exact r h0 h1 (eApLimits58 a0 a1)
    · exact r h0 h1 (eApLimits59 a0 a1)
    · exact r h0 h1 (eApLimits60 a0 a1)
    · exact r h0 h1 (eApLimits61 a0 a1)
    · exact r h0 h1 (eApLimits62 a0 a1)
    · exact r h0 h1 (eApLimits63 a0 a1)
  · rcases modApLimits_8 a1 with h1 | h1 | h1 | h1 | h1 | h1 | h1 | h1
    · exact r h0 h1 (eApLimits64 a0 a1)
    · exact r h0 h1 (eApLimits65 a0 a1)
    · exact r h0 h1 (eApLimits66 a0 a1)
    · exact r h0 h1 (eApLimits67 a0 a1)
    · exact r h0 h1 (eApLimits68 a0 a1)
    · exact r h0 h1 (eApLimits69 a0 a1)
    · exact r h0 h1 (eApLimits70 a0 a1)
    · exact r h0 h1 (eApLimits71 a0 a1)
  · rcases modApLimits_8 a1 with h1 | h1 | h1 | h1 | h1 | h1 | h1 | h1
    · exact r h0 h1 (eApLimits72 a0 a1)
    · exact r h0 h1 (eApLimits73 a0 a1)
    · exact r h0 h1 (eApLimits74 a0 a1)
    · exact r h0 h1 (eApLimits75 a0 a1)
    · exact r h0 h1 (eApLimits76 a0 a1)
    · exact r h0 h1 (eApLimits77 a0 a1)
    · exact r h0 h1 (eApLimits78 a0 a1)
    · exact r h0 h1 (eApLimits79 a0 a1)
  · rcases modApLimits_8 a1 with h1 | h1 | h1 | h1 | h1 | h1 | h1 | h1
    · exact r h0 h1 (eApLimits80 a0 a1)
    · exact r h0 h1 (eApLimits81 a0 a1)
    · exact r h0 h1 (eApLimits82 a0 a1)
    · exact r h0 h1 (eApLimits83 a0 a1)
    · exact r h0 h1 (eApLimits84 a0 a1)
    · exact r h0 h1 (eApLimits85 a0 a1)
    · exact r h0 h1 (eApLimits86 a0 a1)
    · exact r h0 h1 (eApLimits87 a0 a1)
  · rcases modApLimits_8 a1 with h1 | h1 | h1 | h1 | h1 | h1 | h1 | h1
    · exact r h0 h1 (eApLimits88 a0 a1)
    · exact r h0 h1 (eApLimits89 a0 a1)
    · exact r h0 h1 (eApLimits90 a0 a1)
    · exact r h0 h1 (eApLimits91 a0 a1)
    · exact r h0 h1 (eApLimits92 a0 a1)
    · exact r h0 h1 (eApLimits93 a0 a1)
    · exact r h0 h1 (eApLimits94 a0 a1)
    · exact r h0 h1 (eApLimits95 a0 a1)
  · rcases modApLimits_8 a1 with h1 | h1 | h1 | h1 | h1 | h1 | h1 | h1
    · exact r h0 h1 (eApLimits96 a0 a1)
    · exact r h0 h1 (eApLimits97 a0 a1)
    · exact r h0 h1 (eApLimits98 a0 a1)
    · exact r h0 h1 (eApLimits99 a0 a1)
    · exact r h0 h1 (eApLimits100 a0 a1)
    · exact r h0 h1 (eApLimits101 a0 a1)
    · exact r h0 h1 (eApLimits102 a0 a1)
    · exact r h0 h1 (eApLimits103 a0 a1)
  · rcases modApLimits_8 a1 with h1 | h1 | h1 | h1 | h1 | h1 | h1 | h1
    · exact r h0 h1 (eApLimits104 a0 a1)
    · exact r h0 h1 (eApLimits105 a0 a1)
    · exact r h0 h1 (eApLimits106 a0 a1)
    · exact r h0 h1 (eApLimits107 a0 a1)
    · exact r h0 h1 (eApLimits108 a0 a1)
    · exact r h0 h1 (eApLimits109 a0 a1)
    · exact r h0 h1 (eApLimits110 a0 a1)
    · exact r h0 h1 (eApLimits111 a0 a1)
  · rcases modApLimits_8 a1 with h1 | h1 | h1 | h1 | h1 | h1 | h1 | h1
    · exact r h0 h1 (eApLimits112 a0 a1)
    · exact r h0 h1 (eApLimits113 a0 a1)
    · exact r h0 h1 (eApLimits114 a0 a1)
    · exact r h0 h1 (eApLimits115 a0 a1)
    · exact r h0 h1 (eApLimits116 a0 a1)
    · exact r h0 h1 (eApLimits117 a0 a1)
    · exact r h0 h1 (eApLimits118 a0 a1)
    · exact r h0 h1 (eApLimits119 a0 a1)
  · rcases modApLimits_8 a1 with h1 | h1 | h1 | h1 | h1 | h1 | h1 | h1
    · exact r h0 h1 (eApLimits120 a0 a1)
    · exact r h0 h1 (eApLimits121 a0 a1)
    · exact r h0 h1 (eApLimits122 a0 a1)
    · exact r h0 h1 (eApLimits123 a0 a1)
    · exact r h0 h1 (eApLimits124 a0 a1)
    · exact r h0 h1 (eApLimits125 a0 a1)
    · exact r h0 h1 (eApLimits126 a0 a1)
    · exact r h0 h1 (eApLimits127 a0 a1)
  · rcases modApLimits_8 a1 with h1 | h1 | h1 | h1 | h1 | h1 | h1 | h1
    · exact r h0 h1 (eApLimits128 a0 a1)
    · exact r h0 h1 (eApLimits129 a0 a1)
    · exact r h0 h1 (eApLimits130 a0 a1)
    · exact r h0 h1 (eApLimits131 a0 a1)
    · exact r h0 h1 (eApLimits132 a0 a1)
    · exact r h0 h1 (eApLimits133 a0 a1)
    · exact r h0 h1 (eApLimits134 a0 a1)
    · exact r h0 h1 (eApLimits135 a0 a1)
  · rcases modApLimits_8 a1 with h1 | h1 | h1 | h1 | h1 | h1 | h1 | h1
    · exact r h0 h1 (eApLimits136 a0 a1)
    · exact r h0 h1 (eApLimits137 a0 a1)
    · exact r h0 h1 (eApLimits138 a0 a1)
    · exact r h0 h1 (eApLimits139 a0 a1)
    · exact r h0 h1 (eApLimits140 a0 a1)
    · exact r h0 h1 (eApLimits141 a0 a1)
    · exact r h0 h1 (eApLimits142 a0 a1)
    · exact r h0 h1 (eApLimits143 a0 a1)
  · rcases modApLimits_8 a1 with h1 | h1 | h1 | h1 | h1 | h1 | h1 | h1
    · exact r h0 h1 (eApLimits144 a0 a1)
    · exact r h0 h1 (eApLimits145 a0 a1)
    · exact r h0 h1 (eApLimits146 a0 a1)
    · exact r h0 h1 (eApLimits147 a0 a1)
    · exact r h0 h1 (eApLimits148 a0 a1)
    · exact r h0 h1 (eApLimits149 a0 a1)
    · exact r h0 h1 (eApLimits150 a0 a1)
    · exact r h0 h1 (eApLimits151 a0 a1)
  · rcases modApLimits_8 a1 with h1 | h1 | h1 | h1 | h1 | h1 | h1 | h1
    · exact r h0 h1 (eApLimits152 a0 a1)
    · exact r h0 h1 (eApLimits153 a0 a1)
    · exact r h0 h1 (eApLimits154 a0 a1)
    · exact r h0 h1 (eApLimits155 a0 a1)
    · exact r h0 h1 (eApLimits156 a0 a1)
    · exact r h0 h1 (eApLimits157 a0 a1)
    · exact r h0 h1 (eApLimits158 a0 a1)
    · exact r h0 h1 (eApLimits159 a0 a1)
  · rcases modApLimits_8 a1 with h1 | h1 | h1 | h1 | h1 | h1 | h1 | h1
    · exact r h0 h1 (eApLimits160 a0 a1)
    · exact r h0 h1 (eApLimits161 a0 a1)
    · exact r h0 h1 (eApLimits162 a0 a1)
    · exact r h0 h1 (eApLimits163 a0 a1)
    · exact r h0 h1 (eApLimits164 a0 a1)
    · exact r h0 h1 (eApLimits165 a0 a1)
    · exact r h0 h1 (eApLimits166 a0 a1)
    · exact r h0 h1 (eApLimits167 a0 a1)
  · rcases modApLimits_8 a1 with h1 | h1 | h1 | h1 | h1 | h1 | h1 | h1
    · exact r h0 h1 (eApLimits168 a0 a1)
    · exact r h0 h1 (eApLimits169 a0 a1)
    · exact r h0 h1 (eApLimits170 a0 a1)
    · exact r h0 h1 (eApLimits171 a0 a1)
    · exact r h0 h1 (eApLimits172 a0 a1)
    · exact r h0 h1 (eApLimits173 a0 a1)
    · exact r h0 h1 (eApLimits174 a0 a1)
    · exact r h0 h1 (eApLimits175 a0 a1)
  · rcases modApLimits_8 a1 with h1 | h1 | h1 | h1 | h1 | h1 | h1 | h1
    · exact r h0 h1 (eApLimits176 a0 a1)
    · exact r h0 h1 (eApLimits177 a0 a1)
    · exact r h0 h1 (eApLimits178 a0 a1)
    · exact r h0 h1 (eApLimits179 a0 a1)
    · exact r h0 h1 (eApLimits180 a0 a1)
    · exact r h0 h1 (eApLimits181 a0 a1)
    · exact r h0 h1 (eApLimits182 a0 a1)
    · exact r h0 h1 (eApLimits183 a0 a1)
  · rcases modApLimits_8 a1 with h1 | h1 | h1 | h1 | h1 | h1 | h1 | h1
    · exact r h0 h1 (eApLimits184 a0 a1)
    · exact r h0 h1 (eApLimits185 a0 a1)
    · exact r h0 h1 (eApLimits186 a0 a1)
    · exact r h0 h1 (eApLimits187 a0 a1)
    · exact r h0 h1 (eApLimits188 a0 a1)
    · exact r h0 h1 (eApLimits189 a0 a1)
    · exact r h0 h1 (eApLimits190 a0 a1)
    · exact r h0 h1 (eApLimits191 a0 a1)
  · rcases modApLimits_8 a1 with h1 | h1 | h1 | h1 | h1 | h1 | h1 | h1
    · exact r h0 h1 (eApLimits192 a0 a1)
    · exact r h0 h1 (eApLimits193 a0 a1)
    · exact r h0 h1 (eApLimits194 a0 a1)
    · exact r h0 h1 (eApLimits195 a0 a1)
    · exact r h0 h1 (eApLimits196 a0 a1)
    · exact r h0 h1 (eApLimits197 a0 a1)
    · exact r h0 h1 (eApLimits198 a0 a1)
    · exact r h0 h1 (eApLimits199 a0 a1)
  · rcases modApLimits_8 a1 with h1 | h1 | h1 | h1 | h1 | h1 | h1 | h1
    · exact r h0 h1 (eApLimits200 a0 a1)
    · exact r h0 h1 (eApLimits201 a0 a1)
    · exact r h0 h1 (eApLimits202 a0 a1)
    · exact r h0 h1 (eApLimits203 a0 a1)
    · exact r h0 h1 (eApLimits204 a0 a1)
    · exact r h0 h1 (eApLimits205 a0 a1)
    · exact r h0 h1 (eApLimits206 a0 a1)
    · exact r h0 h1 (eApLimits207 a0 a1)
  · rcases modApLimits_8 a1 with h1 | h1 | h1 | h1 | h1 | h1 | h1 | h1
    · exact r h0 h1 (eApLimits208 a0 a1)
    · exact r h0 h1 (eApLimits209 a0 a1)
    · exact r h0 h1 (eApLimits210 a0 a1)
    · exact r h0 h1 (eApLimits211 a0 a1)
    · exact r h0 h1 (eApLimits212 a0 a1)
    · exact r h0 h1 (eApLimits213 a0 a1)
    · exact r h0 h1 (eApLimits214 a0 a1)
    · exact r h0 h1 (eApLimits215 a0 a1)
  · rcases modApLimits_8 a1 with h1 | h1 | h1 | h1 | h1 | h1 | h1 | h1
    · exact r h0 h1 (eApLimits216 a0 a1)
    · exact r h0 h1 (eApLimits217 a0 a1)
    · exact r h0 h1 (eApLimits218 a0 a1)
    · exact r h0 h1 (eApLimits219 a0 a1)
    · exact r h0 h1 (eApLimits220 a0 a1)
    · exact r h0 h1 (eApLimits221 a0 a1)
    · exact r h0 h1 (eApLimits222 a0 a1)
    · exact r h0 h1 (eApLimits223 a0 a1)
  · rcases modApLimits_8 a1 with h1 | h1 | h1 | h1 | h1 | h1 | h1 | h1
    · exact r h0 h1 (eApLimits224 a0 a1)
    · exact r h0 h1 (eApLimits225 a0 a1)
    · exact r h0 h1 (eApLimits226 a0 a1)
    · exact r h0 h1 (eApLimits227 a0 a1)
    · exact r h0 h1 (eApLimits228 a0 a1)
    · exact r h0 h1 (eApLimits229 a0 a1)
    · exact r h0 h1 (eApLimits230 a0 a1)
    · exact r h0 h1 (eApLimits231 a0 a1)
  · rcases modApLimits_8 a1 with h1 | h1 | h1 | h1 | h1 | h1 | h1 | h1
    · exact r h0 h1 (eApLimits232 a0 a1)
    · exact r h0 h1 (eApLimits233 a0 a1)
    · exact r h0 h1 (eApLimits234 a0 a1)
    · exact r h0 h1 (eApLimits235 a0 a1)
    · exact r h0 h1 (eApLimits236 a0 a1)
    · exact r h0 h1 (eApLimits237 a0 a1)
    · exact r h0 h1 (eApLimits238 a0 a1)
    · exact r h0 h1 (eApLimits239 a0 a1)
end Go.Proofs.YthooeildnkfpkaaGreatDoor
