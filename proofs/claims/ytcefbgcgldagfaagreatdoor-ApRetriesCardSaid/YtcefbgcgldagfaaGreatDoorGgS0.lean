/- The printed functions are the machine's own, by the kernel. -/
import Derived.Test.YtcefbgcgldagfaaGreatDoorGgD2
import Derived.Test.YtcefbgcgldagfaaGreatDoorRows
set_option linter.unusedVariables false
set_option linter.constructorNameAsVariable false
set_option maxRecDepth 100000
namespace Go.Proofs.YtcefbgcgldagfaaGreatDoor
open Go.Vc Go.Ab
noncomputable section
variable (v1 : AV) (l1 l2 l3 l4 : List AV) (L1 : List AP) (d1 d2 d3 d4 : DV) (R1 : List DV) (n1 n2 n3 n4 n5 n6 n7 n8 n9 : Int) (m1 m2 m3 m4 m5 : Nat) (t1 t2 t3 t4 : Bool) (p1 p2 p3 p4 p5 : AP) (b1 b2 b3 b4 b5 : P4) (s1 s2 s3 s4 s5 : AS) (H1 : AH) (x1 x2 : List Int) (c1 c2 c3 c4 c5 c6 c7 c8 c9 c10 c11 c12 c13 c14 c15 c16 : G DV) (Ka1 : AH → Option DV) (Kb1 Kb2 Kb3 : DV → AH → Option DV) (Kc1 Kc2 : DV → DV → AH → Option DV) (Kd1 : DV → DV → DV → AH → Option DV)
variable {ads : List Addr}
theorem s36 : SN ads 36 (g36) :=
  mk_snd [] ⟨fun _ => [], fun _ => none⟩ [] Tryz.func36 rfl .nil
theorem s14 (h13 : SN ads 13 c1) (h36 : SN ads 36 c2) : SN ads 14 (g14 c1 c2) :=
  mk_snd [(nn13, c1), (nn36, c2)] ⟨fun _ => [], fun n => match n with | 23 => some [] | _ => none⟩ [.int .i64] Tryz.func14 rfl (.cons h13 (.cons h36 .nil))
theorem s235 : SN ads 235 (g235) :=
  mk_snd [] ⟨fun _ => [], fun _ => none⟩ [.int .u32, .int .i64, .int .i64] Tryz.func235 rfl .nil
theorem s143 (h235 : SN ads 235 c1) : SN ads 143 (g143 c1) :=
  mk_snd [(nn235, c1)] ⟨fun n => match n with | 0 => [(5, .int .i64)] | _ => [], fun _ => none⟩ [.ptr, .int .i64] Tryz.func143 rfl (.cons h235 .nil)
theorem s76 (h143 : SN ads 143 c1) : SN ads 76 (g76 c1) :=
  mk_snd [(nn143, c1)] ⟨fun n => match n with | 0 => [(36, .int .i64)] | _ => [], fun _ => none⟩ [.int .u32, .int .i64, .int .i64, .int .i64, .int .i64] Tryz.func76 rfl (.cons h143 .nil)
theorem s144 : SN ads 144 (g144) :=
  mk_snd [] ⟨fun _ => [], fun _ => none⟩ [.int .i64, .int .i64] Tryz.func144 rfl .nil
theorem s77 (h144 : SN ads 144 c1) : SN ads 77 (g77 c1) :=
  mk_snd [(nn144, c1)] ⟨fun _ => [], fun _ => none⟩ [.int .i64, .int .i64, .int .i64] Tryz.func77 rfl (.cons h144 .nil)
theorem s124 : SN ads 124 (g124) :=
  mk_snd [] ⟨fun _ => [], fun _ => none⟩ [.int .i64] Tryz.func124 rfl .nil
theorem s78 (h124 : SN ads 124 c1) : SN ads 78 (g78 c1) :=
  mk_snd [(nn124, c1)] ⟨fun _ => [], fun _ => none⟩ [.int .i64, .int .i64] Tryz.func78 rfl (.cons h124 .nil)
theorem s79 : SN ads 79 (g79) :=
  mk_snd [] ⟨fun _ => [], fun _ => none⟩ [.int .i64] Tryz.func79 rfl .nil
theorem s145 (h79 : SN ads 79 c1) : SN ads 145 (g145 c1) :=
  mk_snd [(nn79, c1)] ⟨fun n => match n with | 0 => [(8, .int .i64)] | _ => [], fun _ => none⟩ [.slice, .any] Tryz.func145 rfl (.cons h79 .nil)
theorem s80 (h145 : SN ads 145 c1) : SN ads 80 (g80 c1) :=
  mk_snd [(nn145, c1)] ⟨fun _ => [], fun _ => none⟩ [.slice, .any] Tryz.func80 rfl (.cons h145 .nil)
theorem s81 : SN ads 81 (g81) :=
  mk_snd [] ⟨fun _ => [], fun _ => none⟩ [.any] Tryz.func81 rfl .nil
theorem s82 : SN ads 82 (g82) :=
  mk_snd [] ⟨fun _ => [], fun _ => none⟩ [] Tryz.func82 rfl .nil
theorem s32 (h76 : SN ads 76 c1) (h77 : SN ads 77 c2) (h78 : SN ads 78 c3) (h80 : SN ads 80 c4) (h81 : SN ads 81 c5) (h82 : SN ads 82 c6) : SN ads 32 (g32 c1 c2 c3 c4 c5 c6) :=
  mk_snd [(nn76, c1), (nn77, c2), (nn78, c3), (nn80, c4), (nn81, c5), (nn82, c6)] ⟨fun n => match n with | 0 => [(99, .int .i64)] | _ => [], fun _ => none⟩ [.any] Tryz.func32 rfl (.cons h76 (.cons h77 (.cons h78 (.cons h80 (.cons h81 (.cons h82 .nil))))))
theorem s55 : SN ads 55 (g55) :=
  mk_snd [] ⟨fun _ => [], fun _ => none⟩ [.ptr, .int .i64] Tryz.func55 rfl .nil
theorem s284 : SN ads 284 (g284) :=
  mk_snd [] ⟨fun _ => [], fun _ => none⟩ [.int .i64] Tryz.func284 rfl .nil
theorem s215 (h284 : SN ads 284 c1) : SN ads 215 (g215 c1) :=
  mk_snd [(nn284, c1)] ⟨fun _ => [], fun _ => none⟩ [.int .i64, .int .i64] Tryz.func215 rfl (.cons h284 .nil)
theorem s214 (h215 : SN ads 215 c1) : SN ads 214 (g214 c1) :=
  mk_snd [(nn215, c1)] ⟨fun _ => [], fun _ => none⟩ [.any, .ptr] Tryz.func214 rfl (.cons h215 .nil)
theorem s219 (h214 : SN ads 214 c1) (h215 : SN ads 215 c2) : SN ads 219 (g219 c1 c2) :=
  mk_snd [(nn214, c1), (nn215, c2)] ⟨fun _ => [], fun _ => none⟩ [.any, .ptr, .ptr] Tryz.func219 rfl (.cons h214 (.cons h215 .nil))
theorem s225 : SN ads 225 (g225) :=
  mk_snd [] ⟨fun _ => [], fun n => match n with | 6 => some [] | _ => none⟩ [.any, .ptr, .ptr] Tryz.func225 rfl .nil
theorem s226 (h225 : SN ads 225 c1) : SN ads 226 (g226 c1) :=
  mk_snd [(nn225, c1)] ⟨fun _ => [], fun _ => none⟩ [.any, .ptr] Tryz.func226 rfl (.cons h225 .nil)
theorem s229 : SN ads 229 (g229) :=
  mk_snd [] ⟨fun _ => [], fun _ => none⟩ [.any] Tryz.func229 rfl .nil
theorem s244 : SN ads 244 (g244) :=
  mk_snd [] ⟨fun _ => [], fun _ => none⟩ [.any] Tryz.func244 rfl .nil
theorem s266 : SN ads 266 (g266) :=
  mk_snd [] ⟨fun _ => [], fun _ => none⟩ [.slice] Tryz.func266 rfl .nil
theorem s290 (h266 : SN ads 266 c1) : SN ads 290 (g290 c1) :=
  mk_snd [(nn266, c1)] ⟨fun _ => [], fun _ => none⟩ [.any] Tryz.func290 rfl (.cons h266 .nil)
theorem s228 (h219 : SN ads 219 c1) (h226 : SN ads 226 c2) (h229 : SN ads 229 c3) (h244 : SN ads 244 c4) (h290 : SN ads 290 c5) : SN ads 228 (g228 c1 c2 c3 c4 c5) :=
  mk_snd [(nn219, c1), (nn226, c2), (nn229, c3), (nn244, c4), (nn290, c5)] ⟨fun n => match n with | 0 => [(5, .slice), (13, .int .i64)] | _ => [], fun n => match n with | 7 => some [(5, .slice)] | _ => none⟩ [.ptr, .any] Tryz.func228 rfl (.cons h219 (.cons h226 (.cons h229 (.cons h244 (.cons h290 .nil)))))
theorem s285 : SN ads 285 (g285) :=
  mk_snd [] ⟨fun _ => [], fun _ => none⟩ [.any] Tryz.func285 rfl .nil
theorem s302 : SN ads 302 (g302) :=
  mk_snd [] ⟨fun _ => [], fun _ => none⟩ [.any, .ptr] Tryz.func302 rfl .nil
theorem s286 (h214 : SN ads 214 c1) (h219 : SN ads 219 c2) (h226 : SN ads 226 c3) (h285 : SN ads 285 c4) (h302 : SN ads 302 c5) : SN ads 286 (g286 c1 c2 c3 c4 c5) :=
  mk_snd [(nn214, c1), (nn219, c2), (nn226, c3), (nn285, c4), (nn302, c5)] ⟨fun n => match n with | 0 => [(8, .int .i64)] | _ => [], fun _ => none⟩ [.slice, .any] Tryz.func286 rfl (.cons h214 (.cons h219 (.cons h226 (.cons h285 (.cons h302 .nil)))))
theorem s287 (h219 : SN ads 219 c1) (h226 : SN ads 226 c2) (h286 : SN ads 286 c3) : SN ads 287 (g287 c1 c2 c3) :=
  mk_snd [(nn219, c1), (nn226, c2), (nn286, c3)] ⟨fun n => match n with | 0 => [(5, .int .i64), (6, .int .i64)] | _ => [], fun n => match n with | 6 => some [(5, .int .i64)] | _ => none⟩ [.slice, .any] Tryz.func287 rfl (.cons h219 (.cons h226 (.cons h286 .nil)))
theorem s288 : SN ads 288 (g288) :=
  mk_snd [] ⟨fun _ => [], fun _ => none⟩ [.slice] Tryz.func288 rfl .nil
theorem s233 : SN ads 233 (g233) :=
  mk_snd [] ⟨fun _ => [], fun _ => none⟩ [.slice] Tryz.func233 rfl .nil
theorem s254 : SN ads 254 (g254) :=
  mk_snd [] ⟨fun n => match n with | 0 => [(8, .int .i64)] | _ => [], fun _ => none⟩ [.slice, .int .i64] Tryz.func254 rfl .nil
theorem s314 : SN ads 314 (g314) :=
  mk_snd [] ⟨fun _ => [], fun _ => none⟩ [.slice, .int .i64, .int .i64] Tryz.func314 rfl .nil
theorem s289 (h233 : SN ads 233 c1) (h254 : SN ads 254 c2) (h314 : SN ads 314 c3) : SN ads 289 (g289 c1 c2 c3) :=
  mk_snd [(nn233, c1), (nn254, c2), (nn314, c3)] ⟨fun _ => [], fun n => match n with | 8 => some [] | _ => none⟩ [.ptr, .int .i64] Tryz.func289 rfl (.cons h233 (.cons h254 (.cons h314 .nil)))
theorem s218 (h228 : SN ads 228 c1) (h287 : SN ads 287 c2) (h288 : SN ads 288 c3) (h289 : SN ads 289 c4) : SN ads 218 (g218 c1 c2 c3 c4) :=
  mk_snd [(nn228, c1), (nn287, c2), (nn288, c3), (nn289, c4)] ⟨fun n => match n with | 0 => [(23, .int .i64)] | _ => [], fun n => match n with | 7 => some [] | _ => none⟩ [.ptr, .any] Tryz.func218 rfl (.cons h228 (.cons h287 (.cons h288 (.cons h289 .nil))))
theorem s135 (h218 : SN ads 218 c1) (h225 : SN ads 225 c2) : SN ads 135 (g135 c1 c2) :=
  mk_snd [(nn218, c1), (nn225, c2)] ⟨fun n => match n with | 0 => [(7, .slice), (18, .int .i64)] | _ => [], fun n => match n with | 9 => some [(7, .slice)] | 13 => some [] | _ => none⟩ [.ptr, .int .i64] Tryz.func135 rfl (.cons h218 (.cons h225 .nil))
theorem s71 : SN ads 71 (g71) :=
  mk_snd [] ⟨fun _ => [], fun _ => none⟩ [.ptr, .int .i64] Tryz.func71 rfl .nil
theorem s221 : SN ads 221 (g221) :=
  mk_snd [] ⟨fun _ => [], fun _ => none⟩ [.ptr] Tryz.func221 rfl .nil
theorem s227 (h71 : SN ads 71 c1) (h221 : SN ads 221 c2) : SN ads 227 (g227 c1 c2) :=
  mk_snd [(nn71, c1), (nn221, c2)] ⟨fun _ => [], fun _ => none⟩ [.ptr, .int .i64, .int .i64] Tryz.func227 rfl (.cons h71 (.cons h221 .nil))
theorem s136 (h227 : SN ads 227 c1) : SN ads 136 (g136 c1) :=
  mk_snd [(nn227, c1)] ⟨fun n => match n with | 0 => [(10, .int .i64)] | _ => [], fun _ => none⟩ [.ptr, .int .i64, .slice] Tryz.func136 rfl (.cons h227 .nil)
theorem s137 (h228 : SN ads 228 c1) : SN ads 137 (g137 c1) :=
  mk_snd [(nn228, c1)] ⟨fun _ => [], fun _ => none⟩ [.ptr] Tryz.func137 rfl (.cons h228 .nil)
theorem s222 : SN ads 222 (g222) :=
  mk_snd [] ⟨fun _ => [], fun _ => none⟩ [.ptr, .int .i64] Tryz.func222 rfl .nil
theorem s138 (h222 : SN ads 222 c1) : SN ads 138 (g138 c1) :=
  mk_snd [(nn222, c1)] ⟨fun _ => [], fun _ => none⟩ [.ptr] Tryz.func138 rfl (.cons h222 .nil)
theorem s64 (h135 : SN ads 135 c1) (h136 : SN ads 136 c2) (h137 : SN ads 137 c3) (h138 : SN ads 138 c4) : SN ads 64 (g64 c1 c2 c3 c4) :=
  mk_snd [(nn135, c1), (nn136, c2), (nn137, c3), (nn138, c4)] ⟨fun n => match n with | 0 => [(22, .int .i64)] | _ => [], fun _ => none⟩ [.ptr, .ptr] Tryz.func64 rfl (.cons h135 (.cons h136 (.cons h137 (.cons h138 .nil))))
theorem s83 : SN ads 83 (g83) :=
  mk_snd [] ⟨fun n => match n with | 0 => [(3, .slice), (10, .int .i64)] | _ => [], fun n => match n with | 7 => some [(3, .slice)] | _ => none⟩ [.ptr] Tryz.func83 rfl .nil
theorem s133 : SN ads 133 (g133) :=
  mk_snd [] ⟨fun _ => [], fun _ => none⟩ [.int .i64] Tryz.func133 rfl .nil
theorem s224 : SN ads 224 (g224) :=
  mk_snd [] ⟨fun _ => [], fun _ => none⟩ [.int .i64] Tryz.func224 rfl .nil
theorem s146 (h133 : SN ads 133 c1) (h224 : SN ads 224 c2) : SN ads 146 (g146 c1 c2) :=
  mk_snd [(nn133, c1), (nn224, c2)] ⟨fun _ => [], fun _ => none⟩ [.ptr, .int .i64] Tryz.func146 rfl (.cons h133 (.cons h224 .nil))
theorem s223 : SN ads 223 (g223) :=
  mk_snd [] ⟨fun _ => [], fun _ => none⟩ [.int .i64] Tryz.func223 rfl .nil
theorem s134 (h146 : SN ads 146 c1) (h223 : SN ads 223 c2) (h224 : SN ads 224 c3) : SN ads 134 (g134 c1 c2 c3) :=
  mk_snd [(nn146, c1), (nn223, c2), (nn224, c3)] ⟨fun _ => [], fun _ => none⟩ [.ptr, .int .i64] Tryz.func134 rfl (.cons h146 (.cons h223 (.cons h224 .nil)))
theorem s147 : SN ads 147 (g147) :=
  mk_snd [] ⟨fun _ => [], fun _ => none⟩ [.int .i64] Tryz.func147 rfl .nil
theorem s84 (h134 : SN ads 134 c1) (h146 : SN ads 146 c2) (h147 : SN ads 147 c3) : SN ads 84 (g84 c1 c2 c3) :=
  mk_snd [(nn134, c1), (nn146, c2), (nn147, c3)] ⟨fun n => match n with | 0 => [(9, .int .i64), (10, .int .i64), (16, .int .i64)] | 2 => [(71, .int .i64)] | _ => [], fun n => match n with | 9 => some [] | 12 => some [(9, .int .i64), (10, .int .i64)] | 21 => some [] | 25 => some [] | _ => none⟩ [.ptr, .any, .any] Tryz.func84 rfl (.cons h134 (.cons h146 (.cons h147 .nil)))
theorem s123 : SN ads 123 (g123) :=
  mk_snd [] ⟨fun _ => [], fun _ => none⟩ [.int .i64] Tryz.func123 rfl .nil
theorem s125 (h123 : SN ads 123 c1) : SN ads 125 (g125 c1) :=
  mk_snd [(nn123, c1)] ⟨fun _ => [], fun _ => none⟩ [.ptr, .int .i64] Tryz.func125 rfl (.cons h123 .nil)
theorem s153 : SN ads 153 (g153) :=
  mk_snd [] ⟨fun n => match n with | 0 => [(3, .int .i64), (10, .int .i64)] | _ => [], fun _ => none⟩ [.ptr] Tryz.func153 rfl .nil
theorem s87 (h123 : SN ads 123 c1) (h125 : SN ads 125 c2) (h153 : SN ads 153 c3) : SN ads 87 (g87 c1 c2 c3) :=
  mk_snd [(nn123, c1), (nn125, c2), (nn153, c3)] ⟨fun _ => [], fun _ => none⟩ [.ptr, .int .i64] Tryz.func87 rfl (.cons h123 (.cons h125 (.cons h153 .nil)))
theorem s154 : SN ads 154 (g154) :=
  mk_snd [] ⟨fun _ => [], fun _ => none⟩ [.int .i64] Tryz.func154 rfl .nil
theorem s131 : SN ads 131 (g131) :=
  mk_snd [] ⟨fun _ => [], fun _ => none⟩ [.ptr] Tryz.func131 rfl .nil
theorem s241 : SN ads 241 (g241) :=
  mk_snd [] ⟨fun _ => [], fun _ => none⟩ [.ptr] Tryz.func241 rfl .nil
theorem s160 (h241 : SN ads 241 c1) : SN ads 160 (g160 c1) :=
  mk_snd [(nn241, c1)] ⟨fun _ => [], fun _ => none⟩ [.ptr] Tryz.func160 rfl (.cons h241 .nil)
theorem s162 (h228 : SN ads 228 c1) : SN ads 162 (g162 c1) :=
  mk_snd [(nn228, c1)] ⟨fun _ => [], fun _ => none⟩ [.ptr] Tryz.func162 rfl (.cons h228 .nil)
theorem s75 : SN ads 75 (g75) :=
  mk_snd [] ⟨fun _ => [], fun _ => none⟩ [.ptr] Tryz.func75 rfl .nil
theorem s255 : SN ads 255 (g255) :=
  mk_snd [] ⟨fun _ => [], fun _ => none⟩ [.int .i64, .int .i64] Tryz.func255 rfl .nil
theorem s238 (h75 : SN ads 75 c1) (h255 : SN ads 255 c2) : SN ads 238 (g238 c1 c2) :=
  mk_snd [(nn75, c1), (nn255, c2)] ⟨fun _ => [], fun _ => none⟩ [.ptr, .int .i64, .int .i64] Tryz.func238 rfl (.cons h75 (.cons h255 .nil))
theorem s293 (h215 : SN ads 215 c1) : SN ads 293 (g293 c1) :=
  mk_snd [(nn215, c1)] ⟨fun _ => [], fun _ => none⟩ [.ptr] Tryz.func293 rfl (.cons h215 .nil)
theorem s239 (h293 : SN ads 293 c1) : SN ads 239 (g239 c1) :=
  mk_snd [(nn293, c1)] ⟨fun _ => [], fun _ => none⟩ [.ptr] Tryz.func239 rfl (.cons h293 .nil)
theorem s155 (h55 : SN ads 55 c1) (h131 : SN ads 131 c2) (h160 : SN ads 160 c3) (h162 : SN ads 162 c4) (h238 : SN ads 238 c5) (h239 : SN ads 239 c6) : SN ads 155 (g155 c1 c2 c3 c4 c5 c6) :=
  mk_snd [(nn55, c1), (nn131, c2), (nn160, c3), (nn162, c4), (nn238, c5), (nn239, c6)] ⟨fun _ => [], fun _ => none⟩ [.ptr, .int .i64, .int .i64] Tryz.func155 rfl (.cons h55 (.cons h131 (.cons h160 (.cons h162 (.cons h238 (.cons h239 .nil))))))
theorem s88 (h154 : SN ads 154 c1) (h155 : SN ads 155 c2) : SN ads 88 (g88 c1 c2) :=
  mk_snd [(nn154, c1), (nn155, c2)] ⟨fun n => match n with | 0 => [(7, .slice), (9, .int .i64)] | _ => [], fun n => match n with | 7 => some [(7, .slice)] | _ => none⟩ [.ptr, .int .i64, .int .i64] Tryz.func88 rfl (.cons h154 (.cons h155 .nil))
theorem s178 : SN ads 178 (g178) :=
  mk_snd [] ⟨fun _ => [], fun _ => none⟩ [.ptr, .int .i64] Tryz.func178 rfl .nil
theorem s210 : SN ads 210 (g210) :=
  mk_snd [] ⟨fun _ => [], fun _ => none⟩ [.int .i64] Tryz.func210 rfl .nil
theorem s148 (h178 : SN ads 178 c1) (h210 : SN ads 210 c2) : SN ads 148 (g148 c1 c2) :=
  mk_snd [(nn178, c1), (nn210, c2)] ⟨fun _ => [], fun _ => none⟩ [.ptr, .int .i64, .int .i64] Tryz.func148 rfl (.cons h178 (.cons h210 .nil))
theorem s151 : SN ads 151 (g151) :=
  mk_snd [] ⟨fun _ => [], fun _ => none⟩ [.ptr] Tryz.func151 rfl .nil
theorem s362 : SN ads 362 (g362) :=
  mk_snd [] ⟨fun _ => [], fun _ => none⟩ [.ptr, .int .i64, .int .i64] Tryz.func362 rfl .nil
theorem s365 : SN ads 365 (g365) :=
  mk_snd [] ⟨fun _ => [], fun _ => none⟩ [.ptr, .int .i64, .int .i64] Tryz.func365 rfl .nil
theorem s236 (h362 : SN ads 362 c1) (h365 : SN ads 365 c2) : SN ads 236 (g236 c1 c2) :=
  mk_snd [(nn362, c1), (nn365, c2)] ⟨fun n => match n with | 0 => [(1, .int .i64)] | _ => [], fun _ => none⟩ [.any, .int .i64] Tryz.func236 rfl (.cons h362 (.cons h365 .nil))
theorem s364 : SN ads 364 (g364) :=
  mk_snd [] ⟨fun _ => [], fun _ => none⟩ [.ptr, .any] Tryz.func364 rfl .nil
theorem s150 (h151 : SN ads 151 c1) (h236 : SN ads 236 c2) (h364 : SN ads 364 c3) : SN ads 150 (g150 c1 c2 c3) :=
  mk_snd [(nn151, c1), (nn236, c2), (nn364, c3)] ⟨fun _ => [], fun _ => none⟩ [.any, .any] Tryz.func150 rfl (.cons h151 (.cons h236 (.cons h364 .nil)))
theorem s237 (h362 : SN ads 362 c1) (h365 : SN ads 365 c2) : SN ads 237 (g237 c1 c2) :=
  mk_snd [(nn362, c1), (nn365, c2)] ⟨fun n => match n with | 0 => [(7, .int .i64)] | _ => [], fun n => match n with | 8 => some [(9, .int .i64)] | 11 => some [(7, .int .i64)] | _ => none⟩ [.any, .int .i64, .int .i64] Tryz.func237 rfl (.cons h362 (.cons h365 .nil))
theorem s363 : SN ads 363 (g363) :=
  mk_snd [] ⟨fun _ => [], fun _ => none⟩ [.ptr] Tryz.func363 rfl .nil
theorem s152 (h151 : SN ads 151 c1) (h236 : SN ads 236 c2) (h237 : SN ads 237 c3) (h363 : SN ads 363 c4) (h365 : SN ads 365 c5) : SN ads 152 (g152 c1 c2 c3 c4 c5) :=
  mk_snd [(nn151, c1), (nn236, c2), (nn237, c3), (nn363, c4), (nn365, c5)] ⟨fun _ => [], fun n => match n with | 6 => some [] | _ => none⟩ [.any, .int .i64] Tryz.func152 rfl (.cons h151 (.cons h236 (.cons h237 (.cons h363 (.cons h365 .nil)))))
theorem s175 : SN ads 175 (g175) :=
  mk_snd [] ⟨fun _ => [], fun _ => none⟩ [.int .i64] Tryz.func175 rfl .nil
theorem s177 (h175 : SN ads 175 c1) : SN ads 177 (g177 c1) :=
  mk_snd [(nn175, c1)] ⟨fun _ => [], fun _ => none⟩ [.ptr, .int .i64] Tryz.func177 rfl (.cons h175 .nil)
theorem s149 (h150 : SN ads 150 c1) (h151 : SN ads 151 c2) (h152 : SN ads 152 c3) (h177 : SN ads 177 c4) : SN ads 149 (g149 c1 c2 c3 c4) :=
  mk_snd [(nn150, c1), (nn151, c2), (nn152, c3), (nn177, c4)] ⟨fun _ => [], fun n => match n with | 7 => some [] | 12 => some [] | _ => none⟩ [.ptr, .int .i64, .bool] Tryz.func149 rfl (.cons h150 (.cons h151 (.cons h152 (.cons h177 .nil))))
theorem s85 (h83 : SN ads 83 c1) (h87 : SN ads 87 c2) (h88 : SN ads 88 c3) (h148 : SN ads 148 c4) (h149 : SN ads 149 c5) : SN ads 85 (g85 c1 c2 c3 c4 c5) :=
  mk_snd [(nn83, c1), (nn87, c2), (nn88, c3), (nn148, c4), (nn149, c5)] ⟨fun n => match n with | 0 => [(15, .int .i64)] | 2 => [(6, .slice), (24, .int .i64)] | 4 => [(65, .int .i64)] | _ => [], fun n => match n with | 13 => some [(6, .slice)] | _ => none⟩ [.ptr] Tryz.func85 rfl (.cons h83 (.cons h87 (.cons h88 (.cons h148 (.cons h149 .nil)))))
theorem s86 (h150 : SN ads 150 c1) (h151 : SN ads 151 c2) (h152 : SN ads 152 c3) : SN ads 86 (g86 c1 c2 c3) :=
  mk_snd [(nn150, c1), (nn151, c2), (nn152, c3)] ⟨fun n => match n with | 0 => [(18, .int .i64)] | 2 => [(7, .slice)] | _ => [], fun _ => none⟩ [.ptr] Tryz.func86 rfl (.cons h150 (.cons h151 (.cons h152 .nil)))
theorem s240 : SN ads 240 (g240) :=
  mk_snd [] ⟨fun _ => [], fun _ => none⟩ [.ptr, .int .i64] Tryz.func240 rfl .nil
theorem s156 (h240 : SN ads 240 c1) : SN ads 156 (g156 c1) :=
  mk_snd [(nn240, c1)] ⟨fun _ => [], fun _ => none⟩ [.ptr, .int .i64] Tryz.func156 rfl (.cons h240 .nil)
theorem s157 : SN ads 157 (g157) :=
  mk_snd [] ⟨fun _ => [], fun _ => none⟩ [] Tryz.func157 rfl .nil
theorem s158 (h241 : SN ads 241 c1) : SN ads 158 (g158 c1) :=
  mk_snd [(nn241, c1)] ⟨fun _ => [], fun _ => none⟩ [.ptr] Tryz.func158 rfl (.cons h241 .nil)
theorem s242 : SN ads 242 (g242) :=
  mk_snd [] ⟨fun _ => [], fun _ => none⟩ [.ptr] Tryz.func242 rfl .nil
theorem s159 (h242 : SN ads 242 c1) : SN ads 159 (g159 c1) :=
  mk_snd [(nn242, c1)] ⟨fun _ => [], fun _ => none⟩ [.ptr] Tryz.func159 rfl (.cons h242 .nil)
theorem s294 : SN ads 294 (g294) :=
  mk_snd [] ⟨fun _ => [], fun _ => none⟩ [.int .i64] Tryz.func294 rfl .nil
theorem s243 (h294 : SN ads 294 c1) : SN ads 243 (g243 c1) :=
  mk_snd [(nn294, c1)] ⟨fun _ => [], fun _ => none⟩ [.int .u8, .any, .any, .int .i64, .int .i64] Tryz.func243 rfl (.cons h294 .nil)
theorem s161 (h243 : SN ads 243 c1) : SN ads 161 (g161 c1) :=
  mk_snd [(nn243, c1)] ⟨fun _ => [], fun _ => none⟩ [.any] Tryz.func161 rfl (.cons h243 .nil)
theorem s245 : SN ads 245 (g245) :=
  mk_snd [] ⟨fun _ => [], fun _ => none⟩ [.ptr] Tryz.func245 rfl .nil
theorem s163 (h245 : SN ads 245 c1) : SN ads 163 (g163 c1) :=
  mk_snd [(nn245, c1)] ⟨fun _ => [], fun _ => none⟩ [.ptr, .int .i64] Tryz.func163 rfl (.cons h245 .nil)
theorem s246 : SN ads 246 (g246) :=
  mk_snd [] ⟨fun _ => [], fun _ => none⟩ [.int .i64, .int .i64] Tryz.func246 rfl .nil
theorem s247 : SN ads 247 (g247) :=
  mk_snd [] ⟨fun n => match n with | 0 => [(9, .slice), (18, .int .i64)] | _ => [], fun _ => none⟩ [.any, .any, .any, .int .u8] Tryz.func247 rfl .nil
theorem s248 : SN ads 248 (g248) :=
  mk_snd [] ⟨fun _ => [], fun _ => none⟩ [.int .i64] Tryz.func248 rfl .nil
theorem s164 (h246 : SN ads 246 c1) (h247 : SN ads 247 c2) (h248 : SN ads 248 c3) : SN ads 164 (g164 c1 c2 c3) :=
  mk_snd [(nn246, c1), (nn247, c2), (nn248, c3)] ⟨fun _ => [], fun n => match n with | 6 => some [(4, .int .u8)] | 9 => some [(5, .slice)] | 13 => some [(5, .slice)] | _ => none⟩ [.any] Tryz.func164 rfl (.cons h246 (.cons h247 (.cons h248 .nil)))
theorem s167 (h148 : SN ads 148 c1) (h178 : SN ads 178 c2) (h210 : SN ads 210 c3) : SN ads 167 (g167 c1 c2 c3) :=
  mk_snd [(nn148, c1), (nn178, c2), (nn210, c3)] ⟨fun _ => [], fun n => match n with | 17 => some [(11, .bool)] | _ => none⟩ [.ptr, .int .i64, .int .i64, .bool] Tryz.func167 rfl (.cons h148 (.cons h178 (.cons h210 .nil)))
theorem s168 (h55 : SN ads 55 c1) (h137 : SN ads 137 c2) (h238 : SN ads 238 c3) : SN ads 168 (g168 c1 c2 c3) :=
  mk_snd [(nn55, c1), (nn137, c2), (nn238, c3)] ⟨fun n => match n with | 0 => [(15, .int .i64)] | _ => [], fun n => match n with | 8 => some [(11, .int .i64)] | _ => none⟩ [.ptr, .int .i64, .int .i64, .int .i64] Tryz.func168 rfl (.cons h55 (.cons h137 (.cons h238 .nil)))
theorem s128 (h71 : SN ads 71 c1) (h221 : SN ads 221 c2) : SN ads 128 (g128 c1 c2) :=
  mk_snd [(nn71, c1), (nn221, c2)] ⟨fun _ => [], fun _ => none⟩ [.ptr, .int .i64, .int .i64] Tryz.func128 rfl (.cons h71 (.cons h221 .nil))
theorem s328 : SN ads 328 (g328) :=
  mk_snd [] ⟨fun _ => [], fun _ => none⟩ [.slice] Tryz.func328 rfl .nil
theorem s322 (h328 : SN ads 328 c1) : SN ads 322 (g322 c1) :=
  mk_snd [(nn328, c1)] ⟨fun _ => [], fun _ => none⟩ [.ptr, .int .i64] Tryz.func322 rfl (.cons h328 .nil)
theorem s333 : SN ads 333 (g333) :=
  mk_snd [] ⟨fun _ => [], fun n => match n with | 7 => some [(39, .bool)] | _ => none⟩ [.ptr] Tryz.func333 rfl .nil
theorem s341 : SN ads 341 (g341) :=
  mk_snd [] ⟨fun _ => [], fun n => match n with | 4 => some [(0, .int .u64), (2, .int .i64)] | 7 => some [(0, .int .u64), (2, .int .i64)] | 10 => some [(0, .int .u64), (2, .int .i64)] | _ => none⟩ [.int .u64] Tryz.func341 rfl .nil
theorem s340 (h341 : SN ads 341 c1) : SN ads 340 (g340 c1) :=
  mk_snd [(nn341, c1)] ⟨fun _ => [], fun _ => none⟩ [.int .u64] Tryz.func340 rfl (.cons h341 .nil)
theorem s338 (h340 : SN ads 340 c1) : SN ads 338 (g338 c1) :=
  mk_snd [(nn340, c1)] ⟨fun n => match n with | 0 => [(15, .int .u64), (16, .int .u64)] | 2 => [(16, .int .u64), (18, .int .u64)] | _ => [], fun n => match n with | 3 => some [] | 5 => some [] | 21 => some [(15, .int .u64)] | 28 => some [(18, .int .u64)] | _ => none⟩ [.int .u64, .int .u64, .int .u64] Tryz.func338 rfl (.cons h340 .nil)
theorem s339 : SN ads 339 (g339) :=
  mk_snd [] ⟨fun n => match n with | 0 => [(3, .int .u64), (4, .int .u64)] | _ => [], fun n => match n with | 4 => some [(3, .int .u64)] | _ => none⟩ [.int .u64] Tryz.func339 rfl .nil
theorem s337 (h338 : SN ads 338 c1) (h339 : SN ads 339 c2) : SN ads 337 (g337 c1 c2) :=
  mk_snd [(nn338, c1), (nn339, c2)] ⟨fun _ => [], fun _ => none⟩ [.int .u32] Tryz.func337 rfl (.cons h338 (.cons h339 .nil))
theorem s336 (h337 : SN ads 337 c1) : SN ads 336 (g336 c1) :=
  mk_snd [(nn337, c1)] ⟨fun _ => [], fun _ => none⟩ [.int .i64, .int .i64, .int .u32] Tryz.func336 rfl (.cons h337 .nil)
theorem s334 (h333 : SN ads 333 c1) (h336 : SN ads 336 c2) : SN ads 334 (g334 c1 c2) :=
  mk_snd [(nn333, c1), (nn336, c2)] ⟨fun n => match n with | 0 => [(3, .bool)] | _ => [], fun n => match n with | 3 => some [] | 6 => some [] | 11 => some [(3, .bool)] | _ => none⟩ [.ptr] Tryz.func334 rfl (.cons h333 (.cons h336 .nil))
theorem s335 (h333 : SN ads 333 c1) (h336 : SN ads 336 c2) : SN ads 335 (g335 c1 c2) :=
  mk_snd [(nn333, c1), (nn336, c2)] ⟨fun _ => [], fun n => match n with | 7 => some [(56, .bool)] | 8 => some [] | _ => none⟩ [.ptr] Tryz.func335 rfl (.cons h333 (.cons h336 .nil))
theorem s332 (h333 : SN ads 333 c1) (h334 : SN ads 334 c2) (h335 : SN ads 335 c3) : SN ads 332 (g332 c1 c2 c3) :=
  mk_snd [(nn333, c1), (nn334, c2), (nn335, c3)] ⟨fun _ => [], fun _ => none⟩ [.ptr] Tryz.func332 rfl (.cons h333 (.cons h334 (.cons h335 .nil)))
theorem s331 (h332 : SN ads 332 c1) : SN ads 331 (g331 c1) :=
  mk_snd [(nn332, c1)] ⟨fun _ => [], fun _ => none⟩ [.any, .int .i64, .int .i64, .int .i64, .int .i64, .slice] Tryz.func331 rfl (.cons h332 .nil)
theorem s329 (h322 : SN ads 322 c1) (h331 : SN ads 331 c2) : SN ads 329 (g329 c1 c2) :=
  mk_snd [(nn322, c1), (nn331, c2)] ⟨fun n => match n with | 0 => [(9, .slice), (26, .int .i64)] | 2 => [(15, .slice), (68, .int .i64)] | _ => [], fun _ => none⟩ [.ptr, .int .i64, .int .i64] Tryz.func329 rfl (.cons h322 (.cons h331 .nil))
theorem s324 (h322 : SN ads 322 c1) (h329 : SN ads 329 c2) : SN ads 324 (g324 c1 c2) :=
  mk_snd [(nn322, c1), (nn329, c2)] ⟨fun n => match n with | 0 => [(7, .slice)] | _ => [], fun n => match n with | 5 => some [(8, .ptr), (9, .bool)] | _ => none⟩ [.ptr, .int .i64] Tryz.func324 rfl (.cons h322 (.cons h329 .nil))
theorem s315 (h255 : SN ads 255 c1) (h324 : SN ads 324 c2) : SN ads 315 (g315 c1 c2) :=
  mk_snd [(nn255, c1), (nn324, c2)] ⟨fun _ => [], fun _ => none⟩ [.ptr, .int .i64, .int .i64, .int .i64] Tryz.func315 rfl (.cons h255 (.cons h324 .nil))
theorem s330 (h284 : SN ads 284 c1) : SN ads 330 (g330 c1) :=
  mk_snd [(nn284, c1)] ⟨fun _ => [], fun _ => none⟩ [.int .i64, .int .i64] Tryz.func330 rfl (.cons h284 .nil)
theorem s325 (h293 : SN ads 293 c1) (h330 : SN ads 330 c2) : SN ads 325 (g325 c1 c2) :=
  mk_snd [(nn293, c1), (nn330, c2)] ⟨fun _ => [], fun _ => none⟩ [.ptr] Tryz.func325 rfl (.cons h293 (.cons h330 .nil))
theorem s316 (h290 : SN ads 290 c1) (h325 : SN ads 325 c2) : SN ads 316 (g316 c1 c2) :=
  mk_snd [(nn290, c1), (nn325, c2)] ⟨fun _ => [], fun _ => none⟩ [.ptr, .any, .int .i64] Tryz.func316 rfl (.cons h290 (.cons h325 .nil))
theorem s295 (h128 : SN ads 128 c1) (h136 : SN ads 136 c2) (h315 : SN ads 315 c3) (h316 : SN ads 316 c4) : SN ads 295 (g295 c1 c2 c3 c4) :=
  mk_snd [(nn128, c1), (nn136, c2), (nn315, c3), (nn316, c4)] ⟨fun _ => [], fun _ => none⟩ [.ptr, .ptr, .ptr] Tryz.func295 rfl (.cons h128 (.cons h136 (.cons h315 (.cons h316 .nil))))
theorem s171 : SN ads 171 (g171) :=
  mk_snd [] ⟨fun _ => [], fun _ => none⟩ [.int .i64] Tryz.func171 rfl .nil
theorem s172 (h254 : SN ads 254 c1) : SN ads 172 (g172 c1) :=
  mk_snd [(nn254, c1)] ⟨fun _ => [], fun _ => none⟩ [.slice, .int .i64] Tryz.func172 rfl (.cons h254 .nil)
theorem s173 : SN ads 173 (g173) :=
  mk_snd [] ⟨fun _ => [], fun n => match n with | 8 => some [(10, .bool)] | _ => none⟩ [.int .i64] Tryz.func173 rfl .nil
theorem s91 (h171 : SN ads 171 c1) (h172 : SN ads 172 c2) (h173 : SN ads 173 c3) : SN ads 91 (g91 c1 c2 c3) :=
  mk_snd [(nn171, c1), (nn172, c2), (nn173, c3)] ⟨fun _ => [], fun _ => none⟩ [.any] Tryz.func91 rfl (.cons h171 (.cons h172 (.cons h173 .nil)))
theorem s211 : SN ads 211 (g211) :=
  mk_snd [] ⟨fun _ => [], fun _ => none⟩ [.int .i64] Tryz.func211 rfl .nil
theorem s212 (h173 : SN ads 173 c1) (h254 : SN ads 254 c2) : SN ads 212 (g212 c1 c2) :=
  mk_snd [(nn173, c1), (nn254, c2)] ⟨fun _ => [], fun _ => none⟩ [.any] Tryz.func212 rfl (.cons h173 (.cons h254 .nil))
theorem s118 (h91 : SN ads 91 c1) (h211 : SN ads 211 c2) (h212 : SN ads 212 c3) : SN ads 118 (g118 c1 c2 c3) :=
  mk_snd [(nn91, c1), (nn211, c2), (nn212, c3)] ⟨fun _ => [], fun _ => none⟩ [.any] Tryz.func118 rfl (.cons h91 (.cons h211 (.cons h212 .nil)))
theorem s119 (h91 : SN ads 91 c1) : SN ads 119 (g119 c1) :=
  mk_snd [(nn91, c1)] ⟨fun _ => [], fun _ => none⟩ [.any] Tryz.func119 rfl (.cons h91 .nil)
theorem s120 (h91 : SN ads 91 c1) : SN ads 120 (g120 c1) :=
  mk_snd [(nn91, c1)] ⟨fun _ => [], fun _ => none⟩ [.any] Tryz.func120 rfl (.cons h91 .nil)
theorem s53 (h91 : SN ads 91 c1) (h118 : SN ads 118 c2) (h119 : SN ads 119 c3) (h120 : SN ads 120 c4) : SN ads 53 (g53 c1 c2 c3 c4) :=
  mk_snd [(nn91, c1), (nn118, c2), (nn119, c3), (nn120, c4)] ⟨fun _ => [], fun _ => none⟩ [.any, .int .i64] Tryz.func53 rfl (.cons h91 (.cons h118 (.cons h119 (.cons h120 .nil))))
theorem s263 : SN ads 263 (g263) :=
  mk_snd [] ⟨fun _ => [], fun _ => none⟩ [.int .i64] Tryz.func263 rfl .nil
theorem s300 (h263 : SN ads 263 c1) : SN ads 300 (g300 c1) :=
  mk_snd [(nn263, c1)] ⟨fun n => match n with | 0 => [(3, .int .i64), (8, .int .i64)] | _ => [], fun _ => none⟩ [.slice] Tryz.func300 rfl (.cons h263 .nil)
theorem s317 : SN ads 317 (g317) :=
  mk_snd [] ⟨fun _ => [], fun _ => none⟩ [.int .i64] Tryz.func317 rfl .nil
theorem s326 (h317 : SN ads 317 c1) : SN ads 326 (g326 c1) :=
  mk_snd [(nn317, c1)] ⟨fun n => match n with | 0 => [(8, .int .i64)] | _ => [], fun _ => none⟩ [.slice, .any] Tryz.func326 rfl (.cons h317 .nil)
theorem s318 (h326 : SN ads 326 c1) : SN ads 318 (g318 c1) :=
  mk_snd [(nn326, c1)] ⟨fun _ => [], fun _ => none⟩ [.slice, .any] Tryz.func318 rfl (.cons h326 .nil)
theorem s298 (h53 : SN ads 53 c1) (h91 : SN ads 91 c2) (h300 : SN ads 300 c3) (h318 : SN ads 318 c4) : SN ads 298 (g298 c1 c2 c3 c4) :=
  mk_snd [(nn53, c1), (nn91, c2), (nn300, c3), (nn318, c4)] ⟨fun _ => [], fun _ => none⟩ [.any, .any, .slice] Tryz.func298 rfl (.cons h53 (.cons h91 (.cons h300 (.cons h318 .nil))))
theorem s296 (h91 : SN ads 91 c1) (h298 : SN ads 298 c2) (h317 : SN ads 317 c3) : SN ads 296 (g296 c1 c2 c3) :=
  mk_snd [(nn91, c1), (nn298, c2), (nn317, c3)] ⟨fun n => match n with | 0 => [(8, .int .i64)] | _ => [], fun _ => none⟩ [.any, .any, .slice] Tryz.func296 rfl (.cons h91 (.cons h298 (.cons h317 .nil)))
theorem s299 : SN ads 299 (g299) :=
  mk_snd [] ⟨fun _ => [], fun _ => none⟩ [.int .i64] Tryz.func299 rfl .nil
theorem s297 (h299 : SN ads 299 c1) : SN ads 297 (g297 c1) :=
  mk_snd [(nn299, c1)] ⟨fun n => match n with | 0 => [(3, .slice), (8, .int .i64)] | _ => [], fun _ => none⟩ [.slice] Tryz.func297 rfl (.cons h299 .nil)
theorem s249 (h159 : SN ads 159 c1) (h162 : SN ads 162 c2) (h239 : SN ads 239 c3) (h295 : SN ads 295 c4) (h296 : SN ads 296 c5) (h297 : SN ads 297 c6) (h298 : SN ads 298 c7) (h299 : SN ads 299 c8) : SN ads 249 (g249 c1 c2 c3 c4 c5 c6 c7 c8) :=
  mk_snd [(nn159, c1), (nn162, c2), (nn239, c3), (nn295, c4), (nn296, c5), (nn297, c6), (nn298, c7), (nn299, c8)] ⟨fun n => match n with | 0 => [(13, .slice)] | _ => [], fun n => match n with | 8 => some [(13, .slice)] | 14 => some [] | 17 => some [(13, .slice)] | _ => none⟩ [.ptr, .ptr, .ptr, .any, .bool] Tryz.func249 rfl (.cons h159 (.cons h162 (.cons h239 (.cons h295 (.cons h296 (.cons h297 (.cons h298 (.cons h299 .nil))))))))
theorem s250 : SN ads 250 (g250) :=
  mk_snd [] ⟨fun n => match n with | 0 => [(6, .slice), (60, .int .i64)] | _ => [], fun n => match n with | 6 => some [(4, .int .u8)] | 8 => some [(4, .int .u8)] | 10 => some [(5, .int .u8)] | _ => none⟩ [.any] Tryz.func250 rfl .nil
theorem s327 : SN ads 327 (g327) :=
  mk_snd [] ⟨fun _ => [], fun _ => none⟩ [.int .u8] Tryz.func327 rfl .nil
theorem s319 (h327 : SN ads 327 c1) : SN ads 319 (g319 c1) :=
  mk_snd [(nn327, c1)] ⟨fun n => match n with | 0 => [(3, .int .u8), (9, .int .i64)] | 2 => [(3, .int .u8), (5, .int .u8), (13, .int .i64)] | _ => [], fun n => match n with | 11 => some [(3, .int .u8)] | _ => none⟩ [.slice] Tryz.func319 rfl (.cons h327 .nil)
theorem s301 (h266 : SN ads 266 c1) (h319 : SN ads 319 c2) : SN ads 301 (g301 c1 c2) :=
  mk_snd [(nn266, c1), (nn319, c2)] ⟨fun _ => [], fun _ => none⟩ [.slice] Tryz.func301 rfl (.cons h266 (.cons h319 .nil))
theorem s251 (h263 : SN ads 263 c1) (h300 : SN ads 300 c2) (h301 : SN ads 301 c3) : SN ads 251 (g251 c1 c2 c3) :=
  mk_snd [(nn263, c1), (nn300, c2), (nn301, c3)] ⟨fun n => match n with | 0 => [(4, .slice), (13, .int .i64)] | 3 => [(7, .slice), (49, .int .i64)] | _ => [], fun _ => none⟩ [.slice] Tryz.func251 rfl (.cons h263 (.cons h300 (.cons h301 .nil)))
theorem s217 (h286 : SN ads 286 c1) : SN ads 217 (g217 c1) :=
  mk_snd [(nn286, c1)] ⟨fun _ => [], fun _ => none⟩ [.slice, .any] Tryz.func217 rfl (.cons h286 .nil)
theorem s216 (h217 : SN ads 217 c1) : SN ads 216 (g216 c1) :=
  mk_snd [(nn217, c1)] ⟨fun _ => [], fun _ => none⟩ [.ptr] Tryz.func216 rfl (.cons h217 .nil)
theorem s252 (h172 : SN ads 172 c1) (h216 : SN ads 216 c2) (h217 : SN ads 217 c3) : SN ads 252 (g252 c1 c2 c3) :=
  mk_snd [(nn172, c1), (nn216, c2), (nn217, c3)] ⟨fun n => match n with | 0 => [(11, .int .i64)] | 2 => [(40, .int .i64)] | _ => [], fun n => match n with | 5 => some [(29, .bool)] | 16 => some [] | _ => none⟩ [.ptr, .slice] Tryz.func252 rfl (.cons h172 (.cons h216 (.cons h217 .nil)))
theorem s165 (h55 : SN ads 55 c1) (h167 : SN ads 167 c2) (h168 : SN ads 168 c3) (h249 : SN ads 249 c4) (h250 : SN ads 250 c5) (h251 : SN ads 251 c6) (h252 : SN ads 252 c7) : SN ads 165 (g165 c1 c2 c3 c4 c5 c6 c7) :=
  mk_snd [(nn55, c1), (nn167, c2), (nn168, c3), (nn249, c4), (nn250, c5), (nn251, c6), (nn252, c7)] ⟨fun n => match n with | 0 => [(15, .slice), (16, .slice), (77, .int .i64)] | _ => [], fun n => match n with | 18 => some [] | _ => none⟩ [.ptr, .ptr, .ptr, .bool] Tryz.func165 rfl (.cons h55 (.cons h167 (.cons h168 (.cons h249 (.cons h250 (.cons h251 (.cons h252 .nil)))))))
theorem s166 (h178 : SN ads 178 c1) : SN ads 166 (g166 c1) :=
  mk_snd [(nn178, c1)] ⟨fun _ => [], fun _ => none⟩ [.ptr, .int .i64] Tryz.func166 rfl (.cons h178 .nil)
theorem s89 (h55 : SN ads 55 c1) (h131 : SN ads 131 c2) (h154 : SN ads 154 c3) (h156 : SN ads 156 c4) (h157 : SN ads 157 c5) (h158 : SN ads 158 c6) (h159 : SN ads 159 c7) (h160 : SN ads 160 c8) (h161 : SN ads 161 c9) (h162 : SN ads 162 c10) (h163 : SN ads 163 c11) (h164 : SN ads 164 c12) (h165 : SN ads 165 c13) (h166 : SN ads 166 c14) (h167 : SN ads 167 c15) (h168 : SN ads 168 c16) : SN ads 89 (g89 c1 c2 c3 c4 c5 c6 c7 c8 c9 c10 c11 c12 c13 c14 c15 c16) :=
  mk_snd [(nn55, c1), (nn131, c2), (nn154, c3), (nn156, c4), (nn157, c5), (nn158, c6), (nn159, c7), (nn160, c8), (nn161, c9), (nn162, c10), (nn163, c11), (nn164, c12), (nn165, c13), (nn166, c14), (nn167, c15), (nn168, c16)] ⟨fun _ => [], fun n => match n with | 8 => some [(12, .int .i64)] | 16 => some [(131, .bool)] | 22 => some [] | _ => none⟩ [.ptr, .int .i64, .int .i64] Tryz.func89 rfl (.cons h55 (.cons h131 (.cons h154 (.cons h156 (.cons h157 (.cons h158 (.cons h159 (.cons h160 (.cons h161 (.cons h162 (.cons h163 (.cons h164 (.cons h165 (.cons h166 (.cons h167 (.cons h168 .nil))))))))))))))))
theorem s54 (h53 : SN ads 53 c1) : SN ads 54 (g54 c1) :=
  mk_snd [(nn53, c1)] ⟨fun _ => [], fun _ => none⟩ [] Tryz.func54 rfl (.cons h53 .nil)
theorem s19 (h53 : SN ads 53 c1) (h54 : SN ads 54 c2) : SN ads 19 (g19 c1 c2) :=
  mk_snd [(nn53, c1), (nn54, c2)] ⟨fun _ => [], fun _ => none⟩ [.any, .int .i64] Tryz.func19 rfl (.cons h53 (.cons h54 .nil))
theorem s253 (h151 : SN ads 151 c1) (h236 : SN ads 236 c2) (h237 : SN ads 237 c3) : SN ads 253 (g253 c1 c2 c3) :=
  mk_snd [(nn151, c1), (nn236, c2), (nn237, c3)] ⟨fun _ => [], fun _ => none⟩ [.any, .int .i64] Tryz.func253 rfl (.cons h151 (.cons h236 (.cons h237 .nil)))
theorem s169 (h177 : SN ads 177 c1) (h253 : SN ads 253 c2) : SN ads 169 (g169 c1 c2) :=
  mk_snd [(nn177, c1), (nn253, c2)] ⟨fun _ => [], fun n => match n with | 9 => some [] | _ => none⟩ [.ptr, .int .i64, .int .i64] Tryz.func169 rfl (.cons h177 (.cons h253 .nil))
theorem s170 (h123 : SN ads 123 c1) (h124 : SN ads 124 c2) : SN ads 170 (g170 c1 c2) :=
  mk_snd [(nn123, c1), (nn124, c2)] ⟨fun _ => [], fun _ => none⟩ [.ptr, .int .i64, .int .i64] Tryz.func170 rfl (.cons h123 (.cons h124 .nil))
theorem s90 (h19 : SN ads 19 c1) (h55 : SN ads 55 c2) (h169 : SN ads 169 c3) (h170 : SN ads 170 c4) : SN ads 90 (g90 c1 c2 c3 c4) :=
  mk_snd [(nn19, c1), (nn55, c2), (nn169, c3), (nn170, c4)] ⟨fun _ => [], fun _ => none⟩ [.ptr, .ptr, .int .i64] Tryz.func90 rfl (.cons h19 (.cons h55 (.cons h169 (.cons h170 .nil))))
theorem s33 (h55 : SN ads 55 c1) (h64 : SN ads 64 c2) (h83 : SN ads 83 c3) (h84 : SN ads 84 c4) (h85 : SN ads 85 c5) (h86 : SN ads 86 c6) (h87 : SN ads 87 c7) (h88 : SN ads 88 c8) (h89 : SN ads 89 c9) (h90 : SN ads 90 c10) : SN ads 33 (g33 c1 c2 c3 c4 c5 c6 c7 c8 c9 c10) :=
  mk_snd [(nn55, c1), (nn64, c2), (nn83, c3), (nn84, c4), (nn85, c5), (nn86, c6), (nn87, c7), (nn88, c8), (nn89, c9), (nn90, c10)] ⟨fun n => match n with | 0 => [(36, .int .i64)] | 2 => [(40, .int .i64)] | 4 => [(82, .int .i64)] | 6 => [(98, .int .i64)] | _ => [], fun n => match n with | 13 => some [] | 29 => some [] | _ => none⟩ [.ptr, .int .i64, .any] Tryz.func33 rfl (.cons h55 (.cons h64 (.cons h83 (.cons h84 (.cons h85 (.cons h86 (.cons h87 (.cons h88 (.cons h89 (.cons h90 .nil))))))))))
theorem s174 : SN ads 174 (g174) :=
  mk_snd [] ⟨fun n => match n with | 0 => [(12, .int .i64)] | _ => [], fun _ => none⟩ [.ptr, .any] Tryz.func174 rfl .nil
theorem s92 (h81 : SN ads 81 c1) (h174 : SN ads 174 c2) : SN ads 92 (g92 c1 c2) :=
  mk_snd [(nn81, c1), (nn174, c2)] ⟨fun n => match n with | 0 => [(22, .int .i64)] | _ => [], fun _ => none⟩ [.ptr, .any] Tryz.func92 rfl (.cons h81 (.cons h174 .nil))
theorem s176 : SN ads 176 (g176) :=
  mk_snd [] ⟨fun _ => [], fun _ => none⟩ [.int .i64] Tryz.func176 rfl .nil
theorem s93 (h175 : SN ads 175 c1) (h176 : SN ads 176 c2) (h177 : SN ads 177 c3) : SN ads 93 (g93 c1 c2 c3) :=
  mk_snd [(nn175, c1), (nn176, c2), (nn177, c3)] ⟨fun _ => [], fun _ => none⟩ [.ptr, .int .i64, .int .i64] Tryz.func93 rfl (.cons h175 (.cons h176 (.cons h177 .nil)))
theorem s94 (h178 : SN ads 178 c1) : SN ads 94 (g94 c1) :=
  mk_snd [(nn178, c1)] ⟨fun _ => [], fun _ => none⟩ [.ptr, .int .i64, .any, .int .i64] Tryz.func94 rfl (.cons h178 .nil)
theorem s34 (h77 : SN ads 77 c1) (h81 : SN ads 81 c2) (h91 : SN ads 91 c3) (h92 : SN ads 92 c4) (h93 : SN ads 93 c5) (h94 : SN ads 94 c6) : SN ads 34 (g34 c1 c2 c3 c4 c5 c6) :=
  mk_snd [(nn77, c1), (nn81, c2), (nn91, c3), (nn92, c4), (nn93, c5), (nn94, c6)] ⟨fun n => match n with | 1 => [(71, .int .i64)] | 3 => [(107, .int .i64)] | _ => [], fun _ => none⟩ [.ptr, .any, .any, .int .i64, .any, .int .i64] Tryz.func34 rfl (.cons h77 (.cons h81 (.cons h91 (.cons h92 (.cons h93 (.cons h94 .nil))))))
theorem s35 : SN ads 35 (g35) :=
  mk_snd [] ⟨fun _ => [], fun _ => none⟩ [.int .i64] Tryz.func35 rfl .nil
theorem s12 (h14 : SN ads 14 c1) (h32 : SN ads 32 c2) (h33 : SN ads 33 c3) (h34 : SN ads 34 c4) (h35 : SN ads 35 c5) : SN ads 12 (g12 c1 c2 c3 c4 c5) :=
  mk_snd [(nn14, c1), (nn32, c2), (nn33, c3), (nn34, c4), (nn35, c5)] ⟨fun _ => [], fun _ => none⟩ [] Tryz.func12 rfl (.cons h14 (.cons h32 (.cons h33 (.cons h34 (.cons h35 .nil)))))
theorem s15 (h32 : SN ads 32 c1) : SN ads 15 (g15 c1) :=
  mk_snd [(nn32, c1)] ⟨fun _ => [], fun _ => none⟩ [.any, .int .i64] Tryz.func15 rfl (.cons h32 .nil)
theorem s58 : SN ads 58 (g58) :=
  mk_snd [] ⟨fun _ => [], fun _ => none⟩ [.ptr, .ptr] Tryz.func58 rfl .nil
theorem s122 : SN ads 122 (g122) :=
  mk_snd [] ⟨fun _ => [], fun _ => none⟩ [.ptr, .ptr] Tryz.func122 rfl .nil
theorem s180 : SN ads 180 (g180) :=
  mk_snd [] ⟨fun _ => [], fun _ => none⟩ [.ptr, .ptr] Tryz.func180 rfl .nil
theorem s121 (h58 : SN ads 58 c1) (h122 : SN ads 122 c2) (h180 : SN ads 180 c3) : SN ads 121 (g121 c1 c2 c3) :=
  mk_snd [(nn58, c1), (nn122, c2), (nn180, c3)] ⟨fun n => match n with | 0 => [(8, .int .i64)] | _ => [], fun _ => none⟩ [.slice, .any] Tryz.func121 rfl (.cons h58 (.cons h122 (.cons h180 .nil)))
theorem s56 (h121 : SN ads 121 c1) : SN ads 56 (g56 c1) :=
  mk_snd [(nn121, c1)] ⟨fun _ => [], fun _ => none⟩ [.ptr, .int .i64] Tryz.func56 rfl (.cons h121 .nil)
theorem s57 (h58 : SN ads 58 c1) (h121 : SN ads 121 c2) (h180 : SN ads 180 c3) : SN ads 57 (g57 c1 c2 c3) :=
  mk_snd [(nn58, c1), (nn121, c2), (nn180, c3)] ⟨fun n => match n with | 0 => [(5, .int .i64), (6, .int .i64)] | _ => [], fun n => match n with | 6 => some [(5, .int .i64)] | _ => none⟩ [.slice, .any] Tryz.func57 rfl (.cons h58 (.cons h121 (.cons h180 .nil)))
theorem s59 (h123 : SN ads 123 c1) (h124 : SN ads 124 c2) (h125 : SN ads 125 c3) : SN ads 59 (g59 c1 c2 c3) :=
  mk_snd [(nn123, c1), (nn124, c2), (nn125, c3)] ⟨fun _ => [], fun _ => none⟩ [.ptr, .int .i64, .int .i64] Tryz.func59 rfl (.cons h123 (.cons h124 (.cons h125 .nil)))
theorem s275 : SN ads 275 (g275) :=
  mk_snd [] ⟨fun _ => [], fun _ => none⟩ [.slice, .int .u8, .int .i64] Tryz.func275 rfl .nil
end
end Go.Proofs.YtcefbgcgldagfaaGreatDoor
