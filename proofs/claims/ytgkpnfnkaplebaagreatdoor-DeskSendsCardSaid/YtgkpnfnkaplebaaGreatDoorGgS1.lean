/- The printed functions are the machine's own, by the kernel. -/
import Derived.Test.YtgkpnfnkaplebaaGreatDoorGgD1
import Derived.Test.YtgkpnfnkaplebaaGreatDoorRows
set_option linter.unusedVariables false
set_option linter.constructorNameAsVariable false
set_option maxRecDepth 100000
namespace Go.Proofs.YtgkpnfnkaplebaaGreatDoor
open Go.Vc Go.Ab
noncomputable section
variable (v1 v2 : AV) (l1 l2 l3 l4 : List AV) (L1 L2 : List AP) (d1 d2 d3 d4 : DV) (R1 : List DV) (n1 n2 n3 n4 n5 n6 n7 n8 : Int) (m1 m2 m3 m4 : Nat) (t1 t2 t3 t4 : Bool) (p1 p2 p3 p4 p5 : AP) (b1 b2 b3 b4 b5 : P4) (s1 s2 s3 : AS) (H1 : AH) (x1 x2 : List Int) (c1 c2 c3 c4 c5 c6 c7 c8 c9 c10 c11 c12 c13 c14 c15 : G DV) (Ka1 Ka2 : AH → Option DV) (Kb1 Kb2 : DV → AH → Option DV) (Kc1 Kc2 : DV → DV → AH → Option DV) (Kd1 : DV → DV → DV → AH → Option DV)
variable {ads : List Addr}
theorem k376 : SN ads 376 (g376) :=
  mk_snd [] ⟨fun _ => [], fun n => match n with | 7 => some [(39, .bool)] | _ => none⟩ [.ptr] Tryz.func376 rfl .nil
theorem k375 (h376 : SN ads 376 c1) : SN ads 375 (g375 c1) :=
  mk_snd [(nn376, c1)] ⟨fun _ => [], fun _ => none⟩ [.ptr] Tryz.func375 rfl (.cons h376 .nil)
theorem k374 (h375 : SN ads 375 c1) : SN ads 374 (g374 c1) :=
  mk_snd [(nn375, c1)] ⟨fun _ => [], fun _ => none⟩ [.any, .int .i64, .int .i64, .int .i64, .int .i64, .slice] Tryz.func374 rfl (.cons h375 .nil)
theorem k372 (h345 : SN ads 345 c1) (h374 : SN ads 374 c2) : SN ads 372 (g372 c1 c2) :=
  mk_snd [(nn345, c1), (nn374, c2)] ⟨fun n => match n with | 0 => [(9, .slice), (26, .int .i64)] | 2 => [(15, .slice), (68, .int .i64)] | _ => [], fun _ => none⟩ [.ptr, .int .i64, .int .i64] Tryz.func372 rfl (.cons h345 (.cons h374 .nil))
theorem k364 (h345 : SN ads 345 c1) (h372 : SN ads 372 c2) : SN ads 364 (g364 c1 c2) :=
  mk_snd [(nn345, c1), (nn372, c2)] ⟨fun n => match n with | 0 => [(7, .slice)] | _ => [], fun n => match n with | 5 => some [(8, .ptr), (9, .bool)] | _ => none⟩ [.ptr, .int .i64] Tryz.func364 rfl (.cons h345 (.cons h372 .nil))
theorem k348 (h194 : SN ads 194 c1) (h364 : SN ads 364 c2) : SN ads 348 (g348 c1 c2) :=
  mk_snd [(nn194, c1), (nn364, c2)] ⟨fun _ => [], fun _ => none⟩ [.ptr, .int .i64, .int .i64, .int .i64] Tryz.func348 rfl (.cons h194 (.cons h364 .nil))
theorem k249 (h303 : SN ads 303 c1) : SN ads 249 (g249 c1) :=
  mk_snd [(nn303, c1)] ⟨fun _ => [], fun _ => none⟩ [.int .i64, .int .i64] Tryz.func249 rfl (.cons h303 .nil)
theorem k365 (h249 : SN ads 249 c1) (h327 : SN ads 327 c2) : SN ads 365 (g365 c1 c2) :=
  mk_snd [(nn249, c1), (nn327, c2)] ⟨fun _ => [], fun _ => none⟩ [.ptr] Tryz.func365 rfl (.cons h249 (.cons h327 .nil))
theorem k349 (h275 : SN ads 275 c1) (h365 : SN ads 365 c2) : SN ads 349 (g349 c1 c2) :=
  mk_snd [(nn275, c1), (nn365, c2)] ⟨fun _ => [], fun _ => none⟩ [.ptr, .any, .int .i64] Tryz.func349 rfl (.cons h275 (.cons h365 .nil))
theorem k328 (h166 : SN ads 166 c1) (h255 : SN ads 255 c2) (h348 : SN ads 348 c3) (h349 : SN ads 349 c4) : SN ads 328 (g328 c1 c2 c3 c4) :=
  mk_snd [(nn166, c1), (nn255, c2), (nn348, c3), (nn349, c4)] ⟨fun _ => [], fun _ => none⟩ [.ptr, .ptr, .ptr] Tryz.func328 rfl (.cons h166 (.cons h255 (.cons h348 (.cons h349 .nil))))
theorem k334 (h127 : SN ads 127 c1) : SN ads 334 (g334 c1) :=
  mk_snd [(nn127, c1)] ⟨fun _ => [], fun _ => none⟩ [.any] Tryz.func334 rfl (.cons h127 .nil)
theorem k335 (h127 : SN ads 127 c1) : SN ads 335 (g335 c1) :=
  mk_snd [(nn127, c1)] ⟨fun _ => [], fun _ => none⟩ [.any] Tryz.func335 rfl (.cons h127 .nil)
theorem k336 (h127 : SN ads 127 c1) : SN ads 336 (g336 c1) :=
  mk_snd [(nn127, c1)] ⟨fun _ => [], fun _ => none⟩ [.any] Tryz.func336 rfl (.cons h127 .nil)
theorem k296 (h127 : SN ads 127 c1) (h334 : SN ads 334 c2) (h335 : SN ads 335 c3) (h336 : SN ads 336 c4) : SN ads 296 (g296 c1 c2 c3 c4) :=
  mk_snd [(nn127, c1), (nn334, c2), (nn335, c3), (nn336, c4)] ⟨fun _ => [], fun _ => none⟩ [.any, .int .i64] Tryz.func296 rfl (.cons h127 (.cons h334 (.cons h335 (.cons h336 .nil))))
theorem k350 : SN ads 350 (g350) :=
  mk_snd [] ⟨fun _ => [], fun _ => none⟩ [.int .i64] Tryz.func350 rfl .nil
theorem k366 (h350 : SN ads 350 c1) : SN ads 366 (g366 c1) :=
  mk_snd [(nn350, c1)] ⟨fun n => match n with | 0 => [(8, .int .i64)] | _ => [], fun _ => none⟩ [.slice, .any] Tryz.func366 rfl (.cons h350 .nil)
theorem k351 (h366 : SN ads 366 c1) : SN ads 351 (g351 c1) :=
  mk_snd [(nn366, c1)] ⟨fun _ => [], fun _ => none⟩ [.slice, .any] Tryz.func351 rfl (.cons h366 .nil)
theorem k331 (h127 : SN ads 127 c1) (h235 : SN ads 235 c2) (h296 : SN ads 296 c3) (h351 : SN ads 351 c4) : SN ads 331 (g331 c1 c2 c3 c4) :=
  mk_snd [(nn127, c1), (nn235, c2), (nn296, c3), (nn351, c4)] ⟨fun _ => [], fun _ => none⟩ [.any, .any, .slice] Tryz.func331 rfl (.cons h127 (.cons h235 (.cons h296 (.cons h351 .nil))))
theorem k329 (h127 : SN ads 127 c1) (h331 : SN ads 331 c2) (h350 : SN ads 350 c3) : SN ads 329 (g329 c1 c2 c3) :=
  mk_snd [(nn127, c1), (nn331, c2), (nn350, c3)] ⟨fun n => match n with | 0 => [(8, .int .i64)] | _ => [], fun _ => none⟩ [.any, .any, .slice] Tryz.func329 rfl (.cons h127 (.cons h331 (.cons h350 .nil)))
theorem k332 : SN ads 332 (g332) :=
  mk_snd [] ⟨fun _ => [], fun _ => none⟩ [.int .i64] Tryz.func332 rfl .nil
theorem k330 (h332 : SN ads 332 c1) : SN ads 330 (g330 c1) :=
  mk_snd [(nn332, c1)] ⟨fun n => match n with | 0 => [(3, .slice), (8, .int .i64)] | _ => [], fun _ => none⟩ [.slice] Tryz.func330 rfl (.cons h332 .nil)
theorem k293 (h219 : SN ads 219 c1) (h222 : SN ads 222 c2) (h284 : SN ads 284 c3) (h328 : SN ads 328 c4) (h329 : SN ads 329 c5) (h330 : SN ads 330 c6) (h331 : SN ads 331 c7) (h332 : SN ads 332 c8) : SN ads 293 (g293 c1 c2 c3 c4 c5 c6 c7 c8) :=
  mk_snd [(nn219, c1), (nn222, c2), (nn284, c3), (nn328, c4), (nn329, c5), (nn330, c6), (nn331, c7), (nn332, c8)] ⟨fun n => match n with | 0 => [(13, .slice)] | _ => [], fun n => match n with | 8 => some [(13, .slice)] | 14 => some [] | 17 => some [(13, .slice)] | _ => none⟩ [.ptr, .ptr, .ptr, .any, .bool] Tryz.func293 rfl (.cons h219 (.cons h222 (.cons h284 (.cons h328 (.cons h329 (.cons h330 (.cons h331 (.cons h332 .nil))))))))
theorem k294 : SN ads 294 (g294) :=
  mk_snd [] ⟨fun n => match n with | 0 => [(6, .slice), (60, .int .i64)] | _ => [], fun n => match n with | 6 => some [(4, .int .u8)] | 8 => some [(4, .int .u8)] | 10 => some [(5, .int .u8)] | _ => none⟩ [.any] Tryz.func294 rfl .nil
theorem k310 (h342 : SN ads 342 c1) : SN ads 310 (g310 c1) :=
  mk_snd [(nn342, c1)] ⟨fun _ => [], fun _ => none⟩ [.slice, .any] Tryz.func310 rfl (.cons h342 .nil)
theorem k309 (h310 : SN ads 310 c1) : SN ads 309 (g309 c1) :=
  mk_snd [(nn310, c1)] ⟨fun _ => [], fun _ => none⟩ [.ptr] Tryz.func309 rfl (.cons h310 .nil)
theorem k295 (h197 : SN ads 197 c1) (h309 : SN ads 309 c2) (h310 : SN ads 310 c3) : SN ads 295 (g295 c1 c2 c3) :=
  mk_snd [(nn197, c1), (nn309, c2), (nn310, c3)] ⟨fun n => match n with | 0 => [(11, .int .i64)] | 2 => [(40, .int .i64)] | _ => [], fun n => match n with | 5 => some [(29, .bool)] | 16 => some [] | _ => none⟩ [.ptr, .slice] Tryz.func295 rfl (.cons h197 (.cons h309 (.cons h310 .nil)))
theorem k225 (h73 : SN ads 73 c1) (h124 : SN ads 124 c2) (h140 : SN ads 140 c3) (h227 : SN ads 227 c4) (h293 : SN ads 293 c5) (h294 : SN ads 294 c6) (h295 : SN ads 295 c7) : SN ads 225 (g225 c1 c2 c3 c4 c5 c6 c7) :=
  mk_snd [(nn73, c1), (nn124, c2), (nn140, c3), (nn227, c4), (nn293, c5), (nn294, c6), (nn295, c7)] ⟨fun n => match n with | 0 => [(15, .slice), (16, .slice), (77, .int .i64)] | _ => [], fun n => match n with | 18 => some [] | _ => none⟩ [.ptr, .ptr, .ptr, .bool] Tryz.func225 rfl (.cons h73 (.cons h124 (.cons h140 (.cons h227 (.cons h293 (.cons h294 (.cons h295 .nil)))))))
theorem k226 (h123 : SN ads 123 c1) : SN ads 226 (g226 c1) :=
  mk_snd [(nn123, c1)] ⟨fun _ => [], fun _ => none⟩ [.ptr, .int .i64] Tryz.func226 rfl (.cons h123 .nil)
theorem k137 (h73 : SN ads 73 c1) (h124 : SN ads 124 c2) (h164 : SN ads 164 c3) (h214 : SN ads 214 c4) (h216 : SN ads 216 c5) (h217 : SN ads 217 c6) (h218 : SN ads 218 c7) (h219 : SN ads 219 c8) (h220 : SN ads 220 c9) (h222 : SN ads 222 c10) (h223 : SN ads 223 c11) (h224 : SN ads 224 c12) (h225 : SN ads 225 c13) (h226 : SN ads 226 c14) (h227 : SN ads 227 c15) : SN ads 137 (g137 c1 c2 c3 c4 c5 c6 c7 c8 c9 c10 c11 c12 c13 c14 c15) :=
  mk_snd [(nn73, c1), (nn124, c2), (nn164, c3), (nn214, c4), (nn216, c5), (nn217, c6), (nn218, c7), (nn219, c8), (nn220, c9), (nn222, c10), (nn223, c11), (nn224, c12), (nn225, c13), (nn226, c14), (nn227, c15)] ⟨fun _ => [], fun n => match n with | 8 => some [(12, .int .i64)] | 16 => some [(131, .bool)] | 22 => some [] | _ => none⟩ [.ptr, .int .i64, .int .i64] Tryz.func137 rfl (.cons h73 (.cons h124 (.cons h164 (.cons h214 (.cons h216 (.cons h217 (.cons h218 (.cons h219 (.cons h220 (.cons h222 (.cons h223 (.cons h224 (.cons h225 (.cons h226 (.cons h227 .nil)))))))))))))))
theorem k297 (h296 : SN ads 296 c1) : SN ads 297 (g297 c1) :=
  mk_snd [(nn296, c1)] ⟨fun _ => [], fun _ => none⟩ [] Tryz.func297 rfl (.cons h296 .nil)
theorem k228 (h296 : SN ads 296 c1) (h297 : SN ads 297 c2) : SN ads 228 (g228 c1 c2) :=
  mk_snd [(nn296, c1), (nn297, c2)] ⟨fun _ => [], fun _ => none⟩ [.any, .int .i64] Tryz.func228 rfl (.cons h296 (.cons h297 .nil))
theorem k298 (h209 : SN ads 209 c1) (h282 : SN ads 282 c2) (h283 : SN ads 283 c3) : SN ads 298 (g298 c1 c2 c3) :=
  mk_snd [(nn209, c1), (nn282, c2), (nn283, c3)] ⟨fun _ => [], fun _ => none⟩ [.any, .int .i64] Tryz.func298 rfl (.cons h209 (.cons h282 (.cons h283 .nil)))
theorem k229 (h201 : SN ads 201 c1) (h298 : SN ads 298 c2) : SN ads 229 (g229 c1 c2) :=
  mk_snd [(nn201, c1), (nn298, c2)] ⟨fun _ => [], fun n => match n with | 9 => some [] | _ => none⟩ [.ptr, .int .i64, .int .i64] Tryz.func229 rfl (.cons h201 (.cons h298 .nil))
theorem k230 (h101 : SN ads 101 c1) (h211 : SN ads 211 c2) : SN ads 230 (g230 c1 c2) :=
  mk_snd [(nn101, c1), (nn211, c2)] ⟨fun _ => [], fun _ => none⟩ [.ptr, .int .i64, .int .i64] Tryz.func230 rfl (.cons h101 (.cons h211 .nil))
theorem k138 (h124 : SN ads 124 c1) (h228 : SN ads 228 c2) (h229 : SN ads 229 c3) (h230 : SN ads 230 c4) : SN ads 138 (g138 c1 c2 c3 c4) :=
  mk_snd [(nn124, c1), (nn228, c2), (nn229, c3), (nn230, c4)] ⟨fun _ => [], fun _ => none⟩ [.ptr, .ptr, .int .i64] Tryz.func138 rfl (.cons h124 (.cons h228 (.cons h229 (.cons h230 .nil))))
theorem k78 (h71 : SN ads 71 c1) (h124 : SN ads 124 c2) (h131 : SN ads 131 c3) (h132 : SN ads 132 c4) (h133 : SN ads 133 c5) (h134 : SN ads 134 c6) (h135 : SN ads 135 c7) (h136 : SN ads 136 c8) (h137 : SN ads 137 c9) (h138 : SN ads 138 c10) : SN ads 78 (g78 c1 c2 c3 c4 c5 c6 c7 c8 c9 c10) :=
  mk_snd [(nn71, c1), (nn124, c2), (nn131, c3), (nn132, c4), (nn133, c5), (nn134, c6), (nn135, c7), (nn136, c8), (nn137, c9), (nn138, c10)] ⟨fun n => match n with | 0 => [(36, .int .i64)] | 2 => [(40, .int .i64)] | 4 => [(82, .int .i64)] | 6 => [(98, .int .i64)] | _ => [], fun n => match n with | 13 => some [] | 29 => some [] | _ => none⟩ [.ptr, .int .i64, .any] Tryz.func78 rfl (.cons h71 (.cons h124 (.cons h131 (.cons h132 (.cons h133 (.cons h134 (.cons h135 (.cons h136 (.cons h137 (.cons h138 .nil))))))))))
theorem k80 : SN ads 80 (g80) :=
  mk_snd [] ⟨fun _ => [], fun _ => none⟩ [.any, .ptr] Tryz.func80 rfl .nil
theorem k79 (h80 : SN ads 80 c1) : SN ads 79 (g79 c1) :=
  mk_snd [(nn80, c1)] ⟨fun n => match n with | 0 => [(8, .int .i64)] | _ => [], fun _ => none⟩ [.slice, .any] Tryz.func79 rfl (.cons h80 .nil)
theorem k299 : SN ads 299 (g299) :=
  mk_snd [] ⟨fun _ => [], fun _ => none⟩ [.slice] Tryz.func299 rfl .nil
theorem k300 (h302 : SN ads 302 c1) : SN ads 300 (g300 c1) :=
  mk_snd [(nn302, c1)] ⟨fun _ => [], fun _ => none⟩ [.slice] Tryz.func300 rfl (.cons h302 .nil)
theorem k231 (h64 : SN ads 64 c1) (h299 : SN ads 299 c2) (h300 : SN ads 300 c3) : SN ads 231 (g231 c1 c2 c3) :=
  mk_snd [(nn64, c1), (nn299, c2), (nn300, c3)] ⟨fun _ => [], fun _ => none⟩ [.slice] Tryz.func231 rfl (.cons h64 (.cons h299 (.cons h300 .nil)))
theorem k234 : SN ads 234 (g234) :=
  mk_snd [] ⟨fun _ => [], fun _ => none⟩ [.int .u8] Tryz.func234 rfl .nil
theorem k301 (h234 : SN ads 234 c1) : SN ads 301 (g301 c1) :=
  mk_snd [(nn234, c1)] ⟨fun n => match n with | 0 => [(8, .int .i64)] | _ => [], fun _ => none⟩ [.slice, .any] Tryz.func301 rfl (.cons h234 .nil)
theorem k233 (h301 : SN ads 301 c1) : SN ads 233 (g233 c1) :=
  mk_snd [(nn301, c1)] ⟨fun _ => [], fun _ => none⟩ [.slice, .any] Tryz.func233 rfl (.cons h301 .nil)
theorem k139 (h231 : SN ads 231 c1) (h232 : SN ads 232 c2) (h233 : SN ads 233 c3) : SN ads 139 (g139 c1 c2 c3) :=
  mk_snd [(nn231, c1), (nn232, c2), (nn233, c3)] ⟨fun n => match n with | 0 => [(0, .slice), (5, .slice)] | _ => [], fun _ => none⟩ [.slice] Tryz.func139 rfl (.cons h231 (.cons h232 (.cons h233 .nil)))
theorem k81 (h139 : SN ads 139 c1) (h140 : SN ads 140 c2) : SN ads 81 (g81 c1 c2) :=
  mk_snd [(nn139, c1), (nn140, c2)] ⟨fun n => match n with | 0 => [(8, .slice), (30, .int .i64)] | _ => [], fun n => match n with | 12 => some [(8, .slice)] | _ => none⟩ [.any, .int .u64] Tryz.func81 rfl (.cons h139 (.cons h140 .nil))
theorem k237 : SN ads 237 (g237) :=
  mk_snd [] ⟨fun _ => [], fun _ => none⟩ [.slice, .int .u8, .int .i64] Tryz.func237 rfl .nil
theorem k259 : SN ads 259 (g259) :=
  mk_snd [] ⟨fun _ => [], fun _ => none⟩ [.slice] Tryz.func259 rfl .nil
theorem k238 (h259 : SN ads 259 c1) : SN ads 238 (g238 c1) :=
  mk_snd [(nn259, c1)] ⟨fun _ => [], fun _ => none⟩ [.slice] Tryz.func238 rfl (.cons h259 .nil)
theorem k141 (h76 : SN ads 76 c3) (h237 : SN ads 237 c1) (h238 : SN ads 238 c2) : SN ads 141 (g141 c1 c2) :=
  mk_snd [(nn76, c3), (nn237, c1), (nn238, c2)] ⟨fun _ => [], fun _ => none⟩ [.slice] Tryz.func141 rfl (.cons h76 (.cons h237 (.cons h238 .nil)))
theorem k354 : SN ads 354 (g354) :=
  mk_snd [] ⟨fun n => match n with | 0 => [(8, .int .i64)] | 2 => [(9, .int .i64)] | _ => [], fun n => match n with | 2 => some [] | 6 => some [] | _ => none⟩ [.slice, .int .i64, .int .i64, .any] Tryz.func354 rfl .nil
theorem k339 (h354 : SN ads 354 c1) : SN ads 339 (g339 c1) :=
  mk_snd [(nn354, c1)] ⟨fun n => match n with | 0 => [(1, .int .i64), (2, .int .i64), (3, .int .i64), (10, .bool), (11, .bool)] | _ => [], fun n => match n with | 10 => some [(3, .int .i64)] | 15 => some [(13, .int .i64), (14, .int .i64)] | 17 => some [] | 18 => some [(97, .bool)] | _ => none⟩ [.slice, .int .i64, .int .i64, .int .i64, .any] Tryz.func339 rfl (.cons h354 .nil)
theorem k188 : SN ads 188 (g188) :=
  mk_snd [] ⟨fun _ => [], fun n => match n with | 4 => some [(0, .int .u64), (2, .int .i64)] | 7 => some [(0, .int .u64), (2, .int .i64)] | 10 => some [(0, .int .u64), (2, .int .i64)] | _ => none⟩ [.int .u64] Tryz.func188 rfl .nil
theorem k340 (h188 : SN ads 188 c1) : SN ads 340 (g340 c1) :=
  mk_snd [(nn188, c1)] ⟨fun _ => [], fun _ => none⟩ [.int .u64] Tryz.func340 rfl (.cons h188 .nil)
theorem k305 (h339 : SN ads 339 c1) (h340 : SN ads 340 c2) : SN ads 305 (g305 c1 c2) :=
  mk_snd [(nn339, c1), (nn340, c2)] ⟨fun _ => [], fun _ => none⟩ [.slice, .any] Tryz.func305 rfl (.cons h339 (.cons h340 .nil))
theorem k247 (h303 : SN ads 303 c1) (h305 : SN ads 305 c2) : SN ads 247 (g247 c1 c2) :=
  mk_snd [(nn303, c1), (nn305, c2)] ⟨fun n => match n with | 0 => [(5, .slice), (10, .int .i64)] | _ => [], fun _ => none⟩ [.int .i64, .slice] Tryz.func247 rfl (.cons h303 (.cons h305 .nil))
theorem k146 (h247 : SN ads 247 c1) : SN ads 146 (g146 c1) :=
  mk_snd [(nn247, c1)] ⟨fun n => match n with | 0 => [(3, .slice)] | 2 => [(5, .slice), (28, .int .i64)] | _ => [], fun _ => none⟩ [.ptr] Tryz.func146 rfl (.cons h247 .nil)
theorem k144 (h146 : SN ads 146 c1) (h224 : SN ads 224 c2) : SN ads 144 (g144 c1 c2) :=
  mk_snd [(nn146, c1), (nn224, c2)] ⟨fun _ => [], fun n => match n with | 2 => some [(30, .bool)] | 8 => some [(8, .int .i64)] | _ => none⟩ [.ptr, .any] Tryz.func144 rfl (.cons h146 (.cons h224 .nil))
theorem k82 (h141 : SN ads 141 c1) (h143 : SN ads 143 c2) (h144 : SN ads 144 c3) (h146 : SN ads 146 c4) : SN ads 82 (g82 c1 c2 c3) :=
  mk_snd [(nn141, c1), (nn143, c2), (nn144, c3), (nn146, c4)] ⟨fun _ => [], fun n => match n with | 9 => some [(66, .bool)] | _ => none⟩ [.ptr, .slice] Tryz.func82 rfl (.cons h141 (.cons h143 (.cons h144 (.cons h146 .nil))))
theorem k147 (h231 : SN ads 231 c1) (h232 : SN ads 232 c2) : SN ads 147 (g147 c1 c2) :=
  mk_snd [(nn231, c1), (nn232, c2)] ⟨fun n => match n with | 0 => [(0, .slice), (3, .slice)] | _ => [], fun _ => none⟩ [.slice] Tryz.func147 rfl (.cons h231 (.cons h232 .nil))
theorem k148 (h64 : SN ads 64 c1) : SN ads 148 (g148 c1) :=
  mk_snd [(nn64, c1)] ⟨fun n => match n with | 2 => [(97, .int .i64)] | _ => [], fun n => match n with | 12 => some [(31, .bool)] | _ => none⟩ [.slice] Tryz.func148 rfl (.cons h64 .nil)
theorem k241 (h249 : SN ads 249 c1) : SN ads 241 (g241 c1) :=
  mk_snd [(nn249, c1)] ⟨fun n => match n with | 0 => [(3, .slice)] | _ => [], fun _ => none⟩ [.ptr] Tryz.func241 rfl (.cons h249 .nil)
theorem k248 (h239 : SN ads 239 c1) (h249 : SN ads 249 c2) : SN ads 248 (g248 c1 c2) :=
  mk_snd [(nn239, c1), (nn249, c2)] ⟨fun _ => [], fun n => match n with | 3 => some [] | _ => none⟩ [.ptr, .int .i64] Tryz.func248 rfl (.cons h239 (.cons h249 .nil))
theorem k149 (h239 : SN ads 239 c1) (h241 : SN ads 241 c2) (h248 : SN ads 248 c3) (h249 : SN ads 249 c4) : SN ads 149 (g149 c1 c2 c3 c4) :=
  mk_snd [(nn239, c1), (nn241, c2), (nn248, c3), (nn249, c4)] ⟨fun _ => [], fun n => match n with | 3 => some [(5, .bool)] | 14 => some [(7, .slice)] | 17 => some [] | _ => none⟩ [.ptr, .any] Tryz.func149 rfl (.cons h239 (.cons h241 (.cons h248 (.cons h249 .nil))))
theorem k176 : SN ads 176 (g176) :=
  mk_snd [] ⟨fun _ => [], fun _ => none⟩ [.int .i64] Tryz.func176 rfl .nil
theorem k287 (h176 : SN ads 176 c1) : SN ads 287 (g287 c1) :=
  mk_snd [(nn176, c1)] ⟨fun _ => [], fun _ => none⟩ [.int .u8, .any, .any, .int .i64, .int .i64] Tryz.func287 rfl (.cons h176 .nil)
theorem k250 (h287 : SN ads 287 c1) : SN ads 250 (g250 c1) :=
  mk_snd [(nn287, c1)] ⟨fun n => match n with | 0 => [(4, .slice), (22, .int .i64)] | _ => [], fun _ => none⟩ [.any] Tryz.func250 rfl (.cons h287 .nil)
theorem k150 (h250 : SN ads 250 c1) : SN ads 150 (g150 c1) :=
  mk_snd [(nn250, c1)] ⟨fun _ => [], fun n => match n with | 5 => some [] | _ => none⟩ [.ptr, .int .i64] Tryz.func150 rfl (.cons h250 .nil)
theorem k84 (h147 : SN ads 147 c1) (h148 : SN ads 148 c2) (h149 : SN ads 149 c3) (h150 : SN ads 150 c4) : SN ads 84 (g84 c1 c2 c3 c4) :=
  mk_snd [(nn147, c1), (nn148, c2), (nn149, c3), (nn150, c4)] ⟨fun n => match n with | 0 => [(9, .slice), (10, .int .i64), (22, .int .i64)] | _ => [], fun n => match n with | 4 => some [(8, .slice)] | 11 => some [] | 13 => some [(9, .slice), (10, .int .i64)] | _ => none⟩ [.ptr, .bool, .slice] Tryz.func84 rfl (.cons h147 (.cons h148 (.cons h149 (.cons h150 .nil))))
theorem k83 (h84 : SN ads 84 c1) : SN ads 83 (g83 c1) :=
  mk_snd [(nn84, c1)] ⟨fun _ => [], fun _ => none⟩ [.slice, .ptr, .ptr] Tryz.func83 rfl (.cons h84 .nil)
theorem k85 : SN ads 85 (g85) :=
  mk_snd [] ⟨fun n => match n with | 0 => [(12, .int .i64)] | _ => [], fun _ => none⟩ [.ptr, .ptr, .int .i64, .slice] Tryz.func85 rfl .nil
theorem k153 : SN ads 153 (g153) :=
  mk_snd [] ⟨fun _ => [], fun _ => none⟩ [.ptr, .ptr] Tryz.func153 rfl .nil
theorem k252 : SN ads 252 (g252) :=
  mk_snd [] ⟨fun _ => [], fun _ => none⟩ [.ptr, .ptr] Tryz.func252 rfl .nil
theorem k251 (h153 : SN ads 153 c1) (h252 : SN ads 252 c2) : SN ads 251 (g251 c1 c2) :=
  mk_snd [(nn153, c1), (nn252, c2)] ⟨fun n => match n with | 0 => [(8, .int .i64)] | _ => [], fun _ => none⟩ [.slice, .any] Tryz.func251 rfl (.cons h153 (.cons h252 .nil))
theorem k151 (h251 : SN ads 251 c1) : SN ads 151 (g151 c1) :=
  mk_snd [(nn251, c1)] ⟨fun _ => [], fun _ => none⟩ [.ptr, .int .i64] Tryz.func151 rfl (.cons h251 .nil)
theorem k152 (h153 : SN ads 153 c1) (h251 : SN ads 251 c2) : SN ads 152 (g152 c1 c2) :=
  mk_snd [(nn153, c1), (nn251, c2)] ⟨fun n => match n with | 0 => [(5, .int .i64), (6, .int .i64)] | _ => [], fun n => match n with | 6 => some [(5, .int .i64)] | _ => none⟩ [.slice, .any] Tryz.func152 rfl (.cons h153 (.cons h251 .nil))
theorem k154 (h101 : SN ads 101 c1) (h211 : SN ads 211 c2) (h212 : SN ads 212 c3) : SN ads 154 (g154 c1 c2 c3) :=
  mk_snd [(nn101, c1), (nn211, c2), (nn212, c3)] ⟨fun _ => [], fun _ => none⟩ [.ptr, .int .i64, .int .i64] Tryz.func154 rfl (.cons h101 (.cons h211 (.cons h212 .nil)))
theorem k307 (h76 : SN ads 76 c1) (h237 : SN ads 237 c2) (h238 : SN ads 238 c3) (h250 : SN ads 250 c4) : SN ads 307 (g307 c1 c2 c3 c4) :=
  mk_snd [(nn76, c1), (nn237, c2), (nn238, c3), (nn250, c4)] ⟨fun n => match n with | 0 => [(27, .int .i64)] | _ => [], fun _ => none⟩ [.slice] Tryz.func307 rfl (.cons h76 (.cons h237 (.cons h238 (.cons h250 .nil))))
theorem k253 (h307 : SN ads 307 c1) : SN ads 253 (g253 c1) :=
  mk_snd [(nn307, c1)] ⟨fun _ => [], fun _ => none⟩ [.ptr, .ptr, .slice] Tryz.func253 rfl (.cons h307 .nil)
theorem k312 : SN ads 312 (g312) :=
  mk_snd [] ⟨fun n => match n with | 0 => [(8, .int .i64)] | _ => [], fun _ => none⟩ [.ptr] Tryz.func312 rfl .nil
theorem k254 (h278 : SN ads 278 c1) (h309 : SN ads 309 c2) (h310 : SN ads 310 c3) (h312 : SN ads 312 c4) : SN ads 254 (g254 c1 c2 c3 c4) :=
  mk_snd [(nn278, c1), (nn309, c2), (nn310, c3), (nn312, c4)] ⟨fun _ => [], fun n => match n with | 5 => some [(14, .bool)] | _ => none⟩ [.ptr, .any] Tryz.func254 rfl (.cons h278 (.cons h309 (.cons h310 (.cons h312 .nil))))
theorem k155 (h253 : SN ads 253 c1) (h254 : SN ads 254 c2) (h255 : SN ads 255 c3) : SN ads 155 (g155 c1 c2 c3) :=
  mk_snd [(nn253, c1), (nn254, c2), (nn255, c3)] ⟨fun n => match n with | 0 => [(36, .int .i64)] | _ => [], fun n => match n with | 10 => some [(10, .bool)] | 12 => some [] | _ => none⟩ [.ptr, .ptr, .ptr, .slice] Tryz.func155 rfl (.cons h253 (.cons h254 (.cons h255 .nil)))
theorem k157 (h163 : SN ads 163 c1) (h164 : SN ads 164 c2) : SN ads 157 (g157 c1 c2) :=
  mk_snd [(nn163, c1), (nn164, c2)] ⟨fun _ => [], fun _ => none⟩ [.ptr, .ptr, .ptr, .slice] Tryz.func157 rfl (.cons h163 (.cons h164 .nil))
theorem k158 (h258 : SN ads 258 c1) : SN ads 158 (g158 c1) :=
  mk_snd [(nn258, c1)] ⟨fun _ => [], fun _ => none⟩ [.ptr, .int .i64, .bool] Tryz.func158 rfl (.cons h258 .nil)
theorem k86 (h124 : SN ads 124 c1) (h131 : SN ads 131 c2) (h151 : SN ads 151 c3) (h152 : SN ads 152 c4) (h154 : SN ads 154 c5) (h155 : SN ads 155 c6) (h157 : SN ads 157 c7) (h158 : SN ads 158 c8) : SN ads 86 (g86 c1 c2 c3 c4 c5 c6 c7 c8) :=
  mk_snd [(nn124, c1), (nn131, c2), (nn151, c3), (nn152, c4), (nn154, c5), (nn155, c6), (nn157, c7), (nn158, c8)] ⟨fun _ => [], fun n => match n with | 18 => some [(12, .any)] | _ => none⟩ [.ptr, .int .i64, .int .i64, .slice] Tryz.func86 rfl (.cons h124 (.cons h131 (.cons h151 (.cons h152 (.cons h154 (.cons h155 (.cons h157 (.cons h158 .nil))))))))
theorem k41 (h42 : SN ads 42 c1) (h78 : SN ads 78 c2) (h79 : SN ads 79 c3) (h81 : SN ads 81 c4) (h82 : SN ads 82 c5) (h83 : SN ads 83 c6) (h85 : SN ads 85 c7) (h86 : SN ads 86 c8) : SN ads 41 (g41 c1 c2 c3 c4 c5 c6 c7 c8) :=
  mk_snd [(nn42, c1), (nn78, c2), (nn79, c3), (nn81, c4), (nn82, c5), (nn83, c6), (nn85, c7), (nn86, c8)] ⟨fun _ => [], fun n => match n with | 14 => some [(12, .any)] | 15 => some [(8, .slice), (9, .slice)] | 18 => some [(9, .slice)] | 21 => some [] | 22 => some [(9, .slice)] | _ => none⟩ [.ptr, .any] Tryz.func41 rfl (.cons h42 (.cons h78 (.cons h79 (.cons h81 (.cons h82 (.cons h83 (.cons h85 (.cons h86 .nil))))))))
theorem k173 : SN ads 173 (g173) :=
  mk_snd [] ⟨fun _ => [], fun _ => none⟩ [.ptr] Tryz.func173 rfl .nil
theorem k343 : SN ads 343 (g343) :=
  mk_snd [] ⟨fun _ => [], fun _ => none⟩ [.int .u32, .int .u32] Tryz.func343 rfl .nil
theorem k316 (h343 : SN ads 343 c1) : SN ads 316 (g316 c1) :=
  mk_snd [(nn343, c1)] ⟨fun _ => [], fun _ => none⟩ [.int .u32, .int .u32] Tryz.func316 rfl (.cons h343 .nil)
theorem k264 (h64 : SN ads 64 c1) (h197 : SN ads 197 c2) (h316 : SN ads 316 c3) : SN ads 264 (g264 c1 c2 c3) :=
  mk_snd [(nn64, c1), (nn197, c2), (nn316, c3)] ⟨fun _ => [], fun n => match n with | 11 => some [] | _ => none⟩ [.ptr, .any] Tryz.func264 rfl (.cons h64 (.cons h197 (.cons h316 .nil)))
theorem k174 (h194 : SN ads 194 c1) (h264 : SN ads 264 c2) (h265 : SN ads 265 c3) (h266 : SN ads 266 c4) : SN ads 174 (g174 c1 c2 c3 c4) :=
  mk_snd [(nn194, c1), (nn264, c2), (nn265, c3), (nn266, c4)] ⟨fun n => match n with | 0 => [(8, .slice)] | _ => [], fun n => match n with | 6 => some [] | 7 => some [(8, .slice)] | _ => none⟩ [.ptr, .int .i64, .any] Tryz.func174 rfl (.cons h194 (.cons h264 (.cons h265 (.cons h266 .nil))))
theorem k94 (h124 : SN ads 124 c1) (h166 : SN ads 166 c2) (h173 : SN ads 173 c3) (h174 : SN ads 174 c4) : SN ads 94 (g94 c1 c2 c3 c4) :=
  mk_snd [(nn124, c1), (nn166, c2), (nn173, c3), (nn174, c4)] ⟨fun _ => [], fun _ => none⟩ [.ptr, .int .i64, .int .i64, .int .i64, .int .u32, .slice] Tryz.func94 rfl (.cons h124 (.cons h166 (.cons h173 (.cons h174 .nil))))
theorem k175 (h123 : SN ads 123 c1) : SN ads 175 (g175 c1) :=
  mk_snd [(nn123, c1)] ⟨fun _ => [], fun n => match n with | 6 => some [] | _ => none⟩ [.ptr, .int .i64, .bool] Tryz.func175 rfl (.cons h123 .nil)
theorem k95 (h124 : SN ads 124 c1) (h175 : SN ads 175 c2) : SN ads 95 (g95 c1 c2) :=
  mk_snd [(nn124, c1), (nn175, c2)] ⟨fun _ => [], fun _ => none⟩ [.ptr, .int .i64, .bool] Tryz.func95 rfl (.cons h124 (.cons h175 .nil))
theorem k43 (h25 : SN ads 25 c1) (h42 : SN ads 42 c5) (h64 : SN ads 64 c2) (h85 : SN ads 85 c6) (h94 : SN ads 94 c3) (h95 : SN ads 95 c4) : SN ads 43 (g43 c1 c2 c3 c4) :=
  mk_snd [(nn25, c1), (nn42, c5), (nn64, c2), (nn85, c6), (nn94, c3), (nn95, c4)] ⟨fun _ => [], fun n => match n with | 11 => some [] | _ => none⟩ [.ptr, .ptr, .any] Tryz.func43 rfl (.cons h25 (.cons h42 (.cons h64 (.cons h85 (.cons h94 (.cons h95 .nil))))))
theorem k20 (h40 : SN ads 40 c1) (h41 : SN ads 41 c2) (h42 : SN ads 42 c3) (h43 : SN ads 43 c4) : SN ads 20 (g20 c1 c2 c3 c4) :=
  mk_snd [(nn40, c1), (nn41, c2), (nn42, c3), (nn43, c4)] ⟨fun _ => [], fun _ => none⟩ [.ptr, .any] Tryz.func20 rfl (.cons h40 (.cons h41 (.cons h42 (.cons h43 .nil))))
theorem k119 : SN ads 119 (g119) :=
  mk_snd [] ⟨fun _ => [], fun _ => none⟩ [.int .i64] Tryz.func119 rfl .nil
theorem k70 (h119 : SN ads 119 c1) : SN ads 70 (g70 c1) :=
  mk_snd [(nn119, c1)] ⟨fun _ => [], fun n => match n with | 8 => some [(6, .int .u64)] | _ => none⟩ [.int .i64, .int .i64] Tryz.func70 rfl (.cons h119 .nil)
theorem k44 (h70 : SN ads 70 c1) : SN ads 44 (g44 c1) :=
  mk_snd [(nn70, c1)] ⟨fun _ => [], fun _ => none⟩ [.int .i64] Tryz.func44 rfl (.cons h70 .nil)
theorem k22 (h44 : SN ads 44 c1) : SN ads 22 (g22 c1) :=
  mk_snd [(nn44, c1)] ⟨fun _ => [], fun _ => none⟩ [.int .i64] Tryz.func22 rfl (.cons h44 .nil)
theorem k31 (h64 : SN ads 64 c1) : SN ads 31 (g31 c1) :=
  mk_snd [(nn64, c1)] ⟨fun _ => [], fun _ => none⟩ [.ptr] Tryz.func31 rfl (.cons h64 .nil)
theorem k18 (h20 : SN ads 20 c1) (h22 : SN ads 22 c2) (h31 : SN ads 31 c3) : SN ads 18 (g18 c1 c2 c3) :=
  mk_snd [(nn20, c1), (nn22, c2), (nn31, c3)] ⟨fun _ => [], fun _ => none⟩ [.ptr, .int .i64, .int .i64] Tryz.func18 rfl (.cons h20 (.cons h22 (.cons h31 .nil)))
theorem k65 : SN ads 65 (g65) :=
  mk_snd [] ⟨fun _ => [], fun _ => none⟩ [.ptr, .int .i64] Tryz.func65 rfl .nil
theorem k66 : SN ads 66 (g66) :=
  mk_snd [] ⟨fun _ => [], fun _ => none⟩ [.slice] Tryz.func66 rfl .nil
theorem k32 (h64 : SN ads 64 c1) (h65 : SN ads 65 c2) (h66 : SN ads 66 c3) : SN ads 32 (g32 c1 c2 c3) :=
  mk_snd [(nn64, c1), (nn65, c2), (nn66, c3)] ⟨fun n => match n with | 0 => [(20, .int .i64)] | _ => [], fun _ => none⟩ [.ptr, .int .i64] Tryz.func32 rfl (.cons h64 (.cons h65 (.cons h66 .nil)))
theorem k33 : SN ads 33 (g33) :=
  mk_snd [] ⟨fun _ => [], fun _ => none⟩ [.ptr] Tryz.func33 rfl .nil
theorem k72 (h123 : SN ads 123 c1) : SN ads 72 (g72 c1) :=
  mk_snd [(nn123, c1)] ⟨fun _ => [], fun _ => none⟩ [.ptr, .int .i64] Tryz.func72 rfl (.cons h123 .nil)
theorem k75 : SN ads 75 (g75) :=
  mk_snd [] ⟨fun n => match n with | 0 => [(3, .int .i64), (29, .int .i64)] | _ => [], fun _ => none⟩ [.any] Tryz.func75 rfl .nil
theorem k74 (h75 : SN ads 75 c1) : SN ads 74 (g74 c1) :=
  mk_snd [(nn75, c1)] ⟨fun n => match n with | 0 => [(5, .int .i64), (6, .int .i64), (19, .int .i64)] | _ => [], fun n => match n with | 11 => some [(5, .int .i64)] | 16 => some [(9, .int .u8)] | _ => none⟩ [.any] Tryz.func74 rfl (.cons h75 .nil)
theorem k38 (h71 : SN ads 71 c1) (h72 : SN ads 72 c2) (h73 : SN ads 73 c3) (h74 : SN ads 74 c4) : SN ads 38 (g38 c1 c2 c3 c4) :=
  mk_snd [(nn71, c1), (nn72, c2), (nn73, c3), (nn74, c4)] ⟨fun n => match n with | 0 => [(19, .int .i64)] | _ => [], fun n => match n with | 7 => some [] | _ => none⟩ [.ptr, .int .i64, .int .i64] Tryz.func38 rfl (.cons h71 (.cons h72 (.cons h73 (.cons h74 .nil))))
theorem k39 (h74 : SN ads 74 c1) (h75 : SN ads 75 c2) (h76 : SN ads 76 c3) : SN ads 39 (g39 c1 c2 c3) :=
  mk_snd [(nn74, c1), (nn75, c2), (nn76, c3)] ⟨fun n => match n with | 1 => [(74, .int .i64)] | 3 => [(79, .int .i64)] | _ => [], fun n => match n with | 19 => some [] | _ => none⟩ [.slice] Tryz.func39 rfl (.cons h74 (.cons h75 (.cons h76 .nil)))
theorem k19 (h22 : SN ads 22 c1) (h32 : SN ads 32 c2) (h33 : SN ads 33 c3) (h38 : SN ads 38 c4) (h39 : SN ads 39 c5) : SN ads 19 (g19 c1 c2 c3 c4 c5) :=
  mk_snd [(nn22, c1), (nn32, c2), (nn33, c3), (nn38, c4), (nn39, c5)] ⟨fun n => match n with | 1 => [(8, .slice), (31, .int .i64)] | 5 => [(8, .slice), (110, .int .i64)] | _ => [], fun n => match n with | 8 => some [(8, .slice)] | 30 => some [(8, .slice)] | _ => none⟩ [.ptr, .str, .slice] Tryz.func19 rfl (.cons h22 (.cons h32 (.cons h33 (.cons h38 (.cons h39 .nil)))))
theorem k21 : SN ads 21 (g21) :=
  mk_snd [] ⟨fun _ => [], fun n => match n with | 17 => some [] | _ => none⟩ [.slice, .slice] Tryz.func21 rfl .nil
theorem k8 (h12 : SN ads 12 c1) (h13 : SN ads 13 c2) (h15 : SN ads 15 c3) (h16 : SN ads 16 c4) (h17 : SN ads 17 c5) (h18 : SN ads 18 c6) (h19 : SN ads 19 c7) (h20 : SN ads 20 c8) (h21 : SN ads 21 c9) : SN ads 8 (g8 c1 c2 c3 c4 c5 c6 c7 c8 c9) :=
  mk_snd [(nn12, c1), (nn13, c2), (nn15, c3), (nn16, c4), (nn17, c5), (nn18, c6), (nn19, c7), (nn20, c8), (nn21, c9)] ⟨fun n => match n with | 1 => [(11, .slice), (61, .int .i64)] | _ => [], fun n => match n with | 10 => some [(10, .int .i64)] | 28 => some [(93, .bool)] | _ => none⟩ [.ptr, .str] Tryz.func8 rfl (.cons h12 (.cons h13 (.cons h15 (.cons h16 (.cons h17 (.cons h18 (.cons h19 (.cons h20 (.cons h21 .nil)))))))))
theorem k7 (h8 : SN ads 8 c1) : SN ads 7 (g7 c1) :=
  mk_snd [(nn8, c1)] ⟨fun n => match n with | 0 => [(6, .slice), (13, .int .i64)] | _ => [], fun _ => none⟩ [.ptr, .slice] Tryz.func7 rfl (.cons h8 .nil)
theorem k10 : SN ads 10 (g10) :=
  mk_snd [] ⟨fun n => match n with | 0 => [(5, .int .i64)] | _ => [], fun _ => none⟩ [.slice, .slice] Tryz.func10 rfl .nil
theorem k4 (h6 : SN ads 6 c1) (h7 : SN ads 7 c2) (h8 : SN ads 8 c3) (h10 : SN ads 10 c4) : SN ads 4 (g4 c1 c2 c3 c4) :=
  mk_snd [(nn6, c1), (nn7, c2), (nn8, c3), (nn10, c4)] ⟨fun _ => [], fun _ => none⟩ [] Tryz.func4 rfl (.cons h6 (.cons h7 (.cons h8 (.cons h10 .nil))))
theorem k9 (h22 : SN ads 22 c1) : SN ads 9 (g9 c1) :=
  mk_snd [(nn22, c1)] ⟨fun _ => [], fun _ => none⟩ [.int .i64] Tryz.func9 rfl (.cons h22 .nil)
end
end Go.Proofs.YtgkpnfnkaplebaaGreatDoor
