/- The printed functions are the machine's own, by the kernel. -/
import Derived.Test.YtdkopdoicepgmaaGreatDoorGgD1
import Derived.Test.YtdkopdoicepgmaaGreatDoorRows
set_option linter.unusedVariables false
set_option linter.constructorNameAsVariable false
set_option maxRecDepth 100000
namespace Go.Proofs.YtdkopdoicepgmaaGreatDoor
open Go.Vc Go.Ab
noncomputable section
variable (v1 v2 : AV) (l1 l2 l3 l4 : List AV) (L1 L2 : List AP) (d1 d2 d3 d4 : DV) (R1 : List DV) (n1 n2 n3 n4 n5 n6 n7 n8 : Int) (m1 m2 m3 m4 : Nat) (t1 t2 t3 t4 : Bool) (p1 p2 p3 p4 p5 : AP) (b1 b2 b3 b4 b5 : P4) (s1 s2 s3 : AS) (H1 : AH) (x1 x2 : List Int) (c1 c2 c3 c4 c5 c6 c7 c8 c9 c10 c11 c12 c13 c14 c15 : G DV) (Ka1 Ka2 : AH → Option DV) (Kb1 Kb2 : DV → AH → Option DV) (Kc1 Kc2 : DV → DV → AH → Option DV) (Kd1 : DV → DV → DV → AH → Option DV)
variable {ads : List Addr}
theorem k372 : SN ads 372 (g372) :=
  mk_snd [] ⟨fun _ => [], fun _ => none⟩ [.slice] Tryz.func372 rfl .nil
theorem k354 (h372 : SN ads 372 c1) : SN ads 354 (g354 c1) :=
  mk_snd [(nn372, c1)] ⟨fun _ => [], fun _ => none⟩ [.ptr, .int .i64] Tryz.func354 rfl (.cons h372 .nil)
theorem k385 : SN ads 385 (g385) :=
  mk_snd [] ⟨fun _ => [], fun n => match n with | 7 => some [(39, .bool)] | _ => none⟩ [.ptr] Tryz.func385 rfl .nil
theorem k384 (h385 : SN ads 385 c1) : SN ads 384 (g384 c1) :=
  mk_snd [(nn385, c1)] ⟨fun _ => [], fun _ => none⟩ [.ptr] Tryz.func384 rfl (.cons h385 .nil)
theorem k383 (h384 : SN ads 384 c1) : SN ads 383 (g383 c1) :=
  mk_snd [(nn384, c1)] ⟨fun _ => [], fun _ => none⟩ [.any, .int .i64, .int .i64, .int .i64, .int .i64, .slice] Tryz.func383 rfl (.cons h384 .nil)
theorem k381 (h354 : SN ads 354 c1) (h383 : SN ads 383 c2) : SN ads 381 (g381 c1 c2) :=
  mk_snd [(nn354, c1), (nn383, c2)] ⟨fun n => match n with | 0 => [(9, .slice), (26, .int .i64)] | 2 => [(15, .slice), (68, .int .i64)] | _ => [], fun _ => none⟩ [.ptr, .int .i64, .int .i64] Tryz.func381 rfl (.cons h354 (.cons h383 .nil))
theorem k373 (h354 : SN ads 354 c1) (h381 : SN ads 381 c2) : SN ads 373 (g373 c1 c2) :=
  mk_snd [(nn354, c1), (nn381, c2)] ⟨fun n => match n with | 0 => [(7, .slice)] | _ => [], fun n => match n with | 5 => some [(8, .ptr), (9, .bool)] | _ => none⟩ [.ptr, .int .i64] Tryz.func373 rfl (.cons h354 (.cons h381 .nil))
theorem k357 (h203 : SN ads 203 c1) (h373 : SN ads 373 c2) : SN ads 357 (g357 c1 c2) :=
  mk_snd [(nn203, c1), (nn373, c2)] ⟨fun _ => [], fun _ => none⟩ [.ptr, .int .i64, .int .i64, .int .i64] Tryz.func357 rfl (.cons h203 (.cons h373 .nil))
theorem k258 (h312 : SN ads 312 c1) : SN ads 258 (g258 c1) :=
  mk_snd [(nn312, c1)] ⟨fun _ => [], fun _ => none⟩ [.int .i64, .int .i64] Tryz.func258 rfl (.cons h312 .nil)
theorem k374 (h258 : SN ads 258 c1) (h336 : SN ads 336 c2) : SN ads 374 (g374 c1 c2) :=
  mk_snd [(nn258, c1), (nn336, c2)] ⟨fun _ => [], fun _ => none⟩ [.ptr] Tryz.func374 rfl (.cons h258 (.cons h336 .nil))
theorem k358 (h284 : SN ads 284 c1) (h374 : SN ads 374 c2) : SN ads 358 (g358 c1 c2) :=
  mk_snd [(nn284, c1), (nn374, c2)] ⟨fun _ => [], fun _ => none⟩ [.ptr, .any, .int .i64] Tryz.func358 rfl (.cons h284 (.cons h374 .nil))
theorem k337 (h173 : SN ads 173 c1) (h264 : SN ads 264 c2) (h357 : SN ads 357 c3) (h358 : SN ads 358 c4) : SN ads 337 (g337 c1 c2 c3 c4) :=
  mk_snd [(nn173, c1), (nn264, c2), (nn357, c3), (nn358, c4)] ⟨fun _ => [], fun _ => none⟩ [.ptr, .ptr, .ptr] Tryz.func337 rfl (.cons h173 (.cons h264 (.cons h357 (.cons h358 .nil))))
theorem k343 (h134 : SN ads 134 c1) : SN ads 343 (g343 c1) :=
  mk_snd [(nn134, c1)] ⟨fun _ => [], fun _ => none⟩ [.any] Tryz.func343 rfl (.cons h134 .nil)
theorem k344 (h134 : SN ads 134 c1) : SN ads 344 (g344 c1) :=
  mk_snd [(nn134, c1)] ⟨fun _ => [], fun _ => none⟩ [.any] Tryz.func344 rfl (.cons h134 .nil)
theorem k345 (h134 : SN ads 134 c1) : SN ads 345 (g345 c1) :=
  mk_snd [(nn134, c1)] ⟨fun _ => [], fun _ => none⟩ [.any] Tryz.func345 rfl (.cons h134 .nil)
theorem k305 (h134 : SN ads 134 c1) (h343 : SN ads 343 c2) (h344 : SN ads 344 c3) (h345 : SN ads 345 c4) : SN ads 305 (g305 c1 c2 c3 c4) :=
  mk_snd [(nn134, c1), (nn343, c2), (nn344, c3), (nn345, c4)] ⟨fun _ => [], fun _ => none⟩ [.any, .int .i64] Tryz.func305 rfl (.cons h134 (.cons h343 (.cons h344 (.cons h345 .nil))))
theorem k359 : SN ads 359 (g359) :=
  mk_snd [] ⟨fun _ => [], fun _ => none⟩ [.int .i64] Tryz.func359 rfl .nil
theorem k375 (h359 : SN ads 359 c1) : SN ads 375 (g375 c1) :=
  mk_snd [(nn359, c1)] ⟨fun n => match n with | 0 => [(8, .int .i64)] | _ => [], fun _ => none⟩ [.slice, .any] Tryz.func375 rfl (.cons h359 .nil)
theorem k360 (h375 : SN ads 375 c1) : SN ads 360 (g360 c1) :=
  mk_snd [(nn375, c1)] ⟨fun _ => [], fun _ => none⟩ [.slice, .any] Tryz.func360 rfl (.cons h375 .nil)
theorem k340 (h134 : SN ads 134 c1) (h244 : SN ads 244 c2) (h305 : SN ads 305 c3) (h360 : SN ads 360 c4) : SN ads 340 (g340 c1 c2 c3 c4) :=
  mk_snd [(nn134, c1), (nn244, c2), (nn305, c3), (nn360, c4)] ⟨fun _ => [], fun _ => none⟩ [.any, .any, .slice] Tryz.func340 rfl (.cons h134 (.cons h244 (.cons h305 (.cons h360 .nil))))
theorem k338 (h134 : SN ads 134 c1) (h340 : SN ads 340 c2) (h359 : SN ads 359 c3) : SN ads 338 (g338 c1 c2 c3) :=
  mk_snd [(nn134, c1), (nn340, c2), (nn359, c3)] ⟨fun n => match n with | 0 => [(8, .int .i64)] | _ => [], fun _ => none⟩ [.any, .any, .slice] Tryz.func338 rfl (.cons h134 (.cons h340 (.cons h359 .nil)))
theorem k341 : SN ads 341 (g341) :=
  mk_snd [] ⟨fun _ => [], fun _ => none⟩ [.int .i64] Tryz.func341 rfl .nil
theorem k339 (h341 : SN ads 341 c1) : SN ads 339 (g339 c1) :=
  mk_snd [(nn341, c1)] ⟨fun n => match n with | 0 => [(3, .slice), (8, .int .i64)] | _ => [], fun _ => none⟩ [.slice] Tryz.func339 rfl (.cons h341 .nil)
theorem k302 (h228 : SN ads 228 c1) (h231 : SN ads 231 c2) (h293 : SN ads 293 c3) (h337 : SN ads 337 c4) (h338 : SN ads 338 c5) (h339 : SN ads 339 c6) (h340 : SN ads 340 c7) (h341 : SN ads 341 c8) : SN ads 302 (g302 c1 c2 c3 c4 c5 c6 c7 c8) :=
  mk_snd [(nn228, c1), (nn231, c2), (nn293, c3), (nn337, c4), (nn338, c5), (nn339, c6), (nn340, c7), (nn341, c8)] ⟨fun n => match n with | 0 => [(13, .slice)] | _ => [], fun n => match n with | 8 => some [(13, .slice)] | 14 => some [] | 17 => some [(13, .slice)] | _ => none⟩ [.ptr, .ptr, .ptr, .any, .bool] Tryz.func302 rfl (.cons h228 (.cons h231 (.cons h293 (.cons h337 (.cons h338 (.cons h339 (.cons h340 (.cons h341 .nil))))))))
theorem k303 : SN ads 303 (g303) :=
  mk_snd [] ⟨fun n => match n with | 0 => [(6, .slice), (60, .int .i64)] | _ => [], fun n => match n with | 6 => some [(4, .int .u8)] | 8 => some [(4, .int .u8)] | 10 => some [(5, .int .u8)] | _ => none⟩ [.any] Tryz.func303 rfl .nil
theorem k319 (h351 : SN ads 351 c1) : SN ads 319 (g319 c1) :=
  mk_snd [(nn351, c1)] ⟨fun _ => [], fun _ => none⟩ [.slice, .any] Tryz.func319 rfl (.cons h351 .nil)
theorem k318 (h319 : SN ads 319 c1) : SN ads 318 (g318 c1) :=
  mk_snd [(nn319, c1)] ⟨fun _ => [], fun _ => none⟩ [.ptr] Tryz.func318 rfl (.cons h319 .nil)
theorem k304 (h206 : SN ads 206 c1) (h318 : SN ads 318 c2) (h319 : SN ads 319 c3) : SN ads 304 (g304 c1 c2 c3) :=
  mk_snd [(nn206, c1), (nn318, c2), (nn319, c3)] ⟨fun n => match n with | 0 => [(11, .int .i64)] | 2 => [(40, .int .i64)] | _ => [], fun n => match n with | 5 => some [(29, .bool)] | 16 => some [] | _ => none⟩ [.ptr, .slice] Tryz.func304 rfl (.cons h206 (.cons h318 (.cons h319 .nil)))
theorem k234 (h77 : SN ads 77 c1) (h131 : SN ads 131 c2) (h147 : SN ads 147 c3) (h236 : SN ads 236 c4) (h302 : SN ads 302 c5) (h303 : SN ads 303 c6) (h304 : SN ads 304 c7) : SN ads 234 (g234 c1 c2 c3 c4 c5 c6 c7) :=
  mk_snd [(nn77, c1), (nn131, c2), (nn147, c3), (nn236, c4), (nn302, c5), (nn303, c6), (nn304, c7)] ⟨fun n => match n with | 0 => [(15, .slice), (16, .slice), (77, .int .i64)] | _ => [], fun n => match n with | 18 => some [] | _ => none⟩ [.ptr, .ptr, .ptr, .bool] Tryz.func234 rfl (.cons h77 (.cons h131 (.cons h147 (.cons h236 (.cons h302 (.cons h303 (.cons h304 .nil)))))))
theorem k235 (h130 : SN ads 130 c1) : SN ads 235 (g235 c1) :=
  mk_snd [(nn130, c1)] ⟨fun _ => [], fun _ => none⟩ [.ptr, .int .i64] Tryz.func235 rfl (.cons h130 .nil)
theorem k144 (h77 : SN ads 77 c1) (h131 : SN ads 131 c2) (h171 : SN ads 171 c3) (h223 : SN ads 223 c4) (h225 : SN ads 225 c5) (h226 : SN ads 226 c6) (h227 : SN ads 227 c7) (h228 : SN ads 228 c8) (h229 : SN ads 229 c9) (h231 : SN ads 231 c10) (h232 : SN ads 232 c11) (h233 : SN ads 233 c12) (h234 : SN ads 234 c13) (h235 : SN ads 235 c14) (h236 : SN ads 236 c15) : SN ads 144 (g144 c1 c2 c3 c4 c5 c6 c7 c8 c9 c10 c11 c12 c13 c14 c15) :=
  mk_snd [(nn77, c1), (nn131, c2), (nn171, c3), (nn223, c4), (nn225, c5), (nn226, c6), (nn227, c7), (nn228, c8), (nn229, c9), (nn231, c10), (nn232, c11), (nn233, c12), (nn234, c13), (nn235, c14), (nn236, c15)] ⟨fun _ => [], fun n => match n with | 8 => some [(12, .int .i64)] | 16 => some [(131, .bool)] | 22 => some [] | _ => none⟩ [.ptr, .int .i64, .int .i64] Tryz.func144 rfl (.cons h77 (.cons h131 (.cons h171 (.cons h223 (.cons h225 (.cons h226 (.cons h227 (.cons h228 (.cons h229 (.cons h231 (.cons h232 (.cons h233 (.cons h234 (.cons h235 (.cons h236 .nil)))))))))))))))
theorem k306 (h305 : SN ads 305 c1) : SN ads 306 (g306 c1) :=
  mk_snd [(nn305, c1)] ⟨fun _ => [], fun _ => none⟩ [] Tryz.func306 rfl (.cons h305 .nil)
theorem k237 (h305 : SN ads 305 c1) (h306 : SN ads 306 c2) : SN ads 237 (g237 c1 c2) :=
  mk_snd [(nn305, c1), (nn306, c2)] ⟨fun _ => [], fun _ => none⟩ [.any, .int .i64] Tryz.func237 rfl (.cons h305 (.cons h306 .nil))
theorem k307 (h218 : SN ads 218 c1) (h291 : SN ads 291 c2) (h292 : SN ads 292 c3) : SN ads 307 (g307 c1 c2 c3) :=
  mk_snd [(nn218, c1), (nn291, c2), (nn292, c3)] ⟨fun _ => [], fun _ => none⟩ [.any, .int .i64] Tryz.func307 rfl (.cons h218 (.cons h291 (.cons h292 .nil)))
theorem k238 (h210 : SN ads 210 c1) (h307 : SN ads 307 c2) : SN ads 238 (g238 c1 c2) :=
  mk_snd [(nn210, c1), (nn307, c2)] ⟨fun _ => [], fun n => match n with | 9 => some [] | _ => none⟩ [.ptr, .int .i64, .int .i64] Tryz.func238 rfl (.cons h210 (.cons h307 .nil))
theorem k239 (h108 : SN ads 108 c1) (h220 : SN ads 220 c2) : SN ads 239 (g239 c1 c2) :=
  mk_snd [(nn108, c1), (nn220, c2)] ⟨fun _ => [], fun _ => none⟩ [.ptr, .int .i64, .int .i64] Tryz.func239 rfl (.cons h108 (.cons h220 .nil))
theorem k145 (h131 : SN ads 131 c1) (h237 : SN ads 237 c2) (h238 : SN ads 238 c3) (h239 : SN ads 239 c4) : SN ads 145 (g145 c1 c2 c3 c4) :=
  mk_snd [(nn131, c1), (nn237, c2), (nn238, c3), (nn239, c4)] ⟨fun _ => [], fun _ => none⟩ [.ptr, .ptr, .int .i64] Tryz.func145 rfl (.cons h131 (.cons h237 (.cons h238 (.cons h239 .nil))))
theorem k82 (h75 : SN ads 75 c1) (h131 : SN ads 131 c2) (h138 : SN ads 138 c3) (h139 : SN ads 139 c4) (h140 : SN ads 140 c5) (h141 : SN ads 141 c6) (h142 : SN ads 142 c7) (h143 : SN ads 143 c8) (h144 : SN ads 144 c9) (h145 : SN ads 145 c10) : SN ads 82 (g82 c1 c2 c3 c4 c5 c6 c7 c8 c9 c10) :=
  mk_snd [(nn75, c1), (nn131, c2), (nn138, c3), (nn139, c4), (nn140, c5), (nn141, c6), (nn142, c7), (nn143, c8), (nn144, c9), (nn145, c10)] ⟨fun n => match n with | 0 => [(36, .int .i64)] | 2 => [(40, .int .i64)] | 4 => [(82, .int .i64)] | 6 => [(98, .int .i64)] | _ => [], fun n => match n with | 13 => some [] | 29 => some [] | _ => none⟩ [.ptr, .int .i64, .any] Tryz.func82 rfl (.cons h75 (.cons h131 (.cons h138 (.cons h139 (.cons h140 (.cons h141 (.cons h142 (.cons h143 (.cons h144 (.cons h145 .nil))))))))))
theorem k84 : SN ads 84 (g84) :=
  mk_snd [] ⟨fun _ => [], fun _ => none⟩ [.any, .ptr] Tryz.func84 rfl .nil
theorem k83 (h84 : SN ads 84 c1) : SN ads 83 (g83 c1) :=
  mk_snd [(nn84, c1)] ⟨fun n => match n with | 0 => [(8, .int .i64)] | _ => [], fun _ => none⟩ [.slice, .any] Tryz.func83 rfl (.cons h84 .nil)
theorem k308 : SN ads 308 (g308) :=
  mk_snd [] ⟨fun _ => [], fun _ => none⟩ [.slice] Tryz.func308 rfl .nil
theorem k309 (h311 : SN ads 311 c1) : SN ads 309 (g309 c1) :=
  mk_snd [(nn311, c1)] ⟨fun _ => [], fun _ => none⟩ [.slice] Tryz.func309 rfl (.cons h311 .nil)
theorem k240 (h67 : SN ads 67 c1) (h308 : SN ads 308 c2) (h309 : SN ads 309 c3) : SN ads 240 (g240 c1 c2 c3) :=
  mk_snd [(nn67, c1), (nn308, c2), (nn309, c3)] ⟨fun _ => [], fun _ => none⟩ [.slice] Tryz.func240 rfl (.cons h67 (.cons h308 (.cons h309 .nil)))
theorem k310 : SN ads 310 (g310) :=
  mk_snd [] ⟨fun n => match n with | 0 => [(8, .int .i64)] | _ => [], fun _ => none⟩ [.slice, .any] Tryz.func310 rfl .nil
theorem k242 (h310 : SN ads 310 c1) : SN ads 242 (g242 c1) :=
  mk_snd [(nn310, c1)] ⟨fun _ => [], fun _ => none⟩ [.slice, .any] Tryz.func242 rfl (.cons h310 .nil)
theorem k146 (h240 : SN ads 240 c1) (h241 : SN ads 241 c2) (h242 : SN ads 242 c3) : SN ads 146 (g146 c1 c2 c3) :=
  mk_snd [(nn240, c1), (nn241, c2), (nn242, c3)] ⟨fun n => match n with | 0 => [(0, .slice), (5, .slice)] | _ => [], fun _ => none⟩ [.slice] Tryz.func146 rfl (.cons h240 (.cons h241 (.cons h242 .nil)))
theorem k85 (h146 : SN ads 146 c1) (h147 : SN ads 147 c2) : SN ads 85 (g85 c1 c2) :=
  mk_snd [(nn146, c1), (nn147, c2)] ⟨fun n => match n with | 0 => [(8, .slice), (30, .int .i64)] | _ => [], fun n => match n with | 12 => some [(8, .slice)] | _ => none⟩ [.any, .int .u64] Tryz.func85 rfl (.cons h146 (.cons h147 .nil))
theorem k246 : SN ads 246 (g246) :=
  mk_snd [] ⟨fun _ => [], fun _ => none⟩ [.slice, .int .u8, .int .i64] Tryz.func246 rfl .nil
theorem k268 : SN ads 268 (g268) :=
  mk_snd [] ⟨fun _ => [], fun _ => none⟩ [.slice] Tryz.func268 rfl .nil
theorem k247 (h268 : SN ads 268 c1) : SN ads 247 (g247 c1) :=
  mk_snd [(nn268, c1)] ⟨fun _ => [], fun _ => none⟩ [.slice] Tryz.func247 rfl (.cons h268 .nil)
theorem k148 (h80 : SN ads 80 c3) (h246 : SN ads 246 c1) (h247 : SN ads 247 c2) : SN ads 148 (g148 c1 c2) :=
  mk_snd [(nn80, c3), (nn246, c1), (nn247, c2)] ⟨fun _ => [], fun _ => none⟩ [.slice] Tryz.func148 rfl (.cons h80 (.cons h246 (.cons h247 .nil)))
theorem k363 : SN ads 363 (g363) :=
  mk_snd [] ⟨fun n => match n with | 0 => [(8, .int .i64)] | 2 => [(9, .int .i64)] | _ => [], fun n => match n with | 2 => some [] | 6 => some [] | _ => none⟩ [.slice, .int .i64, .int .i64, .any] Tryz.func363 rfl .nil
theorem k348 (h363 : SN ads 363 c1) : SN ads 348 (g348 c1) :=
  mk_snd [(nn363, c1)] ⟨fun n => match n with | 0 => [(1, .int .i64), (2, .int .i64), (3, .int .i64), (10, .bool), (11, .bool)] | _ => [], fun n => match n with | 10 => some [(3, .int .i64)] | 15 => some [(13, .int .i64), (14, .int .i64)] | 17 => some [] | 18 => some [(97, .bool)] | _ => none⟩ [.slice, .int .i64, .int .i64, .int .i64, .any] Tryz.func348 rfl (.cons h363 .nil)
theorem k197 : SN ads 197 (g197) :=
  mk_snd [] ⟨fun _ => [], fun n => match n with | 4 => some [(0, .int .u64), (2, .int .i64)] | 7 => some [(0, .int .u64), (2, .int .i64)] | 10 => some [(0, .int .u64), (2, .int .i64)] | _ => none⟩ [.int .u64] Tryz.func197 rfl .nil
theorem k349 (h197 : SN ads 197 c1) : SN ads 349 (g349 c1) :=
  mk_snd [(nn197, c1)] ⟨fun _ => [], fun _ => none⟩ [.int .u64] Tryz.func349 rfl (.cons h197 .nil)
theorem k314 (h348 : SN ads 348 c1) (h349 : SN ads 349 c2) : SN ads 314 (g314 c1 c2) :=
  mk_snd [(nn348, c1), (nn349, c2)] ⟨fun _ => [], fun _ => none⟩ [.slice, .any] Tryz.func314 rfl (.cons h348 (.cons h349 .nil))
theorem k256 (h312 : SN ads 312 c1) (h314 : SN ads 314 c2) : SN ads 256 (g256 c1 c2) :=
  mk_snd [(nn312, c1), (nn314, c2)] ⟨fun n => match n with | 0 => [(5, .slice), (10, .int .i64)] | _ => [], fun _ => none⟩ [.int .i64, .slice] Tryz.func256 rfl (.cons h312 (.cons h314 .nil))
theorem k153 (h256 : SN ads 256 c1) : SN ads 153 (g153 c1) :=
  mk_snd [(nn256, c1)] ⟨fun n => match n with | 0 => [(3, .slice)] | 2 => [(5, .slice), (28, .int .i64)] | _ => [], fun _ => none⟩ [.ptr] Tryz.func153 rfl (.cons h256 .nil)
theorem k151 (h153 : SN ads 153 c1) (h233 : SN ads 233 c2) : SN ads 151 (g151 c1 c2) :=
  mk_snd [(nn153, c1), (nn233, c2)] ⟨fun _ => [], fun n => match n with | 2 => some [(30, .bool)] | 8 => some [(8, .int .i64)] | _ => none⟩ [.ptr, .any] Tryz.func151 rfl (.cons h153 (.cons h233 .nil))
theorem k86 (h148 : SN ads 148 c1) (h150 : SN ads 150 c2) (h151 : SN ads 151 c3) (h153 : SN ads 153 c4) : SN ads 86 (g86 c1 c2 c3) :=
  mk_snd [(nn148, c1), (nn150, c2), (nn151, c3), (nn153, c4)] ⟨fun _ => [], fun n => match n with | 9 => some [(66, .bool)] | _ => none⟩ [.ptr, .slice] Tryz.func86 rfl (.cons h148 (.cons h150 (.cons h151 (.cons h153 .nil))))
theorem k154 (h240 : SN ads 240 c1) (h241 : SN ads 241 c2) : SN ads 154 (g154 c1 c2) :=
  mk_snd [(nn240, c1), (nn241, c2)] ⟨fun n => match n with | 0 => [(0, .slice), (3, .slice)] | _ => [], fun _ => none⟩ [.slice] Tryz.func154 rfl (.cons h240 (.cons h241 .nil))
theorem k155 (h67 : SN ads 67 c1) : SN ads 155 (g155 c1) :=
  mk_snd [(nn67, c1)] ⟨fun n => match n with | 2 => [(97, .int .i64)] | _ => [], fun n => match n with | 12 => some [(31, .bool)] | _ => none⟩ [.slice] Tryz.func155 rfl (.cons h67 .nil)
theorem k250 (h258 : SN ads 258 c1) : SN ads 250 (g250 c1) :=
  mk_snd [(nn258, c1)] ⟨fun n => match n with | 0 => [(3, .slice)] | _ => [], fun _ => none⟩ [.ptr] Tryz.func250 rfl (.cons h258 .nil)
theorem k257 (h248 : SN ads 248 c1) (h258 : SN ads 258 c2) : SN ads 257 (g257 c1 c2) :=
  mk_snd [(nn248, c1), (nn258, c2)] ⟨fun _ => [], fun n => match n with | 3 => some [] | _ => none⟩ [.ptr, .int .i64] Tryz.func257 rfl (.cons h248 (.cons h258 .nil))
theorem k156 (h248 : SN ads 248 c1) (h250 : SN ads 250 c2) (h257 : SN ads 257 c3) (h258 : SN ads 258 c4) : SN ads 156 (g156 c1 c2 c3 c4) :=
  mk_snd [(nn248, c1), (nn250, c2), (nn257, c3), (nn258, c4)] ⟨fun _ => [], fun n => match n with | 3 => some [(5, .bool)] | 14 => some [(7, .slice)] | 17 => some [] | _ => none⟩ [.ptr, .any] Tryz.func156 rfl (.cons h248 (.cons h250 (.cons h257 (.cons h258 .nil))))
theorem k183 : SN ads 183 (g183) :=
  mk_snd [] ⟨fun _ => [], fun _ => none⟩ [.int .i64] Tryz.func183 rfl .nil
theorem k296 (h183 : SN ads 183 c1) : SN ads 296 (g296 c1) :=
  mk_snd [(nn183, c1)] ⟨fun _ => [], fun _ => none⟩ [.int .u8, .any, .any, .int .i64, .int .i64] Tryz.func296 rfl (.cons h183 .nil)
theorem k259 (h296 : SN ads 296 c1) : SN ads 259 (g259 c1) :=
  mk_snd [(nn296, c1)] ⟨fun n => match n with | 0 => [(4, .slice), (22, .int .i64)] | _ => [], fun _ => none⟩ [.any] Tryz.func259 rfl (.cons h296 .nil)
theorem k157 (h259 : SN ads 259 c1) : SN ads 157 (g157 c1) :=
  mk_snd [(nn259, c1)] ⟨fun _ => [], fun n => match n with | 5 => some [] | _ => none⟩ [.ptr, .int .i64] Tryz.func157 rfl (.cons h259 .nil)
theorem k88 (h154 : SN ads 154 c1) (h155 : SN ads 155 c2) (h156 : SN ads 156 c3) (h157 : SN ads 157 c4) : SN ads 88 (g88 c1 c2 c3 c4) :=
  mk_snd [(nn154, c1), (nn155, c2), (nn156, c3), (nn157, c4)] ⟨fun n => match n with | 0 => [(9, .slice), (10, .int .i64), (22, .int .i64)] | _ => [], fun n => match n with | 4 => some [(8, .slice)] | 11 => some [] | 13 => some [(9, .slice), (10, .int .i64)] | _ => none⟩ [.ptr, .bool, .slice] Tryz.func88 rfl (.cons h154 (.cons h155 (.cons h156 (.cons h157 .nil))))
theorem k87 (h88 : SN ads 88 c1) : SN ads 87 (g87 c1) :=
  mk_snd [(nn88, c1)] ⟨fun _ => [], fun _ => none⟩ [.slice, .ptr, .ptr] Tryz.func87 rfl (.cons h88 .nil)
theorem k89 : SN ads 89 (g89) :=
  mk_snd [] ⟨fun n => match n with | 0 => [(12, .int .i64)] | _ => [], fun _ => none⟩ [.ptr, .ptr, .int .i64, .slice] Tryz.func89 rfl .nil
theorem k160 : SN ads 160 (g160) :=
  mk_snd [] ⟨fun _ => [], fun _ => none⟩ [.ptr, .ptr] Tryz.func160 rfl .nil
theorem k261 : SN ads 261 (g261) :=
  mk_snd [] ⟨fun _ => [], fun _ => none⟩ [.ptr, .ptr] Tryz.func261 rfl .nil
theorem k260 (h160 : SN ads 160 c1) (h261 : SN ads 261 c2) : SN ads 260 (g260 c1 c2) :=
  mk_snd [(nn160, c1), (nn261, c2)] ⟨fun n => match n with | 0 => [(8, .int .i64)] | _ => [], fun _ => none⟩ [.slice, .any] Tryz.func260 rfl (.cons h160 (.cons h261 .nil))
theorem k158 (h260 : SN ads 260 c1) : SN ads 158 (g158 c1) :=
  mk_snd [(nn260, c1)] ⟨fun _ => [], fun _ => none⟩ [.ptr, .int .i64] Tryz.func158 rfl (.cons h260 .nil)
theorem k159 (h160 : SN ads 160 c1) (h260 : SN ads 260 c2) : SN ads 159 (g159 c1 c2) :=
  mk_snd [(nn160, c1), (nn260, c2)] ⟨fun n => match n with | 0 => [(5, .int .i64), (6, .int .i64)] | _ => [], fun n => match n with | 6 => some [(5, .int .i64)] | _ => none⟩ [.slice, .any] Tryz.func159 rfl (.cons h160 (.cons h260 .nil))
theorem k161 (h108 : SN ads 108 c1) (h220 : SN ads 220 c2) (h221 : SN ads 221 c3) : SN ads 161 (g161 c1 c2 c3) :=
  mk_snd [(nn108, c1), (nn220, c2), (nn221, c3)] ⟨fun _ => [], fun _ => none⟩ [.ptr, .int .i64, .int .i64] Tryz.func161 rfl (.cons h108 (.cons h220 (.cons h221 .nil)))
theorem k316 (h80 : SN ads 80 c1) (h246 : SN ads 246 c2) (h247 : SN ads 247 c3) (h259 : SN ads 259 c4) : SN ads 316 (g316 c1 c2 c3 c4) :=
  mk_snd [(nn80, c1), (nn246, c2), (nn247, c3), (nn259, c4)] ⟨fun n => match n with | 0 => [(27, .int .i64)] | _ => [], fun _ => none⟩ [.slice] Tryz.func316 rfl (.cons h80 (.cons h246 (.cons h247 (.cons h259 .nil))))
theorem k262 (h316 : SN ads 316 c1) : SN ads 262 (g262 c1) :=
  mk_snd [(nn316, c1)] ⟨fun _ => [], fun _ => none⟩ [.ptr, .ptr, .slice] Tryz.func262 rfl (.cons h316 .nil)
theorem k321 : SN ads 321 (g321) :=
  mk_snd [] ⟨fun n => match n with | 0 => [(8, .int .i64)] | _ => [], fun _ => none⟩ [.ptr] Tryz.func321 rfl .nil
theorem k263 (h287 : SN ads 287 c1) (h318 : SN ads 318 c2) (h319 : SN ads 319 c3) (h321 : SN ads 321 c4) : SN ads 263 (g263 c1 c2 c3 c4) :=
  mk_snd [(nn287, c1), (nn318, c2), (nn319, c3), (nn321, c4)] ⟨fun _ => [], fun n => match n with | 5 => some [(14, .bool)] | _ => none⟩ [.ptr, .any] Tryz.func263 rfl (.cons h287 (.cons h318 (.cons h319 (.cons h321 .nil))))
theorem k162 (h262 : SN ads 262 c1) (h263 : SN ads 263 c2) (h264 : SN ads 264 c3) : SN ads 162 (g162 c1 c2 c3) :=
  mk_snd [(nn262, c1), (nn263, c2), (nn264, c3)] ⟨fun n => match n with | 0 => [(36, .int .i64)] | _ => [], fun n => match n with | 10 => some [(10, .bool)] | 12 => some [] | _ => none⟩ [.ptr, .ptr, .ptr, .slice] Tryz.func162 rfl (.cons h262 (.cons h263 (.cons h264 .nil)))
theorem k164 (h170 : SN ads 170 c1) (h171 : SN ads 171 c2) : SN ads 164 (g164 c1 c2) :=
  mk_snd [(nn170, c1), (nn171, c2)] ⟨fun _ => [], fun _ => none⟩ [.ptr, .ptr, .ptr, .slice] Tryz.func164 rfl (.cons h170 (.cons h171 .nil))
theorem k165 (h267 : SN ads 267 c1) : SN ads 165 (g165 c1) :=
  mk_snd [(nn267, c1)] ⟨fun _ => [], fun _ => none⟩ [.ptr, .int .i64, .bool] Tryz.func165 rfl (.cons h267 .nil)
theorem k90 (h131 : SN ads 131 c1) (h138 : SN ads 138 c2) (h158 : SN ads 158 c3) (h159 : SN ads 159 c4) (h161 : SN ads 161 c5) (h162 : SN ads 162 c6) (h164 : SN ads 164 c7) (h165 : SN ads 165 c8) : SN ads 90 (g90 c1 c2 c3 c4 c5 c6 c7 c8) :=
  mk_snd [(nn131, c1), (nn138, c2), (nn158, c3), (nn159, c4), (nn161, c5), (nn162, c6), (nn164, c7), (nn165, c8)] ⟨fun _ => [], fun n => match n with | 18 => some [(12, .any)] | _ => none⟩ [.ptr, .int .i64, .int .i64, .slice] Tryz.func90 rfl (.cons h131 (.cons h138 (.cons h158 (.cons h159 (.cons h161 (.cons h162 (.cons h164 (.cons h165 .nil))))))))
theorem k43 (h44 : SN ads 44 c1) (h82 : SN ads 82 c2) (h83 : SN ads 83 c3) (h85 : SN ads 85 c4) (h86 : SN ads 86 c5) (h87 : SN ads 87 c6) (h89 : SN ads 89 c7) (h90 : SN ads 90 c8) : SN ads 43 (g43 c1 c2 c3 c4 c5 c6 c7 c8) :=
  mk_snd [(nn44, c1), (nn82, c2), (nn83, c3), (nn85, c4), (nn86, c5), (nn87, c6), (nn89, c7), (nn90, c8)] ⟨fun _ => [], fun n => match n with | 14 => some [(12, .any)] | 15 => some [(8, .slice), (9, .slice)] | 18 => some [(9, .slice)] | 21 => some [] | 22 => some [(9, .slice)] | _ => none⟩ [.ptr, .any] Tryz.func43 rfl (.cons h44 (.cons h82 (.cons h83 (.cons h85 (.cons h86 (.cons h87 (.cons h89 (.cons h90 .nil))))))))
theorem k180 : SN ads 180 (g180) :=
  mk_snd [] ⟨fun _ => [], fun _ => none⟩ [.ptr] Tryz.func180 rfl .nil
theorem k352 : SN ads 352 (g352) :=
  mk_snd [] ⟨fun _ => [], fun _ => none⟩ [.int .u32, .int .u32] Tryz.func352 rfl .nil
theorem k325 (h352 : SN ads 352 c1) : SN ads 325 (g325 c1) :=
  mk_snd [(nn352, c1)] ⟨fun _ => [], fun _ => none⟩ [.int .u32, .int .u32] Tryz.func325 rfl (.cons h352 .nil)
theorem k273 (h67 : SN ads 67 c1) (h206 : SN ads 206 c2) (h325 : SN ads 325 c3) : SN ads 273 (g273 c1 c2 c3) :=
  mk_snd [(nn67, c1), (nn206, c2), (nn325, c3)] ⟨fun _ => [], fun n => match n with | 11 => some [] | _ => none⟩ [.ptr, .any] Tryz.func273 rfl (.cons h67 (.cons h206 (.cons h325 .nil)))
theorem k181 (h203 : SN ads 203 c1) (h273 : SN ads 273 c2) (h274 : SN ads 274 c3) (h275 : SN ads 275 c4) : SN ads 181 (g181 c1 c2 c3 c4) :=
  mk_snd [(nn203, c1), (nn273, c2), (nn274, c3), (nn275, c4)] ⟨fun n => match n with | 0 => [(8, .slice)] | _ => [], fun n => match n with | 6 => some [] | 7 => some [(8, .slice)] | _ => none⟩ [.ptr, .int .i64, .any] Tryz.func181 rfl (.cons h203 (.cons h273 (.cons h274 (.cons h275 .nil))))
theorem k98 (h131 : SN ads 131 c1) (h173 : SN ads 173 c2) (h180 : SN ads 180 c3) (h181 : SN ads 181 c4) : SN ads 98 (g98 c1 c2 c3 c4) :=
  mk_snd [(nn131, c1), (nn173, c2), (nn180, c3), (nn181, c4)] ⟨fun _ => [], fun _ => none⟩ [.ptr, .int .i64, .int .i64, .int .i64, .int .u32, .slice] Tryz.func98 rfl (.cons h131 (.cons h173 (.cons h180 (.cons h181 .nil))))
theorem k45 (h26 : SN ads 26 c1) (h44 : SN ads 44 c4) (h67 : SN ads 67 c2) (h89 : SN ads 89 c5) (h98 : SN ads 98 c3) : SN ads 45 (g45 c1 c2 c3) :=
  mk_snd [(nn26, c1), (nn44, c4), (nn67, c2), (nn89, c5), (nn98, c3)] ⟨fun _ => [], fun n => match n with | 11 => some [] | _ => none⟩ [.ptr, .ptr, .any] Tryz.func45 rfl (.cons h26 (.cons h44 (.cons h67 (.cons h89 (.cons h98 .nil)))))
theorem k20 (h42 : SN ads 42 c1) (h43 : SN ads 43 c2) (h44 : SN ads 44 c3) (h45 : SN ads 45 c4) : SN ads 20 (g20 c1 c2 c3 c4) :=
  mk_snd [(nn42, c1), (nn43, c2), (nn44, c3), (nn45, c4)] ⟨fun _ => [], fun _ => none⟩ [.ptr, .any] Tryz.func20 rfl (.cons h42 (.cons h43 (.cons h44 (.cons h45 .nil))))
theorem k32 (h67 : SN ads 67 c1) : SN ads 32 (g32 c1) :=
  mk_snd [(nn67, c1)] ⟨fun _ => [], fun _ => none⟩ [.ptr] Tryz.func32 rfl (.cons h67 .nil)
theorem k126 : SN ads 126 (g126) :=
  mk_snd [] ⟨fun _ => [], fun _ => none⟩ [.int .i64] Tryz.func126 rfl .nil
theorem k74 (h126 : SN ads 126 c1) : SN ads 74 (g74 c1) :=
  mk_snd [(nn126, c1)] ⟨fun _ => [], fun n => match n with | 8 => some [(6, .int .u64)] | _ => none⟩ [.int .i64, .int .i64] Tryz.func74 rfl (.cons h126 .nil)
theorem k68 (h74 : SN ads 74 c1) : SN ads 68 (g68 c1) :=
  mk_snd [(nn74, c1)] ⟨fun _ => [], fun _ => none⟩ [.int .i64] Tryz.func68 rfl (.cons h74 .nil)
theorem k33 (h68 : SN ads 68 c1) : SN ads 33 (g33 c1) :=
  mk_snd [(nn68, c1)] ⟨fun _ => [], fun _ => none⟩ [.int .i64] Tryz.func33 rfl (.cons h68 .nil)
theorem k18 (h20 : SN ads 20 c1) (h32 : SN ads 32 c2) (h33 : SN ads 33 c3) : SN ads 18 (g18 c1 c2 c3) :=
  mk_snd [(nn20, c1), (nn32, c2), (nn33, c3)] ⟨fun _ => [], fun _ => none⟩ [.ptr, .int .i64, .int .i64] Tryz.func18 rfl (.cons h20 (.cons h32 (.cons h33 .nil)))
theorem k69 : SN ads 69 (g69) :=
  mk_snd [] ⟨fun _ => [], fun _ => none⟩ [.ptr, .int .i64] Tryz.func69 rfl .nil
theorem k70 : SN ads 70 (g70) :=
  mk_snd [] ⟨fun _ => [], fun _ => none⟩ [.slice] Tryz.func70 rfl .nil
theorem k34 (h67 : SN ads 67 c1) (h69 : SN ads 69 c2) (h70 : SN ads 70 c3) : SN ads 34 (g34 c1 c2 c3) :=
  mk_snd [(nn67, c1), (nn69, c2), (nn70, c3)] ⟨fun n => match n with | 0 => [(20, .int .i64)] | _ => [], fun _ => none⟩ [.ptr, .int .i64] Tryz.func34 rfl (.cons h67 (.cons h69 (.cons h70 .nil)))
theorem k35 : SN ads 35 (g35) :=
  mk_snd [] ⟨fun _ => [], fun _ => none⟩ [.ptr] Tryz.func35 rfl .nil
theorem k125 : SN ads 125 (g125) :=
  mk_snd [] ⟨fun _ => [], fun _ => none⟩ [.slice] Tryz.func125 rfl .nil
theorem k71 (h125 : SN ads 125 c1) : SN ads 71 (g71 c1) :=
  mk_snd [(nn125, c1)] ⟨fun _ => [], fun _ => none⟩ [.ptr] Tryz.func71 rfl (.cons h125 .nil)
theorem k36 (h71 : SN ads 71 c1) : SN ads 36 (g36 c1) :=
  mk_snd [(nn71, c1)] ⟨fun _ => [], fun _ => none⟩ [.ptr] Tryz.func36 rfl (.cons h71 .nil)
theorem k72 : SN ads 72 (g72) :=
  mk_snd [] ⟨fun n => match n with | 0 => [(5, .int .i64), (13, .int .i64)] | _ => [], fun n => match n with | 7 => some [(5, .int .i64)] | _ => none⟩ [.ptr, .any] Tryz.func72 rfl .nil
theorem k37 (h72 : SN ads 72 c1) : SN ads 37 (g37 c1) :=
  mk_snd [(nn72, c1)] ⟨fun _ => [], fun _ => none⟩ [.ptr, .int .i64] Tryz.func37 rfl (.cons h72 .nil)
theorem k19 (h33 : SN ads 33 c1) (h34 : SN ads 34 c2) (h35 : SN ads 35 c3) (h36 : SN ads 36 c4) (h37 : SN ads 37 c5) : SN ads 19 (g19 c1 c2 c3 c4 c5) :=
  mk_snd [(nn33, c1), (nn34, c2), (nn35, c3), (nn36, c4), (nn37, c5)] ⟨fun n => match n with | 1 => [(8, .slice), (31, .int .i64)] | 3 => [(8, .slice), (57, .int .i64)] | _ => [], fun n => match n with | 8 => some [(8, .slice)] | 30 => some [(8, .slice)] | _ => none⟩ [.ptr, .str, .slice] Tryz.func19 rfl (.cons h33 (.cons h34 (.cons h35 (.cons h36 (.cons h37 .nil)))))
theorem k21 : SN ads 21 (g21) :=
  mk_snd [] ⟨fun _ => [], fun n => match n with | 17 => some [] | _ => none⟩ [.slice, .slice] Tryz.func21 rfl .nil
theorem k6 (h12 : SN ads 12 c1) (h13 : SN ads 13 c2) (h15 : SN ads 15 c3) (h16 : SN ads 16 c4) (h17 : SN ads 17 c5) (h18 : SN ads 18 c6) (h19 : SN ads 19 c7) (h20 : SN ads 20 c8) (h21 : SN ads 21 c9) : SN ads 6 (g6 c1 c2 c3 c4 c5 c6 c7 c8 c9) :=
  mk_snd [(nn12, c1), (nn13, c2), (nn15, c3), (nn16, c4), (nn17, c5), (nn18, c6), (nn19, c7), (nn20, c8), (nn21, c9)] ⟨fun n => match n with | 1 => [(11, .slice), (61, .int .i64)] | _ => [], fun n => match n with | 10 => some [(10, .int .i64)] | 28 => some [(93, .bool)] | _ => none⟩ [.ptr, .str] Tryz.func6 rfl (.cons h12 (.cons h13 (.cons h15 (.cons h16 (.cons h17 (.cons h18 (.cons h19 (.cons h20 (.cons h21 .nil)))))))))
theorem k9 : SN ads 9 (g9) :=
  mk_snd [] ⟨fun n => match n with | 0 => [(5, .int .i64)] | _ => [], fun _ => none⟩ [.slice, .slice] Tryz.func9 rfl .nil
theorem k10 (h6 : SN ads 6 c1) : SN ads 10 (g10 c1) :=
  mk_snd [(nn6, c1)] ⟨fun n => match n with | 0 => [(6, .slice), (13, .int .i64)] | _ => [], fun _ => none⟩ [.ptr, .slice] Tryz.func10 rfl (.cons h6 .nil)
theorem k4 (h5 : SN ads 5 c1) (h6 : SN ads 6 c2) (h9 : SN ads 9 c3) (h10 : SN ads 10 c4) : SN ads 4 (g4 c1 c2 c3 c4) :=
  mk_snd [(nn5, c1), (nn6, c2), (nn9, c3), (nn10, c4)] ⟨fun _ => [], fun _ => none⟩ [] Tryz.func4 rfl (.cons h5 (.cons h6 (.cons h9 (.cons h10 .nil))))
theorem k46 : SN ads 46 (g46) :=
  mk_snd [] ⟨fun _ => [], fun _ => none⟩ [.any, .any] Tryz.func46 rfl .nil
theorem k23 : SN ads 23 (g23) :=
  mk_snd [] ⟨fun _ => [], fun _ => none⟩ [.int .i64] Tryz.func23 rfl .nil
theorem k185 : SN ads 185 (g185) :=
  mk_snd [] ⟨fun _ => [], fun _ => none⟩ [] Tryz.func185 rfl .nil
theorem k186 : SN ads 186 (g186) :=
  mk_snd [] ⟨fun _ => [], fun _ => none⟩ [.any, .any] Tryz.func186 rfl .nil
theorem k104 (h185 : SN ads 185 c1) (h186 : SN ads 186 c2) : SN ads 104 (g104 c1 c2) :=
  mk_snd [(nn185, c1), (nn186, c2)] ⟨fun n => match n with | 0 => [(4, .int .i64)] | _ => [], fun _ => none⟩ [.any] Tryz.func104 rfl (.cons h185 (.cons h186 .nil))
theorem k47 (h23 : SN ads 23 c1) (h104 : SN ads 104 c2) : SN ads 47 (g47 c1 c2) :=
  mk_snd [(nn23, c1), (nn104, c2)] ⟨fun _ => [], fun _ => none⟩ [.any] Tryz.func47 rfl (.cons h23 (.cons h104 .nil))
theorem k22 (h46 : SN ads 46 c1) (h47 : SN ads 47 c2) : SN ads 22 (g22 c1 c2) :=
  mk_snd [(nn46, c1), (nn47, c2)] ⟨fun _ => [], fun _ => none⟩ [.any, .any] Tryz.func22 rfl (.cons h46 (.cons h47 .nil))
theorem k8 (h22 : SN ads 22 c1) (h23 : SN ads 23 c2) : SN ads 8 (g8 c1 c2) :=
  mk_snd [(nn22, c1), (nn23, c2)] ⟨fun _ => [], fun _ => none⟩ [.any, .int .i64] Tryz.func8 rfl (.cons h22 (.cons h23 .nil))
end
end Go.Proofs.YtdkopdoicepgmaaGreatDoor
