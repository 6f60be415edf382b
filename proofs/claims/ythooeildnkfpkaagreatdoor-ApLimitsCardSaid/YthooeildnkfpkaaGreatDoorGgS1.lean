/- The printed functions are the machine's own, by the kernel. -/
import Derived.Test.YthooeildnkfpkaaGreatDoorGgD2
import Derived.Test.YthooeildnkfpkaaGreatDoorRows
set_option linter.unusedVariables false
set_option linter.constructorNameAsVariable false
set_option maxRecDepth 100000
namespace Go.Proofs.YthooeildnkfpkaaGreatDoor
open Go.Vc Go.Ab
noncomputable section
variable (v1 : AV) (l1 l2 l3 l4 : List AV) (L1 : List AP) (d1 d2 d3 d4 : DV) (R1 : List DV) (n1 n2 n3 n4 n5 n6 n7 n8 n9 : Int) (m1 m2 m3 m4 m5 : Nat) (t1 t2 t3 t4 : Bool) (p1 p2 p3 p4 p5 : AP) (b1 b2 b3 b4 b5 : P4) (s1 s2 s3 s4 s5 : AS) (H1 : AH) (x1 x2 : List Int) (c1 c2 c3 c4 c5 c6 c7 c8 c9 c10 c11 c12 c13 c14 c15 c16 : G DV) (Ka1 : AH → Option DV) (Kb1 Kb2 Kb3 : DV → AH → Option DV) (Kc1 Kc2 : DV → DV → AH → Option DV) (Kd1 : DV → DV → DV → AH → Option DV)
variable {ads : List Addr}
theorem s153 : SN ads 153 (g153) :=
  mk_snd [] ⟨fun _ => [], fun _ => none⟩ [.ptr, .ptr] Tryz.func153 rfl .nil
theorem s186 : SN ads 186 (g186) :=
  mk_snd [] ⟨fun _ => [], fun _ => none⟩ [.ptr, .ptr] Tryz.func186 rfl .nil
theorem s185 (h95 : SN ads 95 c1) (h153 : SN ads 153 c2) (h186 : SN ads 186 c3) : SN ads 185 (g185 c1 c2 c3) :=
  mk_snd [(nn95, c1), (nn153, c2), (nn186, c3)] ⟨fun n => match n with | 0 => [(8, .int .i64)] | _ => [], fun _ => none⟩ [.slice, .any] Tryz.func185 rfl (.cons h95 (.cons h153 (.cons h186 .nil)))
theorem s94 (h95 : SN ads 95 c1) (h153 : SN ads 153 c2) (h185 : SN ads 185 c3) : SN ads 94 (g94 c1 c2 c3) :=
  mk_snd [(nn95, c1), (nn153, c2), (nn185, c3)] ⟨fun n => match n with | 0 => [(5, .int .i64), (6, .int .i64)] | _ => [], fun n => match n with | 6 => some [(5, .int .i64)] | _ => none⟩ [.slice, .any] Tryz.func94 rfl (.cons h95 (.cons h153 (.cons h185 .nil)))
theorem s194 (h237 : SN ads 237 c1) : SN ads 194 (g194 c1) :=
  mk_snd [(nn237, c1)] ⟨fun _ => [], fun _ => none⟩ [.any] Tryz.func194 rfl (.cons h237 .nil)
theorem s227 (h194 : SN ads 194 c1) : SN ads 227 (g227 c1) :=
  mk_snd [(nn194, c1)] ⟨fun n => match n with | 0 => [(3, .slice), (7, .int .i64)] | 2 => [(3, .slice), (18, .int .i64)] | _ => [], fun _ => none⟩ [.ptr] Tryz.func227 rfl (.cons h194 .nil)
theorem s152 (h106 : SN ads 106 c1) (h226 : SN ads 226 c2) (h227 : SN ads 227 c3) : SN ads 152 (g152 c1 c2 c3) :=
  mk_snd [(nn106, c1), (nn226, c2), (nn227, c3)] ⟨fun n => match n with | 0 => [(5, .slice), (18, .int .i64)] | _ => [], fun _ => none⟩ [.ptr, .int .i64] Tryz.func152 rfl (.cons h106 (.cons h226 (.cons h227 .nil)))
theorem s154 (h122 : SN ads 122 c1) : SN ads 154 (g154 c1) :=
  mk_snd [(nn122, c1)] ⟨fun _ => [], fun _ => none⟩ [.ptr, .int .i64] Tryz.func154 rfl (.cons h122 .nil)
theorem s155 (h121 : SN ads 121 c1) (h150 : SN ads 150 c2) : SN ads 155 (g155 c1 c2) :=
  mk_snd [(nn121, c1), (nn150, c2)] ⟨fun _ => [], fun n => match n with | 6 => some [] | _ => none⟩ [.ptr, .int .i64] Tryz.func155 rfl (.cons h121 (.cons h150 .nil))
theorem s156 (h151 : SN ads 151 c1) : SN ads 156 (g156 c1) :=
  mk_snd [(nn151, c1)] ⟨fun _ => [], fun _ => none⟩ [.ptr, .int .i64] Tryz.func156 rfl (.cons h151 .nil)
theorem s157 (h209 : SN ads 209 c1) : SN ads 157 (g157 c1) :=
  mk_snd [(nn209, c1)] ⟨fun _ => [], fun _ => none⟩ [.ptr, .int .i64] Tryz.func157 rfl (.cons h209 .nil)
theorem s71 (h58 : SN ads 58 c1) (h94 : SN ads 94 c2) (h111 : SN ads 111 c3) (h112 : SN ads 112 c4) (h152 : SN ads 152 c5) (h154 : SN ads 154 c6) (h155 : SN ads 155 c7) (h156 : SN ads 156 c8) (h157 : SN ads 157 c9) : SN ads 71 (g71 c1 c2 c3 c4 c5 c6 c7 c8 c9) :=
  mk_snd [(nn58, c1), (nn94, c2), (nn111, c3), (nn112, c4), (nn152, c5), (nn154, c6), (nn155, c7), (nn156, c8), (nn157, c9)] ⟨fun n => match n with | 0 => [(25, .int .i64)] | 2 => [(37, .int .i64)] | 4 => [(67, .int .i64)] | _ => [], fun _ => none⟩ [.ptr, .int .i64] Tryz.func71 rfl (.cons h58 (.cons h94 (.cons h111 (.cons h112 (.cons h152 (.cons h154 (.cons h155 (.cons h156 (.cons h157 .nil)))))))))
theorem s72 : SN ads 72 (g72) :=
  mk_snd [] ⟨fun n => match n with | 0 => [(4, .int .i64)] | _ => [], fun _ => none⟩ [.ptr, .slice] Tryz.func72 rfl .nil
theorem s241 : SN ads 241 (g241) :=
  mk_snd [] ⟨fun n => match n with | 0 => [(5, .int .i64)] | _ => [], fun _ => none⟩ [.ptr, .int .i64] Tryz.func241 rfl .nil
theorem s228 (h241 : SN ads 241 c1) : SN ads 228 (g228 c1) :=
  mk_snd [(nn241, c1)] ⟨fun _ => [], fun _ => none⟩ [.ptr, .ptr, .int .i64] Tryz.func228 rfl (.cons h241 .nil)
theorem s245 : SN ads 245 (g245) :=
  mk_snd [] ⟨fun _ => [], fun n => match n with | 4 => some [(0, .int .i64)] | _ => none⟩ [.int .i64] Tryz.func245 rfl .nil
theorem s229 (h245 : SN ads 245 c1) : SN ads 229 (g229 c1) :=
  mk_snd [(nn245, c1)] ⟨fun _ => [], fun _ => none⟩ [.int .i64, .int .i64] Tryz.func229 rfl (.cons h245 .nil)
theorem s158 (h228 : SN ads 228 c1) (h229 : SN ads 229 c2) : SN ads 158 (g158 c1 c2) :=
  mk_snd [(nn228, c1), (nn229, c2)] ⟨fun n => match n with | 0 => [] | _ => [], fun _ => none⟩ [.ptr, .ptr] Tryz.func158 rfl (.cons h228 (.cons h229 .nil))
theorem s73 (h158 : SN ads 158 c1) : SN ads 73 (g73 c1) :=
  mk_snd [(nn158, c1)] ⟨fun n => match n with | 0 => [(4, .int .i64)] | _ => [], fun _ => none⟩ [.ptr] Tryz.func73 rfl (.cons h158 .nil)
theorem s25 (h71 : SN ads 71 c1) (h72 : SN ads 72 c2) (h73 : SN ads 73 c3) : SN ads 25 (g25 c1 c2 c3) :=
  mk_snd [(nn71, c1), (nn72, c2), (nn73, c3)] ⟨fun n => match n with | 0 => [(6, .slice), (7, .int .i64)] | _ => [], fun n => match n with | 9 => some [(6, .slice)] | _ => none⟩ [.ptr, .int .i64] Tryz.func25 rfl (.cons h71 (.cons h72 (.cons h73 .nil)))
theorem s159 : SN ads 159 (g159) :=
  mk_snd [] ⟨fun _ => [], fun _ => none⟩ [.ptr] Tryz.func159 rfl .nil
theorem s302 : SN ads 302 (g302) :=
  mk_snd [] ⟨fun _ => [], fun _ => none⟩ [.int .u32, .int .u32] Tryz.func302 rfl .nil
theorem s278 (h302 : SN ads 302 c1) : SN ads 278 (g278 c1) :=
  mk_snd [(nn302, c1)] ⟨fun _ => [], fun _ => none⟩ [.int .u32, .int .u32] Tryz.func278 rfl (.cons h302 .nil)
theorem s230 (h145 : SN ads 145 c1) (h237 : SN ads 237 c2) (h278 : SN ads 278 c3) : SN ads 230 (g230 c1 c2 c3) :=
  mk_snd [(nn145, c1), (nn237, c2), (nn278, c3)] ⟨fun _ => [], fun n => match n with | 11 => some [] | _ => none⟩ [.ptr, .any] Tryz.func230 rfl (.cons h145 (.cons h237 (.cons h278 .nil)))
theorem s48 (h49 : SN ads 49 c1) : SN ads 48 (g48 c1) :=
  mk_snd [(nn49, c1)] ⟨fun _ => [], fun _ => none⟩ [.ptr, .ptr] Tryz.func48 rfl (.cons h49 .nil)
theorem s280 : SN ads 280 (g280) :=
  mk_snd [] ⟨fun _ => [], fun _ => none⟩ [.ptr] Tryz.func280 rfl .nil
theorem s279 (h280 : SN ads 280 c1) : SN ads 279 (g279 c1) :=
  mk_snd [(nn280, c1)] ⟨fun _ => [], fun _ => none⟩ [.ptr, .ptr] Tryz.func279 rfl (.cons h280 .nil)
theorem s281 (h49 : SN ads 49 c1) (h282 : SN ads 282 c2) : SN ads 281 (g281 c1 c2) :=
  mk_snd [(nn49, c1), (nn282, c2)] ⟨fun _ => [], fun _ => none⟩ [.ptr, .ptr, .ptr, .ptr] Tryz.func281 rfl (.cons h49 (.cons h282 .nil))
theorem s47 (h48 : SN ads 48 c1) (h279 : SN ads 279 c2) (h281 : SN ads 281 c3) : SN ads 47 (g47 c1 c2 c3) :=
  mk_snd [(nn48, c1), (nn279, c2), (nn281, c3)] ⟨fun n => match n with | 0 => [(6, .int .i64)] | 2 => [(9, .int .i64)] | _ => [], fun _ => none⟩ [.ptr, .any] Tryz.func47 rfl (.cons h48 (.cons h279 (.cons h281 .nil)))
theorem s303 (h194 : SN ads 194 c1) : SN ads 303 (g303 c1) :=
  mk_snd [(nn194, c1)] ⟨fun _ => [], fun _ => none⟩ [.ptr, .int .i64] Tryz.func303 rfl (.cons h194 .nil)
theorem s283 (h303 : SN ads 303 c1) (h304 : SN ads 304 c2) : SN ads 283 (g283 c1 c2) :=
  mk_snd [(nn303, c1), (nn304, c2)] ⟨fun _ => [], fun _ => none⟩ [.ptr, .int .i64] Tryz.func283 rfl (.cons h303 (.cons h304 .nil))
theorem s232 (h47 : SN ads 47 c1) (h283 : SN ads 283 c2) : SN ads 232 (g232 c1 c2) :=
  mk_snd [(nn47, c1), (nn283, c2)] ⟨fun _ => [], fun _ => none⟩ [.ptr] Tryz.func232 rfl (.cons h47 (.cons h283 .nil))
theorem s160 (h18 : SN ads 18 c1) (h226 : SN ads 226 c2) (h230 : SN ads 230 c3) (h231 : SN ads 231 c4) (h232 : SN ads 232 c5) : SN ads 160 (g160 c1 c2 c3 c4 c5) :=
  mk_snd [(nn18, c1), (nn226, c2), (nn230, c3), (nn231, c4), (nn232, c5)] ⟨fun n => match n with | 0 => [(8, .slice)] | _ => [], fun n => match n with | 6 => some [] | 7 => some [(8, .slice)] | _ => none⟩ [.ptr, .int .i64, .any] Tryz.func160 rfl (.cons h18 (.cons h226 (.cons h230 (.cons h231 (.cons h232 .nil)))))
theorem s74 (h58 : SN ads 58 c1) (h111 : SN ads 111 c2) (h159 : SN ads 159 c3) (h160 : SN ads 160 c4) : SN ads 74 (g74 c1 c2 c3 c4) :=
  mk_snd [(nn58, c1), (nn111, c2), (nn159, c3), (nn160, c4)] ⟨fun _ => [], fun _ => none⟩ [.ptr, .int .i64, .int .i64, .int .i64, .int .u32, .slice] Tryz.func74 rfl (.cons h58 (.cons h111 (.cons h159 (.cons h160 .nil))))
theorem s75 : SN ads 75 (g75) :=
  mk_snd [] ⟨fun n => match n with | 0 => [(3, .slice), (4, .int .i64)] | _ => [], fun _ => none⟩ [.slice] Tryz.func75 rfl .nil
theorem s26 (h7 : SN ads 7 c1) (h74 : SN ads 74 c2) (h75 : SN ads 75 c3) : SN ads 26 (g26 c1 c2 c3) :=
  mk_snd [(nn7, c1), (nn74, c2), (nn75, c3)] ⟨fun _ => [], fun _ => none⟩ [.ptr, .int .i64, .any] Tryz.func26 rfl (.cons h7 (.cons h74 (.cons h75 .nil)))
theorem s76 : SN ads 76 (g76) :=
  mk_snd [] ⟨fun n => match n with | 0 => [(3, .slice), (11, .int .i64)] | _ => [], fun _ => none⟩ [.ptr] Tryz.func76 rfl .nil
theorem s77 : SN ads 77 (g77) :=
  mk_snd [] ⟨fun n => match n with | 0 => [(5, .int .i64)] | _ => [], fun _ => none⟩ [.ptr, .int .i64] Tryz.func77 rfl .nil
theorem s93 (h185 : SN ads 185 c1) : SN ads 93 (g93 c1) :=
  mk_snd [(nn185, c1)] ⟨fun _ => [], fun _ => none⟩ [.ptr, .int .i64] Tryz.func93 rfl (.cons h185 .nil)
theorem s78 (h93 : SN ads 93 c1) : SN ads 78 (g78 c1) :=
  mk_snd [(nn93, c1)] ⟨fun _ => [], fun _ => none⟩ [.ptr, .int .i64] Tryz.func78 rfl (.cons h93 .nil)
theorem s284 : SN ads 284 (g284) :=
  mk_snd [] ⟨fun _ => [], fun _ => none⟩ [.slice] Tryz.func284 rfl .nil
theorem s285 (h299 : SN ads 299 c1) : SN ads 285 (g285 c1) :=
  mk_snd [(nn299, c1)] ⟨fun _ => [], fun _ => none⟩ [.slice] Tryz.func285 rfl (.cons h299 .nil)
theorem s233 (h237 : SN ads 237 c1) (h284 : SN ads 284 c2) (h285 : SN ads 285 c3) : SN ads 233 (g233 c1 c2 c3) :=
  mk_snd [(nn237, c1), (nn284, c2), (nn285, c3)] ⟨fun _ => [], fun _ => none⟩ [.slice] Tryz.func233 rfl (.cons h237 (.cons h284 (.cons h285 .nil)))
theorem s236 : SN ads 236 (g236) :=
  mk_snd [] ⟨fun _ => [], fun _ => none⟩ [.int .u8] Tryz.func236 rfl .nil
theorem s286 (h236 : SN ads 236 c1) : SN ads 286 (g286 c1) :=
  mk_snd [(nn236, c1)] ⟨fun n => match n with | 0 => [(8, .int .i64)] | _ => [], fun _ => none⟩ [.slice, .any] Tryz.func286 rfl (.cons h236 .nil)
theorem s235 (h286 : SN ads 286 c1) : SN ads 235 (g235 c1) :=
  mk_snd [(nn286, c1)] ⟨fun _ => [], fun _ => none⟩ [.slice, .any] Tryz.func235 rfl (.cons h286 .nil)
theorem s161 (h233 : SN ads 233 c1) (h234 : SN ads 234 c2) (h235 : SN ads 235 c3) : SN ads 161 (g161 c1 c2 c3) :=
  mk_snd [(nn233, c1), (nn234, c2), (nn235, c3)] ⟨fun n => match n with | 0 => [(0, .slice), (5, .slice)] | _ => [], fun _ => none⟩ [.slice] Tryz.func161 rfl (.cons h233 (.cons h234 (.cons h235 .nil)))
theorem s162 (h237 : SN ads 237 c1) : SN ads 162 (g162 c1) :=
  mk_snd [(nn237, c1)] ⟨fun n => match n with | 2 => [(97, .int .i64)] | _ => [], fun n => match n with | 12 => some [(31, .bool)] | _ => none⟩ [.slice] Tryz.func162 rfl (.cons h237 .nil)
theorem s238 (h239 : SN ads 239 c1) : SN ads 238 (g238 c1) :=
  mk_snd [(nn239, c1)] ⟨fun _ => [], fun _ => none⟩ [.int .i64, .int .i64, .int .i64] Tryz.func238 rfl (.cons h239 .nil)
theorem s163 (h238 : SN ads 238 c1) (h239 : SN ads 239 c2) : SN ads 163 (g163 c1 c2) :=
  mk_snd [(nn238, c1), (nn239, c2)] ⟨fun _ => [], fun n => match n with | 2 => some [(7, .bool)] | 4 => some [(41, .bool)] | 6 => some [(70, .bool)] | _ => none⟩ [.any, .any, .ptr] Tryz.func163 rfl (.cons h238 (.cons h239 .nil))
theorem s164 (h67 : SN ads 67 c1) (h222 : SN ads 222 c2) : SN ads 164 (g164 c1 c2) :=
  mk_snd [(nn67, c1), (nn222, c2)] ⟨fun _ => [], fun n => match n with | 4 => some [(24, .bool)] | _ => none⟩ [.any, .bool, .int .i64, .int .i64] Tryz.func164 rfl (.cons h67 (.cons h222 .nil))
theorem s79 (h161 : SN ads 161 c1) (h162 : SN ads 162 c2) (h163 : SN ads 163 c3) (h164 : SN ads 164 c4) : SN ads 79 (g79 c1 c2 c3 c4) :=
  mk_snd [(nn161, c1), (nn162, c2), (nn163, c3), (nn164, c4)] ⟨fun n => match n with | 0 => [(11, .ptr), (36, .int .i64)] | _ => [], fun n => match n with | 9 => some [(8, .slice)] | 17 => some [(15, .any)] | _ => none⟩ [.any, .bool, .slice] Tryz.func79 rfl (.cons h161 (.cons h162 (.cons h163 (.cons h164 .nil))))
theorem s27 (h20 : SN ads 20 c1) (h76 : SN ads 76 c2) (h77 : SN ads 77 c3) (h78 : SN ads 78 c4) (h79 : SN ads 79 c5) : SN ads 27 (g27 c1 c2 c3 c4 c5) :=
  mk_snd [(nn20, c1), (nn76, c2), (nn77, c3), (nn78, c4), (nn79, c5)] ⟨fun n => match n with | 0 => [(6, .int .i64)] | 2 => [(11, .int .i64)] | _ => [], fun n => match n with | 19 => some [(149, .bool)] | _ => none⟩ [.ptr, .any] Tryz.func27 rfl (.cons h20 (.cons h76 (.cons h77 (.cons h78 (.cons h79 .nil)))))
theorem s87 : SN ads 87 (g87) :=
  mk_snd [] ⟨fun _ => [], fun _ => none⟩ [.ptr, .slice] Tryz.func87 rfl .nil
theorem s88 : SN ads 88 (g88) :=
  mk_snd [] ⟨fun _ => [], fun n => match n with | 9 => some [(9, .bool)] | _ => none⟩ [.slice] Tryz.func88 rfl .nil
theorem s247 : SN ads 247 (g247) :=
  mk_snd [] ⟨fun _ => [], fun _ => none⟩ [.slice, .int .u8, .int .i64] Tryz.func247 rfl .nil
theorem s248 : SN ads 248 (g248) :=
  mk_snd [] ⟨fun _ => [], fun _ => none⟩ [.slice] Tryz.func248 rfl .nil
theorem s178 (h247 : SN ads 247 c1) (h248 : SN ads 248 c2) : SN ads 178 (g178 c1 c2) :=
  mk_snd [(nn247, c1), (nn248, c2)] ⟨fun _ => [], fun _ => none⟩ [.slice] Tryz.func178 rfl (.cons h247 (.cons h248 .nil))
theorem s179 (h151 : SN ads 151 c1) : SN ads 179 (g179 c1) :=
  mk_snd [(nn151, c1)] ⟨fun _ => [], fun _ => none⟩ [.ptr, .int .i64] Tryz.func179 rfl (.cons h151 .nil)
theorem s89 (h147 : SN ads 147 c1) (h178 : SN ads 178 c2) (h179 : SN ads 179 c3) : SN ads 89 (g89 c1 c2 c3) :=
  mk_snd [(nn147, c1), (nn178, c2), (nn179, c3)] ⟨fun _ => [], fun _ => none⟩ [.ptr, .slice] Tryz.func89 rfl (.cons h147 (.cons h178 (.cons h179 .nil)))
theorem s249 (h289 : SN ads 289 c1) : SN ads 249 (g249 c1) :=
  mk_snd [(nn289, c1)] ⟨fun _ => [], fun _ => none⟩ [.slice, .int .i64, .slice] Tryz.func249 rfl (.cons h289 .nil)
theorem s250 : SN ads 250 (g250) :=
  mk_snd [] ⟨fun n => match n with | 0 => [(7, .int .i64)] | _ => [], fun _ => none⟩ [.slice] Tryz.func250 rfl .nil
theorem s251 : SN ads 251 (g251) :=
  mk_snd [] ⟨fun _ => [], fun _ => none⟩ [.slice] Tryz.func251 rfl .nil
theorem s180 (h136 : SN ads 136 c1) (h249 : SN ads 249 c2) (h250 : SN ads 250 c3) (h251 : SN ads 251 c4) (h252 : SN ads 252 c5) : SN ads 180 (g180 c1 c2 c3 c4 c5) :=
  mk_snd [(nn136, c1), (nn249, c2), (nn250, c3), (nn251, c4), (nn252, c5)] ⟨fun _ => [], fun n => match n with | 10 => some [(6, .slice)] | 14 => some [] | _ => none⟩ [.slice] Tryz.func180 rfl (.cons h136 (.cons h249 (.cons h250 (.cons h251 (.cons h252 .nil)))))
theorem s181 (h58 : SN ads 58 c1) (h147 : SN ads 147 c2) : SN ads 181 (g181 c1 c2) :=
  mk_snd [(nn58, c1), (nn147, c2)] ⟨fun _ => [], fun n => match n with | 2 => some [(29, .bool)] | _ => none⟩ [.ptr, .any, .any, .any, .int .i64] Tryz.func181 rfl (.cons h58 (.cons h147 .nil))
theorem s182 (h202 : SN ads 202 c1) : SN ads 182 (g182 c1) :=
  mk_snd [(nn202, c1)] ⟨fun _ => [], fun n => match n with | 11 => some [(9, .int .i64)] | _ => none⟩ [.ptr, .int .i64, .int .i64, .int .i64] Tryz.func182 rfl (.cons h202 .nil)
theorem s90 (h131 : SN ads 131 c1) (h180 : SN ads 180 c2) (h181 : SN ads 181 c3) (h182 : SN ads 182 c4) : SN ads 90 (g90 c1 c2 c3 c4) :=
  mk_snd [(nn131, c1), (nn180, c2), (nn181, c3), (nn182, c4)] ⟨fun _ => [], fun n => match n with | 15 => some [] | _ => none⟩ [.ptr, .slice] Tryz.func90 rfl (.cons h131 (.cons h180 (.cons h181 (.cons h182 .nil))))
theorem s253 (h215 : SN ads 215 c1) (h216 : SN ads 216 c2) (h217 : SN ads 217 c3) : SN ads 253 (g253 c1 c2 c3) :=
  mk_snd [(nn215, c1), (nn216, c2), (nn217, c3)] ⟨fun _ => [], fun n => match n with | 6 => some [(4, .int .i64)] | _ => none⟩ [.any] Tryz.func253 rfl (.cons h215 (.cons h216 (.cons h217 .nil)))
theorem s183 (h249 : SN ads 249 c1) (h250 : SN ads 250 c2) (h251 : SN ads 251 c3) (h252 : SN ads 252 c4) (h253 : SN ads 253 c5) : SN ads 183 (g183 c1 c2 c3 c4 c5) :=
  mk_snd [(nn249, c1), (nn250, c2), (nn251, c3), (nn252, c4), (nn253, c5)] ⟨fun _ => [], fun _ => none⟩ [.slice] Tryz.func183 rfl (.cons h249 (.cons h250 (.cons h251 (.cons h252 (.cons h253 .nil)))))
theorem s91 (h112 : SN ads 112 c1) (h113 : SN ads 113 c2) (h181 : SN ads 181 c3) (h183 : SN ads 183 c4) : SN ads 91 (g91 c1 c2 c3 c4) :=
  mk_snd [(nn112, c1), (nn113, c2), (nn181, c3), (nn183, c4)] ⟨fun _ => [], fun _ => none⟩ [.ptr, .slice] Tryz.func91 rfl (.cons h112 (.cons h113 (.cons h181 (.cons h183 .nil))))
theorem s31 (h87 : SN ads 87 c1) (h88 : SN ads 88 c2) (h89 : SN ads 89 c3) (h90 : SN ads 90 c4) (h91 : SN ads 91 c5) : SN ads 31 (g31 c1 c2 c3 c4 c5) :=
  mk_snd [(nn87, c1), (nn88, c2), (nn89, c3), (nn90, c4), (nn91, c5)] ⟨fun _ => [], fun n => match n with | 9 => some [(5, .any)] | _ => none⟩ [.ptr, .slice] Tryz.func31 rfl (.cons h87 (.cons h88 (.cons h89 (.cons h90 (.cons h91 .nil)))))
theorem s96 (h108 : SN ads 108 c1) (h122 : SN ads 122 c2) (h123 : SN ads 123 c3) : SN ads 96 (g96 c1 c2 c3) :=
  mk_snd [(nn108, c1), (nn122, c2), (nn123, c3)] ⟨fun _ => [], fun _ => none⟩ [.ptr, .int .i64, .int .i64] Tryz.func96 rfl (.cons h108 (.cons h122 (.cons h123 .nil)))
theorem s290 (h248 : SN ads 248 c1) : SN ads 290 (g290 c1) :=
  mk_snd [(nn248, c1)] ⟨fun _ => [], fun _ => none⟩ [.slice] Tryz.func290 rfl (.cons h248 .nil)
theorem s291 (h212 : SN ads 212 c1) : SN ads 291 (g291 c1) :=
  mk_snd [(nn212, c1)] ⟨fun n => match n with | 0 => [(4, .slice), (22, .int .i64)] | _ => [], fun _ => none⟩ [.any] Tryz.func291 rfl (.cons h212 .nil)
theorem s254 (h247 : SN ads 247 c1) (h252 : SN ads 252 c2) (h290 : SN ads 290 c3) (h291 : SN ads 291 c4) : SN ads 254 (g254 c1 c2 c3 c4) :=
  mk_snd [(nn247, c1), (nn252, c2), (nn290, c3), (nn291, c4)] ⟨fun n => match n with | 0 => [(27, .int .i64)] | _ => [], fun _ => none⟩ [.slice] Tryz.func254 rfl (.cons h247 (.cons h252 (.cons h290 (.cons h291 .nil))))
theorem s187 (h254 : SN ads 254 c1) : SN ads 187 (g187 c1) :=
  mk_snd [(nn254, c1)] ⟨fun _ => [], fun _ => none⟩ [.ptr, .ptr, .slice] Tryz.func187 rfl (.cons h254 .nil)
theorem s259 : SN ads 259 (g259) :=
  mk_snd [] ⟨fun n => match n with | 0 => [(8, .int .i64)] | _ => [], fun _ => none⟩ [.ptr] Tryz.func259 rfl .nil
theorem s188 (h197 : SN ads 197 c1) (h256 : SN ads 256 c2) (h257 : SN ads 257 c3) (h259 : SN ads 259 c4) : SN ads 188 (g188 c1 c2 c3 c4) :=
  mk_snd [(nn197, c1), (nn256, c2), (nn257, c3), (nn259, c4)] ⟨fun _ => [], fun n => match n with | 5 => some [(14, .bool)] | _ => none⟩ [.ptr, .any] Tryz.func188 rfl (.cons h197 (.cons h256 (.cons h257 (.cons h259 .nil))))
theorem s190 (h256 : SN ads 256 c1) (h259 : SN ads 259 c2) : SN ads 190 (g190 c1 c2) :=
  mk_snd [(nn256, c1), (nn259, c2)] ⟨fun _ => [], fun _ => none⟩ [.ptr] Tryz.func190 rfl (.cons h256 (.cons h259 .nil))
theorem s97 (h187 : SN ads 187 c1) (h188 : SN ads 188 c2) (h189 : SN ads 189 c3) (h190 : SN ads 190 c4) : SN ads 97 (g97 c1 c2 c3 c4) :=
  mk_snd [(nn187, c1), (nn188, c2), (nn189, c3), (nn190, c4)] ⟨fun n => match n with | 0 => [(36, .int .i64)] | _ => [], fun n => match n with | 10 => some [(10, .bool)] | 12 => some [] | _ => none⟩ [.ptr, .ptr, .ptr, .slice] Tryz.func97 rfl (.cons h187 (.cons h188 (.cons h189 (.cons h190 .nil))))
theorem s191 : SN ads 191 (g191) :=
  mk_snd [] ⟨fun _ => [], fun n => match n with | 3 => some [(27, .bool)] | _ => none⟩ [.ptr, .bool] Tryz.func191 rfl .nil
theorem s98 (h187 : SN ads 187 c1) (h191 : SN ads 191 c2) : SN ads 98 (g98 c1 c2) :=
  mk_snd [(nn187, c1), (nn191, c2)] ⟨fun _ => [], fun _ => none⟩ [.ptr, .ptr, .ptr, .slice] Tryz.func98 rfl (.cons h187 (.cons h191 .nil))
theorem s99 (h131 : SN ads 131 c1) (h182 : SN ads 182 c2) : SN ads 99 (g99 c1 c2) :=
  mk_snd [(nn131, c1), (nn182, c2)] ⟨fun _ => [], fun _ => none⟩ [.ptr, .ptr, .ptr, .slice] Tryz.func99 rfl (.cons h131 (.cons h182 .nil))
theorem s100 (h116 : SN ads 116 c1) (h192 : SN ads 192 c2) : SN ads 100 (g100 c1 c2) :=
  mk_snd [(nn116, c1), (nn192, c2)] ⟨fun _ => [], fun _ => none⟩ [.ptr, .int .i64, .bool] Tryz.func100 rfl (.cons h116 (.cons h192 .nil))
theorem s34 (h58 : SN ads 58 c1) (h59 : SN ads 59 c2) (h93 : SN ads 93 c3) (h94 : SN ads 94 c4) (h96 : SN ads 96 c5) (h97 : SN ads 97 c6) (h98 : SN ads 98 c7) (h99 : SN ads 99 c8) (h100 : SN ads 100 c9) : SN ads 34 (g34 c1 c2 c3 c4 c5 c6 c7 c8 c9) :=
  mk_snd [(nn58, c1), (nn59, c2), (nn93, c3), (nn94, c4), (nn96, c5), (nn97, c6), (nn98, c7), (nn99, c8), (nn100, c9)] ⟨fun _ => [], fun n => match n with | 18 => some [(12, .any)] | _ => none⟩ [.ptr, .int .i64, .int .i64, .slice] Tryz.func34 rfl (.cons h58 (.cons h59 (.cons h93 (.cons h94 (.cons h96 (.cons h97 (.cons h98 (.cons h99 (.cons h100 .nil)))))))))
theorem s38 : SN ads 38 (g38) :=
  mk_snd [] ⟨fun _ => [], fun _ => none⟩ [.slice] Tryz.func38 rfl .nil
theorem s165 : SN ads 165 (g165) :=
  mk_snd [] ⟨fun n => match n with | 0 => [(3, .int .i64), (4, .int .i64)] | 2 => [(3, .int .i64), (5, .int .i64)] | 4 => [(7, .int .i64), (8, .int .i64)] | _ => [], fun n => match n with | 7 => some [(3, .int .i64)] | 15 => some [(7, .int .i64)] | _ => none⟩ [.slice] Tryz.func165 rfl .nil
theorem s80 (h38 : SN ads 38 c1) (h75 : SN ads 75 c2) (h165 : SN ads 165 c3) : SN ads 80 (g80 c1 c2 c3) :=
  mk_snd [(nn38, c1), (nn75, c2), (nn165, c3)] ⟨fun n => match n with | 0 => [(3, .slice), (4, .int .i64)] | _ => [], fun n => match n with | 7 => some [(52, .bool)] | _ => none⟩ [.slice] Tryz.func80 rfl (.cons h38 (.cons h75 (.cons h165 .nil)))
theorem s86 : SN ads 86 (g86) :=
  mk_snd [] ⟨fun _ => [], fun _ => none⟩ [.slice, .int .i64] Tryz.func86 rfl .nil
theorem s166 : SN ads 166 (g166) :=
  mk_snd [] ⟨fun n => match n with | 0 => [(3, .int .i64), (4, .int .i64)] | _ => [], fun _ => none⟩ [.slice] Tryz.func166 rfl .nil
theorem s167 : SN ads 167 (g167) :=
  mk_snd [] ⟨fun n => match n with | 0 => [(3, .slice), (4, .int .i64)] | _ => [], fun _ => none⟩ [.slice] Tryz.func167 rfl .nil
theorem s81 (h86 : SN ads 86 c1) (h165 : SN ads 165 c2) (h166 : SN ads 166 c3) (h167 : SN ads 167 c4) : SN ads 81 (g81 c1 c2 c3 c4) :=
  mk_snd [(nn86, c1), (nn165, c2), (nn166, c3), (nn167, c4)] ⟨fun n => match n with | 0 => [(4, .int .i64)] | 2 => [(5, .slice), (6, .int .i64)] | 4 => [(5, .slice)] | _ => [], fun _ => none⟩ [.slice] Tryz.func81 rfl (.cons h86 (.cons h165 (.cons h166 (.cons h167 .nil))))
theorem s37 : SN ads 37 (g37) :=
  mk_snd [] ⟨fun n => match n with | 0 => [(4, .int .i64)] | _ => [], fun _ => none⟩ [.slice] Tryz.func37 rfl .nil
theorem s168 (h37 : SN ads 37 c1) (h38 : SN ads 38 c2) (h75 : SN ads 75 c3) : SN ads 168 (g168 c1 c2 c3) :=
  mk_snd [(nn37, c1), (nn38, c2), (nn75, c3)] ⟨fun _ => [], fun _ => none⟩ [.slice] Tryz.func168 rfl (.cons h37 (.cons h38 (.cons h75 .nil)))
theorem s169 : SN ads 169 (g169) :=
  mk_snd [] ⟨fun n => match n with | 0 => [(5, .int .i64)] | _ => [], fun _ => none⟩ [.any, .any] Tryz.func169 rfl .nil
theorem s173 (h245 : SN ads 245 c1) : SN ads 173 (g173 c1) :=
  mk_snd [(nn245, c1)] ⟨fun _ => [], fun _ => none⟩ [.int .i64, .int .i64] Tryz.func173 rfl (.cons h245 .nil)
theorem s174 (h228 : SN ads 228 c1) (h229 : SN ads 229 c2) : SN ads 174 (g174 c1 c2) :=
  mk_snd [(nn228, c1), (nn229, c2)] ⟨fun n => match n with | 0 => [] | _ => [], fun _ => none⟩ [.ptr, .ptr, .int .i64] Tryz.func174 rfl (.cons h228 (.cons h229 .nil))
theorem s175 (h228 : SN ads 228 c1) (h229 : SN ads 229 c2) : SN ads 175 (g175 c1 c2) :=
  mk_snd [(nn228, c1), (nn229, c2)] ⟨fun n => match n with | 0 => [] | _ => [], fun _ => none⟩ [.ptr, .ptr] Tryz.func175 rfl (.cons h228 (.cons h229 .nil))
theorem s176 (h229 : SN ads 229 c1) : SN ads 176 (g176 c1) :=
  mk_snd [(nn229, c1)] ⟨fun _ => [], fun n => match n with | 3 => some [] | _ => none⟩ [.ptr, .int .i64] Tryz.func176 rfl (.cons h229 .nil)
theorem s240 (h173 : SN ads 173 c1) (h176 : SN ads 176 c2) (h229 : SN ads 229 c3) : SN ads 240 (g240 c1 c2 c3) :=
  mk_snd [(nn173, c1), (nn176, c2), (nn229, c3)] ⟨fun _ => [], fun n => match n with | 6 => some [(4, .int .i64)] | _ => none⟩ [.ptr, .int .i64] Tryz.func240 rfl (.cons h173 (.cons h176 (.cons h229 .nil)))
theorem s170 (h173 : SN ads 173 c1) (h174 : SN ads 174 c2) (h175 : SN ads 175 c3) (h229 : SN ads 229 c4) (h240 : SN ads 240 c5) (h241 : SN ads 241 c6) : SN ads 170 (g170 c1 c2 c3 c4 c5 c6) :=
  mk_snd [(nn173, c1), (nn174, c2), (nn175, c3), (nn229, c4), (nn240, c5), (nn241, c6)] ⟨fun _ => [], fun n => match n with | 4 => some [(7, .bool)] | 13 => some [] | 15 => some [] | _ => none⟩ [.ptr, .ptr, .any] Tryz.func170 rfl (.cons h173 (.cons h174 (.cons h175 (.cons h229 (.cons h240 (.cons h241 .nil))))))
theorem s85 : SN ads 85 (g85) :=
  mk_snd [] ⟨fun n => match n with | 0 => [(0, .slice), (5, .int .i64)] | _ => [], fun _ => none⟩ [.slice, .any] Tryz.func85 rfl .nil
theorem s102 : SN ads 102 (g102) :=
  mk_snd [] ⟨fun _ => [], fun _ => none⟩ [.int .i64, .int .i64] Tryz.func102 rfl .nil
theorem s242 (h85 : SN ads 85 c1) (h86 : SN ads 86 c2) (h102 : SN ads 102 c3) : SN ads 242 (g242 c1 c2 c3) :=
  mk_snd [(nn85, c1), (nn86, c2), (nn102, c3)] ⟨fun n => match n with | 0 => [(4, .slice), (5, .int .i64)] | _ => [], fun _ => none⟩ [.any] Tryz.func242 rfl (.cons h85 (.cons h86 (.cons h102 .nil)))
theorem s171 (h242 : SN ads 242 c1) : SN ads 171 (g171 c1) :=
  mk_snd [(nn242, c1)] ⟨fun _ => [], fun n => match n with | 6 => some [] | _ => none⟩ [.ptr, .int .i64] Tryz.func171 rfl (.cons h242 .nil)
theorem s82 (h80 : SN ads 80 c1) (h168 : SN ads 168 c2) (h169 : SN ads 169 c3) (h170 : SN ads 170 c4) (h171 : SN ads 171 c5) : SN ads 82 (g82 c1 c2 c3 c4 c5) :=
  mk_snd [(nn80, c1), (nn168, c2), (nn169, c3), (nn170, c4), (nn171, c5)] ⟨fun n => match n with | 0 => [(10, .int .i64), (11, .int .i64)] | _ => [], fun n => match n with | 4 => some [(8, .slice)] | 8 => some [(10, .int .i64)] | 11 => some [(52, .bool)] | _ => none⟩ [.ptr, .bool, .slice] Tryz.func82 rfl (.cons h80 (.cons h168 (.cons h169 (.cons h170 (.cons h171 .nil)))))
theorem s36 : SN ads 36 (g36) :=
  mk_snd [] ⟨fun _ => [], fun _ => none⟩ [.slice, .int .u8, .int .u8, .int .i64] Tryz.func36 rfl .nil
theorem s103 (h85 : SN ads 85 c1) : SN ads 103 (g103 c1) :=
  mk_snd [(nn85, c1)] ⟨fun _ => [], fun _ => none⟩ [.any, .any, .any] Tryz.func103 rfl (.cons h85 .nil)
theorem s39 (h86 : SN ads 86 c1) (h102 : SN ads 102 c2) (h103 : SN ads 103 c3) : SN ads 39 (g39 c1 c2 c3) :=
  mk_snd [(nn86, c1), (nn102, c2), (nn103, c3)] ⟨fun _ => [], fun _ => none⟩ [.any] Tryz.func39 rfl (.cons h86 (.cons h102 (.cons h103 .nil)))
theorem s40 : SN ads 40 (g40) :=
  mk_snd [] ⟨fun n => match n with | 0 => [(5, .int .i64)] | _ => [], fun _ => none⟩ [.slice, .slice] Tryz.func40 rfl .nil
theorem s11 (h36 : SN ads 36 c1) (h37 : SN ads 37 c2) (h38 : SN ads 38 c3) (h39 : SN ads 39 c4) (h40 : SN ads 40 c5) : SN ads 11 (g11 c1 c2 c3 c4 c5) :=
  mk_snd [(nn36, c1), (nn37, c2), (nn38, c3), (nn39, c4), (nn40, c5)] ⟨fun _ => [], fun n => match n with | 14 => some [(6, .int .i64)] | _ => none⟩ [.slice] Tryz.func11 rfl (.cons h36 (.cons h37 (.cons h38 (.cons h39 (.cons h40 .nil)))))
theorem s243 : SN ads 243 (g243) :=
  mk_snd [] ⟨fun _ => [], fun _ => none⟩ [.slice, .int .u8, .int .i64] Tryz.func243 rfl .nil
theorem s244 (h85 : SN ads 85 c1) (h86 : SN ads 86 c2) (h102 : SN ads 102 c3) : SN ads 244 (g244 c1 c2 c3) :=
  mk_snd [(nn85, c1), (nn86, c2), (nn102, c3)] ⟨fun _ => [], fun _ => none⟩ [.any] Tryz.func244 rfl (.cons h85 (.cons h86 (.cons h102 .nil)))
theorem s172 (h37 : SN ads 37 c1) (h38 : SN ads 38 c2) (h40 : SN ads 40 c3) (h243 : SN ads 243 c4) (h244 : SN ads 244 c5) : SN ads 172 (g172 c1 c2 c3 c4 c5) :=
  mk_snd [(nn37, c1), (nn38, c2), (nn40, c3), (nn243, c4), (nn244, c5)] ⟨fun _ => [], fun _ => none⟩ [.slice] Tryz.func172 rfl (.cons h37 (.cons h38 (.cons h40 (.cons h243 (.cons h244 .nil)))))
theorem s288 : SN ads 288 (g288) :=
  mk_snd [] ⟨fun _ => [], fun _ => none⟩ [.bool, .int .i64] Tryz.func288 rfl .nil
theorem s246 (h86 : SN ads 86 c1) (h102 : SN ads 102 c2) (h103 : SN ads 103 c3) (h288 : SN ads 288 c4) : SN ads 246 (g246 c1 c2 c3 c4) :=
  mk_snd [(nn86, c1), (nn102, c2), (nn103, c3), (nn288, c4)] ⟨fun _ => [], fun _ => none⟩ [.any] Tryz.func246 rfl (.cons h86 (.cons h102 (.cons h103 (.cons h288 .nil))))
theorem s177 (h36 : SN ads 36 c1) (h37 : SN ads 37 c2) (h38 : SN ads 38 c3) (h40 : SN ads 40 c4) (h246 : SN ads 246 c5) : SN ads 177 (g177 c1 c2 c3 c4 c5) :=
  mk_snd [(nn36, c1), (nn37, c2), (nn38, c3), (nn40, c4), (nn246, c5)] ⟨fun _ => [], fun _ => none⟩ [.slice] Tryz.func177 rfl (.cons h36 (.cons h37 (.cons h38 (.cons h40 (.cons h246 .nil)))))
theorem s83 (h11 : SN ads 11 c1) (h39 : SN ads 39 c2) (h158 : SN ads 158 c3) (h169 : SN ads 169 c4) (h171 : SN ads 171 c5) (h172 : SN ads 172 c6) (h173 : SN ads 173 c7) (h174 : SN ads 174 c8) (h175 : SN ads 175 c9) (h176 : SN ads 176 c10) (h177 : SN ads 177 c11) : SN ads 83 (g83 c1 c2 c3 c4 c5 c6 c7 c8 c9 c10 c11) :=
  mk_snd [(nn11, c1), (nn39, c2), (nn158, c3), (nn169, c4), (nn171, c5), (nn172, c6), (nn173, c7), (nn174, c8), (nn175, c9), (nn176, c10), (nn177, c11)] ⟨fun _ => [], fun n => match n with | 5 => some [(54, .bool)] | 10 => some [] | 13 => some [] | 16 => some [(121, .bool)] | 21 => some [(14, .int .i64)] | 26 => some [(201, .bool)] | 28 => some [] | _ => none⟩ [.ptr, .slice] Tryz.func83 rfl (.cons h11 (.cons h39 (.cons h158 (.cons h169 (.cons h171 (.cons h172 (.cons h173 (.cons h174 (.cons h175 (.cons h176 (.cons h177 .nil)))))))))))
theorem s28 (h31 : SN ads 31 c1) (h34 : SN ads 34 c2) (h72 : SN ads 72 c3) (h77 : SN ads 77 c4) (h80 : SN ads 80 c5) (h81 : SN ads 81 c6) (h82 : SN ads 82 c7) (h83 : SN ads 83 c8) : SN ads 28 (g28 c1 c2 c3 c4 c5 c6 c7 c8) :=
  mk_snd [(nn31, c1), (nn34, c2), (nn72, c3), (nn77, c4), (nn80, c5), (nn81, c6), (nn82, c7), (nn83, c8)] ⟨fun n => match n with | 0 => [(13, .slice), (14, .int .i64)] | _ => [], fun n => match n with | 14 => some [(12, .slice)] | 17 => some [(13, .slice)] | 25 => some [(15, .slice)] | 32 => some [(11, .slice)] | 34 => some [(11, .slice)] | 37 => some [(11, .slice)] | _ => none⟩ [.ptr, .int .i64, .any] Tryz.func28 rfl (.cons h31 (.cons h34 (.cons h72 (.cons h77 (.cons h80 (.cons h81 (.cons h82 (.cons h83 .nil))))))))
theorem s84 (h151 : SN ads 151 c1) : SN ads 84 (g84 c1) :=
  mk_snd [(nn151, c1)] ⟨fun _ => [], fun n => match n with | 6 => some [] | _ => none⟩ [.ptr, .int .i64, .bool] Tryz.func84 rfl (.cons h151 .nil)
theorem s29 (h58 : SN ads 58 c1) (h84 : SN ads 84 c2) : SN ads 29 (g29 c1 c2) :=
  mk_snd [(nn58, c1), (nn84, c2)] ⟨fun _ => [], fun _ => none⟩ [.ptr, .int .i64, .bool] Tryz.func29 rfl (.cons h58 (.cons h84 .nil))
theorem s30 (h85 : SN ads 85 c1) (h86 : SN ads 86 c2) : SN ads 30 (g30 c1 c2) :=
  mk_snd [(nn85, c1), (nn86, c2)] ⟨fun _ => [], fun _ => none⟩ [.any] Tryz.func30 rfl (.cons h85 (.cons h86 .nil))
theorem s92 (h151 : SN ads 151 c1) (h184 : SN ads 184 c2) : SN ads 92 (g92 c1 c2) :=
  mk_snd [(nn151, c1), (nn184, c2)] ⟨fun _ => [], fun _ => none⟩ [.ptr, .int .i64, .int .i64] Tryz.func92 rfl (.cons h151 (.cons h184 .nil))
theorem s32 (h58 : SN ads 58 c1) (h92 : SN ads 92 c2) : SN ads 32 (g32 c1 c2) :=
  mk_snd [(nn58, c1), (nn92, c2)] ⟨fun _ => [], fun _ => none⟩ [.ptr, .int .i64, .int .i64] Tryz.func32 rfl (.cons h58 (.cons h92 .nil))
theorem s33 (h58 : SN ads 58 c1) (h67 : SN ads 67 c2) : SN ads 33 (g33 c1 c2) :=
  mk_snd [(nn58, c1), (nn67, c2)] ⟨fun _ => [], fun _ => none⟩ [.ptr, .int .i64, .any] Tryz.func33 rfl (.cons h58 (.cons h67 .nil))
theorem s101 (h149 : SN ads 149 c1) (h150 : SN ads 150 c2) : SN ads 101 (g101 c1 c2) :=
  mk_snd [(nn149, c1), (nn150, c2)] ⟨fun _ => [], fun _ => none⟩ [.ptr, .int .i64, .int .i64] Tryz.func101 rfl (.cons h149 (.cons h150 .nil))
theorem s35 (h58 : SN ads 58 c1) (h101 : SN ads 101 c2) : SN ads 35 (g35 c1 c2) :=
  mk_snd [(nn58, c1), (nn101, c2)] ⟨fun n => match n with | 1 => [(27, .int .i64)] | _ => [], fun _ => none⟩ [.ptr, .int .i64, .int .i64] Tryz.func35 rfl (.cons h58 (.cons h101 .nil))
theorem s10 (h7 : SN ads 7 c1) (h21 : SN ads 21 c2) (h22 : SN ads 22 c3) (h23 : SN ads 23 c4) (h24 : SN ads 24 c5) (h25 : SN ads 25 c6) (h26 : SN ads 26 c7) (h27 : SN ads 27 c8) (h28 : SN ads 28 c9) (h29 : SN ads 29 c10) (h30 : SN ads 30 c11) (h31 : SN ads 31 c12) (h32 : SN ads 32 c13) (h33 : SN ads 33 c14) (h34 : SN ads 34 c15) (h35 : SN ads 35 c16) : SN ads 10 (g10 c1 c2 c3 c4 c5 c6 c7 c8 c9 c10 c11 c12 c13 c14 c15 c16) :=
  mk_snd [(nn7, c1), (nn21, c2), (nn22, c3), (nn23, c4), (nn24, c5), (nn25, c6), (nn26, c7), (nn27, c8), (nn28, c9), (nn29, c10), (nn30, c11), (nn31, c12), (nn32, c13), (nn33, c14), (nn34, c15), (nn35, c16)] ⟨fun _ => [], fun n => match n with | 10 => some [(7, .int .i64), (8, .any)] | 46 => some [] | _ => none⟩ [.ptr, .any] Tryz.func10 rfl (.cons h7 (.cons h21 (.cons h22 (.cons h23 (.cons h24 (.cons h25 (.cons h26 (.cons h27 (.cons h28 (.cons h29 (.cons h30 (.cons h31 (.cons h32 (.cons h33 (.cons h34 (.cons h35 .nil))))))))))))))))
theorem s12 (h40 : SN ads 40 c1) : SN ads 12 (g12 c1) :=
  mk_snd [(nn40, c1)] ⟨fun n => match n with | 0 => [(5, .int .i64)] | 2 => [(6, .int .i64), (7, .int .i64)] | 4 => [(8, .int .i64)] | _ => [], fun n => match n with | 9 => some [(6, .int .i64)] | 11 => some [(87, .bool)] | _ => none⟩ [.ptr] Tryz.func12 rfl (.cons h40 .nil)
theorem s104 : SN ads 104 (g104) :=
  mk_snd [] ⟨fun _ => [], fun _ => none⟩ [.slice] Tryz.func104 rfl .nil
theorem s41 (h104 : SN ads 104 c1) : SN ads 41 (g41 c1) :=
  mk_snd [(nn104, c1)] ⟨fun _ => [], fun _ => none⟩ [.ptr] Tryz.func41 rfl (.cons h104 .nil)
theorem s13 (h41 : SN ads 41 c1) : SN ads 13 (g13 c1) :=
  mk_snd [(nn41, c1)] ⟨fun _ => [], fun _ => none⟩ [.ptr] Tryz.func13 rfl (.cons h41 .nil)
theorem s43 : SN ads 43 (g43) :=
  mk_snd [] ⟨fun _ => [], fun _ => none⟩ [.any, .ptr] Tryz.func43 rfl .nil
theorem s45 : SN ads 45 (g45) :=
  mk_snd [] ⟨fun _ => [], fun _ => none⟩ [.any, .ptr] Tryz.func45 rfl .nil
theorem s42 (h43 : SN ads 43 c1) (h45 : SN ads 45 c2) : SN ads 42 (g42 c1 c2) :=
  mk_snd [(nn43, c1), (nn45, c2)] ⟨fun n => match n with | 0 => [(5, .int .i64), (13, .int .i64)] | _ => [], fun n => match n with | 7 => some [(5, .int .i64)] | _ => none⟩ [.ptr, .any] Tryz.func42 rfl (.cons h43 (.cons h45 .nil))
theorem s14 (h42 : SN ads 42 c1) : SN ads 14 (g14 c1) :=
  mk_snd [(nn42, c1)] ⟨fun _ => [], fun _ => none⟩ [.ptr, .int .i64] Tryz.func14 rfl (.cons h42 .nil)
theorem s15 (h44 : SN ads 44 c1) : SN ads 15 (g15 c1) :=
  mk_snd [(nn44, c1)] ⟨fun _ => [], fun _ => none⟩ [.ptr, .int .i64] Tryz.func15 rfl (.cons h44 .nil)
theorem s16 (h42 : SN ads 42 c1) : SN ads 16 (g16 c1) :=
  mk_snd [(nn42, c1)] ⟨fun _ => [], fun _ => none⟩ [.ptr, .int .i64] Tryz.func16 rfl (.cons h42 .nil)
theorem s105 (h193 : SN ads 193 c1) (h194 : SN ads 194 c2) : SN ads 105 (g105 c1 c2) :=
  mk_snd [(nn193, c1), (nn194, c2)] ⟨fun n => match n with | 0 => [(23, .int .i64)] | 2 => [(37, .int .i64)] | _ => [], fun _ => none⟩ [.ptr] Tryz.func105 rfl (.cons h193 (.cons h194 .nil))
theorem s46 (h105 : SN ads 105 c1) : SN ads 46 (g46 c1) :=
  mk_snd [(nn105, c1)] ⟨fun n => match n with | 0 => [(9, .int .i64)] | 2 => [(12, .int .i64)] | _ => [], fun _ => none⟩ [.ptr] Tryz.func46 rfl (.cons h105 .nil)
theorem s17 (h46 : SN ads 46 c1) : SN ads 17 (g17 c1) :=
  mk_snd [(nn46, c1)] ⟨fun _ => [], fun _ => none⟩ [.ptr] Tryz.func17 rfl (.cons h46 .nil)
end
end Go.Proofs.YthooeildnkfpkaaGreatDoor
