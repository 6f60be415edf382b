/- The printed functions are the machine's own, by the kernel. -/
import Derived.Test.YtbelmboeamkccaaGreatDoorGgD1
import Derived.Test.YtbelmboeamkccaaGreatDoorRows
set_option linter.unusedVariables false
set_option linter.constructorNameAsVariable false
set_option maxRecDepth 100000
namespace Go.Proofs.YtbelmboeamkccaaGreatDoor
open Go.Vc Go.Ab
noncomputable section
variable (v1 v2 : AV) (l1 l2 l3 l4 : List AV) (L1 L2 : List AP) (d1 d2 d3 d4 : DV) (R1 : List DV) (n1 n2 n3 n4 n5 n6 n7 n8 n9 : Int) (m1 m2 m3 m4 : Nat) (t1 t2 t3 t4 : Bool) (p1 p2 p3 p4 p5 : AP) (b1 b2 b3 b4 b5 : P4) (s1 s2 s3 : AS) (H1 : AH) (x1 x2 : List Int) (c1 c2 c3 c4 c5 c6 c7 c8 c9 c10 c11 c12 c13 c14 c15 c16 : G DV) (Ka1 Ka2 : AH → Option DV) (Kb1 Kb2 : DV → AH → Option DV) (Kc1 : DV → DV → AH → Option DV) (Kd1 : DV → DV → DV → AH → Option DV) (Kf1 : DV → DV → DV → DV → DV → AH → Option DV)
variable {ads : List Addr}
theorem s285 (h266 : SN ads 266 c1) (h293 : SN ads 293 c2) : SN ads 285 (g285 c1 c2) :=
  mk_snd [(nn266, c1), (nn293, c2)] ⟨fun n => match n with | 0 => [(7, .slice)] | _ => [], fun n => match n with | 5 => some [(8, .ptr), (9, .bool)] | _ => none⟩ [.ptr, .int .i64] Tryz.func285 rfl (.cons h266 (.cons h293 .nil))
theorem s269 (h186 : SN ads 186 c1) (h285 : SN ads 285 c2) : SN ads 269 (g269 c1 c2) :=
  mk_snd [(nn186, c1), (nn285, c2)] ⟨fun _ => [], fun _ => none⟩ [.ptr, .int .i64, .int .i64, .int .i64] Tryz.func269 rfl (.cons h186 (.cons h285 .nil))
theorem s171 (h222 : SN ads 222 c1) : SN ads 171 (g171 c1) :=
  mk_snd [(nn222, c1)] ⟨fun _ => [], fun _ => none⟩ [.int .i64, .int .i64] Tryz.func171 rfl (.cons h222 .nil)
theorem s286 (h171 : SN ads 171 c1) (h248 : SN ads 248 c2) : SN ads 286 (g286 c1 c2) :=
  mk_snd [(nn171, c1), (nn248, c2)] ⟨fun _ => [], fun _ => none⟩ [.ptr] Tryz.func286 rfl (.cons h171 (.cons h248 .nil))
theorem s270 (h234 : SN ads 234 c1) (h286 : SN ads 286 c2) : SN ads 270 (g270 c1 c2) :=
  mk_snd [(nn234, c1), (nn286, c2)] ⟨fun _ => [], fun _ => none⟩ [.ptr, .any, .int .i64] Tryz.func270 rfl (.cons h234 (.cons h286 .nil))
theorem s249 (h102 : SN ads 102 c1) (h177 : SN ads 177 c2) (h269 : SN ads 269 c3) (h270 : SN ads 270 c4) : SN ads 249 (g249 c1 c2 c3 c4) :=
  mk_snd [(nn102, c1), (nn177, c2), (nn269, c3), (nn270, c4)] ⟨fun _ => [], fun _ => none⟩ [.ptr, .ptr, .ptr] Tryz.func249 rfl (.cons h102 (.cons h177 (.cons h269 (.cons h270 .nil))))
theorem s273 : SN ads 273 (g273) :=
  mk_snd [] ⟨fun _ => [], fun _ => none⟩ [.int .i64] Tryz.func273 rfl .nil
theorem s274 (h117 : SN ads 117 c1) (h194 : SN ads 194 c2) : SN ads 274 (g274 c1 c2) :=
  mk_snd [(nn117, c1), (nn194, c2)] ⟨fun _ => [], fun _ => none⟩ [.any] Tryz.func274 rfl (.cons h117 (.cons h194 .nil))
theorem s255 (h60 : SN ads 60 c1) (h273 : SN ads 273 c2) (h274 : SN ads 274 c3) : SN ads 255 (g255 c1 c2 c3) :=
  mk_snd [(nn60, c1), (nn273, c2), (nn274, c3)] ⟨fun _ => [], fun _ => none⟩ [.any] Tryz.func255 rfl (.cons h60 (.cons h273 (.cons h274 .nil)))
theorem s256 (h60 : SN ads 60 c1) : SN ads 256 (g256 c1) :=
  mk_snd [(nn60, c1)] ⟨fun _ => [], fun _ => none⟩ [.any] Tryz.func256 rfl (.cons h60 .nil)
theorem s257 (h60 : SN ads 60 c1) : SN ads 257 (g257 c1) :=
  mk_snd [(nn60, c1)] ⟨fun _ => [], fun _ => none⟩ [.any] Tryz.func257 rfl (.cons h60 .nil)
theorem s215 (h60 : SN ads 60 c1) (h255 : SN ads 255 c2) (h256 : SN ads 256 c3) (h257 : SN ads 257 c4) : SN ads 215 (g215 c1 c2 c3 c4) :=
  mk_snd [(nn60, c1), (nn255, c2), (nn256, c3), (nn257, c4)] ⟨fun _ => [], fun _ => none⟩ [.any, .int .i64] Tryz.func215 rfl (.cons h60 (.cons h255 (.cons h256 (.cons h257 .nil))))
theorem s271 : SN ads 271 (g271) :=
  mk_snd [] ⟨fun _ => [], fun _ => none⟩ [.int .i64] Tryz.func271 rfl .nil
theorem s287 (h271 : SN ads 271 c1) : SN ads 287 (g287 c1) :=
  mk_snd [(nn271, c1)] ⟨fun n => match n with | 0 => [(8, .int .i64)] | _ => [], fun _ => none⟩ [.slice, .any] Tryz.func287 rfl (.cons h271 .nil)
theorem s272 (h287 : SN ads 287 c1) : SN ads 272 (g272 c1) :=
  mk_snd [(nn287, c1)] ⟨fun _ => [], fun _ => none⟩ [.slice, .any] Tryz.func272 rfl (.cons h287 .nil)
theorem s252 (h60 : SN ads 60 c1) (h156 : SN ads 156 c2) (h215 : SN ads 215 c3) (h272 : SN ads 272 c4) : SN ads 252 (g252 c1 c2 c3 c4) :=
  mk_snd [(nn60, c1), (nn156, c2), (nn215, c3), (nn272, c4)] ⟨fun _ => [], fun _ => none⟩ [.any, .any, .slice] Tryz.func252 rfl (.cons h60 (.cons h156 (.cons h215 (.cons h272 .nil))))
theorem s250 (h60 : SN ads 60 c1) (h252 : SN ads 252 c2) (h271 : SN ads 271 c3) : SN ads 250 (g250 c1 c2 c3) :=
  mk_snd [(nn60, c1), (nn252, c2), (nn271, c3)] ⟨fun n => match n with | 0 => [(8, .int .i64)] | _ => [], fun _ => none⟩ [.any, .any, .slice] Tryz.func250 rfl (.cons h60 (.cons h252 (.cons h271 .nil)))
theorem s253 : SN ads 253 (g253) :=
  mk_snd [] ⟨fun _ => [], fun _ => none⟩ [.int .i64] Tryz.func253 rfl .nil
theorem s251 (h253 : SN ads 253 c1) : SN ads 251 (g251 c1) :=
  mk_snd [(nn253, c1)] ⟨fun n => match n with | 0 => [(3, .slice), (8, .int .i64)] | _ => [], fun _ => none⟩ [.slice] Tryz.func251 rfl (.cons h253 .nil)
theorem s212 (h139 : SN ads 139 c1) (h142 : SN ads 142 c2) (h203 : SN ads 203 c3) (h249 : SN ads 249 c4) (h250 : SN ads 250 c5) (h251 : SN ads 251 c6) (h252 : SN ads 252 c7) (h253 : SN ads 253 c8) : SN ads 212 (g212 c1 c2 c3 c4 c5 c6 c7 c8) :=
  mk_snd [(nn139, c1), (nn142, c2), (nn203, c3), (nn249, c4), (nn250, c5), (nn251, c6), (nn252, c7), (nn253, c8)] ⟨fun n => match n with | 0 => [(13, .slice)] | _ => [], fun n => match n with | 8 => some [(13, .slice)] | 14 => some [] | 17 => some [(13, .slice)] | _ => none⟩ [.ptr, .ptr, .ptr, .any, .bool] Tryz.func212 rfl (.cons h139 (.cons h142 (.cons h203 (.cons h249 (.cons h250 (.cons h251 (.cons h252 (.cons h253 .nil))))))))
theorem s213 : SN ads 213 (g213) :=
  mk_snd [] ⟨fun n => match n with | 0 => [(6, .slice), (60, .int .i64)] | _ => [], fun n => match n with | 6 => some [(4, .int .u8)] | 8 => some [(4, .int .u8)] | 10 => some [(5, .int .u8)] | _ => none⟩ [.any] Tryz.func213 rfl .nil
theorem s229 (h263 : SN ads 263 c1) : SN ads 229 (g229 c1) :=
  mk_snd [(nn263, c1)] ⟨fun _ => [], fun _ => none⟩ [.slice, .any] Tryz.func229 rfl (.cons h263 .nil)
theorem s228 (h229 : SN ads 229 c1) : SN ads 228 (g228 c1) :=
  mk_snd [(nn229, c1)] ⟨fun _ => [], fun _ => none⟩ [.ptr] Tryz.func228 rfl (.cons h229 .nil)
theorem s214 (h116 : SN ads 116 c1) (h228 : SN ads 228 c2) (h229 : SN ads 229 c3) : SN ads 214 (g214 c1 c2 c3) :=
  mk_snd [(nn116, c1), (nn228, c2), (nn229, c3)] ⟨fun n => match n with | 0 => [(11, .int .i64)] | 2 => [(40, .int .i64)] | _ => [], fun n => match n with | 5 => some [(29, .bool)] | 16 => some [] | _ => none⟩ [.ptr, .slice] Tryz.func214 rfl (.cons h116 (.cons h228 (.cons h229 .nil)))
theorem s145 (h65 : SN ads 65 c1) (h75 : SN ads 75 c2) (h147 : SN ads 147 c3) (h148 : SN ads 148 c4) (h212 : SN ads 212 c5) (h213 : SN ads 213 c6) (h214 : SN ads 214 c7) : SN ads 145 (g145 c1 c2 c3 c4 c5 c6 c7) :=
  mk_snd [(nn65, c1), (nn75, c2), (nn147, c3), (nn148, c4), (nn212, c5), (nn213, c6), (nn214, c7)] ⟨fun n => match n with | 0 => [(15, .slice), (16, .slice), (77, .int .i64)] | _ => [], fun n => match n with | 18 => some [] | _ => none⟩ [.ptr, .ptr, .ptr, .bool] Tryz.func145 rfl (.cons h65 (.cons h75 (.cons h147 (.cons h148 (.cons h212 (.cons h213 (.cons h214 .nil)))))))
theorem s146 (h121 : SN ads 121 c1) : SN ads 146 (g146 c1) :=
  mk_snd [(nn121, c1)] ⟨fun _ => [], fun _ => none⟩ [.ptr, .int .i64] Tryz.func146 rfl (.cons h121 .nil)
theorem s72 (h65 : SN ads 65 c1) (h99 : SN ads 99 c2) (h134 : SN ads 134 c3) (h136 : SN ads 136 c4) (h137 : SN ads 137 c5) (h138 : SN ads 138 c6) (h139 : SN ads 139 c7) (h140 : SN ads 140 c8) (h141 : SN ads 141 c9) (h142 : SN ads 142 c10) (h143 : SN ads 143 c11) (h144 : SN ads 144 c12) (h145 : SN ads 145 c13) (h146 : SN ads 146 c14) (h147 : SN ads 147 c15) (h148 : SN ads 148 c16) : SN ads 72 (g72 c1 c2 c3 c4 c5 c6 c7 c8 c9 c10 c11 c12 c13 c14 c15 c16) :=
  mk_snd [(nn65, c1), (nn99, c2), (nn134, c3), (nn136, c4), (nn137, c5), (nn138, c6), (nn139, c7), (nn140, c8), (nn141, c9), (nn142, c10), (nn143, c11), (nn144, c12), (nn145, c13), (nn146, c14), (nn147, c15), (nn148, c16)] ⟨fun _ => [], fun n => match n with | 8 => some [(12, .int .i64)] | 16 => some [(131, .bool)] | 22 => some [] | _ => none⟩ [.ptr, .int .i64, .int .i64] Tryz.func72 rfl (.cons h65 (.cons h99 (.cons h134 (.cons h136 (.cons h137 (.cons h138 (.cons h139 (.cons h140 (.cons h141 (.cons h142 (.cons h143 (.cons h144 (.cons h145 (.cons h146 (.cons h147 (.cons h148 .nil))))))))))))))))
theorem s216 (h215 : SN ads 215 c1) : SN ads 216 (g216 c1) :=
  mk_snd [(nn215, c1)] ⟨fun _ => [], fun _ => none⟩ [] Tryz.func216 rfl (.cons h215 .nil)
theorem s149 (h215 : SN ads 215 c1) (h216 : SN ads 216 c2) : SN ads 149 (g149 c1 c2) :=
  mk_snd [(nn215, c1), (nn216, c2)] ⟨fun _ => [], fun _ => none⟩ [.any, .int .i64] Tryz.func149 rfl (.cons h215 (.cons h216 .nil))
theorem s217 (h129 : SN ads 129 c1) (h200 : SN ads 200 c2) (h201 : SN ads 201 c3) : SN ads 217 (g217 c1 c2 c3) :=
  mk_snd [(nn129, c1), (nn200, c2), (nn201, c3)] ⟨fun _ => [], fun _ => none⟩ [.any, .int .i64] Tryz.func217 rfl (.cons h129 (.cons h200 (.cons h201 .nil)))
theorem s150 (h120 : SN ads 120 c1) (h217 : SN ads 217 c2) : SN ads 150 (g150 c1 c2) :=
  mk_snd [(nn120, c1), (nn217, c2)] ⟨fun _ => [], fun n => match n with | 9 => some [] | _ => none⟩ [.ptr, .int .i64, .int .i64] Tryz.func150 rfl (.cons h120 (.cons h217 .nil))
theorem s151 (h58 : SN ads 58 c1) (h131 : SN ads 131 c2) : SN ads 151 (g151 c1 c2) :=
  mk_snd [(nn58, c1), (nn131, c2)] ⟨fun _ => [], fun _ => none⟩ [.ptr, .int .i64, .int .i64] Tryz.func151 rfl (.cons h58 (.cons h131 .nil))
theorem s73 (h65 : SN ads 65 c1) (h149 : SN ads 149 c2) (h150 : SN ads 150 c3) (h151 : SN ads 151 c4) : SN ads 73 (g73 c1 c2 c3 c4) :=
  mk_snd [(nn65, c1), (nn149, c2), (nn150, c3), (nn151, c4)] ⟨fun _ => [], fun _ => none⟩ [.ptr, .ptr, .int .i64] Tryz.func73 rfl (.cons h65 (.cons h149 (.cons h150 (.cons h151 .nil))))
theorem s35 (h64 : SN ads 64 c1) (h65 : SN ads 65 c2) (h66 : SN ads 66 c3) (h67 : SN ads 67 c4) (h68 : SN ads 68 c5) (h69 : SN ads 69 c6) (h70 : SN ads 70 c7) (h71 : SN ads 71 c8) (h72 : SN ads 72 c9) (h73 : SN ads 73 c10) : SN ads 35 (g35 c1 c2 c3 c4 c5 c6 c7 c8 c9 c10) :=
  mk_snd [(nn64, c1), (nn65, c2), (nn66, c3), (nn67, c4), (nn68, c5), (nn69, c6), (nn70, c7), (nn71, c8), (nn72, c9), (nn73, c10)] ⟨fun n => match n with | 0 => [(36, .int .i64)] | 2 => [(40, .int .i64)] | 4 => [(82, .int .i64)] | 6 => [(98, .int .i64)] | _ => [], fun n => match n with | 13 => some [] | 29 => some [] | _ => none⟩ [.ptr, .int .i64, .any] Tryz.func35 rfl (.cons h64 (.cons h65 (.cons h66 (.cons h67 (.cons h68 (.cons h69 (.cons h70 (.cons h71 (.cons h72 (.cons h73 .nil))))))))))
theorem s37 : SN ads 37 (g37) :=
  mk_snd [] ⟨fun _ => [], fun _ => none⟩ [.any, .ptr] Tryz.func37 rfl .nil
theorem s36 (h37 : SN ads 37 c1) : SN ads 36 (g36 c1) :=
  mk_snd [(nn37, c1)] ⟨fun n => match n with | 0 => [(8, .int .i64)] | _ => [], fun _ => none⟩ [.slice, .any] Tryz.func36 rfl (.cons h37 .nil)
theorem s218 : SN ads 218 (g218) :=
  mk_snd [] ⟨fun _ => [], fun _ => none⟩ [.slice] Tryz.func218 rfl .nil
theorem s219 (h221 : SN ads 221 c1) : SN ads 219 (g219 c1) :=
  mk_snd [(nn221, c1)] ⟨fun _ => [], fun _ => none⟩ [.slice] Tryz.func219 rfl (.cons h221 .nil)
theorem s152 (h25 : SN ads 25 c1) (h218 : SN ads 218 c2) (h219 : SN ads 219 c3) : SN ads 152 (g152 c1 c2 c3) :=
  mk_snd [(nn25, c1), (nn218, c2), (nn219, c3)] ⟨fun _ => [], fun _ => none⟩ [.slice] Tryz.func152 rfl (.cons h25 (.cons h218 (.cons h219 .nil)))
theorem s155 : SN ads 155 (g155) :=
  mk_snd [] ⟨fun _ => [], fun _ => none⟩ [.int .u8] Tryz.func155 rfl .nil
theorem s220 (h155 : SN ads 155 c1) : SN ads 220 (g220 c1) :=
  mk_snd [(nn155, c1)] ⟨fun n => match n with | 0 => [(8, .int .i64)] | _ => [], fun _ => none⟩ [.slice, .any] Tryz.func220 rfl (.cons h155 .nil)
theorem s154 (h220 : SN ads 220 c1) : SN ads 154 (g154 c1) :=
  mk_snd [(nn220, c1)] ⟨fun _ => [], fun _ => none⟩ [.slice, .any] Tryz.func154 rfl (.cons h220 .nil)
theorem s74 (h152 : SN ads 152 c1) (h153 : SN ads 153 c2) (h154 : SN ads 154 c3) : SN ads 74 (g74 c1 c2 c3) :=
  mk_snd [(nn152, c1), (nn153, c2), (nn154, c3)] ⟨fun n => match n with | 0 => [(0, .slice), (5, .slice)] | _ => [], fun _ => none⟩ [.slice] Tryz.func74 rfl (.cons h152 (.cons h153 (.cons h154 .nil)))
theorem s38 (h74 : SN ads 74 c1) (h75 : SN ads 75 c2) : SN ads 38 (g38 c1 c2) :=
  mk_snd [(nn74, c1), (nn75, c2)] ⟨fun n => match n with | 0 => [(8, .slice), (30, .int .i64)] | _ => [], fun n => match n with | 12 => some [(8, .slice)] | _ => none⟩ [.any, .int .u64] Tryz.func38 rfl (.cons h74 (.cons h75 .nil))
theorem s159 (h181 : SN ads 181 c1) : SN ads 159 (g159 c1) :=
  mk_snd [(nn181, c1)] ⟨fun _ => [], fun _ => none⟩ [.slice] Tryz.func159 rfl (.cons h181 .nil)
theorem s76 (h141 : SN ads 141 c1) (h158 : SN ads 158 c2) (h159 : SN ads 159 c3) (h160 : SN ads 160 c4) : SN ads 76 (g76 c1 c2 c3 c4) :=
  mk_snd [(nn141, c1), (nn158, c2), (nn159, c3), (nn160, c4)] ⟨fun _ => [], fun _ => none⟩ [.slice] Tryz.func76 rfl (.cons h141 (.cons h158 (.cons h159 (.cons h160 .nil))))
theorem s172 (h206 : SN ads 206 c1) : SN ads 172 (g172 c1) :=
  mk_snd [(nn206, c1)] ⟨fun n => match n with | 0 => [(4, .slice), (22, .int .i64)] | _ => [], fun _ => none⟩ [.any] Tryz.func172 rfl (.cons h206 .nil)
theorem s85 (h172 : SN ads 172 c1) : SN ads 85 (g85 c1) :=
  mk_snd [(nn172, c1)] ⟨fun _ => [], fun n => match n with | 5 => some [] | _ => none⟩ [.ptr, .int .i64] Tryz.func85 rfl (.cons h172 .nil)
theorem s162 (h161 : SN ads 161 c1) (h171 : SN ads 171 c2) : SN ads 162 (g162 c1 c2) :=
  mk_snd [(nn161, c1), (nn171, c2)] ⟨fun n => match n with | 0 => [(5, .slice), (14, .int .i64)] | _ => [], fun n => match n with | 9 => some [(5, .slice)] | 11 => some [(5, .slice)] | _ => none⟩ [.ptr, .int .i64] Tryz.func162 rfl (.cons h161 (.cons h171 .nil))
theorem s163 (h171 : SN ads 171 c1) : SN ads 163 (g163 c1) :=
  mk_snd [(nn171, c1)] ⟨fun n => match n with | 0 => [(3, .slice)] | _ => [], fun _ => none⟩ [.ptr] Tryz.func163 rfl (.cons h171 .nil)
theorem s164 (h161 : SN ads 161 c1) : SN ads 164 (g164 c1) :=
  mk_snd [(nn161, c1)] ⟨fun _ => [], fun _ => none⟩ [.ptr, .int .i64] Tryz.func164 rfl (.cons h161 .nil)
theorem s77 (h85 : SN ads 85 c1) (h161 : SN ads 161 c2) (h162 : SN ads 162 c3) (h163 : SN ads 163 c4) (h164 : SN ads 164 c5) : SN ads 77 (g77 c1 c2 c3 c4 c5) :=
  mk_snd [(nn85, c1), (nn161, c2), (nn162, c3), (nn163, c4), (nn164, c5)] ⟨fun _ => [], fun n => match n with | 3 => some [(36, .bool)] | 7 => some [(7, .slice)] | 9 => some [] | _ => none⟩ [.ptr, .any] Tryz.func77 rfl (.cons h85 (.cons h161 (.cons h162 (.cons h163 (.cons h164 .nil)))))
theorem s225 (h161 : SN ads 161 c1) : SN ads 225 (g225 c1) :=
  mk_snd [(nn161, c1)] ⟨fun _ => [], fun _ => none⟩ [.int .i64, .int .i64, .ptr] Tryz.func225 rfl (.cons h161 .nil)
theorem s275 (h225 : SN ads 225 c1) : SN ads 275 (g275 c1) :=
  mk_snd [(nn225, c1)] ⟨fun n => match n with | 0 => [(8, .int .i64)] | 2 => [(9, .int .i64)] | _ => [], fun n => match n with | 2 => some [] | 6 => some [] | _ => none⟩ [.slice, .int .i64, .int .i64, .any] Tryz.func275 rfl (.cons h225 .nil)
theorem s288 (h225 : SN ads 225 c1) : SN ads 288 (g288 c1) :=
  mk_snd [(nn225, c1)] ⟨fun n => match n with | 0 => [(10, .int .i64)] | _ => [], fun n => match n with | 4 => some [(40, .bool)] | 5 => some [(11, .int .i64)] | _ => none⟩ [.slice, .int .i64, .int .i64, .int .i64, .any] Tryz.func288 rfl (.cons h225 .nil)
theorem s276 (h288 : SN ads 288 c1) : SN ads 276 (g276 c1) :=
  mk_snd [(nn288, c1)] ⟨fun n => match n with | 0 => [(11, .int .i64)] | 2 => [(12, .int .i64)] | _ => [], fun _ => none⟩ [.slice, .int .i64, .int .i64, .any] Tryz.func276 rfl (.cons h288 .nil)
theorem s283 : SN ads 283 (g283) :=
  mk_snd [] ⟨fun _ => [], fun n => match n with | 4 => some [(0, .int .u32), (2, .int .i64)] | 7 => some [(0, .int .u32), (2, .int .i64)] | _ => none⟩ [.int .u32] Tryz.func283 rfl .nil
theorem s261 (h283 : SN ads 283 c2) (h284 : SN ads 284 c1) : SN ads 261 (g261 c1) :=
  mk_snd [(nn283, c2), (nn284, c1)] ⟨fun _ => [], fun _ => none⟩ [.int .u64] Tryz.func261 rfl (.cons h283 (.cons h284 .nil))
theorem s289 (h261 : SN ads 261 c1) : SN ads 289 (g289 c1) :=
  mk_snd [(nn261, c1)] ⟨fun _ => [], fun _ => none⟩ [.int .i64] Tryz.func289 rfl (.cons h261 .nil)
theorem s290 : SN ads 290 (g290) :=
  mk_snd [] ⟨fun _ => [], fun _ => none⟩ [.ptr] Tryz.func290 rfl .nil
theorem s277 (h289 : SN ads 289 c1) (h290 : SN ads 290 c2) : SN ads 277 (g277 c1 c2) :=
  mk_snd [(nn289, c1), (nn290, c2)] ⟨fun n => match n with | 0 => [(11, .int .i64)] | _ => [], fun n => match n with | 10 => some [(12, .int .i64)] | _ => none⟩ [.slice, .int .i64, .int .i64, .any] Tryz.func277 rfl (.cons h289 (.cons h290 .nil))
theorem s294 (h225 : SN ads 225 c1) : SN ads 294 (g294 c1) :=
  mk_snd [(nn225, c1)] ⟨fun _ => [], fun _ => none⟩ [.slice, .int .i64, .int .i64, .ptr, .any] Tryz.func294 rfl (.cons h225 .nil)
theorem s292 (h294 : SN ads 294 c1) : SN ads 292 (g292 c1) :=
  mk_snd [(nn294, c1)] ⟨fun _ => [], fun _ => none⟩ [.slice, .int .i64, .int .i64, .int .i64, .ptr, .any] Tryz.func292 rfl (.cons h294 .nil)
theorem s291 (h292 : SN ads 292 c1) : SN ads 291 (g291 c1) :=
  mk_snd [(nn292, c1)] ⟨fun _ => [], fun _ => none⟩ [.slice, .int .i64, .ptr, .any] Tryz.func291 rfl (.cons h292 .nil)
theorem s278 (h291 : SN ads 291 c1) (h292 : SN ads 292 c2) : SN ads 278 (g278 c1 c2) :=
  mk_snd [(nn291, c1), (nn292, c2)] ⟨fun _ => [], fun n => match n with | 11 => some [(12, .int .i64), (13, .int .i64), (14, .int .i64)] | 12 => some [(13, .int .i64)] | _ => none⟩ [.slice, .int .i64, .int .i64, .any] Tryz.func278 rfl (.cons h291 (.cons h292 .nil))
theorem s279 : SN ads 279 (g279) :=
  mk_snd [] ⟨fun n => match n with | 0 => [(8, .int .i64), (9, .int .i64)] | _ => [], fun _ => none⟩ [.slice, .int .i64, .int .i64, .any] Tryz.func279 rfl .nil
theorem s280 (h225 : SN ads 225 c1) : SN ads 280 (g280 c1) :=
  mk_snd [(nn225, c1)] ⟨fun n => match n with | 0 => [(9, .int .i64), (10, .int .i64)] | 2 => [(9, .int .i64)] | 4 => [(11, .int .i64)] | 6 => [(12, .int .i64)] | _ => [], fun n => match n with | 4 => some [(9, .int .i64)] | 6 => some [] | 7 => some [(9, .int .i64)] | 18 => some [] | _ => none⟩ [.slice, .int .i64, .int .i64, .any] Tryz.func280 rfl (.cons h225 .nil)
theorem s281 (h225 : SN ads 225 c1) : SN ads 281 (g281 c1) :=
  mk_snd [(nn225, c1)] ⟨fun n => match n with | 0 => [(11, .int .i64), (12, .int .i64)] | 2 => [(11, .int .i64)] | 4 => [(12, .int .i64)] | _ => [], fun n => match n with | 4 => some [] | 5 => some [(11, .int .i64)] | 6 => some [] | 7 => some [(12, .int .i64)] | _ => none⟩ [.slice, .int .i64, .int .i64, .int .i64, .any] Tryz.func281 rfl (.cons h225 .nil)
theorem s282 (h225 : SN ads 225 c1) : SN ads 282 (g282 c1) :=
  mk_snd [(nn225, c1)] ⟨fun n => match n with | 0 => [(12, .int .i64)] | 2 => [(13, .int .i64)] | 4 => [(12, .int .i64), (13, .int .i64)] | 6 => [(12, .int .i64)] | 8 => [(13, .int .i64)] | _ => [], fun n => match n with | 4 => some [] | 5 => some [(12, .int .i64)] | 6 => some [] | 7 => some [(13, .int .i64)] | 14 => some [] | 15 => some [(12, .int .i64)] | 16 => some [] | 17 => some [(13, .int .i64)] | _ => none⟩ [.slice, .int .i64, .int .i64, .int .i64, .any] Tryz.func282 rfl (.cons h225 .nil)
theorem s260 (h225 : SN ads 225 c1) (h275 : SN ads 275 c2) (h276 : SN ads 276 c3) (h277 : SN ads 277 c4) (h278 : SN ads 278 c5) (h279 : SN ads 279 c6) (h280 : SN ads 280 c7) (h281 : SN ads 281 c8) (h282 : SN ads 282 c9) : SN ads 260 (g260 c1 c2 c3 c4 c5 c6 c7 c8 c9) :=
  mk_snd [(nn225, c1), (nn275, c2), (nn276, c3), (nn277, c4), (nn278, c5), (nn279, c6), (nn280, c7), (nn281, c8), (nn282, c9)] ⟨fun n => match n with | 0 => [(1, .int .i64), (2, .int .i64), (3, .int .i64), (10, .bool), (11, .bool)] | _ => [], fun n => match n with | 10 => some [(3, .int .i64)] | 15 => some [(13, .int .i64), (14, .int .i64)] | 17 => some [] | 18 => some [(97, .bool)] | _ => none⟩ [.slice, .int .i64, .int .i64, .int .i64, .any] Tryz.func260 rfl (.cons h225 (.cons h275 (.cons h276 (.cons h277 (.cons h278 (.cons h279 (.cons h280 (.cons h281 (.cons h282 .nil)))))))))
theorem s224 (h260 : SN ads 260 c1) (h261 : SN ads 261 c2) : SN ads 224 (g224 c1 c2) :=
  mk_snd [(nn260, c1), (nn261, c2)] ⟨fun _ => [], fun _ => none⟩ [.slice, .any] Tryz.func224 rfl (.cons h260 (.cons h261 .nil))
theorem s169 (h222 : SN ads 222 c1) (h224 : SN ads 224 c2) : SN ads 169 (g169 c1 c2) :=
  mk_snd [(nn222, c1), (nn224, c2)] ⟨fun n => match n with | 0 => [(5, .slice), (10, .int .i64)] | _ => [], fun _ => none⟩ [.int .i64, .slice] Tryz.func169 rfl (.cons h222 (.cons h224 .nil))
theorem s81 (h169 : SN ads 169 c1) : SN ads 81 (g81 c1) :=
  mk_snd [(nn169, c1)] ⟨fun n => match n with | 0 => [(3, .slice)] | 2 => [(5, .slice), (28, .int .i64)] | _ => [], fun _ => none⟩ [.ptr] Tryz.func81 rfl (.cons h169 .nil)
theorem s79 (h81 : SN ads 81 c1) (h144 : SN ads 144 c2) : SN ads 79 (g79 c1 c2) :=
  mk_snd [(nn81, c1), (nn144, c2)] ⟨fun _ => [], fun n => match n with | 2 => some [(30, .bool)] | 8 => some [(8, .int .i64)] | _ => none⟩ [.ptr, .any] Tryz.func79 rfl (.cons h81 (.cons h144 .nil))
theorem s39 (h76 : SN ads 76 c1) (h77 : SN ads 77 c2) (h78 : SN ads 78 c3) (h79 : SN ads 79 c4) (h80 : SN ads 80 c5) (h81 : SN ads 81 c6) : SN ads 39 (g39 c1 c2 c3 c4 c5 c6) :=
  mk_snd [(nn76, c1), (nn77, c2), (nn78, c3), (nn79, c4), (nn80, c5), (nn81, c6)] ⟨fun _ => [], fun n => match n with | 9 => some [(66, .bool)] | _ => none⟩ [.ptr, .slice] Tryz.func39 rfl (.cons h76 (.cons h77 (.cons h78 (.cons h79 (.cons h80 (.cons h81 .nil))))))
theorem s82 (h152 : SN ads 152 c1) (h153 : SN ads 153 c2) : SN ads 82 (g82 c1 c2) :=
  mk_snd [(nn152, c1), (nn153, c2)] ⟨fun n => match n with | 0 => [(0, .slice), (3, .slice)] | _ => [], fun _ => none⟩ [.slice] Tryz.func82 rfl (.cons h152 (.cons h153 .nil))
theorem s83 (h25 : SN ads 25 c1) : SN ads 83 (g83 c1) :=
  mk_snd [(nn25, c1)] ⟨fun n => match n with | 2 => [(97, .int .i64)] | _ => [], fun n => match n with | 12 => some [(31, .bool)] | _ => none⟩ [.slice] Tryz.func83 rfl (.cons h25 .nil)
theorem s170 (h161 : SN ads 161 c1) (h164 : SN ads 164 c2) (h171 : SN ads 171 c3) : SN ads 170 (g170 c1 c2 c3) :=
  mk_snd [(nn161, c1), (nn164, c2), (nn171, c3)] ⟨fun _ => [], fun n => match n with | 3 => some [] | _ => none⟩ [.ptr, .int .i64] Tryz.func170 rfl (.cons h161 (.cons h164 (.cons h171 .nil)))
theorem s84 (h161 : SN ads 161 c1) (h162 : SN ads 162 c2) (h163 : SN ads 163 c3) (h170 : SN ads 170 c4) (h171 : SN ads 171 c5) : SN ads 84 (g84 c1 c2 c3 c4 c5) :=
  mk_snd [(nn161, c1), (nn162, c2), (nn163, c3), (nn170, c4), (nn171, c5)] ⟨fun _ => [], fun n => match n with | 3 => some [(5, .bool)] | 14 => some [(7, .slice)] | 17 => some [] | _ => none⟩ [.ptr, .any] Tryz.func84 rfl (.cons h161 (.cons h162 (.cons h163 (.cons h170 (.cons h171 .nil)))))
theorem s41 (h82 : SN ads 82 c1) (h83 : SN ads 83 c2) (h84 : SN ads 84 c3) (h85 : SN ads 85 c4) : SN ads 41 (g41 c1 c2 c3 c4) :=
  mk_snd [(nn82, c1), (nn83, c2), (nn84, c3), (nn85, c4)] ⟨fun n => match n with | 0 => [(9, .slice), (10, .int .i64), (22, .int .i64)] | _ => [], fun n => match n with | 4 => some [(8, .slice)] | 11 => some [] | 13 => some [(9, .slice), (10, .int .i64)] | _ => none⟩ [.ptr, .bool, .slice] Tryz.func41 rfl (.cons h82 (.cons h83 (.cons h84 (.cons h85 .nil))))
theorem s40 (h41 : SN ads 41 c1) : SN ads 40 (g40 c1) :=
  mk_snd [(nn41, c1)] ⟨fun _ => [], fun _ => none⟩ [.slice, .ptr, .ptr] Tryz.func40 rfl (.cons h41 .nil)
theorem s42 : SN ads 42 (g42) :=
  mk_snd [] ⟨fun n => match n with | 0 => [(12, .int .i64)] | _ => [], fun _ => none⟩ [.ptr, .ptr, .int .i64, .slice] Tryz.func42 rfl .nil
theorem s88 : SN ads 88 (g88) :=
  mk_snd [] ⟨fun _ => [], fun _ => none⟩ [.ptr, .ptr] Tryz.func88 rfl .nil
theorem s104 : SN ads 104 (g104) :=
  mk_snd [] ⟨fun _ => [], fun _ => none⟩ [.ptr, .ptr] Tryz.func104 rfl .nil
theorem s174 : SN ads 174 (g174) :=
  mk_snd [] ⟨fun _ => [], fun _ => none⟩ [.ptr, .ptr] Tryz.func174 rfl .nil
theorem s173 (h88 : SN ads 88 c1) (h104 : SN ads 104 c2) (h174 : SN ads 174 c3) : SN ads 173 (g173 c1 c2 c3) :=
  mk_snd [(nn88, c1), (nn104, c2), (nn174, c3)] ⟨fun n => match n with | 0 => [(8, .int .i64)] | _ => [], fun _ => none⟩ [.slice, .any] Tryz.func173 rfl (.cons h88 (.cons h104 (.cons h174 .nil)))
theorem s86 (h173 : SN ads 173 c1) : SN ads 86 (g86 c1) :=
  mk_snd [(nn173, c1)] ⟨fun _ => [], fun _ => none⟩ [.ptr, .int .i64] Tryz.func86 rfl (.cons h173 .nil)
theorem s87 (h88 : SN ads 88 c1) (h104 : SN ads 104 c2) (h173 : SN ads 173 c3) : SN ads 87 (g87 c1 c2 c3) :=
  mk_snd [(nn88, c1), (nn104, c2), (nn173, c3)] ⟨fun n => match n with | 0 => [(5, .int .i64), (6, .int .i64)] | _ => [], fun n => match n with | 6 => some [(5, .int .i64)] | _ => none⟩ [.slice, .any] Tryz.func87 rfl (.cons h88 (.cons h104 (.cons h173 .nil)))
theorem s89 (h58 : SN ads 58 c1) (h131 : SN ads 131 c2) (h132 : SN ads 132 c3) : SN ads 89 (g89 c1 c2 c3) :=
  mk_snd [(nn58, c1), (nn131, c2), (nn132, c3)] ⟨fun _ => [], fun _ => none⟩ [.ptr, .int .i64, .int .i64] Tryz.func89 rfl (.cons h58 (.cons h131 (.cons h132 .nil)))
theorem s226 (h158 : SN ads 158 c1) (h159 : SN ads 159 c2) (h160 : SN ads 160 c3) (h172 : SN ads 172 c4) : SN ads 226 (g226 c1 c2 c3 c4) :=
  mk_snd [(nn158, c1), (nn159, c2), (nn160, c3), (nn172, c4)] ⟨fun n => match n with | 0 => [(27, .int .i64)] | _ => [], fun _ => none⟩ [.slice] Tryz.func226 rfl (.cons h158 (.cons h159 (.cons h160 (.cons h172 .nil))))
theorem s175 (h226 : SN ads 226 c1) : SN ads 175 (g175 c1) :=
  mk_snd [(nn226, c1)] ⟨fun _ => [], fun _ => none⟩ [.ptr, .ptr, .slice] Tryz.func175 rfl (.cons h226 .nil)
theorem s231 : SN ads 231 (g231) :=
  mk_snd [] ⟨fun n => match n with | 0 => [(8, .int .i64)] | _ => [], fun _ => none⟩ [.ptr] Tryz.func231 rfl .nil
theorem s176 (h196 : SN ads 196 c1) (h228 : SN ads 228 c2) (h229 : SN ads 229 c3) (h231 : SN ads 231 c4) : SN ads 176 (g176 c1 c2 c3 c4) :=
  mk_snd [(nn196, c1), (nn228, c2), (nn229, c3), (nn231, c4)] ⟨fun _ => [], fun n => match n with | 5 => some [(14, .bool)] | _ => none⟩ [.ptr, .any] Tryz.func176 rfl (.cons h196 (.cons h228 (.cons h229 (.cons h231 .nil))))
theorem s178 (h228 : SN ads 228 c1) (h231 : SN ads 231 c2) : SN ads 178 (g178 c1 c2) :=
  mk_snd [(nn228, c1), (nn231, c2)] ⟨fun _ => [], fun _ => none⟩ [.ptr] Tryz.func178 rfl (.cons h228 (.cons h231 .nil))
theorem s90 (h175 : SN ads 175 c1) (h176 : SN ads 176 c2) (h177 : SN ads 177 c3) (h178 : SN ads 178 c4) : SN ads 90 (g90 c1 c2 c3 c4) :=
  mk_snd [(nn175, c1), (nn176, c2), (nn177, c3), (nn178, c4)] ⟨fun n => match n with | 0 => [(36, .int .i64)] | _ => [], fun n => match n with | 10 => some [(10, .bool)] | 12 => some [] | _ => none⟩ [.ptr, .ptr, .ptr, .slice] Tryz.func90 rfl (.cons h175 (.cons h176 (.cons h177 (.cons h178 .nil))))
theorem s179 : SN ads 179 (g179) :=
  mk_snd [] ⟨fun _ => [], fun n => match n with | 3 => some [(27, .bool)] | _ => none⟩ [.ptr, .bool] Tryz.func179 rfl .nil
theorem s91 (h175 : SN ads 175 c1) (h179 : SN ads 179 c2) : SN ads 91 (g91 c1 c2) :=
  mk_snd [(nn175, c1), (nn179, c2)] ⟨fun _ => [], fun _ => none⟩ [.ptr, .ptr, .ptr, .slice] Tryz.func91 rfl (.cons h175 (.cons h179 .nil))
theorem s92 (h98 : SN ads 98 c1) (h99 : SN ads 99 c2) : SN ads 92 (g92 c1 c2) :=
  mk_snd [(nn98, c1), (nn99, c2)] ⟨fun _ => [], fun _ => none⟩ [.ptr, .ptr, .ptr, .slice] Tryz.func92 rfl (.cons h98 (.cons h99 .nil))
theorem s93 (h125 : SN ads 125 c1) (h180 : SN ads 180 c2) : SN ads 93 (g93 c1 c2) :=
  mk_snd [(nn125, c1), (nn180, c2)] ⟨fun _ => [], fun _ => none⟩ [.ptr, .int .i64, .bool] Tryz.func93 rfl (.cons h125 (.cons h180 .nil))
theorem s43 (h65 : SN ads 65 c1) (h66 : SN ads 66 c2) (h86 : SN ads 86 c3) (h87 : SN ads 87 c4) (h89 : SN ads 89 c5) (h90 : SN ads 90 c6) (h91 : SN ads 91 c7) (h92 : SN ads 92 c8) (h93 : SN ads 93 c9) : SN ads 43 (g43 c1 c2 c3 c4 c5 c6 c7 c8 c9) :=
  mk_snd [(nn65, c1), (nn66, c2), (nn86, c3), (nn87, c4), (nn89, c5), (nn90, c6), (nn91, c7), (nn92, c8), (nn93, c9)] ⟨fun _ => [], fun n => match n with | 18 => some [(12, .any)] | _ => none⟩ [.ptr, .int .i64, .int .i64, .slice] Tryz.func43 rfl (.cons h65 (.cons h66 (.cons h86 (.cons h87 (.cons h89 (.cons h90 (.cons h91 (.cons h92 (.cons h93 .nil)))))))))
theorem s20 (h21 : SN ads 21 c1) (h35 : SN ads 35 c2) (h36 : SN ads 36 c3) (h38 : SN ads 38 c4) (h39 : SN ads 39 c5) (h40 : SN ads 40 c6) (h42 : SN ads 42 c7) (h43 : SN ads 43 c8) : SN ads 20 (g20 c1 c2 c3 c4 c5 c6 c7 c8) :=
  mk_snd [(nn21, c1), (nn35, c2), (nn36, c3), (nn38, c4), (nn39, c5), (nn40, c6), (nn42, c7), (nn43, c8)] ⟨fun _ => [], fun n => match n with | 14 => some [(12, .any)] | 15 => some [(8, .slice), (9, .slice)] | 18 => some [(9, .slice)] | 21 => some [] | 22 => some [(9, .slice)] | _ => none⟩ [.ptr, .any] Tryz.func20 rfl (.cons h21 (.cons h35 (.cons h36 (.cons h38 (.cons h39 (.cons h40 (.cons h42 (.cons h43 .nil))))))))
theorem s49 (h81 : SN ads 81 c1) : SN ads 49 (g49 c1) :=
  mk_snd [(nn81, c1)] ⟨fun n => match n with | 0 => [(3, .slice), (5, .int .i64)] | _ => [], fun _ => none⟩ [.ptr] Tryz.func49 rfl (.cons h81 .nil)
theorem s235 (h25 : SN ads 25 c1) : SN ads 235 (g235 c1) :=
  mk_snd [(nn25, c1)] ⟨fun _ => [], fun _ => none⟩ [.any] Tryz.func235 rfl (.cons h25 .nil)
theorem s187 (h235 : SN ads 235 c1) : SN ads 187 (g187 c1) :=
  mk_snd [(nn235, c1)] ⟨fun n => match n with | 0 => [(3, .slice), (7, .int .i64)] | 2 => [(3, .slice), (18, .int .i64)] | _ => [], fun _ => none⟩ [.ptr] Tryz.func187 rfl (.cons h235 .nil)
theorem s103 (h56 : SN ads 56 c1) (h186 : SN ads 186 c2) (h187 : SN ads 187 c3) : SN ads 103 (g103 c1 c2 c3) :=
  mk_snd [(nn56, c1), (nn186, c2), (nn187, c3)] ⟨fun n => match n with | 0 => [(5, .slice), (18, .int .i64)] | _ => [], fun _ => none⟩ [.ptr, .int .i64] Tryz.func103 rfl (.cons h56 (.cons h186 (.cons h187 .nil)))
theorem s105 (h131 : SN ads 131 c1) : SN ads 105 (g105 c1) :=
  mk_snd [(nn131, c1)] ⟨fun _ => [], fun _ => none⟩ [.ptr, .int .i64] Tryz.func105 rfl (.cons h131 .nil)
theorem s106 (h120 : SN ads 120 c1) (h130 : SN ads 130 c2) : SN ads 106 (g106 c1 c2) :=
  mk_snd [(nn120, c1), (nn130, c2)] ⟨fun _ => [], fun n => match n with | 6 => some [] | _ => none⟩ [.ptr, .int .i64] Tryz.func106 rfl (.cons h120 (.cons h130 .nil))
theorem s107 (h121 : SN ads 121 c1) : SN ads 107 (g107 c1) :=
  mk_snd [(nn121, c1)] ⟨fun _ => [], fun _ => none⟩ [.ptr, .int .i64] Tryz.func107 rfl (.cons h121 .nil)
theorem s108 (h188 : SN ads 188 c1) : SN ads 108 (g108 c1) :=
  mk_snd [(nn188, c1)] ⟨fun _ => [], fun _ => none⟩ [.ptr, .int .i64] Tryz.func108 rfl (.cons h188 .nil)
theorem s50 (h65 : SN ads 65 c1) (h87 : SN ads 87 c2) (h100 : SN ads 100 c3) (h102 : SN ads 102 c4) (h103 : SN ads 103 c5) (h105 : SN ads 105 c6) (h106 : SN ads 106 c7) (h107 : SN ads 107 c8) (h108 : SN ads 108 c9) : SN ads 50 (g50 c1 c2 c3 c4 c5 c6 c7 c8 c9) :=
  mk_snd [(nn65, c1), (nn87, c2), (nn100, c3), (nn102, c4), (nn103, c5), (nn105, c6), (nn106, c7), (nn107, c8), (nn108, c9)] ⟨fun n => match n with | 0 => [(25, .int .i64)] | 2 => [(37, .int .i64)] | 4 => [(67, .int .i64)] | _ => [], fun _ => none⟩ [.ptr, .int .i64] Tryz.func50 rfl (.cons h65 (.cons h87 (.cons h100 (.cons h102 (.cons h103 (.cons h105 (.cons h106 (.cons h107 (.cons h108 .nil)))))))))
theorem s109 : SN ads 109 (g109) :=
  mk_snd [] ⟨fun _ => [], fun _ => none⟩ [.ptr] Tryz.func109 rfl .nil
theorem s264 : SN ads 264 (g264) :=
  mk_snd [] ⟨fun _ => [], fun _ => none⟩ [.int .u32, .int .u32] Tryz.func264 rfl .nil
theorem s236 (h264 : SN ads 264 c1) : SN ads 236 (g236 c1) :=
  mk_snd [(nn264, c1)] ⟨fun _ => [], fun _ => none⟩ [.int .u32, .int .u32] Tryz.func236 rfl (.cons h264 .nil)
theorem s189 (h25 : SN ads 25 c1) (h116 : SN ads 116 c2) (h236 : SN ads 236 c3) : SN ads 189 (g189 c1 c2 c3) :=
  mk_snd [(nn25, c1), (nn116, c2), (nn236, c3)] ⟨fun _ => [], fun n => match n with | 11 => some [] | _ => none⟩ [.ptr, .any] Tryz.func189 rfl (.cons h25 (.cons h116 (.cons h236 .nil)))
theorem s238 (h239 : SN ads 239 c1) : SN ads 238 (g238 c1) :=
  mk_snd [(nn239, c1)] ⟨fun _ => [], fun _ => none⟩ [.ptr, .ptr] Tryz.func238 rfl (.cons h239 .nil)
theorem s241 : SN ads 241 (g241) :=
  mk_snd [] ⟨fun _ => [], fun _ => none⟩ [.ptr] Tryz.func241 rfl .nil
theorem s240 (h241 : SN ads 241 c1) : SN ads 240 (g240 c1) :=
  mk_snd [(nn241, c1)] ⟨fun _ => [], fun _ => none⟩ [.ptr, .ptr] Tryz.func240 rfl (.cons h241 .nil)
theorem s242 (h239 : SN ads 239 c1) (h243 : SN ads 243 c2) : SN ads 242 (g242 c1 c2) :=
  mk_snd [(nn239, c1), (nn243, c2)] ⟨fun _ => [], fun _ => none⟩ [.ptr, .ptr, .ptr, .ptr] Tryz.func242 rfl (.cons h239 (.cons h243 .nil))
theorem s237 (h238 : SN ads 238 c1) (h240 : SN ads 240 c2) (h242 : SN ads 242 c3) : SN ads 237 (g237 c1 c2 c3) :=
  mk_snd [(nn238, c1), (nn240, c2), (nn242, c3)] ⟨fun n => match n with | 0 => [(6, .int .i64)] | 2 => [(9, .int .i64)] | _ => [], fun _ => none⟩ [.ptr, .any] Tryz.func237 rfl (.cons h238 (.cons h240 (.cons h242 .nil)))
theorem s265 (h235 : SN ads 235 c1) : SN ads 265 (g265 c1) :=
  mk_snd [(nn235, c1)] ⟨fun _ => [], fun _ => none⟩ [.ptr, .int .i64] Tryz.func265 rfl (.cons h235 .nil)
theorem s244 (h265 : SN ads 265 c1) (h266 : SN ads 266 c2) : SN ads 244 (g244 c1 c2) :=
  mk_snd [(nn265, c1), (nn266, c2)] ⟨fun _ => [], fun _ => none⟩ [.ptr, .int .i64] Tryz.func244 rfl (.cons h265 (.cons h266 .nil))
theorem s192 (h237 : SN ads 237 c1) (h244 : SN ads 244 c2) : SN ads 192 (g192 c1 c2) :=
  mk_snd [(nn237, c1), (nn244, c2)] ⟨fun _ => [], fun _ => none⟩ [.ptr] Tryz.func192 rfl (.cons h237 (.cons h244 .nil))
theorem s110 (h186 : SN ads 186 c1) (h189 : SN ads 189 c2) (h190 : SN ads 190 c3) (h191 : SN ads 191 c4) (h192 : SN ads 192 c5) : SN ads 110 (g110 c1 c2 c3 c4 c5) :=
  mk_snd [(nn186, c1), (nn189, c2), (nn190, c3), (nn191, c4), (nn192, c5)] ⟨fun n => match n with | 0 => [(8, .slice)] | _ => [], fun n => match n with | 6 => some [] | 7 => some [(8, .slice)] | _ => none⟩ [.ptr, .int .i64, .any] Tryz.func110 rfl (.cons h186 (.cons h189 (.cons h190 (.cons h191 (.cons h192 .nil)))))
theorem s51 (h65 : SN ads 65 c1) (h102 : SN ads 102 c2) (h109 : SN ads 109 c3) (h110 : SN ads 110 c4) : SN ads 51 (g51 c1 c2 c3 c4) :=
  mk_snd [(nn65, c1), (nn102, c2), (nn109, c3), (nn110, c4)] ⟨fun _ => [], fun _ => none⟩ [.ptr, .int .i64, .int .i64, .int .i64, .int .u32, .slice] Tryz.func51 rfl (.cons h65 (.cons h102 (.cons h109 (.cons h110 .nil))))
theorem s111 (h121 : SN ads 121 c1) : SN ads 111 (g111 c1) :=
  mk_snd [(nn121, c1)] ⟨fun _ => [], fun n => match n with | 6 => some [] | _ => none⟩ [.ptr, .int .i64, .bool] Tryz.func111 rfl (.cons h121 .nil)
theorem s52 (h65 : SN ads 65 c1) (h111 : SN ads 111 c2) : SN ads 52 (g52 c1 c2) :=
  mk_snd [(nn65, c1), (nn111, c2)] ⟨fun _ => [], fun _ => none⟩ [.ptr, .int .i64, .bool] Tryz.func52 rfl (.cons h65 (.cons h111 .nil))
theorem s53 (h112 : SN ads 112 c1) : SN ads 53 (g53 c1) :=
  mk_snd [(nn112, c1)] ⟨fun _ => [], fun _ => none⟩ [.any] Tryz.func53 rfl (.cons h112 .nil)
theorem s113 (h121 : SN ads 121 c1) (h193 : SN ads 193 c2) : SN ads 113 (g113 c1 c2) :=
  mk_snd [(nn121, c1), (nn193, c2)] ⟨fun _ => [], fun _ => none⟩ [.ptr, .int .i64, .int .i64] Tryz.func113 rfl (.cons h121 (.cons h193 .nil))
theorem s54 (h65 : SN ads 65 c1) (h113 : SN ads 113 c2) : SN ads 54 (g54 c1 c2) :=
  mk_snd [(nn65, c1), (nn113, c2)] ⟨fun _ => [], fun _ => none⟩ [.ptr, .int .i64, .int .i64] Tryz.func54 rfl (.cons h65 (.cons h113 .nil))
theorem s55 (h60 : SN ads 60 c1) (h65 : SN ads 65 c2) : SN ads 55 (g55 c1 c2) :=
  mk_snd [(nn60, c1), (nn65, c2)] ⟨fun _ => [], fun _ => none⟩ [.ptr, .int .i64, .any] Tryz.func55 rfl (.cons h60 (.cons h65 .nil))
theorem s22 (h17 : SN ads 17 c1) (h21 : SN ads 21 c2) (h25 : SN ads 25 c3) (h42 : SN ads 42 c4) (h49 : SN ads 49 c5) (h50 : SN ads 50 c6) (h51 : SN ads 51 c7) (h52 : SN ads 52 c8) (h53 : SN ads 53 c9) (h54 : SN ads 54 c10) (h55 : SN ads 55 c11) : SN ads 22 (g22 c1 c2 c3 c4 c5 c6 c7 c8 c9 c10 c11) :=
  mk_snd [(nn17, c1), (nn21, c2), (nn25, c3), (nn42, c4), (nn49, c5), (nn50, c6), (nn51, c7), (nn52, c8), (nn53, c9), (nn54, c10), (nn55, c11)] ⟨fun _ => [], fun n => match n with | 11 => some [] | _ => none⟩ [.ptr, .ptr, .any] Tryz.func22 rfl (.cons h17 (.cons h21 (.cons h25 (.cons h42 (.cons h49 (.cons h50 (.cons h51 (.cons h52 (.cons h53 (.cons h54 (.cons h55 .nil)))))))))))
theorem s9 (h19 : SN ads 19 c1) (h20 : SN ads 20 c2) (h21 : SN ads 21 c3) (h22 : SN ads 22 c4) : SN ads 9 (g9 c1 c2 c3 c4) :=
  mk_snd [(nn19, c1), (nn20, c2), (nn21, c3), (nn22, c4)] ⟨fun _ => [], fun _ => none⟩ [.ptr, .any] Tryz.func9 rfl (.cons h19 (.cons h20 (.cons h21 (.cons h22 .nil))))
theorem s23 : SN ads 23 (g23) :=
  mk_snd [] ⟨fun _ => [], fun _ => none⟩ [.ptr, .int .i64] Tryz.func23 rfl .nil
theorem s24 : SN ads 24 (g24) :=
  mk_snd [] ⟨fun _ => [], fun _ => none⟩ [.slice] Tryz.func24 rfl .nil
theorem s10 (h23 : SN ads 23 c1) (h24 : SN ads 24 c2) (h25 : SN ads 25 c3) : SN ads 10 (g10 c1 c2 c3) :=
  mk_snd [(nn23, c1), (nn24, c2), (nn25, c3)] ⟨fun n => match n with | 0 => [(20, .int .i64)] | _ => [], fun _ => none⟩ [.ptr, .int .i64] Tryz.func10 rfl (.cons h23 (.cons h24 (.cons h25 .nil)))
theorem s5 (h7 : SN ads 7 c1) (h8 : SN ads 8 c2) (h9 : SN ads 9 c3) (h10 : SN ads 10 c4) : SN ads 5 (g5 c1 c2 c3 c4) :=
  mk_snd [(nn7, c1), (nn8, c2), (nn9, c3), (nn10, c4)] ⟨fun _ => [], fun _ => none⟩ [] Tryz.func5 rfl (.cons h7 (.cons h8 (.cons h9 (.cons h10 .nil))))
theorem s11 (h23 : SN ads 23 c1) (h25 : SN ads 25 c2) (h26 : SN ads 26 c3) : SN ads 11 (g11 c1 c2 c3) :=
  mk_snd [(nn23, c1), (nn25, c2), (nn26, c3)] ⟨fun n => match n with | 0 => [(20, .int .i64)] | _ => [], fun _ => none⟩ [.ptr, .int .i64] Tryz.func11 rfl (.cons h23 (.cons h25 (.cons h26 .nil)))
theorem s12 (h23 : SN ads 23 c1) : SN ads 12 (g12 c1) :=
  mk_snd [(nn23, c1)] ⟨fun _ => [], fun _ => none⟩ [.ptr, .int .i64] Tryz.func12 rfl (.cons h23 .nil)
theorem s13 : SN ads 13 (g13) :=
  mk_snd [] ⟨fun _ => [], fun _ => none⟩ [.ptr] Tryz.func13 rfl .nil
theorem s14 : SN ads 14 (g14) :=
  mk_snd [] ⟨fun n => match n with | 0 => [(3, .slice), (11, .int .i64)] | _ => [], fun _ => none⟩ [.ptr] Tryz.func14 rfl .nil
end
end Go.Proofs.YtbelmboeamkccaaGreatDoor
