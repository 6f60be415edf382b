/- The printed functions are the machine's own, by the kernel. -/
import Derived.Test.YtcefbgcgldagfaaGreatDoorGgD2
import Derived.Test.YtcefbgcgldagfaaGreatDoorRows
set_option linter.unusedVariables false
set_option linter.constructorNameAsVariable false
set_option maxRecDepth 100000
namespace Go.Proofs.YtcefbgcgldagfaaGreatDoor
open Go.Vc Go.Ab
noncomputable section
variable (v1 : AV) (l1 l2 l3 l4 : List AV) (L1 : List AP) (d1 d2 d3 d4 : DV) (R1 : List DV) (n1 n2 n3 n4 n5 n6 n7 n8 n9 : Int) (m1 m2 m3 m4 m5 : Nat) (t1 t2 t3 t4 : Bool) (p1 p2 p3 p4 p5 : AP) (b1 b2 b3 b4 b5 : P4) (s1 s2 s3 s4 s5 : AS) (H1 : AH) (x1 x2 : List Int) (c1 c2 c3 c4 c5 c6 c7 c8 c9 c10 c11 c12 c13 c14 c15 c16 : G DV) (Ka1 : AH → Option DV) (Kb1 Kb2 Kb3 : DV → AH → Option DV) (Kc1 Kc2 : DV → DV → AH → Option DV) (Kd1 : DV → DV → DV → AH → Option DV)
variable {ads : List Addr}
theorem s276 : SN ads 276 (g276) :=
  mk_snd [] ⟨fun _ => [], fun _ => none⟩ [.slice] Tryz.func276 rfl .nil
theorem s282 (h276 : SN ads 276 c1) : SN ads 282 (g282 c1) :=
  mk_snd [(nn276, c1)] ⟨fun _ => [], fun _ => none⟩ [.slice] Tryz.func282 rfl (.cons h276 .nil)
theorem s283 (h243 : SN ads 243 c1) : SN ads 283 (g283 c1) :=
  mk_snd [(nn243, c1)] ⟨fun n => match n with | 0 => [(4, .slice), (22, .int .i64)] | _ => [], fun _ => none⟩ [.any] Tryz.func283 rfl (.cons h243 .nil)
theorem s213 (h275 : SN ads 275 c1) (h280 : SN ads 280 c2) (h282 : SN ads 282 c3) (h283 : SN ads 283 c4) : SN ads 213 (g213 c1 c2 c3 c4) :=
  mk_snd [(nn275, c1), (nn280, c2), (nn282, c3), (nn283, c4)] ⟨fun n => match n with | 0 => [(27, .int .i64)] | _ => [], fun _ => none⟩ [.slice] Tryz.func213 rfl (.cons h275 (.cons h280 (.cons h282 (.cons h283 .nil))))
theorem s126 (h213 : SN ads 213 c1) : SN ads 126 (g126 c1) :=
  mk_snd [(nn213, c1)] ⟨fun _ => [], fun _ => none⟩ [.ptr, .ptr, .slice] Tryz.func126 rfl (.cons h213 .nil)
theorem s220 : SN ads 220 (g220) :=
  mk_snd [] ⟨fun n => match n with | 0 => [(8, .int .i64)] | _ => [], fun _ => none⟩ [.ptr] Tryz.func220 rfl .nil
theorem s127 (h216 : SN ads 216 c1) (h217 : SN ads 217 c2) (h218 : SN ads 218 c3) (h220 : SN ads 220 c4) : SN ads 127 (g127 c1 c2 c3 c4) :=
  mk_snd [(nn216, c1), (nn217, c2), (nn218, c3), (nn220, c4)] ⟨fun _ => [], fun n => match n with | 5 => some [(14, .bool)] | _ => none⟩ [.ptr, .any] Tryz.func127 rfl (.cons h216 (.cons h217 (.cons h218 (.cons h220 .nil))))
theorem s129 (h216 : SN ads 216 c1) (h220 : SN ads 220 c2) : SN ads 129 (g129 c1 c2) :=
  mk_snd [(nn216, c1), (nn220, c2)] ⟨fun _ => [], fun _ => none⟩ [.ptr] Tryz.func129 rfl (.cons h216 (.cons h220 .nil))
theorem s60 (h126 : SN ads 126 c1) (h127 : SN ads 127 c2) (h128 : SN ads 128 c3) (h129 : SN ads 129 c4) : SN ads 60 (g60 c1 c2 c3 c4) :=
  mk_snd [(nn126, c1), (nn127, c2), (nn128, c3), (nn129, c4)] ⟨fun n => match n with | 0 => [(36, .int .i64)] | _ => [], fun n => match n with | 10 => some [(10, .bool)] | 12 => some [] | _ => none⟩ [.ptr, .ptr, .ptr, .slice] Tryz.func60 rfl (.cons h126 (.cons h127 (.cons h128 (.cons h129 .nil))))
theorem s130 : SN ads 130 (g130) :=
  mk_snd [] ⟨fun _ => [], fun n => match n with | 3 => some [(27, .bool)] | _ => none⟩ [.ptr, .bool] Tryz.func130 rfl .nil
theorem s61 (h126 : SN ads 126 c1) (h130 : SN ads 130 c2) : SN ads 61 (g61 c1 c2) :=
  mk_snd [(nn126, c1), (nn130, c2)] ⟨fun _ => [], fun _ => none⟩ [.ptr, .ptr, .ptr, .slice] Tryz.func61 rfl (.cons h126 (.cons h130 .nil))
theorem s132 (h222 : SN ads 222 c1) : SN ads 132 (g132 c1) :=
  mk_snd [(nn222, c1)] ⟨fun _ => [], fun n => match n with | 11 => some [(9, .int .i64)] | _ => none⟩ [.ptr, .int .i64, .int .i64, .int .i64] Tryz.func132 rfl (.cons h222 .nil)
theorem s62 (h131 : SN ads 131 c1) (h132 : SN ads 132 c2) : SN ads 62 (g62 c1 c2) :=
  mk_snd [(nn131, c1), (nn132, c2)] ⟨fun _ => [], fun _ => none⟩ [.ptr, .ptr, .ptr, .slice] Tryz.func62 rfl (.cons h131 (.cons h132 .nil))
theorem s63 (h133 : SN ads 133 c1) (h134 : SN ads 134 c2) : SN ads 63 (g63 c1 c2) :=
  mk_snd [(nn133, c1), (nn134, c2)] ⟨fun _ => [], fun _ => none⟩ [.ptr, .int .i64, .bool] Tryz.func63 rfl (.cons h133 (.cons h134 .nil))
theorem s22 (h55 : SN ads 55 c1) (h56 : SN ads 56 c2) (h57 : SN ads 57 c3) (h59 : SN ads 59 c4) (h60 : SN ads 60 c5) (h61 : SN ads 61 c6) (h62 : SN ads 62 c7) (h63 : SN ads 63 c8) (h64 : SN ads 64 c9) : SN ads 22 (g22 c1 c2 c3 c4 c5 c6 c7 c8 c9) :=
  mk_snd [(nn55, c1), (nn56, c2), (nn57, c3), (nn59, c4), (nn60, c5), (nn61, c6), (nn62, c7), (nn63, c8), (nn64, c9)] ⟨fun _ => [], fun n => match n with | 18 => some [(12, .any)] | _ => none⟩ [.ptr, .int .i64, .int .i64, .slice] Tryz.func22 rfl (.cons h55 (.cons h56 (.cons h57 (.cons h59 (.cons h60 (.cons h61 (.cons h62 (.cons h63 (.cons h64 .nil)))))))))
theorem s37 : SN ads 37 (g37) :=
  mk_snd [] ⟨fun _ => [], fun _ => none⟩ [.any, .any, .int .i64] Tryz.func37 rfl .nil
theorem s234 (h266 : SN ads 266 c1) : SN ads 234 (g234 c1) :=
  mk_snd [(nn266, c1)] ⟨fun _ => [], fun _ => none⟩ [.any] Tryz.func234 rfl (.cons h266 .nil)
theorem s256 (h234 : SN ads 234 c1) : SN ads 256 (g256 c1) :=
  mk_snd [(nn234, c1)] ⟨fun n => match n with | 0 => [(3, .slice), (7, .int .i64)] | 2 => [(3, .slice), (18, .int .i64)] | _ => [], fun _ => none⟩ [.ptr] Tryz.func256 rfl (.cons h234 .nil)
theorem s179 (h143 : SN ads 143 c1) (h255 : SN ads 255 c2) (h256 : SN ads 256 c3) : SN ads 179 (g179 c1 c2 c3) :=
  mk_snd [(nn143, c1), (nn255, c2), (nn256, c3)] ⟨fun n => match n with | 0 => [(5, .slice), (18, .int .i64)] | _ => [], fun _ => none⟩ [.ptr, .int .i64] Tryz.func179 rfl (.cons h143 (.cons h255 (.cons h256 .nil)))
theorem s181 (h123 : SN ads 123 c1) : SN ads 181 (g181 c1) :=
  mk_snd [(nn123, c1)] ⟨fun _ => [], fun _ => none⟩ [.ptr, .int .i64] Tryz.func181 rfl (.cons h123 .nil)
theorem s182 (h152 : SN ads 152 c1) (h177 : SN ads 177 c2) : SN ads 182 (g182 c1 c2) :=
  mk_snd [(nn152, c1), (nn177, c2)] ⟨fun _ => [], fun n => match n with | 6 => some [] | _ => none⟩ [.ptr, .int .i64] Tryz.func182 rfl (.cons h152 (.cons h177 .nil))
theorem s183 (h178 : SN ads 178 c1) : SN ads 183 (g183 c1) :=
  mk_snd [(nn178, c1)] ⟨fun _ => [], fun _ => none⟩ [.ptr, .int .i64] Tryz.func183 rfl (.cons h178 .nil)
theorem s184 (h240 : SN ads 240 c1) : SN ads 184 (g184 c1) :=
  mk_snd [(nn240, c1)] ⟨fun _ => [], fun _ => none⟩ [.ptr, .int .i64] Tryz.func184 rfl (.cons h240 .nil)
theorem s95 (h55 : SN ads 55 c1) (h57 : SN ads 57 c2) (h136 : SN ads 136 c3) (h137 : SN ads 137 c4) (h179 : SN ads 179 c5) (h181 : SN ads 181 c6) (h182 : SN ads 182 c7) (h183 : SN ads 183 c8) (h184 : SN ads 184 c9) : SN ads 95 (g95 c1 c2 c3 c4 c5 c6 c7 c8 c9) :=
  mk_snd [(nn55, c1), (nn57, c2), (nn136, c3), (nn137, c4), (nn179, c5), (nn181, c6), (nn182, c7), (nn183, c8), (nn184, c9)] ⟨fun n => match n with | 0 => [(25, .int .i64)] | 2 => [(37, .int .i64)] | 4 => [(67, .int .i64)] | _ => [], fun _ => none⟩ [.ptr, .int .i64] Tryz.func95 rfl (.cons h55 (.cons h57 (.cons h136 (.cons h137 (.cons h179 (.cons h181 (.cons h182 (.cons h183 (.cons h184 .nil)))))))))
theorem s96 : SN ads 96 (g96) :=
  mk_snd [] ⟨fun n => match n with | 0 => [(4, .int .i64)] | _ => [], fun _ => none⟩ [.ptr, .slice] Tryz.func96 rfl .nil
theorem s269 : SN ads 269 (g269) :=
  mk_snd [] ⟨fun n => match n with | 0 => [(5, .int .i64)] | _ => [], fun _ => none⟩ [.ptr, .int .i64] Tryz.func269 rfl .nil
theorem s257 (h269 : SN ads 269 c1) : SN ads 257 (g257 c1) :=
  mk_snd [(nn269, c1)] ⟨fun _ => [], fun _ => none⟩ [.ptr, .ptr, .int .i64] Tryz.func257 rfl (.cons h269 .nil)
theorem s273 : SN ads 273 (g273) :=
  mk_snd [] ⟨fun _ => [], fun n => match n with | 4 => some [(0, .int .i64)] | _ => none⟩ [.int .i64] Tryz.func273 rfl .nil
theorem s258 (h273 : SN ads 273 c1) : SN ads 258 (g258 c1) :=
  mk_snd [(nn273, c1)] ⟨fun _ => [], fun _ => none⟩ [.int .i64, .int .i64] Tryz.func258 rfl (.cons h273 .nil)
theorem s185 (h257 : SN ads 257 c1) (h258 : SN ads 258 c2) : SN ads 185 (g185 c1 c2) :=
  mk_snd [(nn257, c1), (nn258, c2)] ⟨fun n => match n with | 0 => [] | _ => [], fun _ => none⟩ [.ptr, .ptr] Tryz.func185 rfl (.cons h257 (.cons h258 .nil))
theorem s97 (h185 : SN ads 185 c1) : SN ads 97 (g97 c1) :=
  mk_snd [(nn185, c1)] ⟨fun n => match n with | 0 => [(4, .int .i64)] | _ => [], fun _ => none⟩ [.ptr] Tryz.func97 rfl (.cons h185 .nil)
theorem s38 (h95 : SN ads 95 c1) (h96 : SN ads 96 c2) (h97 : SN ads 97 c3) : SN ads 38 (g38 c1 c2 c3) :=
  mk_snd [(nn95, c1), (nn96, c2), (nn97, c3)] ⟨fun n => match n with | 0 => [(6, .slice), (7, .int .i64)] | _ => [], fun n => match n with | 9 => some [(6, .slice)] | _ => none⟩ [.ptr, .int .i64] Tryz.func38 rfl (.cons h95 (.cons h96 (.cons h97 .nil)))
theorem s186 : SN ads 186 (g186) :=
  mk_snd [] ⟨fun _ => [], fun _ => none⟩ [.ptr] Tryz.func186 rfl .nil
theorem s320 : SN ads 320 (g320) :=
  mk_snd [] ⟨fun _ => [], fun _ => none⟩ [.int .u32, .int .u32] Tryz.func320 rfl .nil
theorem s303 (h320 : SN ads 320 c1) : SN ads 303 (g303 c1) :=
  mk_snd [(nn320, c1)] ⟨fun _ => [], fun _ => none⟩ [.int .u32, .int .u32] Tryz.func303 rfl (.cons h320 .nil)
theorem s259 (h172 : SN ads 172 c1) (h266 : SN ads 266 c2) (h303 : SN ads 303 c3) : SN ads 259 (g259 c1 c2 c3) :=
  mk_snd [(nn172, c1), (nn266, c2), (nn303, c3)] ⟨fun _ => [], fun n => match n with | 11 => some [] | _ => none⟩ [.ptr, .any] Tryz.func259 rfl (.cons h172 (.cons h266 (.cons h303 .nil)))
theorem s74 (h75 : SN ads 75 c1) : SN ads 74 (g74 c1) :=
  mk_snd [(nn75, c1)] ⟨fun _ => [], fun _ => none⟩ [.ptr, .ptr] Tryz.func74 rfl (.cons h75 .nil)
theorem s305 : SN ads 305 (g305) :=
  mk_snd [] ⟨fun _ => [], fun _ => none⟩ [.ptr] Tryz.func305 rfl .nil
theorem s304 (h305 : SN ads 305 c1) : SN ads 304 (g304 c1) :=
  mk_snd [(nn305, c1)] ⟨fun _ => [], fun _ => none⟩ [.ptr, .ptr] Tryz.func304 rfl (.cons h305 .nil)
theorem s306 (h75 : SN ads 75 c1) (h307 : SN ads 307 c2) : SN ads 306 (g306 c1 c2) :=
  mk_snd [(nn75, c1), (nn307, c2)] ⟨fun _ => [], fun _ => none⟩ [.ptr, .ptr, .ptr, .ptr] Tryz.func306 rfl (.cons h75 (.cons h307 .nil))
theorem s73 (h74 : SN ads 74 c1) (h304 : SN ads 304 c2) (h306 : SN ads 306 c3) : SN ads 73 (g73 c1 c2 c3) :=
  mk_snd [(nn74, c1), (nn304, c2), (nn306, c3)] ⟨fun n => match n with | 0 => [(6, .int .i64)] | 2 => [(9, .int .i64)] | _ => [], fun _ => none⟩ [.ptr, .any] Tryz.func73 rfl (.cons h74 (.cons h304 (.cons h306 .nil)))
theorem s321 (h234 : SN ads 234 c1) : SN ads 321 (g321 c1) :=
  mk_snd [(nn234, c1)] ⟨fun _ => [], fun _ => none⟩ [.ptr, .int .i64] Tryz.func321 rfl (.cons h234 .nil)
theorem s308 (h321 : SN ads 321 c1) (h322 : SN ads 322 c2) : SN ads 308 (g308 c1 c2) :=
  mk_snd [(nn321, c1), (nn322, c2)] ⟨fun _ => [], fun _ => none⟩ [.ptr, .int .i64] Tryz.func308 rfl (.cons h321 (.cons h322 .nil))
theorem s261 (h73 : SN ads 73 c1) (h308 : SN ads 308 c2) : SN ads 261 (g261 c1 c2) :=
  mk_snd [(nn73, c1), (nn308, c2)] ⟨fun _ => [], fun _ => none⟩ [.ptr] Tryz.func261 rfl (.cons h73 (.cons h308 .nil))
theorem s187 (h31 : SN ads 31 c1) (h255 : SN ads 255 c2) (h259 : SN ads 259 c3) (h260 : SN ads 260 c4) (h261 : SN ads 261 c5) : SN ads 187 (g187 c1 c2 c3 c4 c5) :=
  mk_snd [(nn31, c1), (nn255, c2), (nn259, c3), (nn260, c4), (nn261, c5)] ⟨fun n => match n with | 0 => [(8, .slice)] | _ => [], fun n => match n with | 6 => some [] | 7 => some [(8, .slice)] | _ => none⟩ [.ptr, .int .i64, .any] Tryz.func187 rfl (.cons h31 (.cons h255 (.cons h259 (.cons h260 (.cons h261 .nil)))))
theorem s98 (h55 : SN ads 55 c1) (h136 : SN ads 136 c2) (h186 : SN ads 186 c3) (h187 : SN ads 187 c4) : SN ads 98 (g98 c1 c2 c3 c4) :=
  mk_snd [(nn55, c1), (nn136, c2), (nn186, c3), (nn187, c4)] ⟨fun _ => [], fun _ => none⟩ [.ptr, .int .i64, .int .i64, .int .i64, .int .u32, .slice] Tryz.func98 rfl (.cons h55 (.cons h136 (.cons h186 (.cons h187 .nil))))
theorem s99 : SN ads 99 (g99) :=
  mk_snd [] ⟨fun n => match n with | 0 => [(3, .slice), (4, .int .i64)] | _ => [], fun _ => none⟩ [.slice] Tryz.func99 rfl .nil
theorem s39 (h13 : SN ads 13 c1) (h98 : SN ads 98 c2) (h99 : SN ads 99 c3) : SN ads 39 (g39 c1 c2 c3) :=
  mk_snd [(nn13, c1), (nn98, c2), (nn99, c3)] ⟨fun _ => [], fun _ => none⟩ [.ptr, .int .i64, .any] Tryz.func39 rfl (.cons h13 (.cons h98 (.cons h99 .nil)))
theorem s21 : SN ads 21 (g21) :=
  mk_snd [] ⟨fun n => match n with | 0 => [(3, .slice), (11, .int .i64)] | _ => [], fun _ => none⟩ [.ptr] Tryz.func21 rfl .nil
theorem s23 (h56 : SN ads 56 c1) : SN ads 23 (g23 c1) :=
  mk_snd [(nn56, c1)] ⟨fun _ => [], fun _ => none⟩ [.ptr, .int .i64] Tryz.func23 rfl (.cons h56 .nil)
theorem s100 : SN ads 100 (g100) :=
  mk_snd [] ⟨fun n => match n with | 0 => [(5, .int .i64)] | _ => [], fun _ => none⟩ [.ptr, .int .i64] Tryz.func100 rfl .nil
theorem s309 : SN ads 309 (g309) :=
  mk_snd [] ⟨fun _ => [], fun _ => none⟩ [.slice] Tryz.func309 rfl .nil
theorem s310 (h319 : SN ads 319 c1) : SN ads 310 (g310 c1) :=
  mk_snd [(nn319, c1)] ⟨fun _ => [], fun _ => none⟩ [.slice] Tryz.func310 rfl (.cons h319 .nil)
theorem s262 (h266 : SN ads 266 c1) (h309 : SN ads 309 c2) (h310 : SN ads 310 c3) : SN ads 262 (g262 c1 c2 c3) :=
  mk_snd [(nn266, c1), (nn309, c2), (nn310, c3)] ⟨fun _ => [], fun _ => none⟩ [.slice] Tryz.func262 rfl (.cons h266 (.cons h309 (.cons h310 .nil)))
theorem s265 : SN ads 265 (g265) :=
  mk_snd [] ⟨fun _ => [], fun _ => none⟩ [.int .u8] Tryz.func265 rfl .nil
theorem s311 (h265 : SN ads 265 c1) : SN ads 311 (g311 c1) :=
  mk_snd [(nn265, c1)] ⟨fun n => match n with | 0 => [(8, .int .i64)] | _ => [], fun _ => none⟩ [.slice, .any] Tryz.func311 rfl (.cons h265 .nil)
theorem s264 (h311 : SN ads 311 c1) : SN ads 264 (g264 c1) :=
  mk_snd [(nn311, c1)] ⟨fun _ => [], fun _ => none⟩ [.slice, .any] Tryz.func264 rfl (.cons h311 .nil)
theorem s188 (h262 : SN ads 262 c1) (h263 : SN ads 263 c2) (h264 : SN ads 264 c3) : SN ads 188 (g188 c1 c2 c3) :=
  mk_snd [(nn262, c1), (nn263, c2), (nn264, c3)] ⟨fun n => match n with | 0 => [(0, .slice), (5, .slice)] | _ => [], fun _ => none⟩ [.slice] Tryz.func188 rfl (.cons h262 (.cons h263 (.cons h264 .nil)))
theorem s189 (h266 : SN ads 266 c1) : SN ads 189 (g189 c1) :=
  mk_snd [(nn266, c1)] ⟨fun n => match n with | 2 => [(97, .int .i64)] | _ => [], fun n => match n with | 12 => some [(31, .bool)] | _ => none⟩ [.slice] Tryz.func189 rfl (.cons h266 .nil)
theorem s267 (h215 : SN ads 215 c1) : SN ads 267 (g267 c1) :=
  mk_snd [(nn215, c1)] ⟨fun _ => [], fun _ => none⟩ [.int .i64, .int .i64, .int .i64] Tryz.func267 rfl (.cons h215 .nil)
theorem s190 (h215 : SN ads 215 c1) (h267 : SN ads 267 c2) : SN ads 190 (g190 c1 c2) :=
  mk_snd [(nn215, c1), (nn267, c2)] ⟨fun _ => [], fun n => match n with | 2 => some [(7, .bool)] | 4 => some [(41, .bool)] | 6 => some [(70, .bool)] | _ => none⟩ [.any, .any, .ptr] Tryz.func190 rfl (.cons h215 (.cons h267 .nil))
theorem s191 (h53 : SN ads 53 c1) (h91 : SN ads 91 c2) : SN ads 191 (g191 c1 c2) :=
  mk_snd [(nn53, c1), (nn91, c2)] ⟨fun _ => [], fun n => match n with | 4 => some [(24, .bool)] | _ => none⟩ [.any, .bool, .int .i64, .int .i64] Tryz.func191 rfl (.cons h53 (.cons h91 .nil))
theorem s101 (h188 : SN ads 188 c1) (h189 : SN ads 189 c2) (h190 : SN ads 190 c3) (h191 : SN ads 191 c4) : SN ads 101 (g101 c1 c2 c3 c4) :=
  mk_snd [(nn188, c1), (nn189, c2), (nn190, c3), (nn191, c4)] ⟨fun n => match n with | 0 => [(11, .ptr), (36, .int .i64)] | _ => [], fun n => match n with | 9 => some [(8, .slice)] | 17 => some [(15, .any)] | _ => none⟩ [.any, .bool, .slice] Tryz.func101 rfl (.cons h188 (.cons h189 (.cons h190 (.cons h191 .nil))))
theorem s40 (h21 : SN ads 21 c1) (h23 : SN ads 23 c2) (h33 : SN ads 33 c3) (h100 : SN ads 100 c4) (h101 : SN ads 101 c5) : SN ads 40 (g40 c1 c2 c3 c4 c5) :=
  mk_snd [(nn21, c1), (nn23, c2), (nn33, c3), (nn100, c4), (nn101, c5)] ⟨fun n => match n with | 0 => [(6, .int .i64)] | 2 => [(11, .int .i64)] | _ => [], fun n => match n with | 19 => some [(149, .bool)] | _ => none⟩ [.ptr, .any] Tryz.func40 rfl (.cons h21 (.cons h23 (.cons h33 (.cons h100 (.cons h101 .nil)))))
theorem s109 : SN ads 109 (g109) :=
  mk_snd [] ⟨fun _ => [], fun _ => none⟩ [.ptr, .slice] Tryz.func109 rfl .nil
theorem s110 : SN ads 110 (g110) :=
  mk_snd [] ⟨fun _ => [], fun n => match n with | 9 => some [(9, .bool)] | _ => none⟩ [.slice] Tryz.func110 rfl .nil
theorem s205 (h275 : SN ads 275 c1) (h276 : SN ads 276 c2) : SN ads 205 (g205 c1 c2) :=
  mk_snd [(nn275, c1), (nn276, c2)] ⟨fun _ => [], fun _ => none⟩ [.slice] Tryz.func205 rfl (.cons h275 (.cons h276 .nil))
theorem s206 (h178 : SN ads 178 c1) : SN ads 206 (g206 c1) :=
  mk_snd [(nn178, c1)] ⟨fun _ => [], fun _ => none⟩ [.ptr, .int .i64] Tryz.func206 rfl (.cons h178 .nil)
theorem s111 (h174 : SN ads 174 c1) (h205 : SN ads 205 c2) (h206 : SN ads 206 c3) : SN ads 111 (g111 c1 c2 c3) :=
  mk_snd [(nn174, c1), (nn205, c2), (nn206, c3)] ⟨fun _ => [], fun _ => none⟩ [.ptr, .slice] Tryz.func111 rfl (.cons h174 (.cons h205 (.cons h206 .nil)))
theorem s277 (h313 : SN ads 313 c1) : SN ads 277 (g277 c1) :=
  mk_snd [(nn313, c1)] ⟨fun _ => [], fun _ => none⟩ [.slice, .int .i64, .slice] Tryz.func277 rfl (.cons h313 .nil)
theorem s278 : SN ads 278 (g278) :=
  mk_snd [] ⟨fun n => match n with | 0 => [(7, .int .i64)] | _ => [], fun _ => none⟩ [.slice] Tryz.func278 rfl .nil
theorem s279 : SN ads 279 (g279) :=
  mk_snd [] ⟨fun _ => [], fun _ => none⟩ [.slice] Tryz.func279 rfl .nil
theorem s207 (h164 : SN ads 164 c1) (h277 : SN ads 277 c2) (h278 : SN ads 278 c3) (h279 : SN ads 279 c4) (h280 : SN ads 280 c5) : SN ads 207 (g207 c1 c2 c3 c4 c5) :=
  mk_snd [(nn164, c1), (nn277, c2), (nn278, c3), (nn279, c4), (nn280, c5)] ⟨fun _ => [], fun n => match n with | 10 => some [(6, .slice)] | 14 => some [] | _ => none⟩ [.slice] Tryz.func207 rfl (.cons h164 (.cons h277 (.cons h278 (.cons h279 (.cons h280 .nil)))))
theorem s208 (h55 : SN ads 55 c1) (h174 : SN ads 174 c2) : SN ads 208 (g208 c1 c2) :=
  mk_snd [(nn55, c1), (nn174, c2)] ⟨fun _ => [], fun n => match n with | 2 => some [(29, .bool)] | _ => none⟩ [.ptr, .any, .any, .any, .int .i64] Tryz.func208 rfl (.cons h55 (.cons h174 .nil))
theorem s112 (h131 : SN ads 131 c1) (h132 : SN ads 132 c2) (h207 : SN ads 207 c3) (h208 : SN ads 208 c4) : SN ads 112 (g112 c1 c2 c3 c4) :=
  mk_snd [(nn131, c1), (nn132, c2), (nn207, c3), (nn208, c4)] ⟨fun _ => [], fun n => match n with | 15 => some [] | _ => none⟩ [.ptr, .slice] Tryz.func112 rfl (.cons h131 (.cons h132 (.cons h207 (.cons h208 .nil))))
theorem s281 (h246 : SN ads 246 c1) (h247 : SN ads 247 c2) (h248 : SN ads 248 c3) : SN ads 281 (g281 c1 c2 c3) :=
  mk_snd [(nn246, c1), (nn247, c2), (nn248, c3)] ⟨fun _ => [], fun n => match n with | 6 => some [(4, .int .i64)] | _ => none⟩ [.any] Tryz.func281 rfl (.cons h246 (.cons h247 (.cons h248 .nil)))
theorem s209 (h277 : SN ads 277 c1) (h278 : SN ads 278 c2) (h279 : SN ads 279 c3) (h280 : SN ads 280 c4) (h281 : SN ads 281 c5) : SN ads 209 (g209 c1 c2 c3 c4 c5) :=
  mk_snd [(nn277, c1), (nn278, c2), (nn279, c3), (nn280, c4), (nn281, c5)] ⟨fun _ => [], fun _ => none⟩ [.slice] Tryz.func209 rfl (.cons h277 (.cons h278 (.cons h279 (.cons h280 (.cons h281 .nil)))))
theorem s113 (h137 : SN ads 137 c1) (h138 : SN ads 138 c2) (h208 : SN ads 208 c3) (h209 : SN ads 209 c4) : SN ads 113 (g113 c1 c2 c3 c4) :=
  mk_snd [(nn137, c1), (nn138, c2), (nn208, c3), (nn209, c4)] ⟨fun _ => [], fun _ => none⟩ [.ptr, .slice] Tryz.func113 rfl (.cons h137 (.cons h138 (.cons h208 (.cons h209 .nil))))
theorem s44 (h109 : SN ads 109 c1) (h110 : SN ads 110 c2) (h111 : SN ads 111 c3) (h112 : SN ads 112 c4) (h113 : SN ads 113 c5) : SN ads 44 (g44 c1 c2 c3 c4 c5) :=
  mk_snd [(nn109, c1), (nn110, c2), (nn111, c3), (nn112, c4), (nn113, c5)] ⟨fun _ => [], fun n => match n with | 9 => some [(5, .any)] | _ => none⟩ [.ptr, .slice] Tryz.func44 rfl (.cons h109 (.cons h110 (.cons h111 (.cons h112 (.cons h113 .nil)))))
theorem s50 : SN ads 50 (g50) :=
  mk_snd [] ⟨fun _ => [], fun _ => none⟩ [.slice] Tryz.func50 rfl .nil
theorem s192 : SN ads 192 (g192) :=
  mk_snd [] ⟨fun n => match n with | 0 => [(3, .int .i64), (4, .int .i64)] | 2 => [(3, .int .i64), (5, .int .i64)] | 4 => [(7, .int .i64), (8, .int .i64)] | _ => [], fun n => match n with | 7 => some [(3, .int .i64)] | 15 => some [(7, .int .i64)] | _ => none⟩ [.slice] Tryz.func192 rfl .nil
theorem s102 (h50 : SN ads 50 c1) (h99 : SN ads 99 c2) (h192 : SN ads 192 c3) : SN ads 102 (g102 c1 c2 c3) :=
  mk_snd [(nn50, c1), (nn99, c2), (nn192, c3)] ⟨fun n => match n with | 0 => [(3, .slice), (4, .int .i64)] | _ => [], fun n => match n with | 7 => some [(52, .bool)] | _ => none⟩ [.slice] Tryz.func102 rfl (.cons h50 (.cons h99 (.cons h192 .nil)))
theorem s108 : SN ads 108 (g108) :=
  mk_snd [] ⟨fun _ => [], fun _ => none⟩ [.slice, .int .i64] Tryz.func108 rfl .nil
theorem s193 : SN ads 193 (g193) :=
  mk_snd [] ⟨fun n => match n with | 0 => [(3, .int .i64), (4, .int .i64)] | _ => [], fun _ => none⟩ [.slice] Tryz.func193 rfl .nil
theorem s194 : SN ads 194 (g194) :=
  mk_snd [] ⟨fun n => match n with | 0 => [(3, .slice), (4, .int .i64)] | _ => [], fun _ => none⟩ [.slice] Tryz.func194 rfl .nil
theorem s103 (h108 : SN ads 108 c1) (h192 : SN ads 192 c2) (h193 : SN ads 193 c3) (h194 : SN ads 194 c4) : SN ads 103 (g103 c1 c2 c3 c4) :=
  mk_snd [(nn108, c1), (nn192, c2), (nn193, c3), (nn194, c4)] ⟨fun n => match n with | 0 => [(4, .int .i64)] | 2 => [(5, .slice), (6, .int .i64)] | 4 => [(5, .slice)] | _ => [], fun _ => none⟩ [.slice] Tryz.func103 rfl (.cons h108 (.cons h192 (.cons h193 (.cons h194 .nil))))
theorem s49 : SN ads 49 (g49) :=
  mk_snd [] ⟨fun n => match n with | 0 => [(4, .int .i64)] | _ => [], fun _ => none⟩ [.slice] Tryz.func49 rfl .nil
theorem s195 (h49 : SN ads 49 c1) (h50 : SN ads 50 c2) (h99 : SN ads 99 c3) : SN ads 195 (g195 c1 c2 c3) :=
  mk_snd [(nn49, c1), (nn50, c2), (nn99, c3)] ⟨fun _ => [], fun _ => none⟩ [.slice] Tryz.func195 rfl (.cons h49 (.cons h50 (.cons h99 .nil)))
theorem s196 : SN ads 196 (g196) :=
  mk_snd [] ⟨fun n => match n with | 0 => [(5, .int .i64)] | _ => [], fun _ => none⟩ [.any, .any] Tryz.func196 rfl .nil
theorem s200 (h273 : SN ads 273 c1) : SN ads 200 (g200 c1) :=
  mk_snd [(nn273, c1)] ⟨fun _ => [], fun _ => none⟩ [.int .i64, .int .i64] Tryz.func200 rfl (.cons h273 .nil)
theorem s201 (h257 : SN ads 257 c1) (h258 : SN ads 258 c2) : SN ads 201 (g201 c1 c2) :=
  mk_snd [(nn257, c1), (nn258, c2)] ⟨fun n => match n with | 0 => [] | _ => [], fun _ => none⟩ [.ptr, .ptr, .int .i64] Tryz.func201 rfl (.cons h257 (.cons h258 .nil))
theorem s202 (h257 : SN ads 257 c1) (h258 : SN ads 258 c2) : SN ads 202 (g202 c1 c2) :=
  mk_snd [(nn257, c1), (nn258, c2)] ⟨fun n => match n with | 0 => [] | _ => [], fun _ => none⟩ [.ptr, .ptr] Tryz.func202 rfl (.cons h257 (.cons h258 .nil))
theorem s203 (h258 : SN ads 258 c1) : SN ads 203 (g203 c1) :=
  mk_snd [(nn258, c1)] ⟨fun _ => [], fun n => match n with | 3 => some [] | _ => none⟩ [.ptr, .int .i64] Tryz.func203 rfl (.cons h258 .nil)
theorem s268 (h200 : SN ads 200 c1) (h203 : SN ads 203 c2) (h258 : SN ads 258 c3) : SN ads 268 (g268 c1 c2 c3) :=
  mk_snd [(nn200, c1), (nn203, c2), (nn258, c3)] ⟨fun _ => [], fun n => match n with | 6 => some [(4, .int .i64)] | _ => none⟩ [.ptr, .int .i64] Tryz.func268 rfl (.cons h200 (.cons h203 (.cons h258 .nil)))
theorem s197 (h200 : SN ads 200 c1) (h201 : SN ads 201 c2) (h202 : SN ads 202 c3) (h258 : SN ads 258 c4) (h268 : SN ads 268 c5) (h269 : SN ads 269 c6) : SN ads 197 (g197 c1 c2 c3 c4 c5 c6) :=
  mk_snd [(nn200, c1), (nn201, c2), (nn202, c3), (nn258, c4), (nn268, c5), (nn269, c6)] ⟨fun _ => [], fun n => match n with | 4 => some [(7, .bool)] | 13 => some [] | 15 => some [] | _ => none⟩ [.ptr, .ptr, .any] Tryz.func197 rfl (.cons h200 (.cons h201 (.cons h202 (.cons h258 (.cons h268 (.cons h269 .nil))))))
theorem s107 : SN ads 107 (g107) :=
  mk_snd [] ⟨fun n => match n with | 0 => [(0, .slice), (5, .int .i64)] | _ => [], fun _ => none⟩ [.slice, .any] Tryz.func107 rfl .nil
theorem s116 : SN ads 116 (g116) :=
  mk_snd [] ⟨fun _ => [], fun _ => none⟩ [.int .i64, .int .i64] Tryz.func116 rfl .nil
theorem s270 (h107 : SN ads 107 c1) (h108 : SN ads 108 c2) (h116 : SN ads 116 c3) : SN ads 270 (g270 c1 c2 c3) :=
  mk_snd [(nn107, c1), (nn108, c2), (nn116, c3)] ⟨fun n => match n with | 0 => [(4, .slice), (5, .int .i64)] | _ => [], fun _ => none⟩ [.any] Tryz.func270 rfl (.cons h107 (.cons h108 (.cons h116 .nil)))
theorem s198 (h270 : SN ads 270 c1) : SN ads 198 (g198 c1) :=
  mk_snd [(nn270, c1)] ⟨fun _ => [], fun n => match n with | 6 => some [] | _ => none⟩ [.ptr, .int .i64] Tryz.func198 rfl (.cons h270 .nil)
theorem s104 (h102 : SN ads 102 c1) (h195 : SN ads 195 c2) (h196 : SN ads 196 c3) (h197 : SN ads 197 c4) (h198 : SN ads 198 c5) : SN ads 104 (g104 c1 c2 c3 c4 c5) :=
  mk_snd [(nn102, c1), (nn195, c2), (nn196, c3), (nn197, c4), (nn198, c5)] ⟨fun n => match n with | 0 => [(10, .int .i64), (11, .int .i64)] | _ => [], fun n => match n with | 4 => some [(8, .slice)] | 8 => some [(10, .int .i64)] | 11 => some [(52, .bool)] | _ => none⟩ [.ptr, .bool, .slice] Tryz.func104 rfl (.cons h102 (.cons h195 (.cons h196 (.cons h197 (.cons h198 .nil)))))
theorem s48 : SN ads 48 (g48) :=
  mk_snd [] ⟨fun _ => [], fun _ => none⟩ [.slice, .int .u8, .int .u8, .int .i64] Tryz.func48 rfl .nil
theorem s117 (h107 : SN ads 107 c1) : SN ads 117 (g117 c1) :=
  mk_snd [(nn107, c1)] ⟨fun _ => [], fun _ => none⟩ [.any, .any, .any] Tryz.func117 rfl (.cons h107 .nil)
theorem s51 (h108 : SN ads 108 c1) (h116 : SN ads 116 c2) (h117 : SN ads 117 c3) : SN ads 51 (g51 c1 c2 c3) :=
  mk_snd [(nn108, c1), (nn116, c2), (nn117, c3)] ⟨fun _ => [], fun _ => none⟩ [.any] Tryz.func51 rfl (.cons h108 (.cons h116 (.cons h117 .nil)))
theorem s52 : SN ads 52 (g52) :=
  mk_snd [] ⟨fun n => match n with | 0 => [(5, .int .i64)] | _ => [], fun _ => none⟩ [.slice, .slice] Tryz.func52 rfl .nil
theorem s17 (h48 : SN ads 48 c1) (h49 : SN ads 49 c2) (h50 : SN ads 50 c3) (h51 : SN ads 51 c4) (h52 : SN ads 52 c5) : SN ads 17 (g17 c1 c2 c3 c4 c5) :=
  mk_snd [(nn48, c1), (nn49, c2), (nn50, c3), (nn51, c4), (nn52, c5)] ⟨fun _ => [], fun n => match n with | 14 => some [(6, .int .i64)] | _ => none⟩ [.slice] Tryz.func17 rfl (.cons h48 (.cons h49 (.cons h50 (.cons h51 (.cons h52 .nil)))))
theorem s271 : SN ads 271 (g271) :=
  mk_snd [] ⟨fun _ => [], fun _ => none⟩ [.slice, .int .u8, .int .i64] Tryz.func271 rfl .nil
theorem s272 (h107 : SN ads 107 c1) (h108 : SN ads 108 c2) (h116 : SN ads 116 c3) : SN ads 272 (g272 c1 c2 c3) :=
  mk_snd [(nn107, c1), (nn108, c2), (nn116, c3)] ⟨fun _ => [], fun _ => none⟩ [.any] Tryz.func272 rfl (.cons h107 (.cons h108 (.cons h116 .nil)))
theorem s199 (h49 : SN ads 49 c1) (h50 : SN ads 50 c2) (h52 : SN ads 52 c3) (h271 : SN ads 271 c4) (h272 : SN ads 272 c5) : SN ads 199 (g199 c1 c2 c3 c4 c5) :=
  mk_snd [(nn49, c1), (nn50, c2), (nn52, c3), (nn271, c4), (nn272, c5)] ⟨fun _ => [], fun _ => none⟩ [.slice] Tryz.func199 rfl (.cons h49 (.cons h50 (.cons h52 (.cons h271 (.cons h272 .nil)))))
theorem s312 : SN ads 312 (g312) :=
  mk_snd [] ⟨fun _ => [], fun _ => none⟩ [.bool, .int .i64] Tryz.func312 rfl .nil
theorem s274 (h108 : SN ads 108 c1) (h116 : SN ads 116 c2) (h117 : SN ads 117 c3) (h312 : SN ads 312 c4) : SN ads 274 (g274 c1 c2 c3 c4) :=
  mk_snd [(nn108, c1), (nn116, c2), (nn117, c3), (nn312, c4)] ⟨fun _ => [], fun _ => none⟩ [.any] Tryz.func274 rfl (.cons h108 (.cons h116 (.cons h117 (.cons h312 .nil))))
theorem s204 (h48 : SN ads 48 c1) (h49 : SN ads 49 c2) (h50 : SN ads 50 c3) (h52 : SN ads 52 c4) (h274 : SN ads 274 c5) : SN ads 204 (g204 c1 c2 c3 c4 c5) :=
  mk_snd [(nn48, c1), (nn49, c2), (nn50, c3), (nn52, c4), (nn274, c5)] ⟨fun _ => [], fun _ => none⟩ [.slice] Tryz.func204 rfl (.cons h48 (.cons h49 (.cons h50 (.cons h52 (.cons h274 .nil)))))
theorem s105 (h17 : SN ads 17 c1) (h51 : SN ads 51 c2) (h185 : SN ads 185 c3) (h196 : SN ads 196 c4) (h198 : SN ads 198 c5) (h199 : SN ads 199 c6) (h200 : SN ads 200 c7) (h201 : SN ads 201 c8) (h202 : SN ads 202 c9) (h203 : SN ads 203 c10) (h204 : SN ads 204 c11) : SN ads 105 (g105 c1 c2 c3 c4 c5 c6 c7 c8 c9 c10 c11) :=
  mk_snd [(nn17, c1), (nn51, c2), (nn185, c3), (nn196, c4), (nn198, c5), (nn199, c6), (nn200, c7), (nn201, c8), (nn202, c9), (nn203, c10), (nn204, c11)] ⟨fun _ => [], fun n => match n with | 5 => some [(54, .bool)] | 10 => some [] | 13 => some [] | 16 => some [(121, .bool)] | 21 => some [(14, .int .i64)] | 26 => some [(201, .bool)] | 28 => some [] | _ => none⟩ [.ptr, .slice] Tryz.func105 rfl (.cons h17 (.cons h51 (.cons h185 (.cons h196 (.cons h198 (.cons h199 (.cons h200 (.cons h201 (.cons h202 (.cons h203 (.cons h204 .nil)))))))))))
theorem s41 (h22 : SN ads 22 c1) (h44 : SN ads 44 c2) (h96 : SN ads 96 c3) (h100 : SN ads 100 c4) (h102 : SN ads 102 c5) (h103 : SN ads 103 c6) (h104 : SN ads 104 c7) (h105 : SN ads 105 c8) : SN ads 41 (g41 c1 c2 c3 c4 c5 c6 c7 c8) :=
  mk_snd [(nn22, c1), (nn44, c2), (nn96, c3), (nn100, c4), (nn102, c5), (nn103, c6), (nn104, c7), (nn105, c8)] ⟨fun n => match n with | 0 => [(13, .slice), (14, .int .i64)] | _ => [], fun n => match n with | 14 => some [(12, .slice)] | 17 => some [(13, .slice)] | 25 => some [(15, .slice)] | 32 => some [(11, .slice)] | 34 => some [(11, .slice)] | 37 => some [(11, .slice)] | _ => none⟩ [.ptr, .int .i64, .any] Tryz.func41 rfl (.cons h22 (.cons h44 (.cons h96 (.cons h100 (.cons h102 (.cons h103 (.cons h104 (.cons h105 .nil))))))))
theorem s106 (h178 : SN ads 178 c1) : SN ads 106 (g106 c1) :=
  mk_snd [(nn178, c1)] ⟨fun _ => [], fun n => match n with | 6 => some [] | _ => none⟩ [.ptr, .int .i64, .bool] Tryz.func106 rfl (.cons h178 .nil)
theorem s42 (h55 : SN ads 55 c1) (h106 : SN ads 106 c2) : SN ads 42 (g42 c1 c2) :=
  mk_snd [(nn55, c1), (nn106, c2)] ⟨fun _ => [], fun _ => none⟩ [.ptr, .int .i64, .bool] Tryz.func42 rfl (.cons h55 (.cons h106 .nil))
theorem s43 (h107 : SN ads 107 c1) (h108 : SN ads 108 c2) : SN ads 43 (g43 c1 c2) :=
  mk_snd [(nn107, c1), (nn108, c2)] ⟨fun _ => [], fun _ => none⟩ [.any] Tryz.func43 rfl (.cons h107 (.cons h108 .nil))
theorem s114 (h178 : SN ads 178 c1) (h210 : SN ads 210 c2) : SN ads 114 (g114 c1 c2) :=
  mk_snd [(nn178, c1), (nn210, c2)] ⟨fun _ => [], fun _ => none⟩ [.ptr, .int .i64, .int .i64] Tryz.func114 rfl (.cons h178 (.cons h210 .nil))
theorem s45 (h55 : SN ads 55 c1) (h114 : SN ads 114 c2) : SN ads 45 (g45 c1 c2) :=
  mk_snd [(nn55, c1), (nn114, c2)] ⟨fun _ => [], fun _ => none⟩ [.ptr, .int .i64, .int .i64] Tryz.func45 rfl (.cons h55 (.cons h114 .nil))
theorem s46 (h55 : SN ads 55 c1) (h91 : SN ads 91 c2) : SN ads 46 (g46 c1 c2) :=
  mk_snd [(nn55, c1), (nn91, c2)] ⟨fun _ => [], fun _ => none⟩ [.ptr, .int .i64, .any] Tryz.func46 rfl (.cons h55 (.cons h91 .nil))
theorem s115 (h176 : SN ads 176 c1) (h177 : SN ads 177 c2) : SN ads 115 (g115 c1 c2) :=
  mk_snd [(nn176, c1), (nn177, c2)] ⟨fun _ => [], fun _ => none⟩ [.ptr, .int .i64, .int .i64] Tryz.func115 rfl (.cons h176 (.cons h177 .nil))
theorem s47 (h55 : SN ads 55 c1) (h115 : SN ads 115 c2) : SN ads 47 (g47 c1 c2) :=
  mk_snd [(nn55, c1), (nn115, c2)] ⟨fun n => match n with | 1 => [(27, .int .i64)] | _ => [], fun _ => none⟩ [.ptr, .int .i64, .int .i64] Tryz.func47 rfl (.cons h55 (.cons h115 .nil))
theorem s16 (h13 : SN ads 13 c1) (h22 : SN ads 22 c2) (h34 : SN ads 34 c3) (h35 : SN ads 35 c4) (h36 : SN ads 36 c5) (h37 : SN ads 37 c6) (h38 : SN ads 38 c7) (h39 : SN ads 39 c8) (h40 : SN ads 40 c9) (h41 : SN ads 41 c10) (h42 : SN ads 42 c11) (h43 : SN ads 43 c12) (h44 : SN ads 44 c13) (h45 : SN ads 45 c14) (h46 : SN ads 46 c15) (h47 : SN ads 47 c16) : SN ads 16 (g16 c1 c2 c3 c4 c5 c6 c7 c8 c9 c10 c11 c12 c13 c14 c15 c16) :=
  mk_snd [(nn13, c1), (nn22, c2), (nn34, c3), (nn35, c4), (nn36, c5), (nn37, c6), (nn38, c7), (nn39, c8), (nn40, c9), (nn41, c10), (nn42, c11), (nn43, c12), (nn44, c13), (nn45, c14), (nn46, c15), (nn47, c16)] ⟨fun _ => [], fun n => match n with | 10 => some [(7, .int .i64), (8, .any)] | 46 => some [] | _ => none⟩ [.ptr, .any] Tryz.func16 rfl (.cons h13 (.cons h22 (.cons h34 (.cons h35 (.cons h36 (.cons h37 (.cons h38 (.cons h39 (.cons h40 (.cons h41 (.cons h42 (.cons h43 (.cons h44 (.cons h45 (.cons h46 (.cons h47 .nil))))))))))))))))
theorem s18 (h52 : SN ads 52 c1) : SN ads 18 (g18 c1) :=
  mk_snd [(nn52, c1)] ⟨fun n => match n with | 0 => [(5, .int .i64)] | 2 => [(6, .int .i64), (7, .int .i64)] | 4 => [(8, .int .i64)] | _ => [], fun n => match n with | 9 => some [(6, .int .i64)] | 11 => some [(87, .bool)] | _ => none⟩ [.ptr] Tryz.func18 rfl (.cons h52 .nil)
theorem s139 : SN ads 139 (g139) :=
  mk_snd [] ⟨fun _ => [], fun _ => none⟩ [.any, .any] Tryz.func139 rfl .nil
theorem s66 : SN ads 66 (g66) :=
  mk_snd [] ⟨fun _ => [], fun _ => none⟩ [.int .i64] Tryz.func66 rfl .nil
theorem s230 : SN ads 230 (g230) :=
  mk_snd [] ⟨fun _ => [], fun _ => none⟩ [] Tryz.func230 rfl .nil
theorem s291 : SN ads 291 (g291) :=
  mk_snd [] ⟨fun _ => [], fun _ => none⟩ [] Tryz.func291 rfl .nil
theorem s292 : SN ads 292 (g292) :=
  mk_snd [] ⟨fun _ => [], fun _ => none⟩ [.any, .any] Tryz.func292 rfl .nil
theorem s231 (h291 : SN ads 291 c1) (h292 : SN ads 292 c2) : SN ads 231 (g231 c1 c2) :=
  mk_snd [(nn291, c1), (nn292, c2)] ⟨fun n => match n with | 0 => [(4, .int .i64)] | _ => [], fun _ => none⟩ [.any] Tryz.func231 rfl (.cons h291 (.cons h292 .nil))
theorem s232 (h230 : SN ads 230 c1) : SN ads 232 (g232 c1) :=
  mk_snd [(nn230, c1)] ⟨fun _ => [], fun _ => none⟩ [.int .i64, .int .i64] Tryz.func232 rfl (.cons h230 .nil)
theorem s140 (h66 : SN ads 66 c1) (h230 : SN ads 230 c2) (h231 : SN ads 231 c3) (h232 : SN ads 232 c4) : SN ads 140 (g140 c1 c2 c3 c4) :=
  mk_snd [(nn66, c1), (nn230, c2), (nn231, c3), (nn232, c4)] ⟨fun _ => [], fun _ => none⟩ [.any] Tryz.func140 rfl (.cons h66 (.cons h230 (.cons h231 (.cons h232 .nil))))
theorem s65 (h139 : SN ads 139 c1) (h140 : SN ads 140 c2) : SN ads 65 (g65 c1 c2) :=
  mk_snd [(nn139, c1), (nn140, c2)] ⟨fun _ => [], fun _ => none⟩ [.any, .any] Tryz.func65 rfl (.cons h139 (.cons h140 .nil))
theorem s24 (h65 : SN ads 65 c1) (h66 : SN ads 66 c2) : SN ads 24 (g24 c1 c2) :=
  mk_snd [(nn65, c1), (nn66, c2)] ⟨fun _ => [], fun _ => none⟩ [.any, .int .i64] Tryz.func24 rfl (.cons h65 (.cons h66 .nil))
theorem s141 : SN ads 141 (g141) :=
  mk_snd [] ⟨fun _ => [], fun _ => none⟩ [.slice] Tryz.func141 rfl .nil
theorem s67 (h141 : SN ads 141 c1) : SN ads 67 (g67 c1) :=
  mk_snd [(nn141, c1)] ⟨fun _ => [], fun _ => none⟩ [.ptr] Tryz.func67 rfl (.cons h141 .nil)
theorem s25 (h67 : SN ads 67 c1) : SN ads 25 (g25 c1) :=
  mk_snd [(nn67, c1)] ⟨fun _ => [], fun _ => none⟩ [.ptr] Tryz.func25 rfl (.cons h67 .nil)
theorem s69 : SN ads 69 (g69) :=
  mk_snd [] ⟨fun _ => [], fun _ => none⟩ [.any, .ptr] Tryz.func69 rfl .nil
theorem s70 : SN ads 70 (g70) :=
  mk_snd [] ⟨fun _ => [], fun _ => none⟩ [.any, .ptr] Tryz.func70 rfl .nil
theorem s68 (h69 : SN ads 69 c1) (h70 : SN ads 70 c2) : SN ads 68 (g68 c1 c2) :=
  mk_snd [(nn69, c1), (nn70, c2)] ⟨fun n => match n with | 0 => [(5, .int .i64), (13, .int .i64)] | _ => [], fun n => match n with | 7 => some [(5, .int .i64)] | _ => none⟩ [.ptr, .any] Tryz.func68 rfl (.cons h69 (.cons h70 .nil))
theorem s26 (h68 : SN ads 68 c1) : SN ads 26 (g26 c1) :=
  mk_snd [(nn68, c1)] ⟨fun _ => [], fun _ => none⟩ [.ptr, .int .i64] Tryz.func26 rfl (.cons h68 .nil)
theorem s27 : SN ads 27 (g27) :=
  mk_snd [] ⟨fun n => match n with | 0 => [(3, .int .i64)] | _ => [], fun _ => none⟩ [.slice] Tryz.func27 rfl .nil
theorem s28 (h68 : SN ads 68 c1) : SN ads 28 (g28 c1) :=
  mk_snd [(nn68, c1)] ⟨fun _ => [], fun _ => none⟩ [.ptr, .int .i64] Tryz.func28 rfl (.cons h68 .nil)
theorem s29 (h71 : SN ads 71 c1) : SN ads 29 (g29 c1) :=
  mk_snd [(nn71, c1)] ⟨fun _ => [], fun _ => none⟩ [.ptr, .int .i64] Tryz.func29 rfl (.cons h71 .nil)
theorem s142 (h233 : SN ads 233 c1) (h234 : SN ads 234 c2) : SN ads 142 (g142 c1 c2) :=
  mk_snd [(nn233, c1), (nn234, c2)] ⟨fun n => match n with | 0 => [(23, .int .i64)] | 2 => [(37, .int .i64)] | _ => [], fun _ => none⟩ [.ptr] Tryz.func142 rfl (.cons h233 (.cons h234 .nil))
theorem s72 (h142 : SN ads 142 c1) : SN ads 72 (g72 c1) :=
  mk_snd [(nn142, c1)] ⟨fun n => match n with | 0 => [(9, .int .i64)] | 2 => [(12, .int .i64)] | _ => [], fun _ => none⟩ [.ptr] Tryz.func72 rfl (.cons h142 .nil)
theorem s30 (h72 : SN ads 72 c1) : SN ads 30 (g30 c1) :=
  mk_snd [(nn72, c1)] ⟨fun _ => [], fun _ => none⟩ [.ptr] Tryz.func30 rfl (.cons h72 .nil)
end
end Go.Proofs.YtcefbgcgldagfaaGreatDoor
