/- The printed functions are the machine's own, by the kernel. -/
import Derived.Test.YtjjkbedlnbaccaaGreatDoorGgD1
import Derived.Test.YtjjkbedlnbaccaaGreatDoorRows
set_option linter.unusedVariables false
set_option linter.constructorNameAsVariable false
set_option maxRecDepth 100000
namespace Go.Proofs.YtjjkbedlnbaccaaGreatDoor
open Go.Vc Go.Ab
noncomputable section
variable (v1 : AV) (l1 l2 l3 : List AV) (L1 L2 : List AP) (d1 d2 d3 d4 : DV) (R1 : List DV) (n1 n2 n3 n4 n5 n6 n7 n8 : Int) (m1 m2 m3 m4 : Nat) (t1 t2 t3 t4 : Bool) (p1 p2 p3 p4 p5 : AP) (b1 b2 b3 b4 b5 : P4) (s1 s2 s3 s4 s5 : AS) (H1 : AH) (x1 x2 : List Int) (c1 c2 c3 c4 c5 c6 c7 c8 c9 c10 c11 c12 : G DV) (Ka1 : AH → Option DV) (Kb1 Kb2 : DV → AH → Option DV) (Kc1 : DV → DV → AH → Option DV) (Kd1 : DV → DV → DV → AH → Option DV)
variable {ads : List Addr}
theorem s26 : SN ads 26 (g26) :=
  mk_snd [] ⟨fun _ => [], fun _ => none⟩ [] Tryz.func26 rfl .nil
theorem s7 (h6 : SN ads 6 c1) (h26 : SN ads 26 c2) : SN ads 7 (g7 c1 c2) :=
  mk_snd [(nn6, c1), (nn26, c2)] ⟨fun _ => [], fun n => match n with | 23 => some [] | _ => none⟩ [.int .i64] Tryz.func7 rfl (.cons h6 (.cons h26 .nil))
theorem s234 : SN ads 234 (g234) :=
  mk_snd [] ⟨fun _ => [], fun _ => none⟩ [.int .u32, .int .i64, .int .i64] Tryz.func234 rfl .nil
theorem s132 (h234 : SN ads 234 c1) : SN ads 132 (g132 c1) :=
  mk_snd [(nn234, c1)] ⟨fun n => match n with | 0 => [(5, .int .i64)] | _ => [], fun _ => none⟩ [.ptr, .int .i64] Tryz.func132 rfl (.cons h234 .nil)
theorem s60 (h132 : SN ads 132 c1) : SN ads 60 (g60 c1) :=
  mk_snd [(nn132, c1)] ⟨fun n => match n with | 0 => [(36, .int .i64)] | _ => [], fun _ => none⟩ [.int .u32, .int .i64, .int .i64, .int .i64, .int .i64] Tryz.func60 rfl (.cons h132 .nil)
theorem s133 : SN ads 133 (g133) :=
  mk_snd [] ⟨fun _ => [], fun _ => none⟩ [.int .i64, .int .i64] Tryz.func133 rfl .nil
theorem s61 (h133 : SN ads 133 c1) : SN ads 61 (g61 c1) :=
  mk_snd [(nn133, c1)] ⟨fun _ => [], fun _ => none⟩ [.int .i64, .int .i64, .int .i64] Tryz.func61 rfl (.cons h133 .nil)
theorem s103 : SN ads 103 (g103) :=
  mk_snd [] ⟨fun _ => [], fun _ => none⟩ [.int .i64] Tryz.func103 rfl .nil
theorem s62 (h103 : SN ads 103 c1) : SN ads 62 (g62 c1) :=
  mk_snd [(nn103, c1)] ⟨fun _ => [], fun _ => none⟩ [.int .i64, .int .i64] Tryz.func62 rfl (.cons h103 .nil)
theorem s63 : SN ads 63 (g63) :=
  mk_snd [] ⟨fun _ => [], fun _ => none⟩ [.int .i64] Tryz.func63 rfl .nil
theorem s134 (h63 : SN ads 63 c1) : SN ads 134 (g134 c1) :=
  mk_snd [(nn63, c1)] ⟨fun n => match n with | 0 => [(8, .int .i64)] | _ => [], fun _ => none⟩ [.slice, .any] Tryz.func134 rfl (.cons h63 .nil)
theorem s64 (h134 : SN ads 134 c1) : SN ads 64 (g64 c1) :=
  mk_snd [(nn134, c1)] ⟨fun _ => [], fun _ => none⟩ [.slice, .any] Tryz.func64 rfl (.cons h134 .nil)
theorem s65 : SN ads 65 (g65) :=
  mk_snd [] ⟨fun _ => [], fun _ => none⟩ [.any] Tryz.func65 rfl .nil
theorem s66 : SN ads 66 (g66) :=
  mk_snd [] ⟨fun _ => [], fun _ => none⟩ [] Tryz.func66 rfl .nil
theorem s22 (h60 : SN ads 60 c1) (h61 : SN ads 61 c2) (h62 : SN ads 62 c3) (h64 : SN ads 64 c4) (h65 : SN ads 65 c5) (h66 : SN ads 66 c6) : SN ads 22 (g22 c1 c2 c3 c4 c5 c6) :=
  mk_snd [(nn60, c1), (nn61, c2), (nn62, c3), (nn64, c4), (nn65, c5), (nn66, c6)] ⟨fun n => match n with | 0 => [(99, .int .i64)] | _ => [], fun _ => none⟩ [.any] Tryz.func22 rfl (.cons h60 (.cons h61 (.cons h62 (.cons h64 (.cons h65 (.cons h66 .nil))))))
theorem s42 : SN ads 42 (g42) :=
  mk_snd [] ⟨fun _ => [], fun _ => none⟩ [.ptr, .int .i64] Tryz.func42 rfl .nil
theorem s289 : SN ads 289 (g289) :=
  mk_snd [] ⟨fun _ => [], fun _ => none⟩ [.int .i64] Tryz.func289 rfl .nil
theorem s206 (h289 : SN ads 289 c1) : SN ads 206 (g206 c1) :=
  mk_snd [(nn289, c1)] ⟨fun _ => [], fun _ => none⟩ [.int .i64, .int .i64] Tryz.func206 rfl (.cons h289 .nil)
theorem s205 (h206 : SN ads 206 c1) : SN ads 205 (g205 c1) :=
  mk_snd [(nn206, c1)] ⟨fun _ => [], fun _ => none⟩ [.any, .ptr] Tryz.func205 rfl (.cons h206 .nil)
theorem s210 (h205 : SN ads 205 c1) (h206 : SN ads 206 c2) : SN ads 210 (g210 c1 c2) :=
  mk_snd [(nn205, c1), (nn206, c2)] ⟨fun _ => [], fun _ => none⟩ [.any, .ptr, .ptr] Tryz.func210 rfl (.cons h205 (.cons h206 .nil))
theorem s221 : SN ads 221 (g221) :=
  mk_snd [] ⟨fun _ => [], fun _ => none⟩ [.any] Tryz.func221 rfl .nil
theorem s122 : SN ads 122 (g122) :=
  mk_snd [] ⟨fun _ => [], fun _ => none⟩ [.slice] Tryz.func122 rfl .nil
theorem s295 (h122 : SN ads 122 c1) : SN ads 295 (g295 c1) :=
  mk_snd [(nn122, c1)] ⟨fun _ => [], fun _ => none⟩ [.any] Tryz.func295 rfl (.cons h122 .nil)
theorem s220 (h210 : SN ads 210 c1) (h221 : SN ads 221 c2) (h295 : SN ads 295 c3) : SN ads 220 (g220 c1 c2 c3) :=
  mk_snd [(nn210, c1), (nn221, c2), (nn295, c3)] ⟨fun n => match n with | 0 => [(5, .slice), (13, .int .i64)] | _ => [], fun n => match n with | 7 => some [(5, .slice)] | _ => none⟩ [.ptr, .any] Tryz.func220 rfl (.cons h210 (.cons h221 (.cons h295 .nil)))
theorem s290 : SN ads 290 (g290) :=
  mk_snd [] ⟨fun _ => [], fun _ => none⟩ [.any] Tryz.func290 rfl .nil
theorem s313 : SN ads 313 (g313) :=
  mk_snd [] ⟨fun _ => [], fun _ => none⟩ [.any, .ptr] Tryz.func313 rfl .nil
theorem s291 (h205 : SN ads 205 c1) (h210 : SN ads 210 c2) (h290 : SN ads 290 c3) (h313 : SN ads 313 c4) : SN ads 291 (g291 c1 c2 c3 c4) :=
  mk_snd [(nn205, c1), (nn210, c2), (nn290, c3), (nn313, c4)] ⟨fun n => match n with | 0 => [(8, .int .i64)] | _ => [], fun _ => none⟩ [.slice, .any] Tryz.func291 rfl (.cons h205 (.cons h210 (.cons h290 (.cons h313 .nil))))
theorem s292 (h210 : SN ads 210 c1) (h291 : SN ads 291 c2) : SN ads 292 (g292 c1 c2) :=
  mk_snd [(nn210, c1), (nn291, c2)] ⟨fun n => match n with | 0 => [(5, .int .i64), (6, .int .i64)] | _ => [], fun n => match n with | 6 => some [(5, .int .i64)] | _ => none⟩ [.slice, .any] Tryz.func292 rfl (.cons h210 (.cons h291 .nil))
theorem s293 : SN ads 293 (g293) :=
  mk_snd [] ⟨fun _ => [], fun _ => none⟩ [.slice] Tryz.func293 rfl .nil
theorem s254 : SN ads 254 (g254) :=
  mk_snd [] ⟨fun n => match n with | 0 => [(8, .int .i64)] | _ => [], fun _ => none⟩ [.slice, .int .i64] Tryz.func254 rfl .nil
theorem s331 : SN ads 331 (g331) :=
  mk_snd [] ⟨fun _ => [], fun _ => none⟩ [.slice, .int .i64, .int .i64] Tryz.func331 rfl .nil
theorem s332 : SN ads 332 (g332) :=
  mk_snd [] ⟨fun _ => [], fun _ => none⟩ [.slice] Tryz.func332 rfl .nil
theorem s294 (h254 : SN ads 254 c1) (h331 : SN ads 331 c2) (h332 : SN ads 332 c3) : SN ads 294 (g294 c1 c2 c3) :=
  mk_snd [(nn254, c1), (nn331, c2), (nn332, c3)] ⟨fun _ => [], fun n => match n with | 8 => some [] | _ => none⟩ [.ptr, .int .i64] Tryz.func294 rfl (.cons h254 (.cons h331 (.cons h332 .nil)))
theorem s209 (h220 : SN ads 220 c1) (h292 : SN ads 292 c2) (h293 : SN ads 293 c3) (h294 : SN ads 294 c4) : SN ads 209 (g209 c1 c2 c3 c4) :=
  mk_snd [(nn220, c1), (nn292, c2), (nn293, c3), (nn294, c4)] ⟨fun n => match n with | 0 => [(23, .int .i64)] | _ => [], fun n => match n with | 7 => some [] | _ => none⟩ [.ptr, .any] Tryz.func209 rfl (.cons h220 (.cons h292 (.cons h293 (.cons h294 .nil))))
theorem s114 (h209 : SN ads 209 c1) : SN ads 114 (g114 c1) :=
  mk_snd [(nn209, c1)] ⟨fun n => match n with | 0 => [(7, .slice), (18, .int .i64)] | _ => [], fun n => match n with | 9 => some [(7, .slice)] | 13 => some [] | _ => none⟩ [.ptr, .int .i64] Tryz.func114 rfl (.cons h209 .nil)
theorem s115 : SN ads 115 (g115) :=
  mk_snd [] ⟨fun n => match n with | 0 => [(10, .int .i64)] | _ => [], fun _ => none⟩ [.ptr, .int .i64, .slice] Tryz.func115 rfl .nil
theorem s116 (h220 : SN ads 220 c1) : SN ads 116 (g116 c1) :=
  mk_snd [(nn220, c1)] ⟨fun _ => [], fun _ => none⟩ [.ptr] Tryz.func116 rfl (.cons h220 .nil)
theorem s47 (h114 : SN ads 114 c1) (h115 : SN ads 115 c2) (h116 : SN ads 116 c3) : SN ads 47 (g47 c1 c2 c3) :=
  mk_snd [(nn114, c1), (nn115, c2), (nn116, c3)] ⟨fun n => match n with | 0 => [(22, .int .i64)] | _ => [], fun _ => none⟩ [.ptr, .ptr] Tryz.func47 rfl (.cons h114 (.cons h115 (.cons h116 .nil)))
theorem s67 : SN ads 67 (g67) :=
  mk_snd [] ⟨fun n => match n with | 0 => [(3, .slice), (10, .int .i64)] | _ => [], fun n => match n with | 7 => some [(3, .slice)] | _ => none⟩ [.ptr] Tryz.func67 rfl .nil
theorem s112 : SN ads 112 (g112) :=
  mk_snd [] ⟨fun _ => [], fun _ => none⟩ [.int .i64] Tryz.func112 rfl .nil
theorem s216 : SN ads 216 (g216) :=
  mk_snd [] ⟨fun _ => [], fun _ => none⟩ [.int .i64] Tryz.func216 rfl .nil
theorem s135 (h112 : SN ads 112 c1) (h216 : SN ads 216 c2) : SN ads 135 (g135 c1 c2) :=
  mk_snd [(nn112, c1), (nn216, c2)] ⟨fun _ => [], fun _ => none⟩ [.ptr, .int .i64] Tryz.func135 rfl (.cons h112 (.cons h216 .nil))
theorem s136 : SN ads 136 (g136) :=
  mk_snd [] ⟨fun _ => [], fun _ => none⟩ [.int .i64] Tryz.func136 rfl .nil
theorem s68 (h135 : SN ads 135 c1) (h136 : SN ads 136 c2) : SN ads 68 (g68 c1 c2) :=
  mk_snd [(nn135, c1), (nn136, c2)] ⟨fun n => match n with | 0 => [(9, .int .i64), (10, .int .i64), (16, .int .i64)] | 2 => [(71, .int .i64)] | _ => [], fun n => match n with | 9 => some [] | 12 => some [(9, .int .i64), (10, .int .i64)] | 21 => some [] | 25 => some [] | _ => none⟩ [.ptr, .any, .any] Tryz.func68 rfl (.cons h135 (.cons h136 .nil))
theorem s102 : SN ads 102 (g102) :=
  mk_snd [] ⟨fun _ => [], fun _ => none⟩ [.int .i64] Tryz.func102 rfl .nil
theorem s104 (h102 : SN ads 102 c1) : SN ads 104 (g104 c1) :=
  mk_snd [(nn102, c1)] ⟨fun _ => [], fun _ => none⟩ [.ptr, .int .i64] Tryz.func104 rfl (.cons h102 .nil)
theorem s71 (h102 : SN ads 102 c1) (h104 : SN ads 104 c2) : SN ads 71 (g71 c1 c2) :=
  mk_snd [(nn102, c1), (nn104, c2)] ⟨fun _ => [], fun _ => none⟩ [.ptr, .int .i64] Tryz.func71 rfl (.cons h102 (.cons h104 .nil))
theorem s143 : SN ads 143 (g143) :=
  mk_snd [] ⟨fun _ => [], fun _ => none⟩ [.int .i64] Tryz.func143 rfl .nil
theorem s110 : SN ads 110 (g110) :=
  mk_snd [] ⟨fun _ => [], fun _ => none⟩ [.ptr] Tryz.func110 rfl .nil
theorem s240 : SN ads 240 (g240) :=
  mk_snd [] ⟨fun _ => [], fun _ => none⟩ [.ptr] Tryz.func240 rfl .nil
theorem s149 (h240 : SN ads 240 c1) : SN ads 149 (g149 c1) :=
  mk_snd [(nn240, c1)] ⟨fun _ => [], fun _ => none⟩ [.ptr] Tryz.func149 rfl (.cons h240 .nil)
theorem s151 (h220 : SN ads 220 c1) : SN ads 151 (g151 c1) :=
  mk_snd [(nn220, c1)] ⟨fun _ => [], fun _ => none⟩ [.ptr] Tryz.func151 rfl (.cons h220 .nil)
theorem s255 : SN ads 255 (g255) :=
  mk_snd [] ⟨fun _ => [], fun _ => none⟩ [.int .i64, .int .i64] Tryz.func255 rfl .nil
theorem s306 : SN ads 306 (g306) :=
  mk_snd [] ⟨fun _ => [], fun _ => none⟩ [.ptr] Tryz.func306 rfl .nil
theorem s237 (h255 : SN ads 255 c1) (h306 : SN ads 306 c2) : SN ads 237 (g237 c1 c2) :=
  mk_snd [(nn255, c1), (nn306, c2)] ⟨fun _ => [], fun _ => none⟩ [.ptr, .int .i64, .int .i64] Tryz.func237 rfl (.cons h255 (.cons h306 .nil))
theorem s307 (h206 : SN ads 206 c1) : SN ads 307 (g307 c1) :=
  mk_snd [(nn206, c1)] ⟨fun _ => [], fun _ => none⟩ [.ptr] Tryz.func307 rfl (.cons h206 .nil)
theorem s238 (h307 : SN ads 307 c1) : SN ads 238 (g238 c1) :=
  mk_snd [(nn307, c1)] ⟨fun _ => [], fun _ => none⟩ [.ptr] Tryz.func238 rfl (.cons h307 .nil)
theorem s144 (h42 : SN ads 42 c1) (h110 : SN ads 110 c2) (h149 : SN ads 149 c3) (h151 : SN ads 151 c4) (h237 : SN ads 237 c5) (h238 : SN ads 238 c6) : SN ads 144 (g144 c1 c2 c3 c4 c5 c6) :=
  mk_snd [(nn42, c1), (nn110, c2), (nn149, c3), (nn151, c4), (nn237, c5), (nn238, c6)] ⟨fun _ => [], fun _ => none⟩ [.ptr, .int .i64, .int .i64] Tryz.func144 rfl (.cons h42 (.cons h110 (.cons h149 (.cons h151 (.cons h237 (.cons h238 .nil))))))
theorem s72 (h143 : SN ads 143 c1) (h144 : SN ads 144 c2) : SN ads 72 (g72 c1 c2) :=
  mk_snd [(nn143, c1), (nn144, c2)] ⟨fun n => match n with | 0 => [(7, .slice), (9, .int .i64)] | _ => [], fun n => match n with | 7 => some [(7, .slice)] | _ => none⟩ [.ptr, .int .i64, .int .i64] Tryz.func72 rfl (.cons h143 (.cons h144 .nil))
theorem s168 : SN ads 168 (g168) :=
  mk_snd [] ⟨fun _ => [], fun _ => none⟩ [.ptr, .int .i64] Tryz.func168 rfl .nil
theorem s203 : SN ads 203 (g203) :=
  mk_snd [] ⟨fun _ => [], fun _ => none⟩ [.int .i64] Tryz.func203 rfl .nil
theorem s137 (h168 : SN ads 168 c1) (h203 : SN ads 203 c2) : SN ads 137 (g137 c1 c2) :=
  mk_snd [(nn168, c1), (nn203, c2)] ⟨fun _ => [], fun _ => none⟩ [.ptr, .int .i64, .int .i64] Tryz.func137 rfl (.cons h168 (.cons h203 .nil))
theorem s140 : SN ads 140 (g140) :=
  mk_snd [] ⟨fun _ => [], fun _ => none⟩ [.ptr] Tryz.func140 rfl .nil
theorem s403 : SN ads 403 (g403) :=
  mk_snd [] ⟨fun _ => [], fun _ => none⟩ [.ptr, .int .i64, .int .i64] Tryz.func403 rfl .nil
theorem s406 : SN ads 406 (g406) :=
  mk_snd [] ⟨fun _ => [], fun _ => none⟩ [.ptr, .int .i64, .int .i64] Tryz.func406 rfl .nil
theorem s235 (h403 : SN ads 403 c1) (h406 : SN ads 406 c2) : SN ads 235 (g235 c1 c2) :=
  mk_snd [(nn403, c1), (nn406, c2)] ⟨fun n => match n with | 0 => [(1, .int .i64)] | _ => [], fun _ => none⟩ [.any, .int .i64] Tryz.func235 rfl (.cons h403 (.cons h406 .nil))
theorem s405 : SN ads 405 (g405) :=
  mk_snd [] ⟨fun _ => [], fun _ => none⟩ [.ptr, .any] Tryz.func405 rfl .nil
theorem s139 (h140 : SN ads 140 c1) (h235 : SN ads 235 c2) (h405 : SN ads 405 c3) : SN ads 139 (g139 c1 c2 c3) :=
  mk_snd [(nn140, c1), (nn235, c2), (nn405, c3)] ⟨fun _ => [], fun _ => none⟩ [.any, .any] Tryz.func139 rfl (.cons h140 (.cons h235 (.cons h405 .nil)))
theorem s236 (h403 : SN ads 403 c1) (h406 : SN ads 406 c2) : SN ads 236 (g236 c1 c2) :=
  mk_snd [(nn403, c1), (nn406, c2)] ⟨fun n => match n with | 0 => [(7, .int .i64)] | _ => [], fun n => match n with | 8 => some [(9, .int .i64)] | 11 => some [(7, .int .i64)] | _ => none⟩ [.any, .int .i64, .int .i64] Tryz.func236 rfl (.cons h403 (.cons h406 .nil))
theorem s404 : SN ads 404 (g404) :=
  mk_snd [] ⟨fun _ => [], fun _ => none⟩ [.ptr] Tryz.func404 rfl .nil
theorem s141 (h140 : SN ads 140 c1) (h235 : SN ads 235 c2) (h236 : SN ads 236 c3) (h404 : SN ads 404 c4) (h406 : SN ads 406 c5) : SN ads 141 (g141 c1 c2 c3 c4 c5) :=
  mk_snd [(nn140, c1), (nn235, c2), (nn236, c3), (nn404, c4), (nn406, c5)] ⟨fun _ => [], fun n => match n with | 6 => some [] | _ => none⟩ [.any, .int .i64] Tryz.func141 rfl (.cons h140 (.cons h235 (.cons h236 (.cons h404 (.cons h406 .nil)))))
theorem s165 : SN ads 165 (g165) :=
  mk_snd [] ⟨fun _ => [], fun _ => none⟩ [.int .i64] Tryz.func165 rfl .nil
theorem s167 (h165 : SN ads 165 c1) : SN ads 167 (g167 c1) :=
  mk_snd [(nn165, c1)] ⟨fun _ => [], fun _ => none⟩ [.ptr, .int .i64] Tryz.func167 rfl (.cons h165 .nil)
theorem s138 (h139 : SN ads 139 c1) (h140 : SN ads 140 c2) (h141 : SN ads 141 c3) (h167 : SN ads 167 c4) : SN ads 138 (g138 c1 c2 c3 c4) :=
  mk_snd [(nn139, c1), (nn140, c2), (nn141, c3), (nn167, c4)] ⟨fun _ => [], fun n => match n with | 7 => some [] | 12 => some [] | _ => none⟩ [.ptr, .int .i64, .bool] Tryz.func138 rfl (.cons h139 (.cons h140 (.cons h141 (.cons h167 .nil))))
theorem s69 (h67 : SN ads 67 c1) (h71 : SN ads 71 c2) (h72 : SN ads 72 c3) (h137 : SN ads 137 c4) (h138 : SN ads 138 c5) : SN ads 69 (g69 c1 c2 c3 c4 c5) :=
  mk_snd [(nn67, c1), (nn71, c2), (nn72, c3), (nn137, c4), (nn138, c5)] ⟨fun n => match n with | 0 => [(15, .int .i64)] | 2 => [(6, .slice), (24, .int .i64)] | 4 => [(65, .int .i64)] | _ => [], fun n => match n with | 13 => some [(6, .slice)] | _ => none⟩ [.ptr] Tryz.func69 rfl (.cons h67 (.cons h71 (.cons h72 (.cons h137 (.cons h138 .nil)))))
theorem s70 (h139 : SN ads 139 c1) (h140 : SN ads 140 c2) (h141 : SN ads 141 c3) : SN ads 70 (g70 c1 c2 c3) :=
  mk_snd [(nn139, c1), (nn140, c2), (nn141, c3)] ⟨fun n => match n with | 0 => [(18, .int .i64)] | 2 => [(7, .slice)] | _ => [], fun _ => none⟩ [.ptr] Tryz.func70 rfl (.cons h139 (.cons h140 (.cons h141 .nil)))
theorem s239 : SN ads 239 (g239) :=
  mk_snd [] ⟨fun _ => [], fun _ => none⟩ [.ptr, .int .i64] Tryz.func239 rfl .nil
theorem s145 (h239 : SN ads 239 c1) : SN ads 145 (g145 c1) :=
  mk_snd [(nn239, c1)] ⟨fun _ => [], fun _ => none⟩ [.ptr, .int .i64] Tryz.func145 rfl (.cons h239 .nil)
theorem s146 : SN ads 146 (g146) :=
  mk_snd [] ⟨fun _ => [], fun _ => none⟩ [] Tryz.func146 rfl .nil
theorem s147 (h240 : SN ads 240 c1) : SN ads 147 (g147 c1) :=
  mk_snd [(nn240, c1)] ⟨fun _ => [], fun _ => none⟩ [.ptr] Tryz.func147 rfl (.cons h240 .nil)
theorem s241 : SN ads 241 (g241) :=
  mk_snd [] ⟨fun _ => [], fun _ => none⟩ [.ptr] Tryz.func241 rfl .nil
theorem s148 (h241 : SN ads 241 c1) : SN ads 148 (g148 c1) :=
  mk_snd [(nn241, c1)] ⟨fun _ => [], fun _ => none⟩ [.ptr] Tryz.func148 rfl (.cons h241 .nil)
theorem s156 (h137 : SN ads 137 c1) (h168 : SN ads 168 c2) (h203 : SN ads 203 c3) : SN ads 156 (g156 c1 c2 c3) :=
  mk_snd [(nn137, c1), (nn168, c2), (nn203, c3)] ⟨fun _ => [], fun n => match n with | 17 => some [(11, .bool)] | _ => none⟩ [.ptr, .int .i64, .int .i64, .bool] Tryz.func156 rfl (.cons h137 (.cons h168 (.cons h203 .nil)))
theorem s157 (h42 : SN ads 42 c1) (h116 : SN ads 116 c2) (h237 : SN ads 237 c3) : SN ads 157 (g157 c1 c2 c3) :=
  mk_snd [(nn42, c1), (nn116, c2), (nn237, c3)] ⟨fun n => match n with | 0 => [(15, .int .i64)] | _ => [], fun n => match n with | 8 => some [(11, .int .i64)] | _ => none⟩ [.ptr, .int .i64, .int .i64, .int .i64] Tryz.func157 rfl (.cons h42 (.cons h116 (.cons h237 .nil)))
theorem s212 : SN ads 212 (g212) :=
  mk_snd [] ⟨fun _ => [], fun _ => none⟩ [.ptr, .int .i64] Tryz.func212 rfl .nil
theorem s213 : SN ads 213 (g213) :=
  mk_snd [] ⟨fun _ => [], fun _ => none⟩ [.ptr] Tryz.func213 rfl .nil
theorem s107 (h212 : SN ads 212 c1) (h213 : SN ads 213 c2) : SN ads 107 (g107 c1 c2) :=
  mk_snd [(nn212, c1), (nn213, c2)] ⟨fun _ => [], fun _ => none⟩ [.ptr, .int .i64, .int .i64] Tryz.func107 rfl (.cons h212 (.cons h213 .nil))
theorem s352 : SN ads 352 (g352) :=
  mk_snd [] ⟨fun _ => [], fun _ => none⟩ [.slice] Tryz.func352 rfl .nil
theorem s344 (h352 : SN ads 352 c1) : SN ads 344 (g344 c1) :=
  mk_snd [(nn352, c1)] ⟨fun _ => [], fun _ => none⟩ [.ptr, .int .i64] Tryz.func344 rfl (.cons h352 .nil)
theorem s372 : SN ads 372 (g372) :=
  mk_snd [] ⟨fun _ => [], fun n => match n with | 7 => some [(39, .bool)] | _ => none⟩ [.ptr] Tryz.func372 rfl .nil
theorem s371 (h372 : SN ads 372 c1) : SN ads 371 (g371 c1) :=
  mk_snd [(nn372, c1)] ⟨fun _ => [], fun _ => none⟩ [.ptr] Tryz.func371 rfl (.cons h372 .nil)
theorem s369 (h371 : SN ads 371 c1) : SN ads 369 (g369 c1) :=
  mk_snd [(nn371, c1)] ⟨fun _ => [], fun _ => none⟩ [.any, .int .i64, .int .i64, .int .i64, .int .i64, .slice] Tryz.func369 rfl (.cons h371 .nil)
theorem s363 (h344 : SN ads 344 c1) (h369 : SN ads 369 c2) : SN ads 363 (g363 c1 c2) :=
  mk_snd [(nn344, c1), (nn369, c2)] ⟨fun n => match n with | 0 => [(9, .slice), (26, .int .i64)] | 2 => [(15, .slice), (68, .int .i64)] | _ => [], fun _ => none⟩ [.ptr, .int .i64, .int .i64] Tryz.func363 rfl (.cons h344 (.cons h369 .nil))
theorem s349 (h344 : SN ads 344 c1) (h363 : SN ads 363 c2) : SN ads 349 (g349 c1 c2) :=
  mk_snd [(nn344, c1), (nn363, c2)] ⟨fun n => match n with | 0 => [(7, .slice)] | _ => [], fun n => match n with | 5 => some [(8, .ptr), (9, .bool)] | _ => none⟩ [.ptr, .int .i64] Tryz.func349 rfl (.cons h344 (.cons h363 .nil))
theorem s336 (h255 : SN ads 255 c1) (h349 : SN ads 349 c2) : SN ads 336 (g336 c1 c2) :=
  mk_snd [(nn255, c1), (nn349, c2)] ⟨fun _ => [], fun _ => none⟩ [.ptr, .int .i64, .int .i64, .int .i64] Tryz.func336 rfl (.cons h255 (.cons h349 .nil))
theorem s305 (h289 : SN ads 289 c1) : SN ads 305 (g305 c1) :=
  mk_snd [(nn289, c1)] ⟨fun _ => [], fun _ => none⟩ [.int .i64, .int .i64] Tryz.func305 rfl (.cons h289 .nil)
theorem s350 (h305 : SN ads 305 c1) (h307 : SN ads 307 c2) : SN ads 350 (g350 c1 c2) :=
  mk_snd [(nn305, c1), (nn307, c2)] ⟨fun _ => [], fun _ => none⟩ [.ptr] Tryz.func350 rfl (.cons h305 (.cons h307 .nil))
theorem s337 (h295 : SN ads 295 c1) (h350 : SN ads 350 c2) : SN ads 337 (g337 c1 c2) :=
  mk_snd [(nn295, c1), (nn350, c2)] ⟨fun _ => [], fun _ => none⟩ [.ptr, .any, .int .i64] Tryz.func337 rfl (.cons h295 (.cons h350 .nil))
theorem s308 (h107 : SN ads 107 c1) (h115 : SN ads 115 c2) (h336 : SN ads 336 c3) (h337 : SN ads 337 c4) : SN ads 308 (g308 c1 c2 c3 c4) :=
  mk_snd [(nn107, c1), (nn115, c2), (nn336, c3), (nn337, c4)] ⟨fun _ => [], fun _ => none⟩ [.ptr, .ptr, .ptr] Tryz.func308 rfl (.cons h107 (.cons h115 (.cons h336 (.cons h337 .nil))))
theorem s248 (h148 : SN ads 148 c1) (h151 : SN ads 151 c2) (h238 : SN ads 238 c4) (h308 : SN ads 308 c3) : SN ads 248 (g248 c1 c2 c3) :=
  mk_snd [(nn148, c1), (nn151, c2), (nn238, c4), (nn308, c3)] ⟨fun _ => [], fun n => match n with | 8 => some [(13, .slice)] | 14 => some [] | 17 => some [(13, .slice)] | _ => none⟩ [.ptr, .ptr, .ptr, .any, .bool] Tryz.func248 rfl (.cons h148 (.cons h151 (.cons h238 (.cons h308 .nil))))
theorem s249 : SN ads 249 (g249) :=
  mk_snd [] ⟨fun n => match n with | 0 => [(6, .slice), (60, .int .i64)] | _ => [], fun n => match n with | 6 => some [(4, .int .u8)] | 8 => some [(4, .int .u8)] | 10 => some [(5, .int .u8)] | _ => none⟩ [.any] Tryz.func249 rfl .nil
theorem s162 (h254 : SN ads 254 c1) : SN ads 162 (g162 c1) :=
  mk_snd [(nn254, c1)] ⟨fun _ => [], fun _ => none⟩ [.slice, .int .i64] Tryz.func162 rfl (.cons h254 .nil)
theorem s208 (h291 : SN ads 291 c1) : SN ads 208 (g208 c1) :=
  mk_snd [(nn291, c1)] ⟨fun _ => [], fun _ => none⟩ [.slice, .any] Tryz.func208 rfl (.cons h291 .nil)
theorem s207 (h208 : SN ads 208 c1) : SN ads 207 (g207 c1) :=
  mk_snd [(nn208, c1)] ⟨fun _ => [], fun _ => none⟩ [.ptr] Tryz.func207 rfl (.cons h208 .nil)
theorem s250 (h162 : SN ads 162 c1) (h207 : SN ads 207 c2) (h208 : SN ads 208 c3) : SN ads 250 (g250 c1 c2 c3) :=
  mk_snd [(nn162, c1), (nn207, c2), (nn208, c3)] ⟨fun n => match n with | 0 => [(11, .int .i64)] | 2 => [(40, .int .i64)] | _ => [], fun n => match n with | 5 => some [(29, .bool)] | 16 => some [] | _ => none⟩ [.ptr, .slice] Tryz.func250 rfl (.cons h162 (.cons h207 (.cons h208 .nil)))
theorem s154 (h42 : SN ads 42 c1) (h156 : SN ads 156 c2) (h157 : SN ads 157 c3) (h248 : SN ads 248 c4) (h249 : SN ads 249 c5) (h250 : SN ads 250 c6) : SN ads 154 (g154 c1 c2 c3 c4 c5 c6) :=
  mk_snd [(nn42, c1), (nn156, c2), (nn157, c3), (nn248, c4), (nn249, c5), (nn250, c6)] ⟨fun n => match n with | 0 => [(15, .slice), (16, .slice), (77, .int .i64)] | _ => [], fun n => match n with | 18 => some [] | _ => none⟩ [.ptr, .ptr, .ptr, .bool] Tryz.func154 rfl (.cons h42 (.cons h156 (.cons h157 (.cons h248 (.cons h249 (.cons h250 .nil))))))
theorem s73 (h42 : SN ads 42 c1) (h110 : SN ads 110 c2) (h143 : SN ads 143 c3) (h145 : SN ads 145 c4) (h146 : SN ads 146 c5) (h147 : SN ads 147 c6) (h148 : SN ads 148 c7) (h149 : SN ads 149 c8) (h151 : SN ads 151 c9) (h154 : SN ads 154 c10) (h156 : SN ads 156 c11) (h157 : SN ads 157 c12) : SN ads 73 (g73 c1 c2 c3 c4 c5 c6 c7 c8 c9 c10 c11 c12) :=
  mk_snd [(nn42, c1), (nn110, c2), (nn143, c3), (nn145, c4), (nn146, c5), (nn147, c6), (nn148, c7), (nn149, c8), (nn151, c9), (nn154, c10), (nn156, c11), (nn157, c12)] ⟨fun _ => [], fun n => match n with | 8 => some [(12, .int .i64)] | 16 => some [(131, .bool)] | 22 => some [] | _ => none⟩ [.ptr, .int .i64, .int .i64] Tryz.func73 rfl (.cons h42 (.cons h110 (.cons h143 (.cons h145 (.cons h146 (.cons h147 (.cons h148 (.cons h149 (.cons h151 (.cons h154 (.cons h156 (.cons h157 .nil))))))))))))
theorem s161 : SN ads 161 (g161) :=
  mk_snd [] ⟨fun _ => [], fun _ => none⟩ [.int .i64] Tryz.func161 rfl .nil
theorem s163 : SN ads 163 (g163) :=
  mk_snd [] ⟨fun _ => [], fun n => match n with | 8 => some [(10, .bool)] | _ => none⟩ [.int .i64] Tryz.func163 rfl .nil
theorem s75 (h161 : SN ads 161 c1) (h162 : SN ads 162 c2) (h163 : SN ads 163 c3) : SN ads 75 (g75 c1 c2 c3) :=
  mk_snd [(nn161, c1), (nn162, c2), (nn163, c3)] ⟨fun _ => [], fun _ => none⟩ [.any] Tryz.func75 rfl (.cons h161 (.cons h162 (.cons h163 .nil)))
theorem s314 (h75 : SN ads 75 c1) : SN ads 314 (g314 c1) :=
  mk_snd [(nn75, c1)] ⟨fun _ => [], fun _ => none⟩ [.any] Tryz.func314 rfl (.cons h75 .nil)
theorem s315 (h75 : SN ads 75 c1) : SN ads 315 (g315 c1) :=
  mk_snd [(nn75, c1)] ⟨fun _ => [], fun _ => none⟩ [.any] Tryz.func315 rfl (.cons h75 .nil)
theorem s316 (h75 : SN ads 75 c1) : SN ads 316 (g316 c1) :=
  mk_snd [(nn75, c1)] ⟨fun _ => [], fun _ => none⟩ [.any] Tryz.func316 rfl (.cons h75 .nil)
theorem s251 (h75 : SN ads 75 c1) (h314 : SN ads 314 c2) (h315 : SN ads 315 c3) (h316 : SN ads 316 c4) : SN ads 251 (g251 c1 c2 c3 c4) :=
  mk_snd [(nn75, c1), (nn314, c2), (nn315, c3), (nn316, c4)] ⟨fun _ => [], fun _ => none⟩ [.any, .int .i64] Tryz.func251 rfl (.cons h75 (.cons h314 (.cons h315 (.cons h316 .nil))))
theorem s252 (h251 : SN ads 251 c1) : SN ads 252 (g252 c1) :=
  mk_snd [(nn251, c1)] ⟨fun _ => [], fun _ => none⟩ [] Tryz.func252 rfl (.cons h251 .nil)
theorem s158 (h251 : SN ads 251 c1) (h252 : SN ads 252 c2) : SN ads 158 (g158 c1 c2) :=
  mk_snd [(nn251, c1), (nn252, c2)] ⟨fun _ => [], fun _ => none⟩ [.any, .int .i64] Tryz.func158 rfl (.cons h251 (.cons h252 .nil))
theorem s253 (h140 : SN ads 140 c1) (h235 : SN ads 235 c2) (h236 : SN ads 236 c3) : SN ads 253 (g253 c1 c2 c3) :=
  mk_snd [(nn140, c1), (nn235, c2), (nn236, c3)] ⟨fun _ => [], fun _ => none⟩ [.any, .int .i64] Tryz.func253 rfl (.cons h140 (.cons h235 (.cons h236 .nil)))
theorem s159 (h167 : SN ads 167 c1) (h253 : SN ads 253 c2) : SN ads 159 (g159 c1 c2) :=
  mk_snd [(nn167, c1), (nn253, c2)] ⟨fun _ => [], fun n => match n with | 9 => some [] | _ => none⟩ [.ptr, .int .i64, .int .i64] Tryz.func159 rfl (.cons h167 (.cons h253 .nil))
theorem s160 (h102 : SN ads 102 c1) (h103 : SN ads 103 c2) : SN ads 160 (g160 c1 c2) :=
  mk_snd [(nn102, c1), (nn103, c2)] ⟨fun _ => [], fun _ => none⟩ [.ptr, .int .i64, .int .i64] Tryz.func160 rfl (.cons h102 (.cons h103 .nil))
theorem s74 (h42 : SN ads 42 c1) (h158 : SN ads 158 c2) (h159 : SN ads 159 c3) (h160 : SN ads 160 c4) : SN ads 74 (g74 c1 c2 c3 c4) :=
  mk_snd [(nn42, c1), (nn158, c2), (nn159, c3), (nn160, c4)] ⟨fun _ => [], fun _ => none⟩ [.ptr, .ptr, .int .i64] Tryz.func74 rfl (.cons h42 (.cons h158 (.cons h159 (.cons h160 .nil))))
theorem s23 (h42 : SN ads 42 c1) (h47 : SN ads 47 c2) (h67 : SN ads 67 c3) (h68 : SN ads 68 c4) (h69 : SN ads 69 c5) (h70 : SN ads 70 c6) (h71 : SN ads 71 c7) (h72 : SN ads 72 c8) (h73 : SN ads 73 c9) (h74 : SN ads 74 c10) : SN ads 23 (g23 c1 c2 c3 c4 c5 c6 c7 c8 c9 c10) :=
  mk_snd [(nn42, c1), (nn47, c2), (nn67, c3), (nn68, c4), (nn69, c5), (nn70, c6), (nn71, c7), (nn72, c8), (nn73, c9), (nn74, c10)] ⟨fun n => match n with | 0 => [(36, .int .i64)] | 2 => [(40, .int .i64)] | 4 => [(82, .int .i64)] | 6 => [(98, .int .i64)] | _ => [], fun n => match n with | 13 => some [] | 29 => some [] | _ => none⟩ [.ptr, .int .i64, .any] Tryz.func23 rfl (.cons h42 (.cons h47 (.cons h67 (.cons h68 (.cons h69 (.cons h70 (.cons h71 (.cons h72 (.cons h73 (.cons h74 .nil))))))))))
end
end Go.Proofs.YtjjkbedlnbaccaaGreatDoor
