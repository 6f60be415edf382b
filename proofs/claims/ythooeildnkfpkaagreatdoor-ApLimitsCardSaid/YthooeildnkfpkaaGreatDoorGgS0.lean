/- The printed functions are the machine's own, by the kernel. -/
import Derived.Test.YthooeildnkfpkaaGreatDoorGgD2
import Derived.Test.YthooeildnkfpkaaGreatDoorRows
set_option linter.unusedVariables false
set_option linter.constructorNameAsVariable false
set_option maxRecDepth 100000
namespace Go.Proofs.YthooeildnkfpkaaGreatDoor
open Go.Vc Go.Ab
noncomputable section
variable (v1 : AV) (l1 l2 l3 l4 : List AV) (L1 : List AP) (d1 d2 d3 d4 : DV) (R1 : List DV) (n1 n2 n3 n4 n5 n6 n7 n8 n9 : Int) (m1 m2 m3 m4 m5 : Nat) (t1 t2 t3 t4 : Bool) (p1 p2 p3 p4 p5 : AP) (b1 b2 b3 b4 b5 : P4) (s1 s2 s3 s4 s5 : AS) (H1 : AH) (x1 x2 : List Int) (c1 c2 c3 c4 c5 c6 c7 c8 c9 c10 c11 c12 c13 c14 c15 c16 : G DV) (Ka1 : AH → Option DV) (Kb1 Kb2 Kb3 : DV → AH → Option DV) (Kc1 Kc2 : DV → DV → AH → Option DV) (Kd1 : DV → DV → DV → AH → Option DV)
variable {ads : List Addr}
theorem s23 : SN ads 23 (g23) :=
  mk_snd [] ⟨fun _ => [], fun _ => none⟩ [] Tryz.func23 rfl .nil
theorem s9 (h7 : SN ads 7 c1) (h23 : SN ads 23 c2) : SN ads 9 (g9 c1 c2) :=
  mk_snd [(nn7, c1), (nn23, c2)] ⟨fun _ => [], fun n => match n with | 23 => some [] | _ => none⟩ [.int .i64] Tryz.func9 rfl (.cons h7 (.cons h23 .nil))
theorem s195 : SN ads 195 (g195) :=
  mk_snd [] ⟨fun _ => [], fun _ => none⟩ [.int .u32, .int .i64, .int .i64] Tryz.func195 rfl .nil
theorem s106 (h195 : SN ads 195 c1) : SN ads 106 (g106 c1) :=
  mk_snd [(nn195, c1)] ⟨fun n => match n with | 0 => [(5, .int .i64)] | _ => [], fun _ => none⟩ [.ptr, .int .i64] Tryz.func106 rfl (.cons h195 .nil)
theorem s50 (h106 : SN ads 106 c1) : SN ads 50 (g50 c1) :=
  mk_snd [(nn106, c1)] ⟨fun n => match n with | 0 => [(36, .int .i64)] | _ => [], fun _ => none⟩ [.int .u32, .int .i64, .int .i64, .int .i64, .int .i64] Tryz.func50 rfl (.cons h106 .nil)
theorem s107 : SN ads 107 (g107) :=
  mk_snd [] ⟨fun _ => [], fun _ => none⟩ [.int .i64, .int .i64] Tryz.func107 rfl .nil
theorem s51 (h107 : SN ads 107 c1) : SN ads 51 (g51 c1) :=
  mk_snd [(nn107, c1)] ⟨fun _ => [], fun _ => none⟩ [.int .i64, .int .i64, .int .i64] Tryz.func51 rfl (.cons h107 .nil)
theorem s108 : SN ads 108 (g108) :=
  mk_snd [] ⟨fun _ => [], fun _ => none⟩ [.int .i64] Tryz.func108 rfl .nil
theorem s52 (h108 : SN ads 108 c1) : SN ads 52 (g52 c1) :=
  mk_snd [(nn108, c1)] ⟨fun _ => [], fun _ => none⟩ [.int .i64, .int .i64] Tryz.func52 rfl (.cons h108 .nil)
theorem s53 : SN ads 53 (g53) :=
  mk_snd [] ⟨fun _ => [], fun _ => none⟩ [.int .i64] Tryz.func53 rfl .nil
theorem s109 (h53 : SN ads 53 c1) : SN ads 109 (g109 c1) :=
  mk_snd [(nn53, c1)] ⟨fun n => match n with | 0 => [(8, .int .i64)] | _ => [], fun _ => none⟩ [.slice, .any] Tryz.func109 rfl (.cons h53 .nil)
theorem s54 (h109 : SN ads 109 c1) : SN ads 54 (g54 c1) :=
  mk_snd [(nn109, c1)] ⟨fun _ => [], fun _ => none⟩ [.slice, .any] Tryz.func54 rfl (.cons h109 .nil)
theorem s55 : SN ads 55 (g55) :=
  mk_snd [] ⟨fun _ => [], fun _ => none⟩ [.any] Tryz.func55 rfl .nil
theorem s56 : SN ads 56 (g56) :=
  mk_snd [] ⟨fun _ => [], fun _ => none⟩ [] Tryz.func56 rfl .nil
theorem s19 (h50 : SN ads 50 c1) (h51 : SN ads 51 c2) (h52 : SN ads 52 c3) (h54 : SN ads 54 c4) (h55 : SN ads 55 c5) (h56 : SN ads 56 c6) : SN ads 19 (g19 c1 c2 c3 c4 c5 c6) :=
  mk_snd [(nn50, c1), (nn51, c2), (nn52, c3), (nn54, c4), (nn55, c5), (nn56, c6)] ⟨fun n => match n with | 0 => [(99, .int .i64)] | _ => [], fun _ => none⟩ [.any] Tryz.func19 rfl (.cons h50 (.cons h51 (.cons h52 (.cons h54 (.cons h55 (.cons h56 .nil))))))
theorem s57 : SN ads 57 (g57) :=
  mk_snd [] ⟨fun n => match n with | 0 => [(3, .slice), (10, .int .i64)] | _ => [], fun n => match n with | 7 => some [(3, .slice)] | _ => none⟩ [.ptr] Tryz.func57 rfl .nil
theorem s58 : SN ads 58 (g58) :=
  mk_snd [] ⟨fun _ => [], fun _ => none⟩ [.ptr, .int .i64] Tryz.func58 rfl .nil
theorem s196 : SN ads 196 (g196) :=
  mk_snd [] ⟨fun _ => [], fun n => match n with | 6 => some [] | _ => none⟩ [.any, .ptr, .ptr] Tryz.func196 rfl .nil
theorem s198 (h196 : SN ads 196 c1) : SN ads 198 (g198 c1) :=
  mk_snd [(nn196, c1)] ⟨fun _ => [], fun _ => none⟩ [.any, .ptr] Tryz.func198 rfl (.cons h196 .nil)
theorem s201 : SN ads 201 (g201) :=
  mk_snd [] ⟨fun _ => [], fun _ => none⟩ [.any] Tryz.func201 rfl .nil
theorem s213 : SN ads 213 (g213) :=
  mk_snd [] ⟨fun _ => [], fun _ => none⟩ [.any] Tryz.func213 rfl .nil
theorem s287 : SN ads 287 (g287) :=
  mk_snd [] ⟨fun _ => [], fun _ => none⟩ [.int .i64] Tryz.func287 rfl .nil
theorem s239 (h287 : SN ads 287 c1) : SN ads 239 (g239 c1) :=
  mk_snd [(nn287, c1)] ⟨fun _ => [], fun _ => none⟩ [.int .i64, .int .i64] Tryz.func239 rfl (.cons h287 .nil)
theorem s255 (h239 : SN ads 239 c1) : SN ads 255 (g255 c1) :=
  mk_snd [(nn239, c1)] ⟨fun _ => [], fun _ => none⟩ [.any, .ptr] Tryz.func255 rfl (.cons h239 .nil)
theorem s258 (h239 : SN ads 239 c1) (h255 : SN ads 255 c2) : SN ads 258 (g258 c1 c2) :=
  mk_snd [(nn239, c1), (nn255, c2)] ⟨fun _ => [], fun _ => none⟩ [.any, .ptr, .ptr] Tryz.func258 rfl (.cons h239 (.cons h255 .nil))
theorem s237 : SN ads 237 (g237) :=
  mk_snd [] ⟨fun _ => [], fun _ => none⟩ [.slice] Tryz.func237 rfl .nil
theorem s264 (h237 : SN ads 237 c1) : SN ads 264 (g264 c1) :=
  mk_snd [(nn237, c1)] ⟨fun _ => [], fun _ => none⟩ [.any] Tryz.func264 rfl (.cons h237 .nil)
theorem s200 (h198 : SN ads 198 c1) (h201 : SN ads 201 c2) (h213 : SN ads 213 c3) (h258 : SN ads 258 c4) (h264 : SN ads 264 c5) : SN ads 200 (g200 c1 c2 c3 c4 c5) :=
  mk_snd [(nn198, c1), (nn201, c2), (nn213, c3), (nn258, c4), (nn264, c5)] ⟨fun n => match n with | 0 => [(5, .slice), (13, .int .i64)] | _ => [], fun n => match n with | 7 => some [(5, .slice)] | _ => none⟩ [.ptr, .any] Tryz.func200 rfl (.cons h198 (.cons h201 (.cons h213 (.cons h258 (.cons h264 .nil)))))
theorem s274 : SN ads 274 (g274) :=
  mk_snd [] ⟨fun _ => [], fun _ => none⟩ [.any, .ptr] Tryz.func274 rfl .nil
theorem s292 : SN ads 292 (g292) :=
  mk_snd [] ⟨fun _ => [], fun _ => none⟩ [.any] Tryz.func292 rfl .nil
theorem s293 (h198 : SN ads 198 c1) (h255 : SN ads 255 c2) (h258 : SN ads 258 c3) (h274 : SN ads 274 c4) (h292 : SN ads 292 c5) : SN ads 293 (g293 c1 c2 c3 c4 c5) :=
  mk_snd [(nn198, c1), (nn255, c2), (nn258, c3), (nn274, c4), (nn292, c5)] ⟨fun n => match n with | 0 => [(8, .int .i64)] | _ => [], fun _ => none⟩ [.slice, .any] Tryz.func293 rfl (.cons h198 (.cons h255 (.cons h258 (.cons h274 (.cons h292 .nil)))))
theorem s261 (h198 : SN ads 198 c1) (h258 : SN ads 258 c2) (h293 : SN ads 293 c3) : SN ads 261 (g261 c1 c2 c3) :=
  mk_snd [(nn198, c1), (nn258, c2), (nn293, c3)] ⟨fun n => match n with | 0 => [(5, .int .i64), (6, .int .i64)] | _ => [], fun n => match n with | 6 => some [(5, .int .i64)] | _ => none⟩ [.slice, .any] Tryz.func261 rfl (.cons h198 (.cons h258 (.cons h293 .nil)))
theorem s262 : SN ads 262 (g262) :=
  mk_snd [] ⟨fun _ => [], fun _ => none⟩ [.slice] Tryz.func262 rfl .nil
theorem s193 : SN ads 193 (g193) :=
  mk_snd [] ⟨fun _ => [], fun _ => none⟩ [.slice] Tryz.func193 rfl .nil
theorem s225 : SN ads 225 (g225) :=
  mk_snd [] ⟨fun n => match n with | 0 => [(8, .int .i64)] | _ => [], fun _ => none⟩ [.slice, .int .i64] Tryz.func225 rfl .nil
theorem s294 : SN ads 294 (g294) :=
  mk_snd [] ⟨fun _ => [], fun _ => none⟩ [.slice, .int .i64, .int .i64] Tryz.func294 rfl .nil
theorem s263 (h193 : SN ads 193 c1) (h225 : SN ads 225 c2) (h294 : SN ads 294 c3) : SN ads 263 (g263 c1 c2 c3) :=
  mk_snd [(nn193, c1), (nn225, c2), (nn294, c3)] ⟨fun _ => [], fun n => match n with | 8 => some [] | _ => none⟩ [.ptr, .int .i64] Tryz.func263 rfl (.cons h193 (.cons h225 (.cons h294 .nil)))
theorem s197 (h200 : SN ads 200 c1) (h261 : SN ads 261 c2) (h262 : SN ads 262 c3) (h263 : SN ads 263 c4) : SN ads 197 (g197 c1 c2 c3 c4) :=
  mk_snd [(nn200, c1), (nn261, c2), (nn262, c3), (nn263, c4)] ⟨fun n => match n with | 0 => [(23, .int .i64)] | _ => [], fun n => match n with | 7 => some [] | _ => none⟩ [.ptr, .any] Tryz.func197 rfl (.cons h200 (.cons h261 (.cons h262 (.cons h263 .nil))))
theorem s110 (h196 : SN ads 196 c1) (h197 : SN ads 197 c2) : SN ads 110 (g110 c1 c2) :=
  mk_snd [(nn196, c1), (nn197, c2)] ⟨fun n => match n with | 0 => [(7, .slice), (18, .int .i64)] | _ => [], fun n => match n with | 9 => some [(7, .slice)] | 13 => some [] | _ => none⟩ [.ptr, .int .i64] Tryz.func110 rfl (.cons h196 (.cons h197 .nil))
theorem s44 : SN ads 44 (g44) :=
  mk_snd [] ⟨fun _ => [], fun _ => none⟩ [.ptr, .int .i64] Tryz.func44 rfl .nil
theorem s260 : SN ads 260 (g260) :=
  mk_snd [] ⟨fun _ => [], fun _ => none⟩ [.ptr] Tryz.func260 rfl .nil
theorem s199 (h44 : SN ads 44 c1) (h260 : SN ads 260 c2) : SN ads 199 (g199 c1 c2) :=
  mk_snd [(nn44, c1), (nn260, c2)] ⟨fun _ => [], fun _ => none⟩ [.ptr, .int .i64, .int .i64] Tryz.func199 rfl (.cons h44 (.cons h260 .nil))
theorem s111 (h199 : SN ads 199 c1) : SN ads 111 (g111 c1) :=
  mk_snd [(nn199, c1)] ⟨fun n => match n with | 0 => [(10, .int .i64)] | _ => [], fun _ => none⟩ [.ptr, .int .i64, .slice] Tryz.func111 rfl (.cons h199 .nil)
theorem s112 (h200 : SN ads 200 c1) : SN ads 112 (g112 c1) :=
  mk_snd [(nn200, c1)] ⟨fun _ => [], fun _ => none⟩ [.ptr] Tryz.func112 rfl (.cons h200 .nil)
theorem s202 : SN ads 202 (g202) :=
  mk_snd [] ⟨fun _ => [], fun _ => none⟩ [.ptr, .int .i64] Tryz.func202 rfl .nil
theorem s113 (h202 : SN ads 202 c1) : SN ads 113 (g113 c1) :=
  mk_snd [(nn202, c1)] ⟨fun _ => [], fun _ => none⟩ [.ptr] Tryz.func113 rfl (.cons h202 .nil)
theorem s59 (h110 : SN ads 110 c1) (h111 : SN ads 111 c2) (h112 : SN ads 112 c3) (h113 : SN ads 113 c4) : SN ads 59 (g59 c1 c2 c3 c4) :=
  mk_snd [(nn110, c1), (nn111, c2), (nn112, c3), (nn113, c4)] ⟨fun n => match n with | 0 => [(22, .int .i64)] | _ => [], fun _ => none⟩ [.ptr, .ptr] Tryz.func59 rfl (.cons h110 (.cons h111 (.cons h112 (.cons h113 .nil))))
theorem s192 : SN ads 192 (g192) :=
  mk_snd [] ⟨fun _ => [], fun _ => none⟩ [.int .i64] Tryz.func192 rfl .nil
theorem s203 : SN ads 203 (g203) :=
  mk_snd [] ⟨fun _ => [], fun _ => none⟩ [.int .i64] Tryz.func203 rfl .nil
theorem s114 (h192 : SN ads 192 c1) (h203 : SN ads 203 c2) : SN ads 114 (g114 c1 c2) :=
  mk_snd [(nn192, c1), (nn203, c2)] ⟨fun _ => [], fun _ => none⟩ [.ptr, .int .i64] Tryz.func114 rfl (.cons h192 (.cons h203 .nil))
theorem s115 : SN ads 115 (g115) :=
  mk_snd [] ⟨fun _ => [], fun _ => none⟩ [.int .i64] Tryz.func115 rfl .nil
theorem s204 : SN ads 204 (g204) :=
  mk_snd [] ⟨fun _ => [], fun _ => none⟩ [.int .i64] Tryz.func204 rfl .nil
theorem s116 (h114 : SN ads 114 c1) (h203 : SN ads 203 c2) (h204 : SN ads 204 c3) : SN ads 116 (g116 c1 c2 c3) :=
  mk_snd [(nn114, c1), (nn203, c2), (nn204, c3)] ⟨fun _ => [], fun _ => none⟩ [.ptr, .int .i64] Tryz.func116 rfl (.cons h114 (.cons h203 (.cons h204 .nil)))
theorem s60 (h114 : SN ads 114 c1) (h115 : SN ads 115 c2) (h116 : SN ads 116 c3) : SN ads 60 (g60 c1 c2 c3) :=
  mk_snd [(nn114, c1), (nn115, c2), (nn116, c3)] ⟨fun n => match n with | 0 => [(9, .int .i64), (10, .int .i64), (16, .int .i64)] | 2 => [(71, .int .i64)] | _ => [], fun n => match n with | 9 => some [] | 12 => some [(9, .int .i64), (10, .int .i64)] | 21 => some [] | 25 => some [] | _ => none⟩ [.ptr, .any, .any] Tryz.func60 rfl (.cons h114 (.cons h115 (.cons h116 .nil)))
theorem s122 : SN ads 122 (g122) :=
  mk_snd [] ⟨fun _ => [], fun _ => none⟩ [.int .i64] Tryz.func122 rfl .nil
theorem s123 (h122 : SN ads 122 c1) : SN ads 123 (g123 c1) :=
  mk_snd [(nn122, c1)] ⟨fun _ => [], fun _ => none⟩ [.ptr, .int .i64] Tryz.func123 rfl (.cons h122 .nil)
theorem s124 : SN ads 124 (g124) :=
  mk_snd [] ⟨fun n => match n with | 0 => [(3, .int .i64), (10, .int .i64)] | _ => [], fun _ => none⟩ [.ptr] Tryz.func124 rfl .nil
theorem s63 (h122 : SN ads 122 c1) (h123 : SN ads 123 c2) (h124 : SN ads 124 c3) : SN ads 63 (g63 c1 c2 c3) :=
  mk_snd [(nn122, c1), (nn123, c2), (nn124, c3)] ⟨fun _ => [], fun _ => none⟩ [.ptr, .int .i64] Tryz.func63 rfl (.cons h122 (.cons h123 (.cons h124 .nil)))
theorem s125 : SN ads 125 (g125) :=
  mk_snd [] ⟨fun _ => [], fun _ => none⟩ [.int .i64] Tryz.func125 rfl .nil
theorem s131 : SN ads 131 (g131) :=
  mk_snd [] ⟨fun _ => [], fun _ => none⟩ [.ptr] Tryz.func131 rfl .nil
theorem s210 : SN ads 210 (g210) :=
  mk_snd [] ⟨fun _ => [], fun _ => none⟩ [.ptr] Tryz.func210 rfl .nil
theorem s132 (h210 : SN ads 210 c1) : SN ads 132 (g132 c1) :=
  mk_snd [(nn210, c1)] ⟨fun _ => [], fun _ => none⟩ [.ptr] Tryz.func132 rfl (.cons h210 .nil)
theorem s134 (h200 : SN ads 200 c1) : SN ads 134 (g134 c1) :=
  mk_snd [(nn200, c1)] ⟨fun _ => [], fun _ => none⟩ [.ptr] Tryz.func134 rfl (.cons h200 .nil)
theorem s49 : SN ads 49 (g49) :=
  mk_snd [] ⟨fun _ => [], fun _ => none⟩ [.ptr] Tryz.func49 rfl .nil
theorem s226 : SN ads 226 (g226) :=
  mk_snd [] ⟨fun _ => [], fun _ => none⟩ [.int .i64, .int .i64] Tryz.func226 rfl .nil
theorem s207 (h49 : SN ads 49 c1) (h226 : SN ads 226 c2) : SN ads 207 (g207 c1 c2) :=
  mk_snd [(nn49, c1), (nn226, c2)] ⟨fun _ => [], fun _ => none⟩ [.ptr, .int .i64, .int .i64] Tryz.func207 rfl (.cons h49 (.cons h226 .nil))
theorem s265 (h239 : SN ads 239 c1) : SN ads 265 (g265 c1) :=
  mk_snd [(nn239, c1)] ⟨fun _ => [], fun _ => none⟩ [.ptr] Tryz.func265 rfl (.cons h239 .nil)
theorem s208 (h265 : SN ads 265 c1) : SN ads 208 (g208 c1) :=
  mk_snd [(nn265, c1)] ⟨fun _ => [], fun _ => none⟩ [.ptr] Tryz.func208 rfl (.cons h265 .nil)
theorem s126 (h58 : SN ads 58 c1) (h131 : SN ads 131 c2) (h132 : SN ads 132 c3) (h134 : SN ads 134 c4) (h207 : SN ads 207 c5) (h208 : SN ads 208 c6) : SN ads 126 (g126 c1 c2 c3 c4 c5 c6) :=
  mk_snd [(nn58, c1), (nn131, c2), (nn132, c3), (nn134, c4), (nn207, c5), (nn208, c6)] ⟨fun _ => [], fun _ => none⟩ [.ptr, .int .i64, .int .i64] Tryz.func126 rfl (.cons h58 (.cons h131 (.cons h132 (.cons h134 (.cons h207 (.cons h208 .nil))))))
theorem s64 (h125 : SN ads 125 c1) (h126 : SN ads 126 c2) : SN ads 64 (g64 c1 c2) :=
  mk_snd [(nn125, c1), (nn126, c2)] ⟨fun n => match n with | 0 => [(7, .slice), (9, .int .i64)] | _ => [], fun n => match n with | 7 => some [(7, .slice)] | _ => none⟩ [.ptr, .int .i64, .int .i64] Tryz.func64 rfl (.cons h125 (.cons h126 .nil))
theorem s151 : SN ads 151 (g151) :=
  mk_snd [] ⟨fun _ => [], fun _ => none⟩ [.ptr, .int .i64] Tryz.func151 rfl .nil
theorem s184 : SN ads 184 (g184) :=
  mk_snd [] ⟨fun _ => [], fun _ => none⟩ [.int .i64] Tryz.func184 rfl .nil
theorem s117 (h151 : SN ads 151 c1) (h184 : SN ads 184 c2) : SN ads 117 (g117 c1 c2) :=
  mk_snd [(nn151, c1), (nn184, c2)] ⟨fun _ => [], fun _ => none⟩ [.ptr, .int .i64, .int .i64] Tryz.func117 rfl (.cons h151 (.cons h184 .nil))
theorem s120 : SN ads 120 (g120) :=
  mk_snd [] ⟨fun _ => [], fun _ => none⟩ [.ptr] Tryz.func120 rfl .nil
theorem s345 : SN ads 345 (g345) :=
  mk_snd [] ⟨fun _ => [], fun _ => none⟩ [.ptr, .int .i64, .int .i64] Tryz.func345 rfl .nil
theorem s348 : SN ads 348 (g348) :=
  mk_snd [] ⟨fun _ => [], fun _ => none⟩ [.ptr, .int .i64, .int .i64] Tryz.func348 rfl .nil
theorem s205 (h345 : SN ads 345 c1) (h348 : SN ads 348 c2) : SN ads 205 (g205 c1 c2) :=
  mk_snd [(nn345, c1), (nn348, c2)] ⟨fun n => match n with | 0 => [(1, .int .i64)] | _ => [], fun _ => none⟩ [.any, .int .i64] Tryz.func205 rfl (.cons h345 (.cons h348 .nil))
theorem s347 : SN ads 347 (g347) :=
  mk_snd [] ⟨fun _ => [], fun _ => none⟩ [.ptr, .any] Tryz.func347 rfl .nil
theorem s119 (h120 : SN ads 120 c1) (h205 : SN ads 205 c2) (h347 : SN ads 347 c3) : SN ads 119 (g119 c1 c2 c3) :=
  mk_snd [(nn120, c1), (nn205, c2), (nn347, c3)] ⟨fun _ => [], fun _ => none⟩ [.any, .any] Tryz.func119 rfl (.cons h120 (.cons h205 (.cons h347 .nil)))
theorem s206 (h345 : SN ads 345 c1) (h348 : SN ads 348 c2) : SN ads 206 (g206 c1 c2) :=
  mk_snd [(nn345, c1), (nn348, c2)] ⟨fun n => match n with | 0 => [(7, .int .i64)] | _ => [], fun n => match n with | 8 => some [(9, .int .i64)] | 11 => some [(7, .int .i64)] | _ => none⟩ [.any, .int .i64, .int .i64] Tryz.func206 rfl (.cons h345 (.cons h348 .nil))
theorem s346 : SN ads 346 (g346) :=
  mk_snd [] ⟨fun _ => [], fun _ => none⟩ [.ptr] Tryz.func346 rfl .nil
theorem s121 (h120 : SN ads 120 c1) (h205 : SN ads 205 c2) (h206 : SN ads 206 c3) (h346 : SN ads 346 c4) (h348 : SN ads 348 c5) : SN ads 121 (g121 c1 c2 c3 c4 c5) :=
  mk_snd [(nn120, c1), (nn205, c2), (nn206, c3), (nn346, c4), (nn348, c5)] ⟨fun _ => [], fun n => match n with | 6 => some [] | _ => none⟩ [.any, .int .i64] Tryz.func121 rfl (.cons h120 (.cons h205 (.cons h206 (.cons h346 (.cons h348 .nil)))))
theorem s148 : SN ads 148 (g148) :=
  mk_snd [] ⟨fun _ => [], fun _ => none⟩ [.int .i64] Tryz.func148 rfl .nil
theorem s150 (h148 : SN ads 148 c1) : SN ads 150 (g150 c1) :=
  mk_snd [(nn148, c1)] ⟨fun _ => [], fun _ => none⟩ [.ptr, .int .i64] Tryz.func150 rfl (.cons h148 .nil)
theorem s118 (h119 : SN ads 119 c1) (h120 : SN ads 120 c2) (h121 : SN ads 121 c3) (h150 : SN ads 150 c4) : SN ads 118 (g118 c1 c2 c3 c4) :=
  mk_snd [(nn119, c1), (nn120, c2), (nn121, c3), (nn150, c4)] ⟨fun _ => [], fun n => match n with | 7 => some [] | 12 => some [] | _ => none⟩ [.ptr, .int .i64, .bool] Tryz.func118 rfl (.cons h119 (.cons h120 (.cons h121 (.cons h150 .nil))))
theorem s61 (h57 : SN ads 57 c1) (h63 : SN ads 63 c2) (h64 : SN ads 64 c3) (h117 : SN ads 117 c4) (h118 : SN ads 118 c5) : SN ads 61 (g61 c1 c2 c3 c4 c5) :=
  mk_snd [(nn57, c1), (nn63, c2), (nn64, c3), (nn117, c4), (nn118, c5)] ⟨fun n => match n with | 0 => [(15, .int .i64)] | 2 => [(6, .slice), (24, .int .i64)] | 4 => [(65, .int .i64)] | _ => [], fun n => match n with | 13 => some [(6, .slice)] | _ => none⟩ [.ptr] Tryz.func61 rfl (.cons h57 (.cons h63 (.cons h64 (.cons h117 (.cons h118 .nil)))))
theorem s62 (h119 : SN ads 119 c1) (h120 : SN ads 120 c2) (h121 : SN ads 121 c3) : SN ads 62 (g62 c1 c2 c3) :=
  mk_snd [(nn119, c1), (nn120, c2), (nn121, c3)] ⟨fun n => match n with | 0 => [(18, .int .i64)] | 2 => [(7, .slice)] | _ => [], fun _ => none⟩ [.ptr] Tryz.func62 rfl (.cons h119 (.cons h120 (.cons h121 .nil)))
theorem s209 : SN ads 209 (g209) :=
  mk_snd [] ⟨fun _ => [], fun _ => none⟩ [.ptr, .int .i64] Tryz.func209 rfl .nil
theorem s127 (h209 : SN ads 209 c1) : SN ads 127 (g127 c1) :=
  mk_snd [(nn209, c1)] ⟨fun _ => [], fun _ => none⟩ [.ptr, .int .i64] Tryz.func127 rfl (.cons h209 .nil)
theorem s128 : SN ads 128 (g128) :=
  mk_snd [] ⟨fun _ => [], fun _ => none⟩ [] Tryz.func128 rfl .nil
theorem s129 (h210 : SN ads 210 c1) : SN ads 129 (g129 c1) :=
  mk_snd [(nn210, c1)] ⟨fun _ => [], fun _ => none⟩ [.ptr] Tryz.func129 rfl (.cons h210 .nil)
theorem s211 : SN ads 211 (g211) :=
  mk_snd [] ⟨fun _ => [], fun _ => none⟩ [.ptr] Tryz.func211 rfl .nil
theorem s130 (h211 : SN ads 211 c1) : SN ads 130 (g130 c1) :=
  mk_snd [(nn211, c1)] ⟨fun _ => [], fun _ => none⟩ [.ptr] Tryz.func130 rfl (.cons h211 .nil)
theorem s266 : SN ads 266 (g266) :=
  mk_snd [] ⟨fun _ => [], fun _ => none⟩ [.int .i64] Tryz.func266 rfl .nil
theorem s212 (h266 : SN ads 266 c1) : SN ads 212 (g212 c1) :=
  mk_snd [(nn266, c1)] ⟨fun _ => [], fun _ => none⟩ [.int .u8, .any, .any, .int .i64, .int .i64] Tryz.func212 rfl (.cons h266 .nil)
theorem s133 (h212 : SN ads 212 c1) : SN ads 133 (g133 c1) :=
  mk_snd [(nn212, c1)] ⟨fun _ => [], fun _ => none⟩ [.any] Tryz.func133 rfl (.cons h212 .nil)
theorem s214 : SN ads 214 (g214) :=
  mk_snd [] ⟨fun _ => [], fun _ => none⟩ [.ptr] Tryz.func214 rfl .nil
theorem s135 (h214 : SN ads 214 c1) : SN ads 135 (g135 c1) :=
  mk_snd [(nn214, c1)] ⟨fun _ => [], fun _ => none⟩ [.ptr, .int .i64] Tryz.func135 rfl (.cons h214 .nil)
theorem s215 : SN ads 215 (g215) :=
  mk_snd [] ⟨fun _ => [], fun _ => none⟩ [.int .i64, .int .i64] Tryz.func215 rfl .nil
theorem s216 : SN ads 216 (g216) :=
  mk_snd [] ⟨fun n => match n with | 0 => [(9, .slice), (18, .int .i64)] | _ => [], fun _ => none⟩ [.any, .any, .any, .int .u8] Tryz.func216 rfl .nil
theorem s217 : SN ads 217 (g217) :=
  mk_snd [] ⟨fun _ => [], fun _ => none⟩ [.int .i64] Tryz.func217 rfl .nil
theorem s136 (h215 : SN ads 215 c1) (h216 : SN ads 216 c2) (h217 : SN ads 217 c3) : SN ads 136 (g136 c1 c2 c3) :=
  mk_snd [(nn215, c1), (nn216, c2), (nn217, c3)] ⟨fun _ => [], fun n => match n with | 6 => some [(4, .int .u8)] | 9 => some [(5, .slice)] | 13 => some [(5, .slice)] | _ => none⟩ [.any] Tryz.func136 rfl (.cons h215 (.cons h216 (.cons h217 .nil)))
theorem s139 (h117 : SN ads 117 c1) (h151 : SN ads 151 c2) (h184 : SN ads 184 c3) : SN ads 139 (g139 c1 c2 c3) :=
  mk_snd [(nn117, c1), (nn151, c2), (nn184, c3)] ⟨fun _ => [], fun n => match n with | 17 => some [(11, .bool)] | _ => none⟩ [.ptr, .int .i64, .int .i64, .bool] Tryz.func139 rfl (.cons h117 (.cons h151 (.cons h184 .nil)))
theorem s140 (h58 : SN ads 58 c1) (h112 : SN ads 112 c2) (h207 : SN ads 207 c3) : SN ads 140 (g140 c1 c2 c3) :=
  mk_snd [(nn58, c1), (nn112, c2), (nn207, c3)] ⟨fun n => match n with | 0 => [(15, .int .i64)] | _ => [], fun n => match n with | 8 => some [(11, .int .i64)] | _ => none⟩ [.ptr, .int .i64, .int .i64, .int .i64] Tryz.func140 rfl (.cons h58 (.cons h112 (.cons h207 .nil)))
theorem s189 (h44 : SN ads 44 c1) (h260 : SN ads 260 c2) : SN ads 189 (g189 c1 c2) :=
  mk_snd [(nn44, c1), (nn260, c2)] ⟨fun _ => [], fun _ => none⟩ [.ptr, .int .i64, .int .i64] Tryz.func189 rfl (.cons h44 (.cons h260 .nil))
theorem s310 : SN ads 310 (g310) :=
  mk_snd [] ⟨fun _ => [], fun _ => none⟩ [.slice] Tryz.func310 rfl .nil
theorem s304 (h310 : SN ads 310 c1) : SN ads 304 (g304 c1) :=
  mk_snd [(nn310, c1)] ⟨fun _ => [], fun _ => none⟩ [.ptr, .int .i64] Tryz.func304 rfl (.cons h310 .nil)
theorem s315 : SN ads 315 (g315) :=
  mk_snd [] ⟨fun _ => [], fun n => match n with | 7 => some [(39, .bool)] | _ => none⟩ [.ptr] Tryz.func315 rfl .nil
theorem s323 : SN ads 323 (g323) :=
  mk_snd [] ⟨fun _ => [], fun n => match n with | 4 => some [(0, .int .u64), (2, .int .i64)] | 7 => some [(0, .int .u64), (2, .int .i64)] | 10 => some [(0, .int .u64), (2, .int .i64)] | _ => none⟩ [.int .u64] Tryz.func323 rfl .nil
theorem s322 (h323 : SN ads 323 c1) : SN ads 322 (g322 c1) :=
  mk_snd [(nn323, c1)] ⟨fun _ => [], fun _ => none⟩ [.int .u64] Tryz.func322 rfl (.cons h323 .nil)
theorem s320 (h322 : SN ads 322 c1) : SN ads 320 (g320 c1) :=
  mk_snd [(nn322, c1)] ⟨fun n => match n with | 0 => [(15, .int .u64), (16, .int .u64)] | 2 => [(16, .int .u64), (18, .int .u64)] | _ => [], fun n => match n with | 3 => some [] | 5 => some [] | 21 => some [(15, .int .u64)] | 28 => some [(18, .int .u64)] | _ => none⟩ [.int .u64, .int .u64, .int .u64] Tryz.func320 rfl (.cons h322 .nil)
theorem s321 : SN ads 321 (g321) :=
  mk_snd [] ⟨fun n => match n with | 0 => [(3, .int .u64), (4, .int .u64)] | _ => [], fun n => match n with | 4 => some [(3, .int .u64)] | _ => none⟩ [.int .u64] Tryz.func321 rfl .nil
theorem s319 (h320 : SN ads 320 c1) (h321 : SN ads 321 c2) : SN ads 319 (g319 c1 c2) :=
  mk_snd [(nn320, c1), (nn321, c2)] ⟨fun _ => [], fun _ => none⟩ [.int .u32] Tryz.func319 rfl (.cons h320 (.cons h321 .nil))
theorem s318 (h319 : SN ads 319 c1) : SN ads 318 (g318 c1) :=
  mk_snd [(nn319, c1)] ⟨fun _ => [], fun _ => none⟩ [.int .i64, .int .i64, .int .u32] Tryz.func318 rfl (.cons h319 .nil)
theorem s316 (h315 : SN ads 315 c1) (h318 : SN ads 318 c2) : SN ads 316 (g316 c1 c2) :=
  mk_snd [(nn315, c1), (nn318, c2)] ⟨fun n => match n with | 0 => [(3, .bool)] | _ => [], fun n => match n with | 3 => some [] | 6 => some [] | 11 => some [(3, .bool)] | _ => none⟩ [.ptr] Tryz.func316 rfl (.cons h315 (.cons h318 .nil))
theorem s317 (h315 : SN ads 315 c1) (h318 : SN ads 318 c2) : SN ads 317 (g317 c1 c2) :=
  mk_snd [(nn315, c1), (nn318, c2)] ⟨fun _ => [], fun n => match n with | 7 => some [(56, .bool)] | 8 => some [] | _ => none⟩ [.ptr] Tryz.func317 rfl (.cons h315 (.cons h318 .nil))
theorem s314 (h315 : SN ads 315 c1) (h316 : SN ads 316 c2) (h317 : SN ads 317 c3) : SN ads 314 (g314 c1 c2 c3) :=
  mk_snd [(nn315, c1), (nn316, c2), (nn317, c3)] ⟨fun _ => [], fun _ => none⟩ [.ptr] Tryz.func314 rfl (.cons h315 (.cons h316 (.cons h317 .nil)))
theorem s313 (h314 : SN ads 314 c1) : SN ads 313 (g313 c1) :=
  mk_snd [(nn314, c1)] ⟨fun _ => [], fun _ => none⟩ [.any, .int .i64, .int .i64, .int .i64, .int .i64, .slice] Tryz.func313 rfl (.cons h314 .nil)
theorem s311 (h304 : SN ads 304 c1) (h313 : SN ads 313 c2) : SN ads 311 (g311 c1 c2) :=
  mk_snd [(nn304, c1), (nn313, c2)] ⟨fun n => match n with | 0 => [(9, .slice), (26, .int .i64)] | 2 => [(15, .slice), (68, .int .i64)] | _ => [], fun _ => none⟩ [.ptr, .int .i64, .int .i64] Tryz.func311 rfl (.cons h304 (.cons h313 .nil))
theorem s306 (h304 : SN ads 304 c1) (h311 : SN ads 311 c2) : SN ads 306 (g306 c1 c2) :=
  mk_snd [(nn304, c1), (nn311, c2)] ⟨fun n => match n with | 0 => [(7, .slice)] | _ => [], fun n => match n with | 5 => some [(8, .ptr), (9, .bool)] | _ => none⟩ [.ptr, .int .i64] Tryz.func306 rfl (.cons h304 (.cons h311 .nil))
theorem s295 (h226 : SN ads 226 c1) (h306 : SN ads 306 c2) : SN ads 295 (g295 c1 c2) :=
  mk_snd [(nn226, c1), (nn306, c2)] ⟨fun _ => [], fun _ => none⟩ [.ptr, .int .i64, .int .i64, .int .i64] Tryz.func295 rfl (.cons h226 (.cons h306 .nil))
theorem s312 (h287 : SN ads 287 c1) : SN ads 312 (g312 c1) :=
  mk_snd [(nn287, c1)] ⟨fun _ => [], fun _ => none⟩ [.int .i64, .int .i64] Tryz.func312 rfl (.cons h287 .nil)
theorem s307 (h265 : SN ads 265 c1) (h312 : SN ads 312 c2) : SN ads 307 (g307 c1 c2) :=
  mk_snd [(nn265, c1), (nn312, c2)] ⟨fun _ => [], fun _ => none⟩ [.ptr] Tryz.func307 rfl (.cons h265 (.cons h312 .nil))
theorem s296 (h264 : SN ads 264 c1) (h307 : SN ads 307 c2) : SN ads 296 (g296 c1 c2) :=
  mk_snd [(nn264, c1), (nn307, c2)] ⟨fun _ => [], fun _ => none⟩ [.ptr, .any, .int .i64] Tryz.func296 rfl (.cons h264 (.cons h307 .nil))
theorem s267 (h111 : SN ads 111 c1) (h189 : SN ads 189 c2) (h295 : SN ads 295 c3) (h296 : SN ads 296 c4) : SN ads 267 (g267 c1 c2 c3 c4) :=
  mk_snd [(nn111, c1), (nn189, c2), (nn295, c3), (nn296, c4)] ⟨fun _ => [], fun _ => none⟩ [.ptr, .ptr, .ptr] Tryz.func267 rfl (.cons h111 (.cons h189 (.cons h295 (.cons h296 .nil))))
theorem s144 : SN ads 144 (g144) :=
  mk_snd [] ⟨fun _ => [], fun _ => none⟩ [.int .i64] Tryz.func144 rfl .nil
theorem s145 (h225 : SN ads 225 c1) : SN ads 145 (g145 c1) :=
  mk_snd [(nn225, c1)] ⟨fun _ => [], fun _ => none⟩ [.slice, .int .i64] Tryz.func145 rfl (.cons h225 .nil)
theorem s146 : SN ads 146 (g146) :=
  mk_snd [] ⟨fun _ => [], fun n => match n with | 8 => some [(10, .bool)] | _ => none⟩ [.int .i64] Tryz.func146 rfl .nil
theorem s67 (h144 : SN ads 144 c1) (h145 : SN ads 145 c2) (h146 : SN ads 146 c3) : SN ads 67 (g67 c1 c2 c3) :=
  mk_snd [(nn144, c1), (nn145, c2), (nn146, c3)] ⟨fun _ => [], fun _ => none⟩ [.any] Tryz.func67 rfl (.cons h144 (.cons h145 (.cons h146 .nil)))
theorem s300 : SN ads 300 (g300) :=
  mk_snd [] ⟨fun _ => [], fun _ => none⟩ [.int .i64] Tryz.func300 rfl .nil
theorem s301 (h146 : SN ads 146 c1) (h225 : SN ads 225 c2) : SN ads 301 (g301 c1 c2) :=
  mk_snd [(nn146, c1), (nn225, c2)] ⟨fun _ => [], fun _ => none⟩ [.any] Tryz.func301 rfl (.cons h146 (.cons h225 .nil))
theorem s275 (h67 : SN ads 67 c1) (h300 : SN ads 300 c2) (h301 : SN ads 301 c3) : SN ads 275 (g275 c1 c2 c3) :=
  mk_snd [(nn67, c1), (nn300, c2), (nn301, c3)] ⟨fun _ => [], fun _ => none⟩ [.any] Tryz.func275 rfl (.cons h67 (.cons h300 (.cons h301 .nil)))
theorem s276 (h67 : SN ads 67 c1) : SN ads 276 (g276 c1) :=
  mk_snd [(nn67, c1)] ⟨fun _ => [], fun _ => none⟩ [.any] Tryz.func276 rfl (.cons h67 .nil)
theorem s277 (h67 : SN ads 67 c1) : SN ads 277 (g277 c1) :=
  mk_snd [(nn67, c1)] ⟨fun _ => [], fun _ => none⟩ [.any] Tryz.func277 rfl (.cons h67 .nil)
theorem s222 (h67 : SN ads 67 c1) (h275 : SN ads 275 c2) (h276 : SN ads 276 c3) (h277 : SN ads 277 c4) : SN ads 222 (g222 c1 c2 c3 c4) :=
  mk_snd [(nn67, c1), (nn275, c2), (nn276, c3), (nn277, c4)] ⟨fun _ => [], fun _ => none⟩ [.any, .int .i64] Tryz.func222 rfl (.cons h67 (.cons h275 (.cons h276 (.cons h277 .nil))))
theorem s234 : SN ads 234 (g234) :=
  mk_snd [] ⟨fun _ => [], fun _ => none⟩ [.int .i64] Tryz.func234 rfl .nil
theorem s272 (h234 : SN ads 234 c1) : SN ads 272 (g272 c1) :=
  mk_snd [(nn234, c1)] ⟨fun n => match n with | 0 => [(3, .int .i64), (8, .int .i64)] | _ => [], fun _ => none⟩ [.slice] Tryz.func272 rfl (.cons h234 .nil)
theorem s297 : SN ads 297 (g297) :=
  mk_snd [] ⟨fun _ => [], fun _ => none⟩ [.int .i64] Tryz.func297 rfl .nil
theorem s308 (h297 : SN ads 297 c1) : SN ads 308 (g308 c1) :=
  mk_snd [(nn297, c1)] ⟨fun n => match n with | 0 => [(8, .int .i64)] | _ => [], fun _ => none⟩ [.slice, .any] Tryz.func308 rfl (.cons h297 .nil)
theorem s298 (h308 : SN ads 308 c1) : SN ads 298 (g298 c1) :=
  mk_snd [(nn308, c1)] ⟨fun _ => [], fun _ => none⟩ [.slice, .any] Tryz.func298 rfl (.cons h308 .nil)
theorem s270 (h67 : SN ads 67 c1) (h222 : SN ads 222 c2) (h272 : SN ads 272 c3) (h298 : SN ads 298 c4) : SN ads 270 (g270 c1 c2 c3 c4) :=
  mk_snd [(nn67, c1), (nn222, c2), (nn272, c3), (nn298, c4)] ⟨fun _ => [], fun _ => none⟩ [.any, .any, .slice] Tryz.func270 rfl (.cons h67 (.cons h222 (.cons h272 (.cons h298 .nil))))
theorem s268 (h67 : SN ads 67 c1) (h270 : SN ads 270 c2) (h297 : SN ads 297 c3) : SN ads 268 (g268 c1 c2 c3) :=
  mk_snd [(nn67, c1), (nn270, c2), (nn297, c3)] ⟨fun n => match n with | 0 => [(8, .int .i64)] | _ => [], fun _ => none⟩ [.any, .any, .slice] Tryz.func268 rfl (.cons h67 (.cons h270 (.cons h297 .nil)))
theorem s271 : SN ads 271 (g271) :=
  mk_snd [] ⟨fun _ => [], fun _ => none⟩ [.int .i64] Tryz.func271 rfl .nil
theorem s269 (h271 : SN ads 271 c1) : SN ads 269 (g269 c1) :=
  mk_snd [(nn271, c1)] ⟨fun n => match n with | 0 => [(3, .slice), (8, .int .i64)] | _ => [], fun _ => none⟩ [.slice] Tryz.func269 rfl (.cons h271 .nil)
theorem s218 (h130 : SN ads 130 c1) (h134 : SN ads 134 c2) (h208 : SN ads 208 c3) (h267 : SN ads 267 c4) (h268 : SN ads 268 c5) (h269 : SN ads 269 c6) (h270 : SN ads 270 c7) (h271 : SN ads 271 c8) : SN ads 218 (g218 c1 c2 c3 c4 c5 c6 c7 c8) :=
  mk_snd [(nn130, c1), (nn134, c2), (nn208, c3), (nn267, c4), (nn268, c5), (nn269, c6), (nn270, c7), (nn271, c8)] ⟨fun n => match n with | 0 => [(13, .slice)] | _ => [], fun n => match n with | 8 => some [(13, .slice)] | 14 => some [] | 17 => some [(13, .slice)] | _ => none⟩ [.ptr, .ptr, .ptr, .any, .bool] Tryz.func218 rfl (.cons h130 (.cons h134 (.cons h208 (.cons h267 (.cons h268 (.cons h269 (.cons h270 (.cons h271 .nil))))))))
theorem s219 : SN ads 219 (g219) :=
  mk_snd [] ⟨fun n => match n with | 0 => [(6, .slice), (60, .int .i64)] | _ => [], fun n => match n with | 6 => some [(4, .int .u8)] | 8 => some [(4, .int .u8)] | 10 => some [(5, .int .u8)] | _ => none⟩ [.any] Tryz.func219 rfl .nil
theorem s309 : SN ads 309 (g309) :=
  mk_snd [] ⟨fun _ => [], fun _ => none⟩ [.int .u8] Tryz.func309 rfl .nil
theorem s299 (h309 : SN ads 309 c1) : SN ads 299 (g299 c1) :=
  mk_snd [(nn309, c1)] ⟨fun n => match n with | 0 => [(3, .int .u8), (9, .int .i64)] | 2 => [(3, .int .u8), (5, .int .u8), (13, .int .i64)] | _ => [], fun n => match n with | 11 => some [(3, .int .u8)] | _ => none⟩ [.slice] Tryz.func299 rfl (.cons h309 .nil)
theorem s273 (h237 : SN ads 237 c1) (h299 : SN ads 299 c2) : SN ads 273 (g273 c1 c2) :=
  mk_snd [(nn237, c1), (nn299, c2)] ⟨fun _ => [], fun _ => none⟩ [.slice] Tryz.func273 rfl (.cons h237 (.cons h299 .nil))
theorem s220 (h234 : SN ads 234 c1) (h272 : SN ads 272 c2) (h273 : SN ads 273 c3) : SN ads 220 (g220 c1 c2 c3) :=
  mk_snd [(nn234, c1), (nn272, c2), (nn273, c3)] ⟨fun n => match n with | 0 => [(4, .slice), (13, .int .i64)] | 3 => [(7, .slice), (49, .int .i64)] | _ => [], fun _ => none⟩ [.slice] Tryz.func220 rfl (.cons h234 (.cons h272 (.cons h273 .nil)))
theorem s257 (h293 : SN ads 293 c1) : SN ads 257 (g257 c1) :=
  mk_snd [(nn293, c1)] ⟨fun _ => [], fun _ => none⟩ [.slice, .any] Tryz.func257 rfl (.cons h293 .nil)
theorem s256 (h257 : SN ads 257 c1) : SN ads 256 (g256 c1) :=
  mk_snd [(nn257, c1)] ⟨fun _ => [], fun _ => none⟩ [.ptr] Tryz.func256 rfl (.cons h257 .nil)
theorem s221 (h145 : SN ads 145 c1) (h256 : SN ads 256 c2) (h257 : SN ads 257 c3) : SN ads 221 (g221 c1 c2 c3) :=
  mk_snd [(nn145, c1), (nn256, c2), (nn257, c3)] ⟨fun n => match n with | 0 => [(11, .int .i64)] | 2 => [(40, .int .i64)] | _ => [], fun n => match n with | 5 => some [(29, .bool)] | 16 => some [] | _ => none⟩ [.ptr, .slice] Tryz.func221 rfl (.cons h145 (.cons h256 (.cons h257 .nil)))
theorem s137 (h58 : SN ads 58 c1) (h139 : SN ads 139 c2) (h140 : SN ads 140 c3) (h218 : SN ads 218 c4) (h219 : SN ads 219 c5) (h220 : SN ads 220 c6) (h221 : SN ads 221 c7) : SN ads 137 (g137 c1 c2 c3 c4 c5 c6 c7) :=
  mk_snd [(nn58, c1), (nn139, c2), (nn140, c3), (nn218, c4), (nn219, c5), (nn220, c6), (nn221, c7)] ⟨fun n => match n with | 0 => [(15, .slice), (16, .slice), (77, .int .i64)] | _ => [], fun n => match n with | 18 => some [] | _ => none⟩ [.ptr, .ptr, .ptr, .bool] Tryz.func137 rfl (.cons h58 (.cons h139 (.cons h140 (.cons h218 (.cons h219 (.cons h220 (.cons h221 .nil)))))))
theorem s138 (h151 : SN ads 151 c1) : SN ads 138 (g138 c1) :=
  mk_snd [(nn151, c1)] ⟨fun _ => [], fun _ => none⟩ [.ptr, .int .i64] Tryz.func138 rfl (.cons h151 .nil)
theorem s65 (h58 : SN ads 58 c1) (h125 : SN ads 125 c2) (h127 : SN ads 127 c3) (h128 : SN ads 128 c4) (h129 : SN ads 129 c5) (h130 : SN ads 130 c6) (h131 : SN ads 131 c7) (h132 : SN ads 132 c8) (h133 : SN ads 133 c9) (h134 : SN ads 134 c10) (h135 : SN ads 135 c11) (h136 : SN ads 136 c12) (h137 : SN ads 137 c13) (h138 : SN ads 138 c14) (h139 : SN ads 139 c15) (h140 : SN ads 140 c16) : SN ads 65 (g65 c1 c2 c3 c4 c5 c6 c7 c8 c9 c10 c11 c12 c13 c14 c15 c16) :=
  mk_snd [(nn58, c1), (nn125, c2), (nn127, c3), (nn128, c4), (nn129, c5), (nn130, c6), (nn131, c7), (nn132, c8), (nn133, c9), (nn134, c10), (nn135, c11), (nn136, c12), (nn137, c13), (nn138, c14), (nn139, c15), (nn140, c16)] ⟨fun _ => [], fun n => match n with | 8 => some [(12, .int .i64)] | 16 => some [(131, .bool)] | 22 => some [] | _ => none⟩ [.ptr, .int .i64, .int .i64] Tryz.func65 rfl (.cons h58 (.cons h125 (.cons h127 (.cons h128 (.cons h129 (.cons h130 (.cons h131 (.cons h132 (.cons h133 (.cons h134 (.cons h135 (.cons h136 (.cons h137 (.cons h138 (.cons h139 (.cons h140 .nil))))))))))))))))
theorem s223 (h222 : SN ads 222 c1) : SN ads 223 (g223 c1) :=
  mk_snd [(nn222, c1)] ⟨fun _ => [], fun _ => none⟩ [] Tryz.func223 rfl (.cons h222 .nil)
theorem s141 (h222 : SN ads 222 c1) (h223 : SN ads 223 c2) : SN ads 141 (g141 c1 c2) :=
  mk_snd [(nn222, c1), (nn223, c2)] ⟨fun _ => [], fun _ => none⟩ [.any, .int .i64] Tryz.func141 rfl (.cons h222 (.cons h223 .nil))
theorem s224 (h120 : SN ads 120 c1) (h205 : SN ads 205 c2) (h206 : SN ads 206 c3) : SN ads 224 (g224 c1 c2 c3) :=
  mk_snd [(nn120, c1), (nn205, c2), (nn206, c3)] ⟨fun _ => [], fun _ => none⟩ [.any, .int .i64] Tryz.func224 rfl (.cons h120 (.cons h205 (.cons h206 .nil)))
theorem s142 (h150 : SN ads 150 c1) (h224 : SN ads 224 c2) : SN ads 142 (g142 c1 c2) :=
  mk_snd [(nn150, c1), (nn224, c2)] ⟨fun _ => [], fun n => match n with | 9 => some [] | _ => none⟩ [.ptr, .int .i64, .int .i64] Tryz.func142 rfl (.cons h150 (.cons h224 .nil))
theorem s143 (h108 : SN ads 108 c1) (h122 : SN ads 122 c2) : SN ads 143 (g143 c1 c2) :=
  mk_snd [(nn108, c1), (nn122, c2)] ⟨fun _ => [], fun _ => none⟩ [.ptr, .int .i64, .int .i64] Tryz.func143 rfl (.cons h108 (.cons h122 .nil))
theorem s66 (h58 : SN ads 58 c1) (h141 : SN ads 141 c2) (h142 : SN ads 142 c3) (h143 : SN ads 143 c4) : SN ads 66 (g66 c1 c2 c3 c4) :=
  mk_snd [(nn58, c1), (nn141, c2), (nn142, c3), (nn143, c4)] ⟨fun _ => [], fun _ => none⟩ [.ptr, .ptr, .int .i64] Tryz.func66 rfl (.cons h58 (.cons h141 (.cons h142 (.cons h143 .nil))))
theorem s20 (h57 : SN ads 57 c1) (h58 : SN ads 58 c2) (h59 : SN ads 59 c3) (h60 : SN ads 60 c4) (h61 : SN ads 61 c5) (h62 : SN ads 62 c6) (h63 : SN ads 63 c7) (h64 : SN ads 64 c8) (h65 : SN ads 65 c9) (h66 : SN ads 66 c10) : SN ads 20 (g20 c1 c2 c3 c4 c5 c6 c7 c8 c9 c10) :=
  mk_snd [(nn57, c1), (nn58, c2), (nn59, c3), (nn60, c4), (nn61, c5), (nn62, c6), (nn63, c7), (nn64, c8), (nn65, c9), (nn66, c10)] ⟨fun n => match n with | 0 => [(36, .int .i64)] | 2 => [(40, .int .i64)] | 4 => [(82, .int .i64)] | 6 => [(98, .int .i64)] | _ => [], fun n => match n with | 13 => some [] | 29 => some [] | _ => none⟩ [.ptr, .int .i64, .any] Tryz.func20 rfl (.cons h57 (.cons h58 (.cons h59 (.cons h60 (.cons h61 (.cons h62 (.cons h63 (.cons h64 (.cons h65 (.cons h66 .nil))))))))))
theorem s147 : SN ads 147 (g147) :=
  mk_snd [] ⟨fun n => match n with | 0 => [(12, .int .i64)] | _ => [], fun _ => none⟩ [.ptr, .any] Tryz.func147 rfl .nil
theorem s68 (h55 : SN ads 55 c1) (h147 : SN ads 147 c2) : SN ads 68 (g68 c1 c2) :=
  mk_snd [(nn55, c1), (nn147, c2)] ⟨fun n => match n with | 0 => [(22, .int .i64)] | _ => [], fun _ => none⟩ [.ptr, .any] Tryz.func68 rfl (.cons h55 (.cons h147 .nil))
theorem s149 : SN ads 149 (g149) :=
  mk_snd [] ⟨fun _ => [], fun _ => none⟩ [.int .i64] Tryz.func149 rfl .nil
theorem s69 (h148 : SN ads 148 c1) (h149 : SN ads 149 c2) (h150 : SN ads 150 c3) : SN ads 69 (g69 c1 c2 c3) :=
  mk_snd [(nn148, c1), (nn149, c2), (nn150, c3)] ⟨fun _ => [], fun _ => none⟩ [.ptr, .int .i64, .int .i64] Tryz.func69 rfl (.cons h148 (.cons h149 (.cons h150 .nil)))
theorem s70 (h151 : SN ads 151 c1) : SN ads 70 (g70 c1) :=
  mk_snd [(nn151, c1)] ⟨fun _ => [], fun _ => none⟩ [.ptr, .int .i64, .any, .int .i64] Tryz.func70 rfl (.cons h151 .nil)
theorem s21 (h51 : SN ads 51 c1) (h55 : SN ads 55 c2) (h67 : SN ads 67 c3) (h68 : SN ads 68 c4) (h69 : SN ads 69 c5) (h70 : SN ads 70 c6) : SN ads 21 (g21 c1 c2 c3 c4 c5 c6) :=
  mk_snd [(nn51, c1), (nn55, c2), (nn67, c3), (nn68, c4), (nn69, c5), (nn70, c6)] ⟨fun n => match n with | 1 => [(71, .int .i64)] | 3 => [(107, .int .i64)] | _ => [], fun _ => none⟩ [.ptr, .any, .any, .int .i64, .any, .int .i64] Tryz.func21 rfl (.cons h51 (.cons h55 (.cons h67 (.cons h68 (.cons h69 (.cons h70 .nil))))))
theorem s22 : SN ads 22 (g22) :=
  mk_snd [] ⟨fun _ => [], fun _ => none⟩ [.int .i64] Tryz.func22 rfl .nil
theorem s6 (h9 : SN ads 9 c1) (h19 : SN ads 19 c2) (h20 : SN ads 20 c3) (h21 : SN ads 21 c4) (h22 : SN ads 22 c5) : SN ads 6 (g6 c1 c2 c3 c4 c5) :=
  mk_snd [(nn9, c1), (nn19, c2), (nn20, c3), (nn21, c4), (nn22, c5)] ⟨fun _ => [], fun _ => none⟩ [] Tryz.func6 rfl (.cons h9 (.cons h19 (.cons h20 (.cons h21 (.cons h22 .nil)))))
theorem s8 (h19 : SN ads 19 c1) : SN ads 8 (g8 c1) :=
  mk_snd [(nn19, c1)] ⟨fun _ => [], fun _ => none⟩ [.any, .int .i64] Tryz.func8 rfl (.cons h19 .nil)
theorem s24 : SN ads 24 (g24) :=
  mk_snd [] ⟨fun _ => [], fun _ => none⟩ [.any, .any, .int .i64] Tryz.func24 rfl .nil
theorem s95 : SN ads 95 (g95) :=
  mk_snd [] ⟨fun _ => [], fun _ => none⟩ [.ptr, .ptr] Tryz.func95 rfl .nil
end
end Go.Proofs.YthooeildnkfpkaaGreatDoor
