/- The printed functions are the machine's own, by the kernel. -/
import Derived.Test.YtdkopdoicepgmaaGreatDoorGgD1
import Derived.Test.YtdkopdoicepgmaaGreatDoorRows
set_option linter.unusedVariables false
set_option linter.constructorNameAsVariable false
set_option maxRecDepth 100000
namespace Go.Proofs.YtdkopdoicepgmaaGreatDoor
open Go.Vc Go.Ab
noncomputable section
variable (v1 v2 : AV) (l1 l2 l3 l4 : List AV) (L1 L2 : List AP) (d1 d2 d3 d4 : DV) (R1 : List DV) (n1 n2 n3 n4 n5 n6 n7 n8 : Int) (m1 m2 m3 m4 : Nat) (t1 t2 t3 t4 : Bool) (p1 p2 p3 p4 p5 : AP) (b1 b2 b3 b4 b5 : P4) (s1 s2 s3 : AS) (H1 : AH) (x1 x2 : List Int) (c1 c2 c3 c4 c5 c6 c7 c8 c9 c10 c11 c12 c13 c14 c15 : G DV) (Ka1 Ka2 : AH → Option DV) (Kb1 Kb2 : DV → AH → Option DV) (Kc1 Kc2 : DV → DV → AH → Option DV) (Kd1 : DV → DV → DV → AH → Option DV)
variable {ads : List Addr}
theorem k187 : SN ads 187 (g187) :=
  mk_snd [] ⟨fun _ => [], fun _ => none⟩ [.int .u32, .int .i64, .int .i64] Tryz.func187 rfl .nil
theorem k106 (h187 : SN ads 187 c1) : SN ads 106 (g106 c1) :=
  mk_snd [(nn187, c1)] ⟨fun n => match n with | 0 => [(5, .int .i64)] | _ => [], fun _ => none⟩ [.ptr, .int .i64] Tryz.func106 rfl (.cons h187 .nil)
theorem k48 (h106 : SN ads 106 c1) : SN ads 48 (g48 c1) :=
  mk_snd [(nn106, c1)] ⟨fun n => match n with | 0 => [(36, .int .i64)] | _ => [], fun _ => none⟩ [.int .u32, .int .i64, .int .i64, .int .i64, .int .i64] Tryz.func48 rfl (.cons h106 .nil)
theorem k107 : SN ads 107 (g107) :=
  mk_snd [] ⟨fun _ => [], fun _ => none⟩ [.int .i64, .int .i64] Tryz.func107 rfl .nil
theorem k49 (h107 : SN ads 107 c1) : SN ads 49 (g49 c1) :=
  mk_snd [(nn107, c1)] ⟨fun _ => [], fun _ => none⟩ [.int .i64, .int .i64, .int .i64] Tryz.func49 rfl (.cons h107 .nil)
theorem k108 : SN ads 108 (g108) :=
  mk_snd [] ⟨fun _ => [], fun _ => none⟩ [.int .i64] Tryz.func108 rfl .nil
theorem k50 (h108 : SN ads 108 c1) : SN ads 50 (g50 c1) :=
  mk_snd [(nn108, c1)] ⟨fun _ => [], fun _ => none⟩ [.int .i64, .int .i64] Tryz.func50 rfl (.cons h108 .nil)
theorem k51 : SN ads 51 (g51) :=
  mk_snd [] ⟨fun _ => [], fun _ => none⟩ [.int .i64] Tryz.func51 rfl .nil
theorem k109 (h51 : SN ads 51 c1) : SN ads 109 (g109 c1) :=
  mk_snd [(nn51, c1)] ⟨fun n => match n with | 0 => [(8, .int .i64)] | _ => [], fun _ => none⟩ [.slice, .any] Tryz.func109 rfl (.cons h51 .nil)
theorem k52 (h109 : SN ads 109 c1) : SN ads 52 (g52 c1) :=
  mk_snd [(nn109, c1)] ⟨fun _ => [], fun _ => none⟩ [.slice, .any] Tryz.func52 rfl (.cons h109 .nil)
theorem k53 : SN ads 53 (g53) :=
  mk_snd [] ⟨fun _ => [], fun _ => none⟩ [.any] Tryz.func53 rfl .nil
theorem k54 : SN ads 54 (g54) :=
  mk_snd [] ⟨fun _ => [], fun _ => none⟩ [] Tryz.func54 rfl .nil
theorem k24 (h48 : SN ads 48 c1) (h49 : SN ads 49 c2) (h50 : SN ads 50 c3) (h52 : SN ads 52 c4) (h53 : SN ads 53 c5) (h54 : SN ads 54 c6) : SN ads 24 (g24 c1 c2 c3 c4 c5 c6) :=
  mk_snd [(nn48, c1), (nn49, c2), (nn50, c3), (nn52, c4), (nn53, c5), (nn54, c6)] ⟨fun n => match n with | 0 => [(99, .int .i64)] | _ => [], fun _ => none⟩ [.any] Tryz.func24 rfl (.cons h48 (.cons h49 (.cons h50 (.cons h52 (.cons h53 (.cons h54 .nil))))))
theorem k25 : SN ads 25 (g25) :=
  mk_snd [] ⟨fun _ => [], fun _ => none⟩ [.any, .any, .int .i64] Tryz.func25 rfl .nil
theorem k26 : SN ads 26 (g26) :=
  mk_snd [] ⟨fun _ => [], fun _ => none⟩ [.int .i64] Tryz.func26 rfl .nil
theorem k11 (h24 : SN ads 24 c1) (h25 : SN ads 25 c2) (h26 : SN ads 26 c3) : SN ads 11 (g11 c1 c2 c3) :=
  mk_snd [(nn24, c1), (nn25, c2), (nn26, c3)] ⟨fun _ => [], fun _ => none⟩ [.any, .int .i64] Tryz.func11 rfl (.cons h24 (.cons h25 (.cons h26 .nil)))
theorem k5 (h11 : SN ads 11 c1) : SN ads 5 (g5 c1) :=
  mk_snd [(nn11, c1)] ⟨fun _ => [], fun _ => none⟩ [] Tryz.func5 rfl (.cons h11 .nil)
theorem k14 : SN ads 14 (g14) :=
  mk_snd [] ⟨fun _ => [], fun _ => none⟩ [.str] Tryz.func14 rfl .nil
theorem k27 (h14 : SN ads 14 c1) : SN ads 27 (g27 c1) :=
  mk_snd [(nn14, c1)] ⟨fun n => match n with | 0 => [(8, .int .i64)] | _ => [], fun _ => none⟩ [.slice, .any] Tryz.func27 rfl (.cons h14 .nil)
theorem k12 (h14 : SN ads 14 c1) (h27 : SN ads 27 c2) : SN ads 12 (g12 c1 c2) :=
  mk_snd [(nn14, c1), (nn27, c2)] ⟨fun n => match n with | 0 => [(5, .int .i64), (6, .int .i64)] | _ => [], fun n => match n with | 6 => some [(5, .int .i64)] | _ => none⟩ [.slice, .any] Tryz.func12 rfl (.cons h14 (.cons h27 .nil))
theorem k28 (h29 : SN ads 29 c1) (h56 : SN ads 56 c2) : SN ads 28 (g28 c1 c2) :=
  mk_snd [(nn29, c1), (nn56, c2)] ⟨fun n => match n with | 0 => [(0, .str), (10, .int .i64)] | _ => [], fun n => match n with | 7 => some [(3, .int .i64)] | 17 => some [(0, .str), (10, .int .i64)] | _ => none⟩ [.str, .str, .int .i64, .int .i64] Tryz.func28 rfl (.cons h29 (.cons h56 .nil))
theorem k13 (h28 : SN ads 28 c1) : SN ads 13 (g13 c1) :=
  mk_snd [(nn28, c1)] ⟨fun _ => [], fun _ => none⟩ [.str, .str] Tryz.func13 rfl (.cons h28 .nil)
theorem k15 (h29 : SN ads 29 c1) : SN ads 15 (g15 c1) :=
  mk_snd [(nn29, c1)] ⟨fun _ => [], fun _ => none⟩ [.str, .str] Tryz.func15 rfl (.cons h29 .nil)
theorem k16 : SN ads 16 (g16) :=
  mk_snd [] ⟨fun _ => [], fun n => match n with | 7 => some [(6, .bool)] | 11 => some [(12, .bool)] | 17 => some [(18, .bool)] | _ => none⟩ [.str] Tryz.func16 rfl .nil
theorem k60 : SN ads 60 (g60) :=
  mk_snd [] ⟨fun n => match n with | 0 => [(4, .int .i64)] | _ => [], fun _ => none⟩ [.str] Tryz.func60 rfl .nil
theorem k117 : SN ads 117 (g117) :=
  mk_snd [] ⟨fun _ => [], fun _ => none⟩ [.ptr, .int .u8] Tryz.func117 rfl .nil
theorem k61 (h117 : SN ads 117 c1) : SN ads 61 (g61 c1) :=
  mk_snd [(nn117, c1)] ⟨fun n => match n with | 0 => [(0, .str)] | _ => [], fun n => match n with | 4 => some [(0, .str)] | _ => none⟩ [.str, .ptr] Tryz.func61 rfl (.cons h117 .nil)
theorem k62 (h117 : SN ads 117 c1) : SN ads 62 (g62 c1) :=
  mk_snd [(nn117, c1)] ⟨fun n => match n with | 0 => [(0, .str)] | _ => [], fun n => match n with | 4 => some [(0, .str)] | _ => none⟩ [.str, .ptr] Tryz.func62 rfl (.cons h117 .nil)
theorem k30 (h60 : SN ads 60 c1) (h61 : SN ads 61 c2) (h62 : SN ads 62 c3) : SN ads 30 (g30 c1 c2 c3) :=
  mk_snd [(nn60, c1), (nn61, c2), (nn62, c3)] ⟨fun _ => [], fun _ => none⟩ [.str, .str] Tryz.func30 rfl (.cons h60 (.cons h61 (.cons h62 .nil)))
theorem k65 : SN ads 65 (g65) :=
  mk_snd [] ⟨fun n => match n with | 0 => [(6, .int .i64), (49, .int .i64)] | _ => [], fun n => match n with | 8 => some [(0, .str)] | 19 => some [(6, .int .i64)] | _ => none⟩ [.str] Tryz.func65 rfl .nil
theorem k31 (h65 : SN ads 65 c1) : SN ads 31 (g31 c1) :=
  mk_snd [(nn65, c1)] ⟨fun _ => [], fun _ => none⟩ [.str] Tryz.func31 rfl (.cons h65 .nil)
theorem k17 (h30 : SN ads 30 c1) (h31 : SN ads 31 c2) : SN ads 17 (g17 c1 c2) :=
  mk_snd [(nn30, c1), (nn31, c2)] ⟨fun _ => [], fun _ => none⟩ [.str] Tryz.func17 rfl (.cons h30 (.cons h31 .nil))
theorem k205 : SN ads 205 (g205) :=
  mk_snd [] ⟨fun _ => [], fun _ => none⟩ [.int .i64] Tryz.func205 rfl .nil
theorem k285 : SN ads 285 (g285) :=
  mk_snd [] ⟨fun n => match n with | 0 => [(8, .int .i64)] | _ => [], fun _ => none⟩ [.slice, .int .i64] Tryz.func285 rfl .nil
theorem k206 (h285 : SN ads 285 c1) : SN ads 206 (g206 c1) :=
  mk_snd [(nn285, c1)] ⟨fun _ => [], fun _ => none⟩ [.slice, .int .i64] Tryz.func206 rfl (.cons h285 .nil)
theorem k207 : SN ads 207 (g207) :=
  mk_snd [] ⟨fun _ => [], fun n => match n with | 8 => some [(10, .bool)] | _ => none⟩ [.int .i64] Tryz.func207 rfl .nil
theorem k134 (h205 : SN ads 205 c1) (h206 : SN ads 206 c2) (h207 : SN ads 207 c3) : SN ads 134 (g134 c1 c2 c3) :=
  mk_snd [(nn205, c1), (nn206, c2), (nn207, c3)] ⟨fun _ => [], fun _ => none⟩ [.any] Tryz.func134 rfl (.cons h205 (.cons h206 (.cons h207 .nil)))
theorem k167 : SN ads 167 (g167) :=
  mk_snd [] ⟨fun n => match n with | 0 => [(12, .int .i64)] | _ => [], fun _ => none⟩ [.ptr, .any] Tryz.func167 rfl .nil
theorem k135 (h53 : SN ads 53 c1) (h167 : SN ads 167 c2) : SN ads 135 (g135 c1 c2) :=
  mk_snd [(nn53, c1), (nn167, c2)] ⟨fun n => match n with | 0 => [(22, .int .i64)] | _ => [], fun _ => none⟩ [.ptr, .any] Tryz.func135 rfl (.cons h53 (.cons h167 .nil))
theorem k208 : SN ads 208 (g208) :=
  mk_snd [] ⟨fun _ => [], fun _ => none⟩ [.int .i64] Tryz.func208 rfl .nil
theorem k209 : SN ads 209 (g209) :=
  mk_snd [] ⟨fun _ => [], fun _ => none⟩ [.int .i64] Tryz.func209 rfl .nil
theorem k210 (h208 : SN ads 208 c1) : SN ads 210 (g210 c1) :=
  mk_snd [(nn208, c1)] ⟨fun _ => [], fun _ => none⟩ [.ptr, .int .i64] Tryz.func210 rfl (.cons h208 .nil)
theorem k136 (h208 : SN ads 208 c1) (h209 : SN ads 209 c2) (h210 : SN ads 210 c3) : SN ads 136 (g136 c1 c2 c3) :=
  mk_snd [(nn208, c1), (nn209, c2), (nn210, c3)] ⟨fun _ => [], fun _ => none⟩ [.ptr, .int .i64, .int .i64] Tryz.func136 rfl (.cons h208 (.cons h209 (.cons h210 .nil)))
theorem k130 : SN ads 130 (g130) :=
  mk_snd [] ⟨fun _ => [], fun _ => none⟩ [.ptr, .int .i64] Tryz.func130 rfl .nil
theorem k137 (h130 : SN ads 130 c1) : SN ads 137 (g137 c1) :=
  mk_snd [(nn130, c1)] ⟨fun _ => [], fun _ => none⟩ [.ptr, .int .i64, .any, .int .i64] Tryz.func137 rfl (.cons h130 .nil)
theorem k81 (h49 : SN ads 49 c1) (h53 : SN ads 53 c2) (h134 : SN ads 134 c3) (h135 : SN ads 135 c4) (h136 : SN ads 136 c5) (h137 : SN ads 137 c6) : SN ads 81 (g81 c1 c2 c3 c4 c5 c6) :=
  mk_snd [(nn49, c1), (nn53, c2), (nn134, c3), (nn135, c4), (nn136, c5), (nn137, c6)] ⟨fun n => match n with | 1 => [(71, .int .i64)] | 3 => [(107, .int .i64)] | _ => [], fun _ => none⟩ [.ptr, .any, .any, .int .i64, .any, .int .i64] Tryz.func81 rfl (.cons h49 (.cons h53 (.cons h134 (.cons h135 (.cons h136 (.cons h137 .nil))))))
theorem k42 (h25 : SN ads 25 c1) (h26 : SN ads 26 c2) (h81 : SN ads 81 c3) : SN ads 42 (g42 c1 c2 c3) :=
  mk_snd [(nn25, c1), (nn26, c2), (nn81, c3)] ⟨fun n => match n with | 1 => [(29, .int .i64)] | _ => [], fun n => match n with | 12 => some [(9, .int .i64), (10, .any)] | _ => none⟩ [.ptr, .ptr, .any] Tryz.func42 rfl (.cons h25 (.cons h26 (.cons h81 .nil)))
theorem k92 : SN ads 92 (g92) :=
  mk_snd [] ⟨fun _ => [], fun n => match n with | 9 => some [(9, .bool)] | _ => none⟩ [.slice] Tryz.func92 rfl .nil
theorem k299 : SN ads 299 (g299) :=
  mk_snd [] ⟨fun _ => [], fun _ => none⟩ [.int .i64, .int .i64] Tryz.func299 rfl .nil
theorem k300 : SN ads 300 (g300) :=
  mk_snd [] ⟨fun n => match n with | 0 => [(9, .slice), (18, .int .i64)] | _ => [], fun _ => none⟩ [.any, .any, .any, .int .u8] Tryz.func300 rfl .nil
theorem k301 : SN ads 301 (g301) :=
  mk_snd [] ⟨fun _ => [], fun _ => none⟩ [.int .i64] Tryz.func301 rfl .nil
theorem k233 (h299 : SN ads 299 c1) (h300 : SN ads 300 c2) (h301 : SN ads 301 c3) : SN ads 233 (g233 c1 c2 c3) :=
  mk_snd [(nn299, c1), (nn300, c2), (nn301, c3)] ⟨fun _ => [], fun n => match n with | 6 => some [(4, .int .u8)] | 9 => some [(5, .slice)] | 13 => some [(5, .slice)] | _ => none⟩ [.any] Tryz.func233 rfl (.cons h299 (.cons h300 (.cons h301 .nil)))
theorem k252 (h313 : SN ads 313 c1) : SN ads 252 (g252 c1) :=
  mk_snd [(nn313, c1)] ⟨fun _ => [], fun _ => none⟩ [.slice, .int .i64, .slice] Tryz.func252 rfl (.cons h313 .nil)
theorem k253 : SN ads 253 (g253) :=
  mk_snd [] ⟨fun n => match n with | 0 => [(7, .int .i64)] | _ => [], fun _ => none⟩ [.slice] Tryz.func253 rfl .nil
theorem k254 : SN ads 254 (g254) :=
  mk_snd [] ⟨fun _ => [], fun _ => none⟩ [.slice] Tryz.func254 rfl .nil
theorem k150 (h80 : SN ads 80 c1) (h233 : SN ads 233 c2) (h252 : SN ads 252 c3) (h253 : SN ads 253 c4) (h254 : SN ads 254 c5) : SN ads 150 (g150 c1 c2 c3 c4 c5) :=
  mk_snd [(nn80, c1), (nn233, c2), (nn252, c3), (nn253, c4), (nn254, c5)] ⟨fun _ => [], fun n => match n with | 10 => some [(6, .slice)] | 14 => some [] | _ => none⟩ [.slice] Tryz.func150 rfl (.cons h80 (.cons h233 (.cons h252 (.cons h253 (.cons h254 .nil)))))
theorem k131 : SN ads 131 (g131) :=
  mk_snd [] ⟨fun _ => [], fun _ => none⟩ [.ptr, .int .i64] Tryz.func131 rfl .nil
theorem k169 (h131 : SN ads 131 c1) (h167 : SN ads 167 c2) : SN ads 169 (g169 c1 c2) :=
  mk_snd [(nn131, c1), (nn167, c2)] ⟨fun _ => [], fun n => match n with | 2 => some [(29, .bool)] | _ => none⟩ [.ptr, .any, .any, .any, .int .i64] Tryz.func169 rfl (.cons h131 (.cons h167 .nil))
theorem k269 : SN ads 269 (g269) :=
  mk_snd [] ⟨fun _ => [], fun _ => none⟩ [.ptr, .int .i64] Tryz.func269 rfl .nil
theorem k170 (h269 : SN ads 269 c1) : SN ads 170 (g170 c1) :=
  mk_snd [(nn269, c1)] ⟨fun _ => [], fun n => match n with | 11 => some [(9, .int .i64)] | _ => none⟩ [.ptr, .int .i64, .int .i64, .int .i64] Tryz.func170 rfl (.cons h269 .nil)
theorem k171 : SN ads 171 (g171) :=
  mk_snd [] ⟨fun _ => [], fun _ => none⟩ [.ptr] Tryz.func171 rfl .nil
theorem k94 (h150 : SN ads 150 c1) (h169 : SN ads 169 c2) (h170 : SN ads 170 c3) (h171 : SN ads 171 c4) : SN ads 94 (g94 c1 c2 c3 c4) :=
  mk_snd [(nn150, c1), (nn169, c2), (nn170, c3), (nn171, c4)] ⟨fun _ => [], fun n => match n with | 15 => some [] | _ => none⟩ [.ptr, .slice] Tryz.func94 rfl (.cons h150 (.cons h169 (.cons h170 (.cons h171 .nil))))
theorem k44 (h92 : SN ads 92 c1) (h94 : SN ads 94 c2) : SN ads 44 (g44 c1 c2) :=
  mk_snd [(nn92, c1), (nn94, c2)] ⟨fun _ => [], fun n => match n with | 9 => some [(5, .any)] | _ => none⟩ [.ptr, .slice] Tryz.func44 rfl (.cons h92 (.cons h94 .nil))
theorem k75 : SN ads 75 (g75) :=
  mk_snd [] ⟨fun n => match n with | 0 => [(3, .slice), (10, .int .i64)] | _ => [], fun n => match n with | 7 => some [(3, .slice)] | _ => none⟩ [.ptr] Tryz.func75 rfl .nil
theorem k202 : SN ads 202 (g202) :=
  mk_snd [] ⟨fun _ => [], fun _ => none⟩ [.any] Tryz.func202 rfl .nil
theorem k67 : SN ads 67 (g67) :=
  mk_snd [] ⟨fun _ => [], fun _ => none⟩ [.slice] Tryz.func67 rfl .nil
theorem k284 (h67 : SN ads 67 c1) : SN ads 284 (g284 c1) :=
  mk_snd [(nn67, c1)] ⟨fun _ => [], fun _ => none⟩ [.any] Tryz.func284 rfl (.cons h67 .nil)
theorem k312 : SN ads 312 (g312) :=
  mk_snd [] ⟨fun _ => [], fun _ => none⟩ [.int .i64] Tryz.func312 rfl .nil
theorem k248 (h312 : SN ads 312 c1) : SN ads 248 (g248 c1) :=
  mk_snd [(nn312, c1)] ⟨fun _ => [], fun _ => none⟩ [.int .i64, .int .i64] Tryz.func248 rfl (.cons h312 .nil)
theorem k317 (h248 : SN ads 248 c1) : SN ads 317 (g317 c1) :=
  mk_snd [(nn248, c1)] ⟨fun _ => [], fun _ => none⟩ [.any, .ptr] Tryz.func317 rfl (.cons h248 .nil)
theorem k320 (h248 : SN ads 248 c1) (h317 : SN ads 317 c2) : SN ads 320 (g320 c1 c2) :=
  mk_snd [(nn248, c1), (nn317, c2)] ⟨fun _ => [], fun _ => none⟩ [.any, .ptr, .ptr] Tryz.func320 rfl (.cons h248 (.cons h317 .nil))
theorem k201 (h202 : SN ads 202 c1) (h284 : SN ads 284 c2) (h320 : SN ads 320 c3) : SN ads 201 (g201 c1 c2 c3) :=
  mk_snd [(nn202, c1), (nn284, c2), (nn320, c3)] ⟨fun n => match n with | 0 => [(5, .slice), (13, .int .i64)] | _ => [], fun n => match n with | 7 => some [(5, .slice)] | _ => none⟩ [.ptr, .any] Tryz.func201 rfl (.cons h202 (.cons h284 (.cons h320 .nil)))
theorem k132 (h201 : SN ads 201 c1) : SN ads 132 (g132 c1) :=
  mk_snd [(nn201, c1)] ⟨fun _ => [], fun _ => none⟩ [.ptr] Tryz.func132 rfl (.cons h201 .nil)
theorem k173 : SN ads 173 (g173) :=
  mk_snd [] ⟨fun n => match n with | 0 => [(10, .int .i64)] | _ => [], fun _ => none⟩ [.ptr, .int .i64, .slice] Tryz.func173 rfl .nil
theorem k342 : SN ads 342 (g342) :=
  mk_snd [] ⟨fun _ => [], fun _ => none⟩ [.any, .ptr] Tryz.func342 rfl .nil
theorem k350 : SN ads 350 (g350) :=
  mk_snd [] ⟨fun _ => [], fun _ => none⟩ [.any] Tryz.func350 rfl .nil
theorem k351 (h317 : SN ads 317 c1) (h320 : SN ads 320 c2) (h342 : SN ads 342 c3) (h350 : SN ads 350 c4) : SN ads 351 (g351 c1 c2 c3 c4) :=
  mk_snd [(nn317, c1), (nn320, c2), (nn342, c3), (nn350, c4)] ⟨fun n => match n with | 0 => [(8, .int .i64)] | _ => [], fun _ => none⟩ [.slice, .any] Tryz.func351 rfl (.cons h317 (.cons h320 (.cons h342 (.cons h350 .nil))))
theorem k333 (h320 : SN ads 320 c1) (h351 : SN ads 351 c2) : SN ads 333 (g333 c1 c2) :=
  mk_snd [(nn320, c1), (nn351, c2)] ⟨fun n => match n with | 0 => [(5, .int .i64), (6, .int .i64)] | _ => [], fun n => match n with | 6 => some [(5, .int .i64)] | _ => none⟩ [.slice, .any] Tryz.func333 rfl (.cons h320 (.cons h351 .nil))
theorem k334 : SN ads 334 (g334) :=
  mk_snd [] ⟨fun _ => [], fun _ => none⟩ [.slice] Tryz.func334 rfl .nil
theorem k355 : SN ads 355 (g355) :=
  mk_snd [] ⟨fun _ => [], fun _ => none⟩ [.slice, .int .i64, .int .i64] Tryz.func355 rfl .nil
theorem k356 : SN ads 356 (g356) :=
  mk_snd [] ⟨fun _ => [], fun _ => none⟩ [.slice] Tryz.func356 rfl .nil
theorem k335 (h285 : SN ads 285 c1) (h355 : SN ads 355 c2) (h356 : SN ads 356 c3) : SN ads 335 (g335 c1 c2 c3) :=
  mk_snd [(nn285, c1), (nn355, c2), (nn356, c3)] ⟨fun _ => [], fun n => match n with | 8 => some [] | _ => none⟩ [.ptr, .int .i64] Tryz.func335 rfl (.cons h285 (.cons h355 (.cons h356 .nil)))
theorem k287 (h201 : SN ads 201 c1) (h333 : SN ads 333 c2) (h334 : SN ads 334 c3) (h335 : SN ads 335 c4) : SN ads 287 (g287 c1 c2 c3 c4) :=
  mk_snd [(nn201, c1), (nn333, c2), (nn334, c3), (nn335, c4)] ⟨fun n => match n with | 0 => [(23, .int .i64)] | _ => [], fun n => match n with | 7 => some [] | _ => none⟩ [.ptr, .any] Tryz.func287 rfl (.cons h201 (.cons h333 (.cons h334 (.cons h335 .nil))))
theorem k211 (h287 : SN ads 287 c1) : SN ads 211 (g211 c1) :=
  mk_snd [(nn287, c1)] ⟨fun n => match n with | 0 => [(7, .slice), (18, .int .i64)] | _ => [], fun n => match n with | 9 => some [(7, .slice)] | 13 => some [] | _ => none⟩ [.ptr, .int .i64] Tryz.func211 rfl (.cons h287 .nil)
theorem k138 (h132 : SN ads 132 c1) (h173 : SN ads 173 c2) (h211 : SN ads 211 c3) : SN ads 138 (g138 c1 c2 c3) :=
  mk_snd [(nn132, c1), (nn173, c2), (nn211, c3)] ⟨fun n => match n with | 0 => [(22, .int .i64)] | _ => [], fun _ => none⟩ [.ptr, .ptr] Tryz.func138 rfl (.cons h132 (.cons h173 (.cons h211 .nil)))
theorem k267 : SN ads 267 (g267) :=
  mk_snd [] ⟨fun _ => [], fun _ => none⟩ [.int .i64] Tryz.func267 rfl .nil
theorem k289 : SN ads 289 (g289) :=
  mk_snd [] ⟨fun _ => [], fun _ => none⟩ [.int .i64] Tryz.func289 rfl .nil
theorem k212 (h267 : SN ads 267 c1) (h289 : SN ads 289 c2) : SN ads 212 (g212 c1 c2) :=
  mk_snd [(nn267, c1), (nn289, c2)] ⟨fun _ => [], fun _ => none⟩ [.ptr, .int .i64] Tryz.func212 rfl (.cons h267 (.cons h289 .nil))
theorem k213 : SN ads 213 (g213) :=
  mk_snd [] ⟨fun _ => [], fun _ => none⟩ [.int .i64] Tryz.func213 rfl .nil
theorem k139 (h212 : SN ads 212 c1) (h213 : SN ads 213 c2) : SN ads 139 (g139 c1 c2) :=
  mk_snd [(nn212, c1), (nn213, c2)] ⟨fun n => match n with | 0 => [(9, .int .i64), (10, .int .i64), (16, .int .i64)] | 2 => [(71, .int .i64)] | _ => [], fun n => match n with | 9 => some [] | 12 => some [(9, .int .i64), (10, .int .i64)] | 21 => some [] | 25 => some [] | _ => none⟩ [.ptr, .any, .any] Tryz.func139 rfl (.cons h212 (.cons h213 .nil))
theorem k220 : SN ads 220 (g220) :=
  mk_snd [] ⟨fun _ => [], fun _ => none⟩ [.int .i64] Tryz.func220 rfl .nil
theorem k221 (h220 : SN ads 220 c1) : SN ads 221 (g221 c1) :=
  mk_snd [(nn220, c1)] ⟨fun _ => [], fun _ => none⟩ [.ptr, .int .i64] Tryz.func221 rfl (.cons h220 .nil)
theorem k142 (h220 : SN ads 220 c1) (h221 : SN ads 221 c2) : SN ads 142 (g142 c1 c2) :=
  mk_snd [(nn220, c1), (nn221, c2)] ⟨fun _ => [], fun _ => none⟩ [.ptr, .int .i64] Tryz.func142 rfl (.cons h220 (.cons h221 .nil))
theorem k223 : SN ads 223 (g223) :=
  mk_snd [] ⟨fun _ => [], fun _ => none⟩ [.int .i64] Tryz.func223 rfl .nil
theorem k203 : SN ads 203 (g203) :=
  mk_snd [] ⟨fun _ => [], fun _ => none⟩ [.int .i64, .int .i64] Tryz.func203 rfl .nil
theorem k204 : SN ads 204 (g204) :=
  mk_snd [] ⟨fun _ => [], fun _ => none⟩ [.ptr] Tryz.func204 rfl .nil
theorem k133 (h203 : SN ads 203 c1) (h204 : SN ads 204 c2) : SN ads 133 (g133 c1 c2) :=
  mk_snd [(nn203, c1), (nn204, c2)] ⟨fun _ => [], fun _ => none⟩ [.ptr, .int .i64, .int .i64] Tryz.func133 rfl (.cons h203 (.cons h204 .nil))
theorem k294 : SN ads 294 (g294) :=
  mk_snd [] ⟨fun _ => [], fun _ => none⟩ [.ptr] Tryz.func294 rfl .nil
theorem k229 (h294 : SN ads 294 c1) : SN ads 229 (g229 c1) :=
  mk_snd [(nn294, c1)] ⟨fun _ => [], fun _ => none⟩ [.ptr] Tryz.func229 rfl (.cons h294 .nil)
theorem k231 (h201 : SN ads 201 c1) : SN ads 231 (g231 c1) :=
  mk_snd [(nn201, c1)] ⟨fun _ => [], fun _ => none⟩ [.ptr] Tryz.func231 rfl (.cons h201 .nil)
theorem k336 (h248 : SN ads 248 c1) : SN ads 336 (g336 c1) :=
  mk_snd [(nn248, c1)] ⟨fun _ => [], fun _ => none⟩ [.ptr] Tryz.func336 rfl (.cons h248 .nil)
theorem k293 (h336 : SN ads 336 c1) : SN ads 293 (g293 c1) :=
  mk_snd [(nn336, c1)] ⟨fun _ => [], fun _ => none⟩ [.ptr] Tryz.func293 rfl (.cons h336 .nil)
theorem k224 (h131 : SN ads 131 c1) (h133 : SN ads 133 c2) (h171 : SN ads 171 c3) (h229 : SN ads 229 c4) (h231 : SN ads 231 c5) (h293 : SN ads 293 c6) : SN ads 224 (g224 c1 c2 c3 c4 c5 c6) :=
  mk_snd [(nn131, c1), (nn133, c2), (nn171, c3), (nn229, c4), (nn231, c5), (nn293, c6)] ⟨fun _ => [], fun _ => none⟩ [.ptr, .int .i64, .int .i64] Tryz.func224 rfl (.cons h131 (.cons h133 (.cons h171 (.cons h229 (.cons h231 (.cons h293 .nil))))))
theorem k143 (h223 : SN ads 223 c1) (h224 : SN ads 224 c2) : SN ads 143 (g143 c1 c2) :=
  mk_snd [(nn223, c1), (nn224, c2)] ⟨fun n => match n with | 0 => [(7, .slice), (9, .int .i64)] | _ => [], fun n => match n with | 7 => some [(7, .slice)] | _ => none⟩ [.ptr, .int .i64, .int .i64] Tryz.func143 rfl (.cons h223 (.cons h224 .nil))
theorem k277 : SN ads 277 (g277) :=
  mk_snd [] ⟨fun _ => [], fun _ => none⟩ [.int .i64] Tryz.func277 rfl .nil
theorem k215 (h130 : SN ads 130 c1) (h277 : SN ads 277 c2) : SN ads 215 (g215 c1 c2) :=
  mk_snd [(nn130, c1), (nn277, c2)] ⟨fun _ => [], fun _ => none⟩ [.ptr, .int .i64, .int .i64] Tryz.func215 rfl (.cons h130 (.cons h277 .nil))
theorem k218 : SN ads 218 (g218) :=
  mk_snd [] ⟨fun _ => [], fun _ => none⟩ [.ptr] Tryz.func218 rfl .nil
theorem k291 : SN ads 291 (g291) :=
  mk_snd [] ⟨fun n => match n with | 0 => [(1, .int .i64)] | _ => [], fun _ => none⟩ [.any, .int .i64] Tryz.func291 rfl .nil
theorem k416 : SN ads 416 (g416) :=
  mk_snd [] ⟨fun _ => [], fun _ => none⟩ [.ptr, .any] Tryz.func416 rfl .nil
theorem k217 (h218 : SN ads 218 c1) (h291 : SN ads 291 c2) (h416 : SN ads 416 c3) : SN ads 217 (g217 c1 c2 c3) :=
  mk_snd [(nn218, c1), (nn291, c2), (nn416, c3)] ⟨fun _ => [], fun _ => none⟩ [.any, .any] Tryz.func217 rfl (.cons h218 (.cons h291 (.cons h416 .nil)))
theorem k292 : SN ads 292 (g292) :=
  mk_snd [] ⟨fun n => match n with | 0 => [(7, .int .i64)] | _ => [], fun n => match n with | 8 => some [(9, .int .i64)] | 11 => some [(7, .int .i64)] | _ => none⟩ [.any, .int .i64, .int .i64] Tryz.func292 rfl .nil
theorem k415 : SN ads 415 (g415) :=
  mk_snd [] ⟨fun _ => [], fun _ => none⟩ [.ptr] Tryz.func415 rfl .nil
theorem k219 (h218 : SN ads 218 c1) (h291 : SN ads 291 c3) (h292 : SN ads 292 c4) (h415 : SN ads 415 c2) : SN ads 219 (g219 c1 c2) :=
  mk_snd [(nn218, c1), (nn291, c3), (nn292, c4), (nn415, c2)] ⟨fun _ => [], fun n => match n with | 6 => some [] | _ => none⟩ [.any, .int .i64] Tryz.func219 rfl (.cons h218 (.cons h291 (.cons h292 (.cons h415 .nil))))
theorem k216 (h210 : SN ads 210 c1) (h217 : SN ads 217 c2) (h218 : SN ads 218 c3) (h219 : SN ads 219 c4) : SN ads 216 (g216 c1 c2 c3 c4) :=
  mk_snd [(nn210, c1), (nn217, c2), (nn218, c3), (nn219, c4)] ⟨fun _ => [], fun n => match n with | 7 => some [] | 12 => some [] | _ => none⟩ [.ptr, .int .i64, .bool] Tryz.func216 rfl (.cons h210 (.cons h217 (.cons h218 (.cons h219 .nil))))
theorem k140 (h75 : SN ads 75 c1) (h142 : SN ads 142 c2) (h143 : SN ads 143 c3) (h215 : SN ads 215 c4) (h216 : SN ads 216 c5) : SN ads 140 (g140 c1 c2 c3 c4 c5) :=
  mk_snd [(nn75, c1), (nn142, c2), (nn143, c3), (nn215, c4), (nn216, c5)] ⟨fun n => match n with | 0 => [(15, .int .i64)] | 2 => [(6, .slice), (24, .int .i64)] | 4 => [(65, .int .i64)] | _ => [], fun n => match n with | 13 => some [(6, .slice)] | _ => none⟩ [.ptr] Tryz.func140 rfl (.cons h75 (.cons h142 (.cons h143 (.cons h215 (.cons h216 .nil)))))
theorem k141 (h217 : SN ads 217 c1) (h218 : SN ads 218 c2) (h219 : SN ads 219 c3) : SN ads 141 (g141 c1 c2 c3) :=
  mk_snd [(nn217, c1), (nn218, c2), (nn219, c3)] ⟨fun n => match n with | 0 => [(18, .int .i64)] | 2 => [(7, .slice)] | _ => [], fun _ => none⟩ [.ptr] Tryz.func141 rfl (.cons h217 (.cons h218 (.cons h219 .nil)))
theorem k77 (h131 : SN ads 131 c1) (h132 : SN ads 132 c2) (h133 : SN ads 133 c3) : SN ads 77 (g77 c1 c2 c3) :=
  mk_snd [(nn131, c1), (nn132, c2), (nn133, c3)] ⟨fun n => match n with | 0 => [(15, .int .i64)] | _ => [], fun n => match n with | 8 => some [(11, .int .i64)] | _ => none⟩ [.ptr, .int .i64, .int .i64, .int .i64] Tryz.func77 rfl (.cons h131 (.cons h132 (.cons h133 .nil)))
theorem k272 : SN ads 272 (g272) :=
  mk_snd [] ⟨fun _ => [], fun _ => none⟩ [.ptr, .int .i64] Tryz.func272 rfl .nil
theorem k225 (h272 : SN ads 272 c1) : SN ads 225 (g225 c1) :=
  mk_snd [(nn272, c1)] ⟨fun _ => [], fun _ => none⟩ [.ptr, .int .i64] Tryz.func225 rfl (.cons h272 .nil)
theorem k226 : SN ads 226 (g226) :=
  mk_snd [] ⟨fun _ => [], fun _ => none⟩ [] Tryz.func226 rfl .nil
theorem k227 (h294 : SN ads 294 c1) : SN ads 227 (g227 c1) :=
  mk_snd [(nn294, c1)] ⟨fun _ => [], fun _ => none⟩ [.ptr] Tryz.func227 rfl (.cons h294 .nil)
theorem k295 : SN ads 295 (g295) :=
  mk_snd [] ⟨fun _ => [], fun _ => none⟩ [.ptr] Tryz.func295 rfl .nil
theorem k228 (h295 : SN ads 295 c1) : SN ads 228 (g228 c1) :=
  mk_snd [(nn295, c1)] ⟨fun _ => [], fun _ => none⟩ [.ptr] Tryz.func228 rfl (.cons h295 .nil)
theorem k298 : SN ads 298 (g298) :=
  mk_snd [] ⟨fun _ => [], fun _ => none⟩ [.ptr] Tryz.func298 rfl .nil
theorem k232 (h298 : SN ads 298 c1) : SN ads 232 (g232 c1) :=
  mk_snd [(nn298, c1)] ⟨fun _ => [], fun _ => none⟩ [.ptr, .int .i64] Tryz.func232 rfl (.cons h298 .nil)
theorem k241 : SN ads 241 (g241) :=
  mk_snd [] ⟨fun _ => [], fun _ => none⟩ [.int .i64] Tryz.func241 rfl .nil
theorem k244 (h241 : SN ads 241 c1) : SN ads 244 (g244 c1) :=
  mk_snd [(nn241, c1)] ⟨fun n => match n with | 0 => [(3, .int .i64), (8, .int .i64)] | _ => [], fun _ => none⟩ [.slice] Tryz.func244 rfl (.cons h241 .nil)
theorem k346 : SN ads 346 (g346) :=
  mk_snd [] ⟨fun _ => [], fun _ => none⟩ [.int .u8] Tryz.func346 rfl .nil
theorem k311 (h346 : SN ads 346 c1) : SN ads 311 (g311 c1) :=
  mk_snd [(nn346, c1)] ⟨fun n => match n with | 0 => [(3, .int .u8), (9, .int .i64)] | 2 => [(3, .int .u8), (5, .int .u8), (13, .int .i64)] | _ => [], fun n => match n with | 11 => some [(3, .int .u8)] | _ => none⟩ [.slice] Tryz.func311 rfl (.cons h346 .nil)
theorem k245 (h67 : SN ads 67 c1) (h311 : SN ads 311 c2) : SN ads 245 (g245 c1 c2) :=
  mk_snd [(nn67, c1), (nn311, c2)] ⟨fun _ => [], fun _ => none⟩ [.slice] Tryz.func245 rfl (.cons h67 (.cons h311 .nil))
theorem k147 (h241 : SN ads 241 c1) (h244 : SN ads 244 c2) (h245 : SN ads 245 c3) : SN ads 147 (g147 c1 c2 c3) :=
  mk_snd [(nn241, c1), (nn244, c2), (nn245, c3)] ⟨fun n => match n with | 0 => [(4, .slice), (13, .int .i64)] | 3 => [(7, .slice), (49, .int .i64)] | _ => [], fun _ => none⟩ [.slice] Tryz.func147 rfl (.cons h241 (.cons h244 (.cons h245 .nil)))
theorem k236 (h130 : SN ads 130 c1) (h215 : SN ads 215 c2) (h277 : SN ads 277 c3) : SN ads 236 (g236 c1 c2 c3) :=
  mk_snd [(nn130, c1), (nn215, c2), (nn277, c3)] ⟨fun _ => [], fun n => match n with | 17 => some [(11, .bool)] | _ => none⟩ [.ptr, .int .i64, .int .i64, .bool] Tryz.func236 rfl (.cons h130 (.cons h215 (.cons h277 .nil)))
theorem k322 : SN ads 322 (g322) :=
  mk_snd [] ⟨fun _ => [], fun _ => none⟩ [.ptr, .int .i64] Tryz.func322 rfl .nil
theorem k323 : SN ads 323 (g323) :=
  mk_snd [] ⟨fun _ => [], fun _ => none⟩ [.ptr] Tryz.func323 rfl .nil
theorem k264 (h322 : SN ads 322 c1) (h323 : SN ads 323 c2) : SN ads 264 (g264 c1 c2) :=
  mk_snd [(nn322, c1), (nn323, c2)] ⟨fun _ => [], fun _ => none⟩ [.ptr, .int .i64, .int .i64] Tryz.func264 rfl (.cons h322 (.cons h323 .nil))
end
end Go.Proofs.YtdkopdoicepgmaaGreatDoor
