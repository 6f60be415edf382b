/- The printed functions are the machine's own, by the kernel. -/
import Derived.Test.YtbelmboeamkccaaGreatDoorGgD1
import Derived.Test.YtbelmboeamkccaaGreatDoorRows
set_option linter.unusedVariables false
set_option linter.constructorNameAsVariable false
set_option maxRecDepth 100000
namespace Go.Proofs.YtbelmboeamkccaaGreatDoor
open Go.Vc Go.Ab
noncomputable section
variable (v1 v2 : AV) (l1 l2 l3 l4 : List AV) (L1 L2 : List AP) (d1 d2 d3 d4 : DV) (R1 : List DV) (n1 n2 n3 n4 n5 n6 n7 n8 n9 : Int) (m1 m2 m3 m4 : Nat) (t1 t2 t3 t4 : Bool) (p1 p2 p3 p4 p5 : AP) (b1 b2 b3 b4 b5 : P4) (s1 s2 s3 : AS) (H1 : AH) (x1 x2 : List Int) (c1 c2 c3 c4 c5 c6 c7 c8 c9 c10 c11 c12 c13 c14 c15 c16 : G DV) (Ka1 Ka2 : AH → Option DV) (Kb1 Kb2 : DV → AH → Option DV) (Kc1 : DV → DV → AH → Option DV) (Kd1 : DV → DV → DV → AH → Option DV) (Kf1 : DV → DV → DV → DV → DV → AH → Option DV)
variable {ads : List Addr}
theorem s114 : SN ads 114 (g114) :=
  mk_snd [] ⟨fun _ => [], fun _ => none⟩ [.int .u32, .int .i64, .int .i64] Tryz.func114 rfl .nil
theorem s56 (h114 : SN ads 114 c1) : SN ads 56 (g56 c1) :=
  mk_snd [(nn114, c1)] ⟨fun n => match n with | 0 => [(5, .int .i64)] | _ => [], fun _ => none⟩ [.ptr, .int .i64] Tryz.func56 rfl (.cons h114 .nil)
theorem s27 (h56 : SN ads 56 c1) : SN ads 27 (g27 c1) :=
  mk_snd [(nn56, c1)] ⟨fun n => match n with | 0 => [(36, .int .i64)] | _ => [], fun _ => none⟩ [.int .u32, .int .i64, .int .i64, .int .i64, .int .i64] Tryz.func27 rfl (.cons h56 .nil)
theorem s57 : SN ads 57 (g57) :=
  mk_snd [] ⟨fun _ => [], fun _ => none⟩ [.int .i64, .int .i64] Tryz.func57 rfl .nil
theorem s28 (h57 : SN ads 57 c1) : SN ads 28 (g28 c1) :=
  mk_snd [(nn57, c1)] ⟨fun _ => [], fun _ => none⟩ [.int .i64, .int .i64, .int .i64] Tryz.func28 rfl (.cons h57 .nil)
theorem s58 : SN ads 58 (g58) :=
  mk_snd [] ⟨fun _ => [], fun _ => none⟩ [.int .i64] Tryz.func58 rfl .nil
theorem s29 (h58 : SN ads 58 c1) : SN ads 29 (g29 c1) :=
  mk_snd [(nn58, c1)] ⟨fun _ => [], fun _ => none⟩ [.int .i64, .int .i64] Tryz.func29 rfl (.cons h58 .nil)
theorem s30 : SN ads 30 (g30) :=
  mk_snd [] ⟨fun _ => [], fun _ => none⟩ [.int .i64] Tryz.func30 rfl .nil
theorem s59 (h30 : SN ads 30 c1) : SN ads 59 (g59 c1) :=
  mk_snd [(nn30, c1)] ⟨fun n => match n with | 0 => [(8, .int .i64)] | _ => [], fun _ => none⟩ [.slice, .any] Tryz.func59 rfl (.cons h30 .nil)
theorem s31 (h59 : SN ads 59 c1) : SN ads 31 (g31 c1) :=
  mk_snd [(nn59, c1)] ⟨fun _ => [], fun _ => none⟩ [.slice, .any] Tryz.func31 rfl (.cons h59 .nil)
theorem s32 : SN ads 32 (g32) :=
  mk_snd [] ⟨fun _ => [], fun _ => none⟩ [.any] Tryz.func32 rfl .nil
theorem s33 : SN ads 33 (g33) :=
  mk_snd [] ⟨fun _ => [], fun _ => none⟩ [] Tryz.func33 rfl .nil
theorem s15 (h27 : SN ads 27 c1) (h28 : SN ads 28 c2) (h29 : SN ads 29 c3) (h31 : SN ads 31 c4) (h32 : SN ads 32 c5) (h33 : SN ads 33 c6) : SN ads 15 (g15 c1 c2 c3 c4 c5 c6) :=
  mk_snd [(nn27, c1), (nn28, c2), (nn29, c3), (nn31, c4), (nn32, c5), (nn33, c6)] ⟨fun n => match n with | 0 => [(99, .int .i64)] | _ => [], fun _ => none⟩ [.any] Tryz.func15 rfl (.cons h27 (.cons h28 (.cons h29 (.cons h31 (.cons h32 (.cons h33 .nil))))))
theorem s16 : SN ads 16 (g16) :=
  mk_snd [] ⟨fun _ => [], fun _ => none⟩ [.any, .any, .int .i64] Tryz.func16 rfl .nil
theorem s17 : SN ads 17 (g17) :=
  mk_snd [] ⟨fun _ => [], fun _ => none⟩ [.int .i64] Tryz.func17 rfl .nil
theorem s7 (h15 : SN ads 15 c1) (h16 : SN ads 16 c2) (h17 : SN ads 17 c3) : SN ads 7 (g7 c1 c2 c3) :=
  mk_snd [(nn15, c1), (nn16, c2), (nn17, c3)] ⟨fun _ => [], fun _ => none⟩ [.any, .int .i64] Tryz.func7 rfl (.cons h15 (.cons h16 (.cons h17 .nil)))
theorem s18 : SN ads 18 (g18) :=
  mk_snd [] ⟨fun _ => [], fun _ => none⟩ [] Tryz.func18 rfl .nil
theorem s8 (h6 : SN ads 6 c1) (h18 : SN ads 18 c2) : SN ads 8 (g8 c1 c2) :=
  mk_snd [(nn6, c1), (nn18, c2)] ⟨fun _ => [], fun n => match n with | 23 => some [] | _ => none⟩ [.int .i64] Tryz.func8 rfl (.cons h6 (.cons h18 .nil))
theorem s115 : SN ads 115 (g115) :=
  mk_snd [] ⟨fun _ => [], fun _ => none⟩ [.int .i64] Tryz.func115 rfl .nil
theorem s194 : SN ads 194 (g194) :=
  mk_snd [] ⟨fun n => match n with | 0 => [(8, .int .i64)] | _ => [], fun _ => none⟩ [.slice, .int .i64] Tryz.func194 rfl .nil
theorem s116 (h194 : SN ads 194 c1) : SN ads 116 (g116 c1) :=
  mk_snd [(nn194, c1)] ⟨fun _ => [], fun _ => none⟩ [.slice, .int .i64] Tryz.func116 rfl (.cons h194 .nil)
theorem s117 : SN ads 117 (g117) :=
  mk_snd [] ⟨fun _ => [], fun n => match n with | 8 => some [(10, .bool)] | _ => none⟩ [.int .i64] Tryz.func117 rfl .nil
theorem s60 (h115 : SN ads 115 c1) (h116 : SN ads 116 c2) (h117 : SN ads 117 c3) : SN ads 60 (g60 c1 c2 c3) :=
  mk_snd [(nn115, c1), (nn116, c2), (nn117, c3)] ⟨fun _ => [], fun _ => none⟩ [.any] Tryz.func60 rfl (.cons h115 (.cons h116 (.cons h117 .nil)))
theorem s95 : SN ads 95 (g95) :=
  mk_snd [] ⟨fun n => match n with | 0 => [(12, .int .i64)] | _ => [], fun _ => none⟩ [.ptr, .any] Tryz.func95 rfl .nil
theorem s61 (h32 : SN ads 32 c1) (h95 : SN ads 95 c2) : SN ads 61 (g61 c1 c2) :=
  mk_snd [(nn32, c1), (nn95, c2)] ⟨fun n => match n with | 0 => [(22, .int .i64)] | _ => [], fun _ => none⟩ [.ptr, .any] Tryz.func61 rfl (.cons h32 (.cons h95 .nil))
theorem s118 : SN ads 118 (g118) :=
  mk_snd [] ⟨fun _ => [], fun _ => none⟩ [.int .i64] Tryz.func118 rfl .nil
theorem s119 : SN ads 119 (g119) :=
  mk_snd [] ⟨fun _ => [], fun _ => none⟩ [.int .i64] Tryz.func119 rfl .nil
theorem s120 (h118 : SN ads 118 c1) : SN ads 120 (g120 c1) :=
  mk_snd [(nn118, c1)] ⟨fun _ => [], fun _ => none⟩ [.ptr, .int .i64] Tryz.func120 rfl (.cons h118 .nil)
theorem s62 (h118 : SN ads 118 c1) (h119 : SN ads 119 c2) (h120 : SN ads 120 c3) : SN ads 62 (g62 c1 c2 c3) :=
  mk_snd [(nn118, c1), (nn119, c2), (nn120, c3)] ⟨fun _ => [], fun _ => none⟩ [.ptr, .int .i64, .int .i64] Tryz.func62 rfl (.cons h118 (.cons h119 (.cons h120 .nil)))
theorem s121 : SN ads 121 (g121) :=
  mk_snd [] ⟨fun _ => [], fun _ => none⟩ [.ptr, .int .i64] Tryz.func121 rfl .nil
theorem s63 (h121 : SN ads 121 c1) : SN ads 63 (g63 c1) :=
  mk_snd [(nn121, c1)] ⟨fun _ => [], fun _ => none⟩ [.ptr, .int .i64, .any, .int .i64] Tryz.func63 rfl (.cons h121 .nil)
theorem s34 (h28 : SN ads 28 c1) (h32 : SN ads 32 c2) (h60 : SN ads 60 c3) (h61 : SN ads 61 c4) (h62 : SN ads 62 c5) (h63 : SN ads 63 c6) : SN ads 34 (g34 c1 c2 c3 c4 c5 c6) :=
  mk_snd [(nn28, c1), (nn32, c2), (nn60, c3), (nn61, c4), (nn62, c5), (nn63, c6)] ⟨fun n => match n with | 1 => [(71, .int .i64)] | 3 => [(107, .int .i64)] | _ => [], fun _ => none⟩ [.ptr, .any, .any, .int .i64, .any, .int .i64] Tryz.func34 rfl (.cons h28 (.cons h32 (.cons h60 (.cons h61 (.cons h62 (.cons h63 .nil))))))
theorem s19 (h16 : SN ads 16 c1) (h17 : SN ads 17 c2) (h34 : SN ads 34 c3) : SN ads 19 (g19 c1 c2 c3) :=
  mk_snd [(nn16, c1), (nn17, c2), (nn34, c3)] ⟨fun n => match n with | 1 => [(29, .int .i64)] | _ => [], fun n => match n with | 12 => some [(9, .int .i64), (10, .any)] | _ => none⟩ [.ptr, .ptr, .any] Tryz.func19 rfl (.cons h16 (.cons h17 (.cons h34 .nil)))
theorem s44 : SN ads 44 (g44) :=
  mk_snd [] ⟨fun _ => [], fun _ => none⟩ [.ptr, .slice] Tryz.func44 rfl .nil
theorem s45 : SN ads 45 (g45) :=
  mk_snd [] ⟨fun _ => [], fun n => match n with | 9 => some [(9, .bool)] | _ => none⟩ [.slice] Tryz.func45 rfl .nil
theorem s158 : SN ads 158 (g158) :=
  mk_snd [] ⟨fun _ => [], fun _ => none⟩ [.slice, .int .u8, .int .i64] Tryz.func158 rfl .nil
theorem s181 : SN ads 181 (g181) :=
  mk_snd [] ⟨fun _ => [], fun _ => none⟩ [.slice] Tryz.func181 rfl .nil
theorem s94 (h158 : SN ads 158 c1) (h181 : SN ads 181 c2) : SN ads 94 (g94 c1 c2) :=
  mk_snd [(nn158, c1), (nn181, c2)] ⟨fun _ => [], fun _ => none⟩ [.slice] Tryz.func94 rfl (.cons h158 (.cons h181 .nil))
theorem s96 (h121 : SN ads 121 c1) : SN ads 96 (g96 c1) :=
  mk_snd [(nn121, c1)] ⟨fun _ => [], fun _ => none⟩ [.ptr, .int .i64] Tryz.func96 rfl (.cons h121 .nil)
theorem s46 (h94 : SN ads 94 c1) (h95 : SN ads 95 c2) (h96 : SN ads 96 c3) : SN ads 46 (g46 c1 c2 c3) :=
  mk_snd [(nn94, c1), (nn95, c2), (nn96, c3)] ⟨fun _ => [], fun _ => none⟩ [.ptr, .slice] Tryz.func46 rfl (.cons h94 (.cons h95 (.cons h96 .nil)))
theorem s209 : SN ads 209 (g209) :=
  mk_snd [] ⟨fun _ => [], fun _ => none⟩ [.int .i64, .int .i64] Tryz.func209 rfl .nil
theorem s210 : SN ads 210 (g210) :=
  mk_snd [] ⟨fun n => match n with | 0 => [(9, .slice), (18, .int .i64)] | _ => [], fun _ => none⟩ [.any, .any, .any, .int .u8] Tryz.func210 rfl .nil
theorem s211 : SN ads 211 (g211) :=
  mk_snd [] ⟨fun _ => [], fun _ => none⟩ [.int .i64] Tryz.func211 rfl .nil
theorem s144 (h209 : SN ads 209 c1) (h210 : SN ads 210 c2) (h211 : SN ads 211 c3) : SN ads 144 (g144 c1 c2 c3) :=
  mk_snd [(nn209, c1), (nn210, c2), (nn211, c3)] ⟨fun _ => [], fun n => match n with | 6 => some [(4, .int .u8)] | 9 => some [(5, .slice)] | 13 => some [(5, .slice)] | _ => none⟩ [.any] Tryz.func144 rfl (.cons h209 (.cons h210 (.cons h211 .nil)))
theorem s165 (h223 : SN ads 223 c1) : SN ads 165 (g165 c1) :=
  mk_snd [(nn223, c1)] ⟨fun _ => [], fun _ => none⟩ [.slice, .int .i64, .slice] Tryz.func165 rfl (.cons h223 .nil)
theorem s166 : SN ads 166 (g166) :=
  mk_snd [] ⟨fun n => match n with | 0 => [(7, .int .i64)] | _ => [], fun _ => none⟩ [.slice] Tryz.func166 rfl .nil
theorem s167 : SN ads 167 (g167) :=
  mk_snd [] ⟨fun _ => [], fun _ => none⟩ [.slice] Tryz.func167 rfl .nil
theorem s78 (h144 : SN ads 144 c1) (h160 : SN ads 160 c2) (h165 : SN ads 165 c3) (h166 : SN ads 166 c4) (h167 : SN ads 167 c5) : SN ads 78 (g78 c1 c2 c3 c4 c5) :=
  mk_snd [(nn144, c1), (nn160, c2), (nn165, c3), (nn166, c4), (nn167, c5)] ⟨fun _ => [], fun n => match n with | 10 => some [(6, .slice)] | 14 => some [] | _ => none⟩ [.slice] Tryz.func78 rfl (.cons h144 (.cons h160 (.cons h165 (.cons h166 (.cons h167 .nil)))))
theorem s65 : SN ads 65 (g65) :=
  mk_snd [] ⟨fun _ => [], fun _ => none⟩ [.ptr, .int .i64] Tryz.func65 rfl .nil
theorem s97 (h65 : SN ads 65 c1) (h95 : SN ads 95 c2) : SN ads 97 (g97 c1 c2) :=
  mk_snd [(nn65, c1), (nn95, c2)] ⟨fun _ => [], fun n => match n with | 2 => some [(29, .bool)] | _ => none⟩ [.ptr, .any, .any, .any, .int .i64] Tryz.func97 rfl (.cons h65 (.cons h95 .nil))
theorem s182 : SN ads 182 (g182) :=
  mk_snd [] ⟨fun _ => [], fun _ => none⟩ [.ptr, .int .i64] Tryz.func182 rfl .nil
theorem s98 (h182 : SN ads 182 c1) : SN ads 98 (g98 c1) :=
  mk_snd [(nn182, c1)] ⟨fun _ => [], fun n => match n with | 11 => some [(9, .int .i64)] | _ => none⟩ [.ptr, .int .i64, .int .i64, .int .i64] Tryz.func98 rfl (.cons h182 .nil)
theorem s99 : SN ads 99 (g99) :=
  mk_snd [] ⟨fun _ => [], fun _ => none⟩ [.ptr] Tryz.func99 rfl .nil
theorem s47 (h78 : SN ads 78 c1) (h97 : SN ads 97 c2) (h98 : SN ads 98 c3) (h99 : SN ads 99 c4) : SN ads 47 (g47 c1 c2 c3 c4) :=
  mk_snd [(nn78, c1), (nn97, c2), (nn98, c3), (nn99, c4)] ⟨fun _ => [], fun n => match n with | 15 => some [] | _ => none⟩ [.ptr, .slice] Tryz.func47 rfl (.cons h78 (.cons h97 (.cons h98 (.cons h99 .nil))))
theorem s168 (h209 : SN ads 209 c1) (h210 : SN ads 210 c2) (h211 : SN ads 211 c3) : SN ads 168 (g168 c1 c2 c3) :=
  mk_snd [(nn209, c1), (nn210, c2), (nn211, c3)] ⟨fun _ => [], fun n => match n with | 6 => some [(4, .int .i64)] | _ => none⟩ [.any] Tryz.func168 rfl (.cons h209 (.cons h210 (.cons h211 .nil)))
theorem s80 (h160 : SN ads 160 c1) (h165 : SN ads 165 c2) (h166 : SN ads 166 c3) (h167 : SN ads 167 c4) (h168 : SN ads 168 c5) : SN ads 80 (g80 c1 c2 c3 c4 c5) :=
  mk_snd [(nn160, c1), (nn165, c2), (nn166, c3), (nn167, c4), (nn168, c5)] ⟨fun _ => [], fun _ => none⟩ [.slice] Tryz.func80 rfl (.cons h160 (.cons h165 (.cons h166 (.cons h167 (.cons h168 .nil)))))
theorem s184 : SN ads 184 (g184) :=
  mk_snd [] ⟨fun _ => [], fun _ => none⟩ [.any] Tryz.func184 rfl .nil
theorem s195 : SN ads 195 (g195) :=
  mk_snd [] ⟨fun _ => [], fun n => match n with | 6 => some [] | _ => none⟩ [.any, .ptr, .ptr] Tryz.func195 rfl .nil
theorem s197 (h195 : SN ads 195 c1) : SN ads 197 (g197 c1) :=
  mk_snd [(nn195, c1)] ⟨fun _ => [], fun _ => none⟩ [.any, .ptr] Tryz.func197 rfl (.cons h195 .nil)
theorem s207 : SN ads 207 (g207) :=
  mk_snd [] ⟨fun _ => [], fun _ => none⟩ [.any] Tryz.func207 rfl .nil
theorem s222 : SN ads 222 (g222) :=
  mk_snd [] ⟨fun _ => [], fun _ => none⟩ [.int .i64] Tryz.func222 rfl .nil
theorem s161 (h222 : SN ads 222 c1) : SN ads 161 (g161 c1) :=
  mk_snd [(nn222, c1)] ⟨fun _ => [], fun _ => none⟩ [.int .i64, .int .i64] Tryz.func161 rfl (.cons h222 .nil)
theorem s227 (h161 : SN ads 161 c1) : SN ads 227 (g227 c1) :=
  mk_snd [(nn161, c1)] ⟨fun _ => [], fun _ => none⟩ [.any, .ptr] Tryz.func227 rfl (.cons h161 .nil)
theorem s230 (h161 : SN ads 161 c1) (h227 : SN ads 227 c2) : SN ads 230 (g230 c1 c2) :=
  mk_snd [(nn161, c1), (nn227, c2)] ⟨fun _ => [], fun _ => none⟩ [.any, .ptr, .ptr] Tryz.func230 rfl (.cons h161 (.cons h227 .nil))
theorem s25 : SN ads 25 (g25) :=
  mk_snd [] ⟨fun _ => [], fun _ => none⟩ [.slice] Tryz.func25 rfl .nil
theorem s234 (h25 : SN ads 25 c1) : SN ads 234 (g234 c1) :=
  mk_snd [(nn25, c1)] ⟨fun _ => [], fun _ => none⟩ [.any] Tryz.func234 rfl (.cons h25 .nil)
theorem s183 (h184 : SN ads 184 c1) (h197 : SN ads 197 c2) (h207 : SN ads 207 c3) (h230 : SN ads 230 c4) (h234 : SN ads 234 c5) : SN ads 183 (g183 c1 c2 c3 c4 c5) :=
  mk_snd [(nn184, c1), (nn197, c2), (nn207, c3), (nn230, c4), (nn234, c5)] ⟨fun n => match n with | 0 => [(5, .slice), (13, .int .i64)] | _ => [], fun n => match n with | 7 => some [(5, .slice)] | _ => none⟩ [.ptr, .any] Tryz.func183 rfl (.cons h184 (.cons h197 (.cons h207 (.cons h230 (.cons h234 .nil)))))
theorem s100 (h183 : SN ads 183 c1) : SN ads 100 (g100 c1) :=
  mk_snd [(nn183, c1)] ⟨fun _ => [], fun _ => none⟩ [.ptr] Tryz.func100 rfl (.cons h183 .nil)
theorem s101 (h182 : SN ads 182 c1) : SN ads 101 (g101 c1) :=
  mk_snd [(nn182, c1)] ⟨fun _ => [], fun _ => none⟩ [.ptr] Tryz.func101 rfl (.cons h182 .nil)
theorem s48 (h80 : SN ads 80 c1) (h97 : SN ads 97 c2) (h100 : SN ads 100 c3) (h101 : SN ads 101 c4) : SN ads 48 (g48 c1 c2 c3 c4) :=
  mk_snd [(nn80, c1), (nn97, c2), (nn100, c3), (nn101, c4)] ⟨fun _ => [], fun _ => none⟩ [.ptr, .slice] Tryz.func48 rfl (.cons h80 (.cons h97 (.cons h100 (.cons h101 .nil))))
theorem s21 (h44 : SN ads 44 c1) (h45 : SN ads 45 c2) (h46 : SN ads 46 c3) (h47 : SN ads 47 c4) (h48 : SN ads 48 c5) : SN ads 21 (g21 c1 c2 c3 c4 c5) :=
  mk_snd [(nn44, c1), (nn45, c2), (nn46, c3), (nn47, c4), (nn48, c5)] ⟨fun _ => [], fun n => match n with | 9 => some [(5, .any)] | _ => none⟩ [.ptr, .slice] Tryz.func21 rfl (.cons h44 (.cons h45 (.cons h46 (.cons h47 (.cons h48 .nil)))))
theorem s64 : SN ads 64 (g64) :=
  mk_snd [] ⟨fun n => match n with | 0 => [(3, .slice), (10, .int .i64)] | _ => [], fun n => match n with | 7 => some [(3, .slice)] | _ => none⟩ [.ptr] Tryz.func64 rfl .nil
theorem s232 : SN ads 232 (g232) :=
  mk_snd [] ⟨fun _ => [], fun _ => none⟩ [.ptr, .int .i64] Tryz.func232 rfl .nil
theorem s233 : SN ads 233 (g233) :=
  mk_snd [] ⟨fun _ => [], fun _ => none⟩ [.ptr] Tryz.func233 rfl .nil
theorem s185 (h232 : SN ads 232 c1) (h233 : SN ads 233 c2) : SN ads 185 (g185 c1 c2) :=
  mk_snd [(nn232, c1), (nn233, c2)] ⟨fun _ => [], fun _ => none⟩ [.ptr, .int .i64, .int .i64] Tryz.func185 rfl (.cons h232 (.cons h233 .nil))
theorem s102 (h185 : SN ads 185 c1) : SN ads 102 (g102 c1) :=
  mk_snd [(nn185, c1)] ⟨fun n => match n with | 0 => [(10, .int .i64)] | _ => [], fun _ => none⟩ [.ptr, .int .i64, .slice] Tryz.func102 rfl (.cons h185 .nil)
theorem s254 : SN ads 254 (g254) :=
  mk_snd [] ⟨fun _ => [], fun _ => none⟩ [.any, .ptr] Tryz.func254 rfl .nil
theorem s262 : SN ads 262 (g262) :=
  mk_snd [] ⟨fun _ => [], fun _ => none⟩ [.any] Tryz.func262 rfl .nil
theorem s263 (h197 : SN ads 197 c1) (h227 : SN ads 227 c2) (h230 : SN ads 230 c3) (h254 : SN ads 254 c4) (h262 : SN ads 262 c5) : SN ads 263 (g263 c1 c2 c3 c4 c5) :=
  mk_snd [(nn197, c1), (nn227, c2), (nn230, c3), (nn254, c4), (nn262, c5)] ⟨fun n => match n with | 0 => [(8, .int .i64)] | _ => [], fun _ => none⟩ [.slice, .any] Tryz.func263 rfl (.cons h197 (.cons h227 (.cons h230 (.cons h254 (.cons h262 .nil)))))
theorem s245 (h197 : SN ads 197 c1) (h230 : SN ads 230 c2) (h263 : SN ads 263 c3) : SN ads 245 (g245 c1 c2 c3) :=
  mk_snd [(nn197, c1), (nn230, c2), (nn263, c3)] ⟨fun n => match n with | 0 => [(5, .int .i64), (6, .int .i64)] | _ => [], fun n => match n with | 6 => some [(5, .int .i64)] | _ => none⟩ [.slice, .any] Tryz.func245 rfl (.cons h197 (.cons h230 (.cons h263 .nil)))
theorem s246 : SN ads 246 (g246) :=
  mk_snd [] ⟨fun _ => [], fun _ => none⟩ [.slice] Tryz.func246 rfl .nil
theorem s267 : SN ads 267 (g267) :=
  mk_snd [] ⟨fun _ => [], fun _ => none⟩ [.slice, .int .i64, .int .i64] Tryz.func267 rfl .nil
theorem s268 : SN ads 268 (g268) :=
  mk_snd [] ⟨fun _ => [], fun _ => none⟩ [.slice] Tryz.func268 rfl .nil
theorem s247 (h194 : SN ads 194 c1) (h267 : SN ads 267 c2) (h268 : SN ads 268 c3) : SN ads 247 (g247 c1 c2 c3) :=
  mk_snd [(nn194, c1), (nn267, c2), (nn268, c3)] ⟨fun _ => [], fun n => match n with | 8 => some [] | _ => none⟩ [.ptr, .int .i64] Tryz.func247 rfl (.cons h194 (.cons h267 (.cons h268 .nil)))
theorem s196 (h183 : SN ads 183 c1) (h245 : SN ads 245 c2) (h246 : SN ads 246 c3) (h247 : SN ads 247 c4) : SN ads 196 (g196 c1 c2 c3 c4) :=
  mk_snd [(nn183, c1), (nn245, c2), (nn246, c3), (nn247, c4)] ⟨fun n => match n with | 0 => [(23, .int .i64)] | _ => [], fun n => match n with | 7 => some [] | _ => none⟩ [.ptr, .any] Tryz.func196 rfl (.cons h183 (.cons h245 (.cons h246 (.cons h247 .nil))))
theorem s122 (h195 : SN ads 195 c1) (h196 : SN ads 196 c2) : SN ads 122 (g122 c1 c2) :=
  mk_snd [(nn195, c1), (nn196, c2)] ⟨fun n => match n with | 0 => [(7, .slice), (18, .int .i64)] | _ => [], fun n => match n with | 9 => some [(7, .slice)] | 13 => some [] | _ => none⟩ [.ptr, .int .i64] Tryz.func122 rfl (.cons h195 (.cons h196 .nil))
theorem s66 (h100 : SN ads 100 c1) (h101 : SN ads 101 c2) (h102 : SN ads 102 c3) (h122 : SN ads 122 c4) : SN ads 66 (g66 c1 c2 c3 c4) :=
  mk_snd [(nn100, c1), (nn101, c2), (nn102, c3), (nn122, c4)] ⟨fun n => match n with | 0 => [(22, .int .i64)] | _ => [], fun _ => none⟩ [.ptr, .ptr] Tryz.func66 rfl (.cons h100 (.cons h101 (.cons h102 (.cons h122 .nil))))
theorem s180 : SN ads 180 (g180) :=
  mk_snd [] ⟨fun _ => [], fun _ => none⟩ [.int .i64] Tryz.func180 rfl .nil
theorem s198 : SN ads 198 (g198) :=
  mk_snd [] ⟨fun _ => [], fun _ => none⟩ [.int .i64] Tryz.func198 rfl .nil
theorem s123 (h180 : SN ads 180 c1) (h198 : SN ads 198 c2) : SN ads 123 (g123 c1 c2) :=
  mk_snd [(nn180, c1), (nn198, c2)] ⟨fun _ => [], fun _ => none⟩ [.ptr, .int .i64] Tryz.func123 rfl (.cons h180 (.cons h198 .nil))
theorem s124 : SN ads 124 (g124) :=
  mk_snd [] ⟨fun _ => [], fun _ => none⟩ [.int .i64] Tryz.func124 rfl .nil
theorem s199 : SN ads 199 (g199) :=
  mk_snd [] ⟨fun _ => [], fun _ => none⟩ [.int .i64] Tryz.func199 rfl .nil
theorem s125 (h123 : SN ads 123 c1) (h198 : SN ads 198 c2) (h199 : SN ads 199 c3) : SN ads 125 (g125 c1 c2 c3) :=
  mk_snd [(nn123, c1), (nn198, c2), (nn199, c3)] ⟨fun _ => [], fun _ => none⟩ [.ptr, .int .i64] Tryz.func125 rfl (.cons h123 (.cons h198 (.cons h199 .nil)))
theorem s67 (h123 : SN ads 123 c1) (h124 : SN ads 124 c2) (h125 : SN ads 125 c3) : SN ads 67 (g67 c1 c2 c3) :=
  mk_snd [(nn123, c1), (nn124, c2), (nn125, c3)] ⟨fun n => match n with | 0 => [(9, .int .i64), (10, .int .i64), (16, .int .i64)] | 2 => [(71, .int .i64)] | _ => [], fun n => match n with | 9 => some [] | 12 => some [(9, .int .i64), (10, .int .i64)] | 21 => some [] | 25 => some [] | _ => none⟩ [.ptr, .any, .any] Tryz.func67 rfl (.cons h123 (.cons h124 (.cons h125 .nil)))
theorem s131 : SN ads 131 (g131) :=
  mk_snd [] ⟨fun _ => [], fun _ => none⟩ [.int .i64] Tryz.func131 rfl .nil
theorem s132 (h131 : SN ads 131 c1) : SN ads 132 (g132 c1) :=
  mk_snd [(nn131, c1)] ⟨fun _ => [], fun _ => none⟩ [.ptr, .int .i64] Tryz.func132 rfl (.cons h131 .nil)
theorem s133 : SN ads 133 (g133) :=
  mk_snd [] ⟨fun n => match n with | 0 => [(3, .int .i64), (10, .int .i64)] | _ => [], fun _ => none⟩ [.ptr] Tryz.func133 rfl .nil
theorem s70 (h131 : SN ads 131 c1) (h132 : SN ads 132 c2) (h133 : SN ads 133 c3) : SN ads 70 (g70 c1 c2 c3) :=
  mk_snd [(nn131, c1), (nn132, c2), (nn133, c3)] ⟨fun _ => [], fun _ => none⟩ [.ptr, .int .i64] Tryz.func70 rfl (.cons h131 (.cons h132 (.cons h133 .nil)))
theorem s134 : SN ads 134 (g134) :=
  mk_snd [] ⟨fun _ => [], fun _ => none⟩ [.int .i64] Tryz.func134 rfl .nil
theorem s204 : SN ads 204 (g204) :=
  mk_snd [] ⟨fun _ => [], fun _ => none⟩ [.ptr] Tryz.func204 rfl .nil
theorem s140 (h204 : SN ads 204 c1) : SN ads 140 (g140 c1) :=
  mk_snd [(nn204, c1)] ⟨fun _ => [], fun _ => none⟩ [.ptr] Tryz.func140 rfl (.cons h204 .nil)
theorem s142 (h183 : SN ads 183 c1) : SN ads 142 (g142 c1) :=
  mk_snd [(nn183, c1)] ⟨fun _ => [], fun _ => none⟩ [.ptr] Tryz.func142 rfl (.cons h183 .nil)
theorem s186 : SN ads 186 (g186) :=
  mk_snd [] ⟨fun _ => [], fun _ => none⟩ [.int .i64, .int .i64] Tryz.func186 rfl .nil
theorem s239 : SN ads 239 (g239) :=
  mk_snd [] ⟨fun _ => [], fun _ => none⟩ [.ptr] Tryz.func239 rfl .nil
theorem s202 (h186 : SN ads 186 c1) (h239 : SN ads 239 c2) : SN ads 202 (g202 c1 c2) :=
  mk_snd [(nn186, c1), (nn239, c2)] ⟨fun _ => [], fun _ => none⟩ [.ptr, .int .i64, .int .i64] Tryz.func202 rfl (.cons h186 (.cons h239 .nil))
theorem s248 (h161 : SN ads 161 c1) : SN ads 248 (g248 c1) :=
  mk_snd [(nn161, c1)] ⟨fun _ => [], fun _ => none⟩ [.ptr] Tryz.func248 rfl (.cons h161 .nil)
theorem s203 (h248 : SN ads 248 c1) : SN ads 203 (g203 c1) :=
  mk_snd [(nn248, c1)] ⟨fun _ => [], fun _ => none⟩ [.ptr] Tryz.func203 rfl (.cons h248 .nil)
theorem s135 (h65 : SN ads 65 c1) (h99 : SN ads 99 c2) (h140 : SN ads 140 c3) (h142 : SN ads 142 c4) (h202 : SN ads 202 c5) (h203 : SN ads 203 c6) : SN ads 135 (g135 c1 c2 c3 c4 c5 c6) :=
  mk_snd [(nn65, c1), (nn99, c2), (nn140, c3), (nn142, c4), (nn202, c5), (nn203, c6)] ⟨fun _ => [], fun _ => none⟩ [.ptr, .int .i64, .int .i64] Tryz.func135 rfl (.cons h65 (.cons h99 (.cons h140 (.cons h142 (.cons h202 (.cons h203 .nil))))))
theorem s71 (h134 : SN ads 134 c1) (h135 : SN ads 135 c2) : SN ads 71 (g71 c1 c2) :=
  mk_snd [(nn134, c1), (nn135, c2)] ⟨fun n => match n with | 0 => [(7, .slice), (9, .int .i64)] | _ => [], fun n => match n with | 7 => some [(7, .slice)] | _ => none⟩ [.ptr, .int .i64, .int .i64] Tryz.func71 rfl (.cons h134 (.cons h135 .nil))
theorem s193 : SN ads 193 (g193) :=
  mk_snd [] ⟨fun _ => [], fun _ => none⟩ [.int .i64] Tryz.func193 rfl .nil
theorem s126 (h121 : SN ads 121 c1) (h193 : SN ads 193 c2) : SN ads 126 (g126 c1 c2) :=
  mk_snd [(nn121, c1), (nn193, c2)] ⟨fun _ => [], fun _ => none⟩ [.ptr, .int .i64, .int .i64] Tryz.func126 rfl (.cons h121 (.cons h193 .nil))
theorem s129 : SN ads 129 (g129) :=
  mk_snd [] ⟨fun _ => [], fun _ => none⟩ [.ptr] Tryz.func129 rfl .nil
theorem s325 : SN ads 325 (g325) :=
  mk_snd [] ⟨fun _ => [], fun _ => none⟩ [.ptr, .int .i64, .int .i64] Tryz.func325 rfl .nil
theorem s328 : SN ads 328 (g328) :=
  mk_snd [] ⟨fun _ => [], fun _ => none⟩ [.ptr, .int .i64, .int .i64] Tryz.func328 rfl .nil
theorem s200 (h325 : SN ads 325 c1) (h328 : SN ads 328 c2) : SN ads 200 (g200 c1 c2) :=
  mk_snd [(nn325, c1), (nn328, c2)] ⟨fun n => match n with | 0 => [(1, .int .i64)] | _ => [], fun _ => none⟩ [.any, .int .i64] Tryz.func200 rfl (.cons h325 (.cons h328 .nil))
theorem s327 : SN ads 327 (g327) :=
  mk_snd [] ⟨fun _ => [], fun _ => none⟩ [.ptr, .any] Tryz.func327 rfl .nil
theorem s128 (h129 : SN ads 129 c1) (h200 : SN ads 200 c2) (h327 : SN ads 327 c3) : SN ads 128 (g128 c1 c2 c3) :=
  mk_snd [(nn129, c1), (nn200, c2), (nn327, c3)] ⟨fun _ => [], fun _ => none⟩ [.any, .any] Tryz.func128 rfl (.cons h129 (.cons h200 (.cons h327 .nil)))
theorem s201 (h325 : SN ads 325 c1) (h328 : SN ads 328 c2) : SN ads 201 (g201 c1 c2) :=
  mk_snd [(nn325, c1), (nn328, c2)] ⟨fun n => match n with | 0 => [(7, .int .i64)] | _ => [], fun n => match n with | 8 => some [(9, .int .i64)] | 11 => some [(7, .int .i64)] | _ => none⟩ [.any, .int .i64, .int .i64] Tryz.func201 rfl (.cons h325 (.cons h328 .nil))
theorem s326 : SN ads 326 (g326) :=
  mk_snd [] ⟨fun _ => [], fun _ => none⟩ [.ptr] Tryz.func326 rfl .nil
theorem s130 (h129 : SN ads 129 c1) (h200 : SN ads 200 c2) (h201 : SN ads 201 c3) (h326 : SN ads 326 c4) (h328 : SN ads 328 c5) : SN ads 130 (g130 c1 c2 c3 c4 c5) :=
  mk_snd [(nn129, c1), (nn200, c2), (nn201, c3), (nn326, c4), (nn328, c5)] ⟨fun _ => [], fun n => match n with | 6 => some [] | _ => none⟩ [.any, .int .i64] Tryz.func130 rfl (.cons h129 (.cons h200 (.cons h201 (.cons h326 (.cons h328 .nil)))))
theorem s127 (h120 : SN ads 120 c1) (h128 : SN ads 128 c2) (h129 : SN ads 129 c3) (h130 : SN ads 130 c4) : SN ads 127 (g127 c1 c2 c3 c4) :=
  mk_snd [(nn120, c1), (nn128, c2), (nn129, c3), (nn130, c4)] ⟨fun _ => [], fun n => match n with | 7 => some [] | 12 => some [] | _ => none⟩ [.ptr, .int .i64, .bool] Tryz.func127 rfl (.cons h120 (.cons h128 (.cons h129 (.cons h130 .nil))))
theorem s68 (h64 : SN ads 64 c1) (h70 : SN ads 70 c2) (h71 : SN ads 71 c3) (h126 : SN ads 126 c4) (h127 : SN ads 127 c5) : SN ads 68 (g68 c1 c2 c3 c4 c5) :=
  mk_snd [(nn64, c1), (nn70, c2), (nn71, c3), (nn126, c4), (nn127, c5)] ⟨fun n => match n with | 0 => [(15, .int .i64)] | 2 => [(6, .slice), (24, .int .i64)] | 4 => [(65, .int .i64)] | _ => [], fun n => match n with | 13 => some [(6, .slice)] | _ => none⟩ [.ptr] Tryz.func68 rfl (.cons h64 (.cons h70 (.cons h71 (.cons h126 (.cons h127 .nil)))))
theorem s69 (h128 : SN ads 128 c1) (h129 : SN ads 129 c2) (h130 : SN ads 130 c3) : SN ads 69 (g69 c1 c2 c3) :=
  mk_snd [(nn128, c1), (nn129, c2), (nn130, c3)] ⟨fun n => match n with | 0 => [(18, .int .i64)] | 2 => [(7, .slice)] | _ => [], fun _ => none⟩ [.ptr] Tryz.func69 rfl (.cons h128 (.cons h129 (.cons h130 .nil)))
theorem s188 : SN ads 188 (g188) :=
  mk_snd [] ⟨fun _ => [], fun _ => none⟩ [.ptr, .int .i64] Tryz.func188 rfl .nil
theorem s136 (h188 : SN ads 188 c1) : SN ads 136 (g136 c1) :=
  mk_snd [(nn188, c1)] ⟨fun _ => [], fun _ => none⟩ [.ptr, .int .i64] Tryz.func136 rfl (.cons h188 .nil)
theorem s137 : SN ads 137 (g137) :=
  mk_snd [] ⟨fun _ => [], fun _ => none⟩ [] Tryz.func137 rfl .nil
theorem s138 (h204 : SN ads 204 c1) : SN ads 138 (g138 c1) :=
  mk_snd [(nn204, c1)] ⟨fun _ => [], fun _ => none⟩ [.ptr] Tryz.func138 rfl (.cons h204 .nil)
theorem s205 : SN ads 205 (g205) :=
  mk_snd [] ⟨fun _ => [], fun _ => none⟩ [.ptr] Tryz.func205 rfl .nil
theorem s139 (h205 : SN ads 205 c1) : SN ads 139 (g139 c1) :=
  mk_snd [(nn205, c1)] ⟨fun _ => [], fun _ => none⟩ [.ptr] Tryz.func139 rfl (.cons h205 .nil)
theorem s112 : SN ads 112 (g112) :=
  mk_snd [] ⟨fun _ => [], fun _ => none⟩ [.int .i64] Tryz.func112 rfl .nil
theorem s206 (h112 : SN ads 112 c1) : SN ads 206 (g206 c1) :=
  mk_snd [(nn112, c1)] ⟨fun _ => [], fun _ => none⟩ [.int .u8, .any, .any, .int .i64, .int .i64] Tryz.func206 rfl (.cons h112 .nil)
theorem s141 (h206 : SN ads 206 c1) : SN ads 141 (g141 c1) :=
  mk_snd [(nn206, c1)] ⟨fun _ => [], fun _ => none⟩ [.any] Tryz.func141 rfl (.cons h206 .nil)
theorem s208 : SN ads 208 (g208) :=
  mk_snd [] ⟨fun _ => [], fun _ => none⟩ [.ptr] Tryz.func208 rfl .nil
theorem s143 (h208 : SN ads 208 c1) : SN ads 143 (g143 c1) :=
  mk_snd [(nn208, c1)] ⟨fun _ => [], fun _ => none⟩ [.ptr, .int .i64] Tryz.func143 rfl (.cons h208 .nil)
theorem s153 : SN ads 153 (g153) :=
  mk_snd [] ⟨fun _ => [], fun _ => none⟩ [.int .i64] Tryz.func153 rfl .nil
theorem s156 (h153 : SN ads 153 c1) : SN ads 156 (g156 c1) :=
  mk_snd [(nn153, c1)] ⟨fun n => match n with | 0 => [(3, .int .i64), (8, .int .i64)] | _ => [], fun _ => none⟩ [.slice] Tryz.func156 rfl (.cons h153 .nil)
theorem s258 : SN ads 258 (g258) :=
  mk_snd [] ⟨fun _ => [], fun _ => none⟩ [.int .u8] Tryz.func258 rfl .nil
theorem s221 (h258 : SN ads 258 c1) : SN ads 221 (g221 c1) :=
  mk_snd [(nn258, c1)] ⟨fun n => match n with | 0 => [(3, .int .u8), (9, .int .i64)] | 2 => [(3, .int .u8), (5, .int .u8), (13, .int .i64)] | _ => [], fun n => match n with | 11 => some [(3, .int .u8)] | _ => none⟩ [.slice] Tryz.func221 rfl (.cons h258 .nil)
theorem s157 (h25 : SN ads 25 c1) (h221 : SN ads 221 c2) : SN ads 157 (g157 c1 c2) :=
  mk_snd [(nn25, c1), (nn221, c2)] ⟨fun _ => [], fun _ => none⟩ [.slice] Tryz.func157 rfl (.cons h25 (.cons h221 .nil))
theorem s75 (h153 : SN ads 153 c1) (h156 : SN ads 156 c2) (h157 : SN ads 157 c3) : SN ads 75 (g75 c1 c2 c3) :=
  mk_snd [(nn153, c1), (nn156, c2), (nn157, c3)] ⟨fun n => match n with | 0 => [(4, .slice), (13, .int .i64)] | 3 => [(7, .slice), (49, .int .i64)] | _ => [], fun _ => none⟩ [.slice] Tryz.func75 rfl (.cons h153 (.cons h156 (.cons h157 .nil)))
theorem s147 (h121 : SN ads 121 c1) (h126 : SN ads 126 c2) (h193 : SN ads 193 c3) : SN ads 147 (g147 c1 c2 c3) :=
  mk_snd [(nn121, c1), (nn126, c2), (nn193, c3)] ⟨fun _ => [], fun n => match n with | 17 => some [(11, .bool)] | _ => none⟩ [.ptr, .int .i64, .int .i64, .bool] Tryz.func147 rfl (.cons h121 (.cons h126 (.cons h193 .nil)))
theorem s148 (h65 : SN ads 65 c1) (h100 : SN ads 100 c2) (h202 : SN ads 202 c3) : SN ads 148 (g148 c1 c2 c3) :=
  mk_snd [(nn65, c1), (nn100, c2), (nn202, c3)] ⟨fun n => match n with | 0 => [(15, .int .i64)] | _ => [], fun n => match n with | 8 => some [(11, .int .i64)] | _ => none⟩ [.ptr, .int .i64, .int .i64, .int .i64] Tryz.func148 rfl (.cons h65 (.cons h100 (.cons h202 .nil)))
theorem s177 (h232 : SN ads 232 c1) (h233 : SN ads 233 c2) : SN ads 177 (g177 c1 c2) :=
  mk_snd [(nn232, c1), (nn233, c2)] ⟨fun _ => [], fun _ => none⟩ [.ptr, .int .i64, .int .i64] Tryz.func177 rfl (.cons h232 (.cons h233 .nil))
theorem s26 : SN ads 26 (g26) :=
  mk_snd [] ⟨fun _ => [], fun _ => none⟩ [.slice] Tryz.func26 rfl .nil
theorem s266 (h26 : SN ads 26 c1) : SN ads 266 (g266 c1) :=
  mk_snd [(nn26, c1)] ⟨fun _ => [], fun _ => none⟩ [.ptr, .int .i64] Tryz.func266 rfl (.cons h26 .nil)
theorem s297 : SN ads 297 (g297) :=
  mk_snd [] ⟨fun _ => [], fun n => match n with | 7 => some [(39, .bool)] | _ => none⟩ [.ptr] Tryz.func297 rfl .nil
theorem s284 : SN ads 284 (g284) :=
  mk_snd [] ⟨fun _ => [], fun n => match n with | 4 => some [(0, .int .u64), (2, .int .i64)] | 7 => some [(0, .int .u64), (2, .int .i64)] | 10 => some [(0, .int .u64), (2, .int .i64)] | _ => none⟩ [.int .u64] Tryz.func284 rfl .nil
theorem s304 (h284 : SN ads 284 c1) : SN ads 304 (g304 c1) :=
  mk_snd [(nn284, c1)] ⟨fun _ => [], fun _ => none⟩ [.int .u64] Tryz.func304 rfl (.cons h284 .nil)
theorem s302 (h304 : SN ads 304 c1) : SN ads 302 (g302 c1) :=
  mk_snd [(nn304, c1)] ⟨fun n => match n with | 0 => [(15, .int .u64), (16, .int .u64)] | 2 => [(16, .int .u64), (18, .int .u64)] | _ => [], fun n => match n with | 3 => some [] | 5 => some [] | 21 => some [(15, .int .u64)] | 28 => some [(18, .int .u64)] | _ => none⟩ [.int .u64, .int .u64, .int .u64] Tryz.func302 rfl (.cons h304 .nil)
theorem s303 : SN ads 303 (g303) :=
  mk_snd [] ⟨fun n => match n with | 0 => [(3, .int .u64), (4, .int .u64)] | _ => [], fun n => match n with | 4 => some [(3, .int .u64)] | _ => none⟩ [.int .u64] Tryz.func303 rfl .nil
theorem s301 (h302 : SN ads 302 c1) (h303 : SN ads 303 c2) : SN ads 301 (g301 c1 c2) :=
  mk_snd [(nn302, c1), (nn303, c2)] ⟨fun _ => [], fun _ => none⟩ [.int .u32] Tryz.func301 rfl (.cons h302 (.cons h303 .nil))
theorem s300 (h301 : SN ads 301 c1) : SN ads 300 (g300 c1) :=
  mk_snd [(nn301, c1)] ⟨fun _ => [], fun _ => none⟩ [.int .i64, .int .i64, .int .u32] Tryz.func300 rfl (.cons h301 .nil)
theorem s298 (h297 : SN ads 297 c1) (h300 : SN ads 300 c2) : SN ads 298 (g298 c1 c2) :=
  mk_snd [(nn297, c1), (nn300, c2)] ⟨fun n => match n with | 0 => [(3, .bool)] | _ => [], fun n => match n with | 3 => some [] | 6 => some [] | 11 => some [(3, .bool)] | _ => none⟩ [.ptr] Tryz.func298 rfl (.cons h297 (.cons h300 .nil))
theorem s299 (h297 : SN ads 297 c1) (h300 : SN ads 300 c2) : SN ads 299 (g299 c1 c2) :=
  mk_snd [(nn297, c1), (nn300, c2)] ⟨fun _ => [], fun n => match n with | 7 => some [(56, .bool)] | 8 => some [] | _ => none⟩ [.ptr] Tryz.func299 rfl (.cons h297 (.cons h300 .nil))
theorem s296 (h297 : SN ads 297 c1) (h298 : SN ads 298 c2) (h299 : SN ads 299 c3) : SN ads 296 (g296 c1 c2 c3) :=
  mk_snd [(nn297, c1), (nn298, c2), (nn299, c3)] ⟨fun _ => [], fun _ => none⟩ [.ptr] Tryz.func296 rfl (.cons h297 (.cons h298 (.cons h299 .nil)))
theorem s295 (h296 : SN ads 296 c1) : SN ads 295 (g295 c1) :=
  mk_snd [(nn296, c1)] ⟨fun _ => [], fun _ => none⟩ [.any, .int .i64, .int .i64, .int .i64, .int .i64, .slice] Tryz.func295 rfl (.cons h296 .nil)
theorem s293 (h266 : SN ads 266 c1) (h295 : SN ads 295 c2) : SN ads 293 (g293 c1 c2) :=
  mk_snd [(nn266, c1), (nn295, c2)] ⟨fun n => match n with | 0 => [(9, .slice), (26, .int .i64)] | 2 => [(15, .slice), (68, .int .i64)] | _ => [], fun _ => none⟩ [.ptr, .int .i64, .int .i64] Tryz.func293 rfl (.cons h266 (.cons h295 .nil))
end
end Go.Proofs.YtbelmboeamkccaaGreatDoor
