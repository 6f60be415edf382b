/- The printed functions are the machine's own, by the kernel. -/
import Derived.Test.YtgkpnfnkaplebaaGreatDoorGgD1
import Derived.Test.YtgkpnfnkaplebaaGreatDoorRows
set_option linter.unusedVariables false
set_option linter.constructorNameAsVariable false
set_option maxRecDepth 100000
namespace Go.Proofs.YtgkpnfnkaplebaaGreatDoor
open Go.Vc Go.Ab
noncomputable section
variable (v1 v2 : AV) (l1 l2 l3 l4 : List AV) (L1 L2 : List AP) (d1 d2 d3 d4 : DV) (R1 : List DV) (n1 n2 n3 n4 n5 n6 n7 n8 : Int) (m1 m2 m3 m4 : Nat) (t1 t2 t3 t4 : Bool) (p1 p2 p3 p4 p5 : AP) (b1 b2 b3 b4 b5 : P4) (s1 s2 s3 : AS) (H1 : AH) (x1 x2 : List Int) (c1 c2 c3 c4 c5 c6 c7 c8 c9 c10 c11 c12 c13 c14 c15 : G DV) (Ka1 Ka2 : AH → Option DV) (Kb1 Kb2 : DV → AH → Option DV) (Kc1 Kc2 : DV → DV → AH → Option DV) (Kd1 : DV → DV → DV → AH → Option DV)
variable {ads : List Addr}
theorem k178 : SN ads 178 (g178) :=
  mk_snd [] ⟨fun _ => [], fun _ => none⟩ [.int .u32, .int .i64, .int .i64] Tryz.func178 rfl .nil
theorem k99 (h178 : SN ads 178 c1) : SN ads 99 (g99 c1) :=
  mk_snd [(nn178, c1)] ⟨fun n => match n with | 0 => [(5, .int .i64)] | _ => [], fun _ => none⟩ [.ptr, .int .i64] Tryz.func99 rfl (.cons h178 .nil)
theorem k45 (h99 : SN ads 99 c1) : SN ads 45 (g45 c1) :=
  mk_snd [(nn99, c1)] ⟨fun n => match n with | 0 => [(36, .int .i64)] | _ => [], fun _ => none⟩ [.int .u32, .int .i64, .int .i64, .int .i64, .int .i64] Tryz.func45 rfl (.cons h99 .nil)
theorem k100 : SN ads 100 (g100) :=
  mk_snd [] ⟨fun _ => [], fun _ => none⟩ [.int .i64, .int .i64] Tryz.func100 rfl .nil
theorem k46 (h100 : SN ads 100 c1) : SN ads 46 (g46 c1) :=
  mk_snd [(nn100, c1)] ⟨fun _ => [], fun _ => none⟩ [.int .i64, .int .i64, .int .i64] Tryz.func46 rfl (.cons h100 .nil)
theorem k101 : SN ads 101 (g101) :=
  mk_snd [] ⟨fun _ => [], fun _ => none⟩ [.int .i64] Tryz.func101 rfl .nil
theorem k47 (h101 : SN ads 101 c1) : SN ads 47 (g47 c1) :=
  mk_snd [(nn101, c1)] ⟨fun _ => [], fun _ => none⟩ [.int .i64, .int .i64] Tryz.func47 rfl (.cons h101 .nil)
theorem k48 : SN ads 48 (g48) :=
  mk_snd [] ⟨fun _ => [], fun _ => none⟩ [.int .i64] Tryz.func48 rfl .nil
theorem k102 (h48 : SN ads 48 c1) : SN ads 102 (g102 c1) :=
  mk_snd [(nn48, c1)] ⟨fun n => match n with | 0 => [(8, .int .i64)] | _ => [], fun _ => none⟩ [.slice, .any] Tryz.func102 rfl (.cons h48 .nil)
theorem k49 (h102 : SN ads 102 c1) : SN ads 49 (g49 c1) :=
  mk_snd [(nn102, c1)] ⟨fun _ => [], fun _ => none⟩ [.slice, .any] Tryz.func49 rfl (.cons h102 .nil)
theorem k50 : SN ads 50 (g50) :=
  mk_snd [] ⟨fun _ => [], fun _ => none⟩ [.any] Tryz.func50 rfl .nil
theorem k51 : SN ads 51 (g51) :=
  mk_snd [] ⟨fun _ => [], fun _ => none⟩ [] Tryz.func51 rfl .nil
theorem k23 (h45 : SN ads 45 c1) (h46 : SN ads 46 c2) (h47 : SN ads 47 c3) (h49 : SN ads 49 c4) (h50 : SN ads 50 c5) (h51 : SN ads 51 c6) : SN ads 23 (g23 c1 c2 c3 c4 c5 c6) :=
  mk_snd [(nn45, c1), (nn46, c2), (nn47, c3), (nn49, c4), (nn50, c5), (nn51, c6)] ⟨fun n => match n with | 0 => [(99, .int .i64)] | _ => [], fun _ => none⟩ [.any] Tryz.func23 rfl (.cons h45 (.cons h46 (.cons h47 (.cons h49 (.cons h50 (.cons h51 .nil))))))
theorem k24 : SN ads 24 (g24) :=
  mk_snd [] ⟨fun _ => [], fun _ => none⟩ [.any, .any, .int .i64] Tryz.func24 rfl .nil
theorem k25 : SN ads 25 (g25) :=
  mk_snd [] ⟨fun _ => [], fun _ => none⟩ [.int .i64] Tryz.func25 rfl .nil
theorem k11 (h23 : SN ads 23 c1) (h24 : SN ads 24 c2) (h25 : SN ads 25 c3) : SN ads 11 (g11 c1 c2 c3) :=
  mk_snd [(nn23, c1), (nn24, c2), (nn25, c3)] ⟨fun _ => [], fun _ => none⟩ [.any, .int .i64] Tryz.func11 rfl (.cons h23 (.cons h24 (.cons h25 .nil)))
theorem k6 (h11 : SN ads 11 c1) : SN ads 6 (g6 c1) :=
  mk_snd [(nn11, c1)] ⟨fun _ => [], fun _ => none⟩ [] Tryz.func6 rfl (.cons h11 .nil)
theorem k14 : SN ads 14 (g14) :=
  mk_snd [] ⟨fun _ => [], fun _ => none⟩ [.str] Tryz.func14 rfl .nil
theorem k26 (h14 : SN ads 14 c1) : SN ads 26 (g26 c1) :=
  mk_snd [(nn14, c1)] ⟨fun n => match n with | 0 => [(8, .int .i64)] | _ => [], fun _ => none⟩ [.slice, .any] Tryz.func26 rfl (.cons h14 .nil)
theorem k12 (h14 : SN ads 14 c1) (h26 : SN ads 26 c2) : SN ads 12 (g12 c1 c2) :=
  mk_snd [(nn14, c1), (nn26, c2)] ⟨fun n => match n with | 0 => [(5, .int .i64), (6, .int .i64)] | _ => [], fun n => match n with | 6 => some [(5, .int .i64)] | _ => none⟩ [.slice, .any] Tryz.func12 rfl (.cons h14 (.cons h26 .nil))
theorem k27 (h28 : SN ads 28 c1) (h53 : SN ads 53 c2) : SN ads 27 (g27 c1 c2) :=
  mk_snd [(nn28, c1), (nn53, c2)] ⟨fun n => match n with | 0 => [(0, .str), (10, .int .i64)] | _ => [], fun n => match n with | 7 => some [(3, .int .i64)] | 17 => some [(0, .str), (10, .int .i64)] | _ => none⟩ [.str, .str, .int .i64, .int .i64] Tryz.func27 rfl (.cons h28 (.cons h53 .nil))
theorem k13 (h27 : SN ads 27 c1) : SN ads 13 (g13 c1) :=
  mk_snd [(nn27, c1)] ⟨fun _ => [], fun _ => none⟩ [.str, .str] Tryz.func13 rfl (.cons h27 .nil)
theorem k15 (h28 : SN ads 28 c1) : SN ads 15 (g15 c1) :=
  mk_snd [(nn28, c1)] ⟨fun _ => [], fun _ => none⟩ [.str, .str] Tryz.func15 rfl (.cons h28 .nil)
theorem k16 : SN ads 16 (g16) :=
  mk_snd [] ⟨fun _ => [], fun n => match n with | 7 => some [(6, .bool)] | 11 => some [(12, .bool)] | 17 => some [(18, .bool)] | _ => none⟩ [.str] Tryz.func16 rfl .nil
theorem k57 : SN ads 57 (g57) :=
  mk_snd [] ⟨fun n => match n with | 0 => [(4, .int .i64)] | _ => [], fun _ => none⟩ [.str] Tryz.func57 rfl .nil
theorem k110 : SN ads 110 (g110) :=
  mk_snd [] ⟨fun _ => [], fun _ => none⟩ [.ptr, .int .u8] Tryz.func110 rfl .nil
theorem k58 (h110 : SN ads 110 c1) : SN ads 58 (g58 c1) :=
  mk_snd [(nn110, c1)] ⟨fun n => match n with | 0 => [(0, .str)] | _ => [], fun n => match n with | 4 => some [(0, .str)] | _ => none⟩ [.str, .ptr] Tryz.func58 rfl (.cons h110 .nil)
theorem k59 (h110 : SN ads 110 c1) : SN ads 59 (g59 c1) :=
  mk_snd [(nn110, c1)] ⟨fun n => match n with | 0 => [(0, .str)] | _ => [], fun n => match n with | 4 => some [(0, .str)] | _ => none⟩ [.str, .ptr] Tryz.func59 rfl (.cons h110 .nil)
theorem k29 (h57 : SN ads 57 c1) (h58 : SN ads 58 c2) (h59 : SN ads 59 c3) : SN ads 29 (g29 c1 c2 c3) :=
  mk_snd [(nn57, c1), (nn58, c2), (nn59, c3)] ⟨fun _ => [], fun _ => none⟩ [.str, .str] Tryz.func29 rfl (.cons h57 (.cons h58 (.cons h59 .nil)))
theorem k62 : SN ads 62 (g62) :=
  mk_snd [] ⟨fun n => match n with | 0 => [(6, .int .i64), (49, .int .i64)] | _ => [], fun n => match n with | 8 => some [(0, .str)] | 19 => some [(6, .int .i64)] | _ => none⟩ [.str] Tryz.func62 rfl .nil
theorem k30 (h62 : SN ads 62 c1) : SN ads 30 (g30 c1) :=
  mk_snd [(nn62, c1)] ⟨fun _ => [], fun _ => none⟩ [.str] Tryz.func30 rfl (.cons h62 .nil)
theorem k17 (h29 : SN ads 29 c1) (h30 : SN ads 30 c2) : SN ads 17 (g17 c1 c2) :=
  mk_snd [(nn29, c1), (nn30, c2)] ⟨fun _ => [], fun _ => none⟩ [.str] Tryz.func17 rfl (.cons h29 (.cons h30 .nil))
theorem k196 : SN ads 196 (g196) :=
  mk_snd [] ⟨fun _ => [], fun _ => none⟩ [.int .i64] Tryz.func196 rfl .nil
theorem k276 : SN ads 276 (g276) :=
  mk_snd [] ⟨fun n => match n with | 0 => [(8, .int .i64)] | _ => [], fun _ => none⟩ [.slice, .int .i64] Tryz.func276 rfl .nil
theorem k197 (h276 : SN ads 276 c1) : SN ads 197 (g197 c1) :=
  mk_snd [(nn276, c1)] ⟨fun _ => [], fun _ => none⟩ [.slice, .int .i64] Tryz.func197 rfl (.cons h276 .nil)
theorem k198 : SN ads 198 (g198) :=
  mk_snd [] ⟨fun _ => [], fun n => match n with | 8 => some [(10, .bool)] | _ => none⟩ [.int .i64] Tryz.func198 rfl .nil
theorem k127 (h196 : SN ads 196 c1) (h197 : SN ads 197 c2) (h198 : SN ads 198 c3) : SN ads 127 (g127 c1 c2 c3) :=
  mk_snd [(nn196, c1), (nn197, c2), (nn198, c3)] ⟨fun _ => [], fun _ => none⟩ [.any] Tryz.func127 rfl (.cons h196 (.cons h197 (.cons h198 .nil)))
theorem k160 : SN ads 160 (g160) :=
  mk_snd [] ⟨fun n => match n with | 0 => [(12, .int .i64)] | _ => [], fun _ => none⟩ [.ptr, .any] Tryz.func160 rfl .nil
theorem k128 (h50 : SN ads 50 c1) (h160 : SN ads 160 c2) : SN ads 128 (g128 c1 c2) :=
  mk_snd [(nn50, c1), (nn160, c2)] ⟨fun n => match n with | 0 => [(22, .int .i64)] | _ => [], fun _ => none⟩ [.ptr, .any] Tryz.func128 rfl (.cons h50 (.cons h160 .nil))
theorem k199 : SN ads 199 (g199) :=
  mk_snd [] ⟨fun _ => [], fun _ => none⟩ [.int .i64] Tryz.func199 rfl .nil
theorem k200 : SN ads 200 (g200) :=
  mk_snd [] ⟨fun _ => [], fun _ => none⟩ [.int .i64] Tryz.func200 rfl .nil
theorem k201 (h199 : SN ads 199 c1) : SN ads 201 (g201 c1) :=
  mk_snd [(nn199, c1)] ⟨fun _ => [], fun _ => none⟩ [.ptr, .int .i64] Tryz.func201 rfl (.cons h199 .nil)
theorem k129 (h199 : SN ads 199 c1) (h200 : SN ads 200 c2) (h201 : SN ads 201 c3) : SN ads 129 (g129 c1 c2 c3) :=
  mk_snd [(nn199, c1), (nn200, c2), (nn201, c3)] ⟨fun _ => [], fun _ => none⟩ [.ptr, .int .i64, .int .i64] Tryz.func129 rfl (.cons h199 (.cons h200 (.cons h201 .nil)))
theorem k123 : SN ads 123 (g123) :=
  mk_snd [] ⟨fun _ => [], fun _ => none⟩ [.ptr, .int .i64] Tryz.func123 rfl .nil
theorem k130 (h123 : SN ads 123 c1) : SN ads 130 (g130 c1) :=
  mk_snd [(nn123, c1)] ⟨fun _ => [], fun _ => none⟩ [.ptr, .int .i64, .any, .int .i64] Tryz.func130 rfl (.cons h123 .nil)
theorem k77 (h46 : SN ads 46 c1) (h50 : SN ads 50 c2) (h127 : SN ads 127 c3) (h128 : SN ads 128 c4) (h129 : SN ads 129 c5) (h130 : SN ads 130 c6) : SN ads 77 (g77 c1 c2 c3 c4 c5 c6) :=
  mk_snd [(nn46, c1), (nn50, c2), (nn127, c3), (nn128, c4), (nn129, c5), (nn130, c6)] ⟨fun n => match n with | 1 => [(71, .int .i64)] | 3 => [(107, .int .i64)] | _ => [], fun _ => none⟩ [.ptr, .any, .any, .int .i64, .any, .int .i64] Tryz.func77 rfl (.cons h46 (.cons h50 (.cons h127 (.cons h128 (.cons h129 (.cons h130 .nil))))))
theorem k40 (h24 : SN ads 24 c1) (h25 : SN ads 25 c2) (h77 : SN ads 77 c3) : SN ads 40 (g40 c1 c2 c3) :=
  mk_snd [(nn24, c1), (nn25, c2), (nn77, c3)] ⟨fun n => match n with | 1 => [(29, .int .i64)] | _ => [], fun n => match n with | 12 => some [(9, .int .i64), (10, .any)] | _ => none⟩ [.ptr, .ptr, .any] Tryz.func40 rfl (.cons h24 (.cons h25 (.cons h77 .nil)))
theorem k88 : SN ads 88 (g88) :=
  mk_snd [] ⟨fun _ => [], fun n => match n with | 9 => some [(9, .bool)] | _ => none⟩ [.slice] Tryz.func88 rfl .nil
theorem k290 : SN ads 290 (g290) :=
  mk_snd [] ⟨fun _ => [], fun _ => none⟩ [.int .i64, .int .i64] Tryz.func290 rfl .nil
theorem k291 : SN ads 291 (g291) :=
  mk_snd [] ⟨fun n => match n with | 0 => [(9, .slice), (18, .int .i64)] | _ => [], fun _ => none⟩ [.any, .any, .any, .int .u8] Tryz.func291 rfl .nil
theorem k292 : SN ads 292 (g292) :=
  mk_snd [] ⟨fun _ => [], fun _ => none⟩ [.int .i64] Tryz.func292 rfl .nil
theorem k224 (h290 : SN ads 290 c1) (h291 : SN ads 291 c2) (h292 : SN ads 292 c3) : SN ads 224 (g224 c1 c2 c3) :=
  mk_snd [(nn290, c1), (nn291, c2), (nn292, c3)] ⟨fun _ => [], fun n => match n with | 6 => some [(4, .int .u8)] | 9 => some [(5, .slice)] | 13 => some [(5, .slice)] | _ => none⟩ [.any] Tryz.func224 rfl (.cons h290 (.cons h291 (.cons h292 .nil)))
theorem k243 (h304 : SN ads 304 c1) : SN ads 243 (g243 c1) :=
  mk_snd [(nn304, c1)] ⟨fun _ => [], fun _ => none⟩ [.slice, .int .i64, .slice] Tryz.func243 rfl (.cons h304 .nil)
theorem k244 : SN ads 244 (g244) :=
  mk_snd [] ⟨fun n => match n with | 0 => [(7, .int .i64)] | _ => [], fun _ => none⟩ [.slice] Tryz.func244 rfl .nil
theorem k245 : SN ads 245 (g245) :=
  mk_snd [] ⟨fun _ => [], fun _ => none⟩ [.slice] Tryz.func245 rfl .nil
theorem k143 (h76 : SN ads 76 c1) (h224 : SN ads 224 c2) (h243 : SN ads 243 c3) (h244 : SN ads 244 c4) (h245 : SN ads 245 c5) : SN ads 143 (g143 c1 c2 c3 c4 c5) :=
  mk_snd [(nn76, c1), (nn224, c2), (nn243, c3), (nn244, c4), (nn245, c5)] ⟨fun _ => [], fun n => match n with | 10 => some [(6, .slice)] | 14 => some [] | _ => none⟩ [.slice] Tryz.func143 rfl (.cons h76 (.cons h224 (.cons h243 (.cons h244 (.cons h245 .nil)))))
theorem k124 : SN ads 124 (g124) :=
  mk_snd [] ⟨fun _ => [], fun _ => none⟩ [.ptr, .int .i64] Tryz.func124 rfl .nil
theorem k162 (h124 : SN ads 124 c1) (h160 : SN ads 160 c2) : SN ads 162 (g162 c1 c2) :=
  mk_snd [(nn124, c1), (nn160, c2)] ⟨fun _ => [], fun n => match n with | 2 => some [(29, .bool)] | _ => none⟩ [.ptr, .any, .any, .any, .int .i64] Tryz.func162 rfl (.cons h124 (.cons h160 .nil))
theorem k260 : SN ads 260 (g260) :=
  mk_snd [] ⟨fun _ => [], fun _ => none⟩ [.ptr, .int .i64] Tryz.func260 rfl .nil
theorem k163 (h260 : SN ads 260 c1) : SN ads 163 (g163 c1) :=
  mk_snd [(nn260, c1)] ⟨fun _ => [], fun n => match n with | 11 => some [(9, .int .i64)] | _ => none⟩ [.ptr, .int .i64, .int .i64, .int .i64] Tryz.func163 rfl (.cons h260 .nil)
theorem k164 : SN ads 164 (g164) :=
  mk_snd [] ⟨fun _ => [], fun _ => none⟩ [.ptr] Tryz.func164 rfl .nil
theorem k90 (h143 : SN ads 143 c1) (h162 : SN ads 162 c2) (h163 : SN ads 163 c3) (h164 : SN ads 164 c4) : SN ads 90 (g90 c1 c2 c3 c4) :=
  mk_snd [(nn143, c1), (nn162, c2), (nn163, c3), (nn164, c4)] ⟨fun _ => [], fun n => match n with | 15 => some [] | _ => none⟩ [.ptr, .slice] Tryz.func90 rfl (.cons h143 (.cons h162 (.cons h163 (.cons h164 .nil))))
theorem k42 (h88 : SN ads 88 c1) (h90 : SN ads 90 c2) : SN ads 42 (g42 c1 c2) :=
  mk_snd [(nn88, c1), (nn90, c2)] ⟨fun _ => [], fun n => match n with | 9 => some [(5, .any)] | _ => none⟩ [.ptr, .slice] Tryz.func42 rfl (.cons h88 (.cons h90 .nil))
theorem k71 : SN ads 71 (g71) :=
  mk_snd [] ⟨fun n => match n with | 0 => [(3, .slice), (10, .int .i64)] | _ => [], fun n => match n with | 7 => some [(3, .slice)] | _ => none⟩ [.ptr] Tryz.func71 rfl .nil
theorem k193 : SN ads 193 (g193) :=
  mk_snd [] ⟨fun _ => [], fun _ => none⟩ [.any] Tryz.func193 rfl .nil
theorem k64 : SN ads 64 (g64) :=
  mk_snd [] ⟨fun _ => [], fun _ => none⟩ [.slice] Tryz.func64 rfl .nil
theorem k275 (h64 : SN ads 64 c1) : SN ads 275 (g275 c1) :=
  mk_snd [(nn64, c1)] ⟨fun _ => [], fun _ => none⟩ [.any] Tryz.func275 rfl (.cons h64 .nil)
theorem k303 : SN ads 303 (g303) :=
  mk_snd [] ⟨fun _ => [], fun _ => none⟩ [.int .i64] Tryz.func303 rfl .nil
theorem k239 (h303 : SN ads 303 c1) : SN ads 239 (g239 c1) :=
  mk_snd [(nn303, c1)] ⟨fun _ => [], fun _ => none⟩ [.int .i64, .int .i64] Tryz.func239 rfl (.cons h303 .nil)
theorem k308 (h239 : SN ads 239 c1) : SN ads 308 (g308 c1) :=
  mk_snd [(nn239, c1)] ⟨fun _ => [], fun _ => none⟩ [.any, .ptr] Tryz.func308 rfl (.cons h239 .nil)
theorem k311 (h239 : SN ads 239 c1) (h308 : SN ads 308 c2) : SN ads 311 (g311 c1 c2) :=
  mk_snd [(nn239, c1), (nn308, c2)] ⟨fun _ => [], fun _ => none⟩ [.any, .ptr, .ptr] Tryz.func311 rfl (.cons h239 (.cons h308 .nil))
theorem k192 (h193 : SN ads 193 c1) (h275 : SN ads 275 c2) (h311 : SN ads 311 c3) : SN ads 192 (g192 c1 c2 c3) :=
  mk_snd [(nn193, c1), (nn275, c2), (nn311, c3)] ⟨fun n => match n with | 0 => [(5, .slice), (13, .int .i64)] | _ => [], fun n => match n with | 7 => some [(5, .slice)] | _ => none⟩ [.ptr, .any] Tryz.func192 rfl (.cons h193 (.cons h275 (.cons h311 .nil)))
theorem k125 (h192 : SN ads 192 c1) : SN ads 125 (g125 c1) :=
  mk_snd [(nn192, c1)] ⟨fun _ => [], fun _ => none⟩ [.ptr] Tryz.func125 rfl (.cons h192 .nil)
theorem k166 : SN ads 166 (g166) :=
  mk_snd [] ⟨fun n => match n with | 0 => [(10, .int .i64)] | _ => [], fun _ => none⟩ [.ptr, .int .i64, .slice] Tryz.func166 rfl .nil
theorem k333 : SN ads 333 (g333) :=
  mk_snd [] ⟨fun _ => [], fun _ => none⟩ [.any, .ptr] Tryz.func333 rfl .nil
theorem k341 : SN ads 341 (g341) :=
  mk_snd [] ⟨fun _ => [], fun _ => none⟩ [.any] Tryz.func341 rfl .nil
theorem k342 (h308 : SN ads 308 c1) (h311 : SN ads 311 c2) (h333 : SN ads 333 c3) (h341 : SN ads 341 c4) : SN ads 342 (g342 c1 c2 c3 c4) :=
  mk_snd [(nn308, c1), (nn311, c2), (nn333, c3), (nn341, c4)] ⟨fun n => match n with | 0 => [(8, .int .i64)] | _ => [], fun _ => none⟩ [.slice, .any] Tryz.func342 rfl (.cons h308 (.cons h311 (.cons h333 (.cons h341 .nil))))
theorem k324 (h311 : SN ads 311 c1) (h342 : SN ads 342 c2) : SN ads 324 (g324 c1 c2) :=
  mk_snd [(nn311, c1), (nn342, c2)] ⟨fun n => match n with | 0 => [(5, .int .i64), (6, .int .i64)] | _ => [], fun n => match n with | 6 => some [(5, .int .i64)] | _ => none⟩ [.slice, .any] Tryz.func324 rfl (.cons h311 (.cons h342 .nil))
theorem k325 : SN ads 325 (g325) :=
  mk_snd [] ⟨fun _ => [], fun _ => none⟩ [.slice] Tryz.func325 rfl .nil
theorem k346 : SN ads 346 (g346) :=
  mk_snd [] ⟨fun _ => [], fun _ => none⟩ [.slice, .int .i64, .int .i64] Tryz.func346 rfl .nil
theorem k347 : SN ads 347 (g347) :=
  mk_snd [] ⟨fun _ => [], fun _ => none⟩ [.slice] Tryz.func347 rfl .nil
theorem k326 (h276 : SN ads 276 c1) (h346 : SN ads 346 c2) (h347 : SN ads 347 c3) : SN ads 326 (g326 c1 c2 c3) :=
  mk_snd [(nn276, c1), (nn346, c2), (nn347, c3)] ⟨fun _ => [], fun n => match n with | 8 => some [] | _ => none⟩ [.ptr, .int .i64] Tryz.func326 rfl (.cons h276 (.cons h346 (.cons h347 .nil)))
theorem k278 (h192 : SN ads 192 c1) (h324 : SN ads 324 c2) (h325 : SN ads 325 c3) (h326 : SN ads 326 c4) : SN ads 278 (g278 c1 c2 c3 c4) :=
  mk_snd [(nn192, c1), (nn324, c2), (nn325, c3), (nn326, c4)] ⟨fun n => match n with | 0 => [(23, .int .i64)] | _ => [], fun n => match n with | 7 => some [] | _ => none⟩ [.ptr, .any] Tryz.func278 rfl (.cons h192 (.cons h324 (.cons h325 (.cons h326 .nil))))
theorem k202 (h278 : SN ads 278 c1) : SN ads 202 (g202 c1) :=
  mk_snd [(nn278, c1)] ⟨fun n => match n with | 0 => [(7, .slice), (18, .int .i64)] | _ => [], fun n => match n with | 9 => some [(7, .slice)] | 13 => some [] | _ => none⟩ [.ptr, .int .i64] Tryz.func202 rfl (.cons h278 .nil)
theorem k131 (h125 : SN ads 125 c1) (h166 : SN ads 166 c2) (h202 : SN ads 202 c3) : SN ads 131 (g131 c1 c2 c3) :=
  mk_snd [(nn125, c1), (nn166, c2), (nn202, c3)] ⟨fun n => match n with | 0 => [(22, .int .i64)] | _ => [], fun _ => none⟩ [.ptr, .ptr] Tryz.func131 rfl (.cons h125 (.cons h166 (.cons h202 .nil)))
theorem k258 : SN ads 258 (g258) :=
  mk_snd [] ⟨fun _ => [], fun _ => none⟩ [.int .i64] Tryz.func258 rfl .nil
theorem k280 : SN ads 280 (g280) :=
  mk_snd [] ⟨fun _ => [], fun _ => none⟩ [.int .i64] Tryz.func280 rfl .nil
theorem k203 (h258 : SN ads 258 c1) (h280 : SN ads 280 c2) : SN ads 203 (g203 c1 c2) :=
  mk_snd [(nn258, c1), (nn280, c2)] ⟨fun _ => [], fun _ => none⟩ [.ptr, .int .i64] Tryz.func203 rfl (.cons h258 (.cons h280 .nil))
theorem k204 : SN ads 204 (g204) :=
  mk_snd [] ⟨fun _ => [], fun _ => none⟩ [.int .i64] Tryz.func204 rfl .nil
theorem k132 (h203 : SN ads 203 c1) (h204 : SN ads 204 c2) : SN ads 132 (g132 c1 c2) :=
  mk_snd [(nn203, c1), (nn204, c2)] ⟨fun n => match n with | 0 => [(9, .int .i64), (10, .int .i64), (16, .int .i64)] | 2 => [(71, .int .i64)] | _ => [], fun n => match n with | 9 => some [] | 12 => some [(9, .int .i64), (10, .int .i64)] | 21 => some [] | 25 => some [] | _ => none⟩ [.ptr, .any, .any] Tryz.func132 rfl (.cons h203 (.cons h204 .nil))
theorem k211 : SN ads 211 (g211) :=
  mk_snd [] ⟨fun _ => [], fun _ => none⟩ [.int .i64] Tryz.func211 rfl .nil
theorem k212 (h211 : SN ads 211 c1) : SN ads 212 (g212 c1) :=
  mk_snd [(nn211, c1)] ⟨fun _ => [], fun _ => none⟩ [.ptr, .int .i64] Tryz.func212 rfl (.cons h211 .nil)
theorem k135 (h211 : SN ads 211 c1) (h212 : SN ads 212 c2) : SN ads 135 (g135 c1 c2) :=
  mk_snd [(nn211, c1), (nn212, c2)] ⟨fun _ => [], fun _ => none⟩ [.ptr, .int .i64] Tryz.func135 rfl (.cons h211 (.cons h212 .nil))
theorem k214 : SN ads 214 (g214) :=
  mk_snd [] ⟨fun _ => [], fun _ => none⟩ [.int .i64] Tryz.func214 rfl .nil
theorem k194 : SN ads 194 (g194) :=
  mk_snd [] ⟨fun _ => [], fun _ => none⟩ [.int .i64, .int .i64] Tryz.func194 rfl .nil
theorem k195 : SN ads 195 (g195) :=
  mk_snd [] ⟨fun _ => [], fun _ => none⟩ [.ptr] Tryz.func195 rfl .nil
theorem k126 (h194 : SN ads 194 c1) (h195 : SN ads 195 c2) : SN ads 126 (g126 c1 c2) :=
  mk_snd [(nn194, c1), (nn195, c2)] ⟨fun _ => [], fun _ => none⟩ [.ptr, .int .i64, .int .i64] Tryz.func126 rfl (.cons h194 (.cons h195 .nil))
theorem k285 : SN ads 285 (g285) :=
  mk_snd [] ⟨fun _ => [], fun _ => none⟩ [.ptr] Tryz.func285 rfl .nil
theorem k220 (h285 : SN ads 285 c1) : SN ads 220 (g220 c1) :=
  mk_snd [(nn285, c1)] ⟨fun _ => [], fun _ => none⟩ [.ptr] Tryz.func220 rfl (.cons h285 .nil)
theorem k222 (h192 : SN ads 192 c1) : SN ads 222 (g222 c1) :=
  mk_snd [(nn192, c1)] ⟨fun _ => [], fun _ => none⟩ [.ptr] Tryz.func222 rfl (.cons h192 .nil)
theorem k327 (h239 : SN ads 239 c1) : SN ads 327 (g327 c1) :=
  mk_snd [(nn239, c1)] ⟨fun _ => [], fun _ => none⟩ [.ptr] Tryz.func327 rfl (.cons h239 .nil)
theorem k284 (h327 : SN ads 327 c1) : SN ads 284 (g284 c1) :=
  mk_snd [(nn327, c1)] ⟨fun _ => [], fun _ => none⟩ [.ptr] Tryz.func284 rfl (.cons h327 .nil)
theorem k215 (h124 : SN ads 124 c1) (h126 : SN ads 126 c2) (h164 : SN ads 164 c3) (h220 : SN ads 220 c4) (h222 : SN ads 222 c5) (h284 : SN ads 284 c6) : SN ads 215 (g215 c1 c2 c3 c4 c5 c6) :=
  mk_snd [(nn124, c1), (nn126, c2), (nn164, c3), (nn220, c4), (nn222, c5), (nn284, c6)] ⟨fun _ => [], fun _ => none⟩ [.ptr, .int .i64, .int .i64] Tryz.func215 rfl (.cons h124 (.cons h126 (.cons h164 (.cons h220 (.cons h222 (.cons h284 .nil))))))
theorem k136 (h214 : SN ads 214 c1) (h215 : SN ads 215 c2) : SN ads 136 (g136 c1 c2) :=
  mk_snd [(nn214, c1), (nn215, c2)] ⟨fun n => match n with | 0 => [(7, .slice), (9, .int .i64)] | _ => [], fun n => match n with | 7 => some [(7, .slice)] | _ => none⟩ [.ptr, .int .i64, .int .i64] Tryz.func136 rfl (.cons h214 (.cons h215 .nil))
theorem k268 : SN ads 268 (g268) :=
  mk_snd [] ⟨fun _ => [], fun _ => none⟩ [.int .i64] Tryz.func268 rfl .nil
theorem k206 (h123 : SN ads 123 c1) (h268 : SN ads 268 c2) : SN ads 206 (g206 c1 c2) :=
  mk_snd [(nn123, c1), (nn268, c2)] ⟨fun _ => [], fun _ => none⟩ [.ptr, .int .i64, .int .i64] Tryz.func206 rfl (.cons h123 (.cons h268 .nil))
theorem k209 : SN ads 209 (g209) :=
  mk_snd [] ⟨fun _ => [], fun _ => none⟩ [.ptr] Tryz.func209 rfl .nil
theorem k282 : SN ads 282 (g282) :=
  mk_snd [] ⟨fun n => match n with | 0 => [(1, .int .i64)] | _ => [], fun _ => none⟩ [.any, .int .i64] Tryz.func282 rfl .nil
theorem k407 : SN ads 407 (g407) :=
  mk_snd [] ⟨fun _ => [], fun _ => none⟩ [.ptr, .any] Tryz.func407 rfl .nil
theorem k208 (h209 : SN ads 209 c1) (h282 : SN ads 282 c2) (h407 : SN ads 407 c3) : SN ads 208 (g208 c1 c2 c3) :=
  mk_snd [(nn209, c1), (nn282, c2), (nn407, c3)] ⟨fun _ => [], fun _ => none⟩ [.any, .any] Tryz.func208 rfl (.cons h209 (.cons h282 (.cons h407 .nil)))
theorem k283 : SN ads 283 (g283) :=
  mk_snd [] ⟨fun n => match n with | 0 => [(7, .int .i64)] | _ => [], fun n => match n with | 8 => some [(9, .int .i64)] | 11 => some [(7, .int .i64)] | _ => none⟩ [.any, .int .i64, .int .i64] Tryz.func283 rfl .nil
theorem k406 : SN ads 406 (g406) :=
  mk_snd [] ⟨fun _ => [], fun _ => none⟩ [.ptr] Tryz.func406 rfl .nil
theorem k210 (h209 : SN ads 209 c1) (h282 : SN ads 282 c3) (h283 : SN ads 283 c4) (h406 : SN ads 406 c2) : SN ads 210 (g210 c1 c2) :=
  mk_snd [(nn209, c1), (nn282, c3), (nn283, c4), (nn406, c2)] ⟨fun _ => [], fun n => match n with | 6 => some [] | _ => none⟩ [.any, .int .i64] Tryz.func210 rfl (.cons h209 (.cons h282 (.cons h283 (.cons h406 .nil))))
theorem k207 (h201 : SN ads 201 c1) (h208 : SN ads 208 c2) (h209 : SN ads 209 c3) (h210 : SN ads 210 c4) : SN ads 207 (g207 c1 c2 c3 c4) :=
  mk_snd [(nn201, c1), (nn208, c2), (nn209, c3), (nn210, c4)] ⟨fun _ => [], fun n => match n with | 7 => some [] | 12 => some [] | _ => none⟩ [.ptr, .int .i64, .bool] Tryz.func207 rfl (.cons h201 (.cons h208 (.cons h209 (.cons h210 .nil))))
theorem k133 (h71 : SN ads 71 c1) (h135 : SN ads 135 c2) (h136 : SN ads 136 c3) (h206 : SN ads 206 c4) (h207 : SN ads 207 c5) : SN ads 133 (g133 c1 c2 c3 c4 c5) :=
  mk_snd [(nn71, c1), (nn135, c2), (nn136, c3), (nn206, c4), (nn207, c5)] ⟨fun n => match n with | 0 => [(15, .int .i64)] | 2 => [(6, .slice), (24, .int .i64)] | 4 => [(65, .int .i64)] | _ => [], fun n => match n with | 13 => some [(6, .slice)] | _ => none⟩ [.ptr] Tryz.func133 rfl (.cons h71 (.cons h135 (.cons h136 (.cons h206 (.cons h207 .nil)))))
theorem k134 (h208 : SN ads 208 c1) (h209 : SN ads 209 c2) (h210 : SN ads 210 c3) : SN ads 134 (g134 c1 c2 c3) :=
  mk_snd [(nn208, c1), (nn209, c2), (nn210, c3)] ⟨fun n => match n with | 0 => [(18, .int .i64)] | 2 => [(7, .slice)] | _ => [], fun _ => none⟩ [.ptr] Tryz.func134 rfl (.cons h208 (.cons h209 (.cons h210 .nil)))
theorem k73 (h124 : SN ads 124 c1) (h125 : SN ads 125 c2) (h126 : SN ads 126 c3) : SN ads 73 (g73 c1 c2 c3) :=
  mk_snd [(nn124, c1), (nn125, c2), (nn126, c3)] ⟨fun n => match n with | 0 => [(15, .int .i64)] | _ => [], fun n => match n with | 8 => some [(11, .int .i64)] | _ => none⟩ [.ptr, .int .i64, .int .i64, .int .i64] Tryz.func73 rfl (.cons h124 (.cons h125 (.cons h126 .nil)))
theorem k263 : SN ads 263 (g263) :=
  mk_snd [] ⟨fun _ => [], fun _ => none⟩ [.ptr, .int .i64] Tryz.func263 rfl .nil
theorem k216 (h263 : SN ads 263 c1) : SN ads 216 (g216 c1) :=
  mk_snd [(nn263, c1)] ⟨fun _ => [], fun _ => none⟩ [.ptr, .int .i64] Tryz.func216 rfl (.cons h263 .nil)
theorem k217 : SN ads 217 (g217) :=
  mk_snd [] ⟨fun _ => [], fun _ => none⟩ [] Tryz.func217 rfl .nil
theorem k218 (h285 : SN ads 285 c1) : SN ads 218 (g218 c1) :=
  mk_snd [(nn285, c1)] ⟨fun _ => [], fun _ => none⟩ [.ptr] Tryz.func218 rfl (.cons h285 .nil)
theorem k286 : SN ads 286 (g286) :=
  mk_snd [] ⟨fun _ => [], fun _ => none⟩ [.ptr] Tryz.func286 rfl .nil
theorem k219 (h286 : SN ads 286 c1) : SN ads 219 (g219 c1) :=
  mk_snd [(nn286, c1)] ⟨fun _ => [], fun _ => none⟩ [.ptr] Tryz.func219 rfl (.cons h286 .nil)
theorem k289 : SN ads 289 (g289) :=
  mk_snd [] ⟨fun _ => [], fun _ => none⟩ [.ptr] Tryz.func289 rfl .nil
theorem k223 (h289 : SN ads 289 c1) : SN ads 223 (g223 c1) :=
  mk_snd [(nn289, c1)] ⟨fun _ => [], fun _ => none⟩ [.ptr, .int .i64] Tryz.func223 rfl (.cons h289 .nil)
theorem k232 : SN ads 232 (g232) :=
  mk_snd [] ⟨fun _ => [], fun _ => none⟩ [.int .i64] Tryz.func232 rfl .nil
theorem k235 (h232 : SN ads 232 c1) : SN ads 235 (g235 c1) :=
  mk_snd [(nn232, c1)] ⟨fun n => match n with | 0 => [(3, .int .i64), (8, .int .i64)] | _ => [], fun _ => none⟩ [.slice] Tryz.func235 rfl (.cons h232 .nil)
theorem k337 : SN ads 337 (g337) :=
  mk_snd [] ⟨fun _ => [], fun _ => none⟩ [.int .u8] Tryz.func337 rfl .nil
theorem k302 (h337 : SN ads 337 c1) : SN ads 302 (g302 c1) :=
  mk_snd [(nn337, c1)] ⟨fun n => match n with | 0 => [(3, .int .u8), (9, .int .i64)] | 2 => [(3, .int .u8), (5, .int .u8), (13, .int .i64)] | _ => [], fun n => match n with | 11 => some [(3, .int .u8)] | _ => none⟩ [.slice] Tryz.func302 rfl (.cons h337 .nil)
theorem k236 (h64 : SN ads 64 c1) (h302 : SN ads 302 c2) : SN ads 236 (g236 c1 c2) :=
  mk_snd [(nn64, c1), (nn302, c2)] ⟨fun _ => [], fun _ => none⟩ [.slice] Tryz.func236 rfl (.cons h64 (.cons h302 .nil))
theorem k140 (h232 : SN ads 232 c1) (h235 : SN ads 235 c2) (h236 : SN ads 236 c3) : SN ads 140 (g140 c1 c2 c3) :=
  mk_snd [(nn232, c1), (nn235, c2), (nn236, c3)] ⟨fun n => match n with | 0 => [(4, .slice), (13, .int .i64)] | 3 => [(7, .slice), (49, .int .i64)] | _ => [], fun _ => none⟩ [.slice] Tryz.func140 rfl (.cons h232 (.cons h235 (.cons h236 .nil)))
theorem k227 (h123 : SN ads 123 c1) (h206 : SN ads 206 c2) (h268 : SN ads 268 c3) : SN ads 227 (g227 c1 c2 c3) :=
  mk_snd [(nn123, c1), (nn206, c2), (nn268, c3)] ⟨fun _ => [], fun n => match n with | 17 => some [(11, .bool)] | _ => none⟩ [.ptr, .int .i64, .int .i64, .bool] Tryz.func227 rfl (.cons h123 (.cons h206 (.cons h268 .nil)))
theorem k313 : SN ads 313 (g313) :=
  mk_snd [] ⟨fun _ => [], fun _ => none⟩ [.ptr, .int .i64] Tryz.func313 rfl .nil
theorem k314 : SN ads 314 (g314) :=
  mk_snd [] ⟨fun _ => [], fun _ => none⟩ [.ptr] Tryz.func314 rfl .nil
theorem k255 (h313 : SN ads 313 c1) (h314 : SN ads 314 c2) : SN ads 255 (g255 c1 c2) :=
  mk_snd [(nn313, c1), (nn314, c2)] ⟨fun _ => [], fun _ => none⟩ [.ptr, .int .i64, .int .i64] Tryz.func255 rfl (.cons h313 (.cons h314 .nil))
theorem k363 : SN ads 363 (g363) :=
  mk_snd [] ⟨fun _ => [], fun _ => none⟩ [.slice] Tryz.func363 rfl .nil
theorem k345 (h363 : SN ads 363 c1) : SN ads 345 (g345 c1) :=
  mk_snd [(nn363, c1)] ⟨fun _ => [], fun _ => none⟩ [.ptr, .int .i64] Tryz.func345 rfl (.cons h363 .nil)
end
end Go.Proofs.YtgkpnfnkaplebaaGreatDoor
