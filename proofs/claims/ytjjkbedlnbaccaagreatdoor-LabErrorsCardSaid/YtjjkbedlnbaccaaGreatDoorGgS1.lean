/- The printed functions are the machine's own, by the kernel. -/
import Derived.Test.YtjjkbedlnbaccaaGreatDoorGgD1
import Derived.Test.YtjjkbedlnbaccaaGreatDoorRows
set_option linter.unusedVariables false
set_option linter.constructorNameAsVariable false
set_option maxRecDepth 100000
namespace Go.Proofs.YtjjkbedlnbaccaaGreatDoor
open Go.Vc Go.Ab
noncomputable section
variable (v1 : AV) (l1 l2 l3 : List AV) (L1 L2 : List AP) (d1 d2 d3 d4 : DV) (R1 : List DV) (n1 n2 n3 n4 n5 n6 n7 n8 : Int) (m1 m2 m3 m4 : Nat) (t1 t2 t3 t4 : Bool) (p1 p2 p3 p4 p5 : AP) (b1 b2 b3 b4 b5 : P4) (s1 s2 s3 s4 s5 : AS) (H1 : AH) (x1 x2 : List Int) (c1 c2 c3 c4 c5 c6 c7 c8 c9 c10 c11 c12 : G DV) (Ka1 : AH → Option DV) (Kb1 Kb2 : DV → AH → Option DV) (Kc1 : DV → DV → AH → Option DV) (Kd1 : DV → DV → DV → AH → Option DV)
variable {ads : List Addr}
theorem s164 : SN ads 164 (g164) :=
  mk_snd [] ⟨fun n => match n with | 0 => [(12, .int .i64)] | _ => [], fun _ => none⟩ [.ptr, .any] Tryz.func164 rfl .nil
theorem s76 (h65 : SN ads 65 c1) (h164 : SN ads 164 c2) : SN ads 76 (g76 c1 c2) :=
  mk_snd [(nn65, c1), (nn164, c2)] ⟨fun n => match n with | 0 => [(22, .int .i64)] | _ => [], fun _ => none⟩ [.ptr, .any] Tryz.func76 rfl (.cons h65 (.cons h164 .nil))
theorem s166 : SN ads 166 (g166) :=
  mk_snd [] ⟨fun _ => [], fun _ => none⟩ [.int .i64] Tryz.func166 rfl .nil
theorem s77 (h165 : SN ads 165 c1) (h166 : SN ads 166 c2) (h167 : SN ads 167 c3) : SN ads 77 (g77 c1 c2 c3) :=
  mk_snd [(nn165, c1), (nn166, c2), (nn167, c3)] ⟨fun _ => [], fun _ => none⟩ [.ptr, .int .i64, .int .i64] Tryz.func77 rfl (.cons h165 (.cons h166 (.cons h167 .nil)))
theorem s78 (h168 : SN ads 168 c1) : SN ads 78 (g78 c1) :=
  mk_snd [(nn168, c1)] ⟨fun _ => [], fun _ => none⟩ [.ptr, .int .i64, .any, .int .i64] Tryz.func78 rfl (.cons h168 .nil)
theorem s24 (h61 : SN ads 61 c1) (h65 : SN ads 65 c2) (h75 : SN ads 75 c3) (h76 : SN ads 76 c4) (h77 : SN ads 77 c5) (h78 : SN ads 78 c6) : SN ads 24 (g24 c1 c2 c3 c4 c5 c6) :=
  mk_snd [(nn61, c1), (nn65, c2), (nn75, c3), (nn76, c4), (nn77, c5), (nn78, c6)] ⟨fun n => match n with | 1 => [(71, .int .i64)] | 3 => [(107, .int .i64)] | _ => [], fun _ => none⟩ [.ptr, .any, .any, .int .i64, .any, .int .i64] Tryz.func24 rfl (.cons h61 (.cons h65 (.cons h75 (.cons h76 (.cons h77 (.cons h78 .nil))))))
theorem s25 : SN ads 25 (g25) :=
  mk_snd [] ⟨fun _ => [], fun _ => none⟩ [.int .i64] Tryz.func25 rfl .nil
theorem k5 (h7 : SN ads 7 c1) (h22 : SN ads 22 c2) (h23 : SN ads 23 c3) (h24 : SN ads 24 c4) (h25 : SN ads 25 c5) : SN ads 5 (g5 c1 c2 c3 c4 c5) :=
  mk_snd [(nn7, c1), (nn22, c2), (nn23, c3), (nn24, c4), (nn25, c5)] ⟨fun _ => [], fun _ => none⟩ [] Tryz.func5 rfl (.cons h7 (.cons h22 (.cons h23 (.cons h24 (.cons h25 .nil)))))
theorem s8 (h22 : SN ads 22 c1) : SN ads 8 (g8 c1) :=
  mk_snd [(nn22, c1)] ⟨fun _ => [], fun _ => none⟩ [.any, .int .i64] Tryz.func8 rfl (.cons h22 .nil)
theorem s40 : SN ads 40 (g40) :=
  mk_snd [] ⟨fun _ => [], fun _ => none⟩ [.ptr, .ptr] Tryz.func40 rfl .nil
theorem s101 : SN ads 101 (g101) :=
  mk_snd [] ⟨fun _ => [], fun _ => none⟩ [.ptr, .ptr] Tryz.func101 rfl .nil
theorem s100 (h40 : SN ads 40 c1) (h101 : SN ads 101 c2) : SN ads 100 (g100 c1 c2) :=
  mk_snd [(nn40, c1), (nn101, c2)] ⟨fun n => match n with | 0 => [(8, .int .i64)] | _ => [], fun _ => none⟩ [.slice, .any] Tryz.func100 rfl (.cons h40 (.cons h101 .nil))
theorem s38 (h100 : SN ads 100 c1) : SN ads 38 (g38 c1) :=
  mk_snd [(nn100, c1)] ⟨fun _ => [], fun _ => none⟩ [.ptr, .int .i64] Tryz.func38 rfl (.cons h100 .nil)
theorem s39 (h40 : SN ads 40 c1) (h100 : SN ads 100 c2) : SN ads 39 (g39 c1 c2) :=
  mk_snd [(nn40, c1), (nn100, c2)] ⟨fun n => match n with | 0 => [(5, .int .i64), (6, .int .i64)] | _ => [], fun n => match n with | 6 => some [(5, .int .i64)] | _ => none⟩ [.slice, .any] Tryz.func39 rfl (.cons h40 (.cons h100 .nil))
theorem s41 (h102 : SN ads 102 c1) (h103 : SN ads 103 c2) (h104 : SN ads 104 c3) : SN ads 41 (g41 c1 c2 c3) :=
  mk_snd [(nn102, c1), (nn103, c2), (nn104, c3)] ⟨fun _ => [], fun _ => none⟩ [.ptr, .int .i64, .int .i64] Tryz.func41 rfl (.cons h102 (.cons h103 (.cons h104 .nil)))
theorem s280 : SN ads 280 (g280) :=
  mk_snd [] ⟨fun _ => [], fun _ => none⟩ [.slice, .int .u8, .int .i64] Tryz.func280 rfl .nil
theorem s281 : SN ads 281 (g281) :=
  mk_snd [] ⟨fun _ => [], fun _ => none⟩ [.slice] Tryz.func281 rfl .nil
theorem s287 (h281 : SN ads 281 c1) : SN ads 287 (g287 c1) :=
  mk_snd [(nn281, c1)] ⟨fun _ => [], fun _ => none⟩ [.slice] Tryz.func287 rfl (.cons h281 .nil)
theorem s233 : SN ads 233 (g233) :=
  mk_snd [] ⟨fun _ => [], fun _ => none⟩ [.int .i64] Tryz.func233 rfl .nil
theorem s242 (h233 : SN ads 233 c1) : SN ads 242 (g242 c1) :=
  mk_snd [(nn233, c1)] ⟨fun _ => [], fun _ => none⟩ [.int .u8, .any, .any, .int .i64, .int .i64] Tryz.func242 rfl (.cons h233 .nil)
theorem s288 (h242 : SN ads 242 c1) : SN ads 288 (g288 c1) :=
  mk_snd [(nn242, c1)] ⟨fun n => match n with | 0 => [(4, .slice), (22, .int .i64)] | _ => [], fun _ => none⟩ [.any] Tryz.func288 rfl (.cons h242 .nil)
theorem s204 (h280 : SN ads 280 c1) (h285 : SN ads 285 c2) (h287 : SN ads 287 c3) (h288 : SN ads 288 c4) : SN ads 204 (g204 c1 c2 c3 c4) :=
  mk_snd [(nn280, c1), (nn285, c2), (nn287, c3), (nn288, c4)] ⟨fun n => match n with | 0 => [(27, .int .i64)] | _ => [], fun _ => none⟩ [.slice] Tryz.func204 rfl (.cons h280 (.cons h285 (.cons h287 (.cons h288 .nil))))
theorem s105 (h204 : SN ads 204 c1) : SN ads 105 (g105 c1) :=
  mk_snd [(nn204, c1)] ⟨fun _ => [], fun _ => none⟩ [.ptr, .ptr, .slice] Tryz.func105 rfl (.cons h204 .nil)
theorem s211 : SN ads 211 (g211) :=
  mk_snd [] ⟨fun n => match n with | 0 => [(8, .int .i64)] | _ => [], fun _ => none⟩ [.ptr] Tryz.func211 rfl .nil
theorem s106 (h207 : SN ads 207 c1) (h208 : SN ads 208 c2) (h209 : SN ads 209 c3) (h211 : SN ads 211 c4) : SN ads 106 (g106 c1 c2 c3 c4) :=
  mk_snd [(nn207, c1), (nn208, c2), (nn209, c3), (nn211, c4)] ⟨fun _ => [], fun n => match n with | 5 => some [(14, .bool)] | _ => none⟩ [.ptr, .any] Tryz.func106 rfl (.cons h207 (.cons h208 (.cons h209 (.cons h211 .nil))))
theorem s43 (h105 : SN ads 105 c1) (h106 : SN ads 106 c2) (h107 : SN ads 107 c3) : SN ads 43 (g43 c1 c2 c3) :=
  mk_snd [(nn105, c1), (nn106, c2), (nn107, c3)] ⟨fun n => match n with | 0 => [(36, .int .i64)] | _ => [], fun n => match n with | 10 => some [(10, .bool)] | 12 => some [] | _ => none⟩ [.ptr, .ptr, .ptr, .slice] Tryz.func43 rfl (.cons h105 (.cons h106 (.cons h107 .nil)))
theorem s46 (h112 : SN ads 112 c1) : SN ads 46 (g46 c1) :=
  mk_snd [(nn112, c1)] ⟨fun _ => [], fun _ => none⟩ [.ptr, .int .i64, .bool] Tryz.func46 rfl (.cons h112 .nil)
theorem s11 (h38 : SN ads 38 c1) (h39 : SN ads 39 c2) (h41 : SN ads 41 c3) (h42 : SN ads 42 c4) (h43 : SN ads 43 c5) (h46 : SN ads 46 c6) (h47 : SN ads 47 c7) : SN ads 11 (g11 c1 c2 c3 c4 c5 c6 c7) :=
  mk_snd [(nn38, c1), (nn39, c2), (nn41, c3), (nn42, c4), (nn43, c5), (nn46, c6), (nn47, c7)] ⟨fun _ => [], fun n => match n with | 18 => some [(12, .any)] | _ => none⟩ [.ptr, .int .i64, .int .i64, .slice] Tryz.func11 rfl (.cons h38 (.cons h39 (.cons h41 (.cons h42 (.cons h43 (.cons h46 (.cons h47 .nil)))))))
theorem s27 : SN ads 27 (g27) :=
  mk_snd [] ⟨fun _ => [], fun _ => none⟩ [.any, .any, .int .i64] Tryz.func27 rfl .nil
theorem s176 : SN ads 176 (g176) :=
  mk_snd [] ⟨fun _ => [], fun _ => none⟩ [.ptr] Tryz.func176 rfl .nil
theorem s342 : SN ads 342 (g342) :=
  mk_snd [] ⟨fun _ => [], fun _ => none⟩ [.int .u32, .int .u32] Tryz.func342 rfl .nil
theorem s318 (h342 : SN ads 342 c1) : SN ads 318 (g318 c1) :=
  mk_snd [(nn342, c1)] ⟨fun _ => [], fun _ => none⟩ [.int .u32, .int .u32] Tryz.func318 rfl (.cons h342 .nil)
theorem s259 (h122 : SN ads 122 c1) (h162 : SN ads 162 c2) (h318 : SN ads 318 c3) : SN ads 259 (g259 c1 c2 c3) :=
  mk_snd [(nn122, c1), (nn162, c2), (nn318, c3)] ⟨fun _ => [], fun n => match n with | 11 => some [] | _ => none⟩ [.ptr, .any] Tryz.func259 rfl (.cons h122 (.cons h162 (.cons h318 .nil)))
theorem s177 (h255 : SN ads 255 c1) (h259 : SN ads 259 c2) (h260 : SN ads 260 c3) (h261 : SN ads 261 c4) : SN ads 177 (g177 c1 c2 c3 c4) :=
  mk_snd [(nn255, c1), (nn259, c2), (nn260, c3), (nn261, c4)] ⟨fun n => match n with | 0 => [(8, .slice)] | _ => [], fun n => match n with | 6 => some [] | 7 => some [(8, .slice)] | _ => none⟩ [.ptr, .int .i64, .any] Tryz.func177 rfl (.cons h255 (.cons h259 (.cons h260 (.cons h261 .nil))))
theorem s82 (h42 : SN ads 42 c1) (h115 : SN ads 115 c2) (h176 : SN ads 176 c3) (h177 : SN ads 177 c4) : SN ads 82 (g82 c1 c2 c3 c4) :=
  mk_snd [(nn42, c1), (nn115, c2), (nn176, c3), (nn177, c4)] ⟨fun _ => [], fun _ => none⟩ [.ptr, .int .i64, .int .i64, .int .i64, .int .u32, .slice] Tryz.func82 rfl (.cons h42 (.cons h115 (.cons h176 (.cons h177 .nil))))
theorem s83 : SN ads 83 (g83) :=
  mk_snd [] ⟨fun n => match n with | 0 => [(3, .slice), (4, .int .i64)] | _ => [], fun _ => none⟩ [.slice] Tryz.func83 rfl .nil
theorem s29 (h6 : SN ads 6 c1) (h82 : SN ads 82 c2) (h83 : SN ads 83 c3) : SN ads 29 (g29 c1 c2 c3) :=
  mk_snd [(nn6, c1), (nn82, c2), (nn83, c3)] ⟨fun _ => [], fun _ => none⟩ [.ptr, .int .i64, .any] Tryz.func29 rfl (.cons h6 (.cons h82 (.cons h83 .nil)))
theorem s10 : SN ads 10 (g10) :=
  mk_snd [] ⟨fun n => match n with | 0 => [(3, .slice), (11, .int .i64)] | _ => [], fun _ => none⟩ [.ptr] Tryz.func10 rfl .nil
theorem s12 (h38 : SN ads 38 c1) : SN ads 12 (g12 c1) :=
  mk_snd [(nn38, c1)] ⟨fun _ => [], fun _ => none⟩ [.ptr, .int .i64] Tryz.func12 rfl (.cons h38 .nil)
theorem s84 : SN ads 84 (g84) :=
  mk_snd [] ⟨fun n => match n with | 0 => [(5, .int .i64)] | _ => [], fun _ => none⟩ [.ptr, .int .i64] Tryz.func84 rfl .nil
theorem s179 (h122 : SN ads 122 c1) : SN ads 179 (g179 c1) :=
  mk_snd [(nn122, c1)] ⟨fun n => match n with | 2 => [(97, .int .i64)] | _ => [], fun n => match n with | 12 => some [(31, .bool)] | _ => none⟩ [.slice] Tryz.func179 rfl (.cons h122 .nil)
theorem s267 (h206 : SN ads 206 c1) : SN ads 267 (g267 c1) :=
  mk_snd [(nn206, c1)] ⟨fun _ => [], fun _ => none⟩ [.int .i64, .int .i64, .int .i64] Tryz.func267 rfl (.cons h206 .nil)
theorem s180 (h206 : SN ads 206 c1) (h267 : SN ads 267 c2) : SN ads 180 (g180 c1 c2) :=
  mk_snd [(nn206, c1), (nn267, c2)] ⟨fun _ => [], fun n => match n with | 2 => some [(7, .bool)] | 4 => some [(41, .bool)] | 6 => some [(70, .bool)] | _ => none⟩ [.any, .any, .ptr] Tryz.func180 rfl (.cons h206 (.cons h267 .nil))
theorem s181 (h75 : SN ads 75 c1) (h251 : SN ads 251 c2) : SN ads 181 (g181 c1 c2) :=
  mk_snd [(nn75, c1), (nn251, c2)] ⟨fun _ => [], fun n => match n with | 4 => some [(24, .bool)] | _ => none⟩ [.any, .bool, .int .i64, .int .i64] Tryz.func181 rfl (.cons h75 (.cons h251 .nil))
theorem s85 (h179 : SN ads 179 c1) (h180 : SN ads 180 c2) (h181 : SN ads 181 c3) : SN ads 85 (g85 c1 c2 c3) :=
  mk_snd [(nn179, c1), (nn180, c2), (nn181, c3)] ⟨fun n => match n with | 0 => [(11, .ptr), (36, .int .i64)] | _ => [], fun n => match n with | 9 => some [(8, .slice)] | 17 => some [(15, .any)] | _ => none⟩ [.any, .bool, .slice] Tryz.func85 rfl (.cons h179 (.cons h180 (.cons h181 .nil)))
theorem s30 (h10 : SN ads 10 c1) (h12 : SN ads 12 c2) (h23 : SN ads 23 c3) (h84 : SN ads 84 c4) (h85 : SN ads 85 c5) : SN ads 30 (g30 c1 c2 c3 c4 c5) :=
  mk_snd [(nn10, c1), (nn12, c2), (nn23, c3), (nn84, c4), (nn85, c5)] ⟨fun n => match n with | 0 => [(6, .int .i64)] | 2 => [(11, .int .i64)] | _ => [], fun n => match n with | 19 => some [(149, .bool)] | _ => none⟩ [.ptr, .any] Tryz.func30 rfl (.cons h10 (.cons h12 (.cons h23 (.cons h84 (.cons h85 .nil)))))
theorem s80 : SN ads 80 (g80) :=
  mk_snd [] ⟨fun n => match n with | 0 => [(4, .int .i64)] | _ => [], fun _ => none⟩ [.ptr, .slice] Tryz.func80 rfl .nil
theorem s182 : SN ads 182 (g182) :=
  mk_snd [] ⟨fun _ => [], fun _ => none⟩ [.slice] Tryz.func182 rfl .nil
theorem s268 : SN ads 268 (g268) :=
  mk_snd [] ⟨fun n => match n with | 0 => [(4, .int .i64)] | _ => [], fun _ => none⟩ [.slice] Tryz.func268 rfl .nil
theorem s186 (h83 : SN ads 83 c1) (h182 : SN ads 182 c2) (h268 : SN ads 268 c3) : SN ads 186 (g186 c1 c2 c3) :=
  mk_snd [(nn83, c1), (nn182, c2), (nn268, c3)] ⟨fun _ => [], fun _ => none⟩ [.slice] Tryz.func186 rfl (.cons h83 (.cons h182 (.cons h268 .nil)))
theorem s187 : SN ads 187 (g187) :=
  mk_snd [] ⟨fun n => match n with | 0 => [(5, .int .i64)] | _ => [], fun _ => none⟩ [.any, .any] Tryz.func187 rfl .nil
theorem s188 : SN ads 188 (g188) :=
  mk_snd [] ⟨fun _ => [], fun n => match n with | 4 => some [(7, .bool)] | 13 => some [] | 15 => some [] | _ => none⟩ [.ptr, .ptr, .any] Tryz.func188 rfl .nil
theorem s91 : SN ads 91 (g91) :=
  mk_snd [] ⟨fun n => match n with | 0 => [(0, .slice), (5, .int .i64)] | _ => [], fun _ => none⟩ [.slice, .any] Tryz.func91 rfl .nil
theorem s92 : SN ads 92 (g92) :=
  mk_snd [] ⟨fun _ => [], fun _ => none⟩ [.slice, .int .i64] Tryz.func92 rfl .nil
theorem s277 : SN ads 277 (g277) :=
  mk_snd [] ⟨fun _ => [], fun _ => none⟩ [.int .i64, .int .i64] Tryz.func277 rfl .nil
theorem s271 (h91 : SN ads 91 c1) (h92 : SN ads 92 c2) (h277 : SN ads 277 c3) : SN ads 271 (g271 c1 c2 c3) :=
  mk_snd [(nn91, c1), (nn92, c2), (nn277, c3)] ⟨fun n => match n with | 0 => [(4, .slice), (5, .int .i64)] | _ => [], fun _ => none⟩ [.any] Tryz.func271 rfl (.cons h91 (.cons h92 (.cons h277 .nil)))
theorem s189 (h271 : SN ads 271 c1) : SN ads 189 (g189 c1) :=
  mk_snd [(nn271, c1)] ⟨fun _ => [], fun n => match n with | 6 => some [] | _ => none⟩ [.ptr, .int .i64] Tryz.func189 rfl (.cons h271 .nil)
theorem s88 (h186 : SN ads 186 c1) (h187 : SN ads 187 c2) (h188 : SN ads 188 c3) (h189 : SN ads 189 c4) : SN ads 88 (g88 c1 c2 c3 c4) :=
  mk_snd [(nn186, c1), (nn187, c2), (nn188, c3), (nn189, c4)] ⟨fun n => match n with | 0 => [(10, .int .i64), (11, .int .i64)] | _ => [], fun n => match n with | 4 => some [(8, .slice)] | 8 => some [(10, .int .i64)] | 11 => some [(52, .bool)] | _ => none⟩ [.ptr, .bool, .slice] Tryz.func88 rfl (.cons h186 (.cons h187 (.cons h188 (.cons h189 .nil))))
theorem s31 (h11 : SN ads 11 c1) (h80 : SN ads 80 c2) (h84 : SN ads 84 c3) (h88 : SN ads 88 c4) : SN ads 31 (g31 c1 c2 c3 c4) :=
  mk_snd [(nn11, c1), (nn80, c2), (nn84, c3), (nn88, c4)] ⟨fun n => match n with | 0 => [(13, .slice), (14, .int .i64)] | _ => [], fun n => match n with | 14 => some [(12, .slice)] | 17 => some [(13, .slice)] | 25 => some [(15, .slice)] | 32 => some [(11, .slice)] | 34 => some [(11, .slice)] | 37 => some [(11, .slice)] | _ => none⟩ [.ptr, .int .i64, .any] Tryz.func31 rfl (.cons h11 (.cons h80 (.cons h84 (.cons h88 .nil))))
theorem s36 (h42 : SN ads 42 c1) (h75 : SN ads 75 c2) : SN ads 36 (g36 c1 c2) :=
  mk_snd [(nn42, c1), (nn75, c2)] ⟨fun _ => [], fun _ => none⟩ [.ptr, .int .i64, .any] Tryz.func36 rfl (.cons h42 (.cons h75 .nil))
theorem s9 (h6 : SN ads 6 c1) (h11 : SN ads 11 c2) (h24 : SN ads 24 c3) (h25 : SN ads 25 c4) (h26 : SN ads 26 c5) (h27 : SN ads 27 c6) (h29 : SN ads 29 c7) (h30 : SN ads 30 c8) (h31 : SN ads 31 c9) (h36 : SN ads 36 c10) : SN ads 9 (g9 c1 c2 c3 c4 c5 c6 c7 c8 c9 c10) :=
  mk_snd [(nn6, c1), (nn11, c2), (nn24, c3), (nn25, c4), (nn26, c5), (nn27, c6), (nn29, c7), (nn30, c8), (nn31, c9), (nn36, c10)] ⟨fun _ => [], fun n => match n with | 10 => some [(7, .int .i64), (8, .any)] | 46 => some [] | _ => none⟩ [.ptr, .any] Tryz.func9 rfl (.cons h6 (.cons h11 (.cons h24 (.cons h25 (.cons h26 (.cons h27 (.cons h29 (.cons h30 (.cons h31 (.cons h36 .nil))))))))))
theorem s118 : SN ads 118 (g118) :=
  mk_snd [] ⟨fun _ => [], fun _ => none⟩ [.any, .any] Tryz.func118 rfl .nil
theorem s49 : SN ads 49 (g49) :=
  mk_snd [] ⟨fun _ => [], fun _ => none⟩ [.int .i64] Tryz.func49 rfl .nil
theorem s296 : SN ads 296 (g296) :=
  mk_snd [] ⟨fun _ => [], fun _ => none⟩ [] Tryz.func296 rfl .nil
theorem s297 : SN ads 297 (g297) :=
  mk_snd [] ⟨fun _ => [], fun _ => none⟩ [.any, .any] Tryz.func297 rfl .nil
theorem s223 (h296 : SN ads 296 c1) (h297 : SN ads 297 c2) : SN ads 223 (g223 c1 c2) :=
  mk_snd [(nn296, c1), (nn297, c2)] ⟨fun n => match n with | 0 => [(4, .int .i64)] | _ => [], fun _ => none⟩ [.any] Tryz.func223 rfl (.cons h296 (.cons h297 .nil))
theorem s119 (h49 : SN ads 49 c1) (h223 : SN ads 223 c2) : SN ads 119 (g119 c1 c2) :=
  mk_snd [(nn49, c1), (nn223, c2)] ⟨fun _ => [], fun _ => none⟩ [.any] Tryz.func119 rfl (.cons h49 (.cons h223 .nil))
theorem s48 (h118 : SN ads 118 c1) (h119 : SN ads 119 c2) : SN ads 48 (g48 c1 c2) :=
  mk_snd [(nn118, c1), (nn119, c2)] ⟨fun _ => [], fun _ => none⟩ [.any, .any] Tryz.func48 rfl (.cons h118 (.cons h119 .nil))
theorem s13 (h48 : SN ads 48 c1) (h49 : SN ads 49 c2) : SN ads 13 (g13 c1 c2) :=
  mk_snd [(nn48, c1), (nn49, c2)] ⟨fun _ => [], fun _ => none⟩ [.any, .int .i64] Tryz.func13 rfl (.cons h48 (.cons h49 .nil))
theorem s120 : SN ads 120 (g120) :=
  mk_snd [] ⟨fun _ => [], fun _ => none⟩ [.slice] Tryz.func120 rfl .nil
theorem s50 (h120 : SN ads 120 c1) : SN ads 50 (g50 c1) :=
  mk_snd [(nn120, c1)] ⟨fun _ => [], fun _ => none⟩ [.ptr] Tryz.func50 rfl (.cons h120 .nil)
theorem s14 (h50 : SN ads 50 c1) : SN ads 14 (g14 c1) :=
  mk_snd [(nn50, c1)] ⟨fun _ => [], fun _ => none⟩ [.ptr] Tryz.func14 rfl (.cons h50 .nil)
theorem s52 : SN ads 52 (g52) :=
  mk_snd [] ⟨fun _ => [], fun _ => none⟩ [.any, .ptr] Tryz.func52 rfl .nil
theorem s51 (h52 : SN ads 52 c1) : SN ads 51 (g51 c1) :=
  mk_snd [(nn52, c1)] ⟨fun n => match n with | 0 => [(5, .int .i64), (13, .int .i64)] | _ => [], fun n => match n with | 7 => some [(5, .int .i64)] | _ => none⟩ [.ptr, .any] Tryz.func51 rfl (.cons h52 .nil)
theorem s15 (h51 : SN ads 51 c1) : SN ads 15 (g15 c1) :=
  mk_snd [(nn51, c1)] ⟨fun _ => [], fun _ => none⟩ [.ptr, .int .i64] Tryz.func15 rfl (.cons h51 .nil)
theorem s16 : SN ads 16 (g16) :=
  mk_snd [] ⟨fun n => match n with | 0 => [(3, .int .i64)] | _ => [], fun _ => none⟩ [.slice] Tryz.func16 rfl .nil
theorem s54 : SN ads 54 (g54) :=
  mk_snd [] ⟨fun _ => [], fun _ => none⟩ [.any, .any, .int .i64] Tryz.func54 rfl .nil
theorem s55 : SN ads 55 (g55) :=
  mk_snd [] ⟨fun _ => [], fun _ => none⟩ [.int .i64] Tryz.func55 rfl .nil
theorem s18 (h22 : SN ads 22 c1) (h54 : SN ads 54 c2) (h55 : SN ads 55 c3) : SN ads 18 (g18 c1 c2 c3) :=
  mk_snd [(nn22, c1), (nn54, c2), (nn55, c3)] ⟨fun _ => [], fun _ => none⟩ [.any, .int .i64] Tryz.func18 rfl (.cons h22 (.cons h54 (.cons h55 .nil)))
theorem s56 (h24 : SN ads 24 c1) (h54 : SN ads 54 c2) (h55 : SN ads 55 c3) : SN ads 56 (g56 c1 c2 c3) :=
  mk_snd [(nn24, c1), (nn54, c2), (nn55, c3)] ⟨fun n => match n with | 1 => [(29, .int .i64)] | _ => [], fun n => match n with | 12 => some [(9, .int .i64), (10, .any)] | _ => none⟩ [.ptr, .ptr, .any] Tryz.func56 rfl (.cons h24 (.cons h54 (.cons h55 .nil)))
theorem s124 : SN ads 124 (g124) :=
  mk_snd [] ⟨fun _ => [], fun _ => none⟩ [.any, .ptr] Tryz.func124 rfl .nil
theorem s123 (h124 : SN ads 124 c1) : SN ads 123 (g123 c1) :=
  mk_snd [(nn124, c1)] ⟨fun n => match n with | 0 => [(8, .int .i64)] | _ => [], fun _ => none⟩ [.slice, .any] Tryz.func123 rfl (.cons h124 .nil)
theorem s125 : SN ads 125 (g125) :=
  mk_snd [] ⟨fun _ => [], fun n => match n with | 12 => some [(8, .slice)] | _ => none⟩ [.any, .int .u64] Tryz.func125 rfl .nil
theorem s231 (h206 : SN ads 206 c1) (h305 : SN ads 305 c2) : SN ads 231 (g231) :=
  mk_snd [(nn206, c1), (nn305, c2)] ⟨fun _ => [], fun n => match n with | 3 => some [(5, .bool)] | 14 => some [(7, .slice)] | 17 => some [] | _ => none⟩ [.ptr, .any] Tryz.func231 rfl (.cons h206 (.cons h305 .nil))
theorem s232 (h288 : SN ads 288 c1) : SN ads 232 (g232 c1) :=
  mk_snd [(nn288, c1)] ⟨fun _ => [], fun n => match n with | 5 => some [] | _ => none⟩ [.ptr, .int .i64] Tryz.func232 rfl (.cons h288 .nil)
theorem s128 (h179 : SN ads 179 c1) (h231 : SN ads 231 c2) (h232 : SN ads 232 c3) : SN ads 128 (g128 c1 c2 c3) :=
  mk_snd [(nn179, c1), (nn231, c2), (nn232, c3)] ⟨fun n => match n with | 0 => [(9, .slice), (10, .int .i64), (22, .int .i64)] | _ => [], fun n => match n with | 4 => some [(8, .slice)] | 11 => some [] | 13 => some [(9, .slice), (10, .int .i64)] | _ => none⟩ [.ptr, .bool, .slice] Tryz.func128 rfl (.cons h179 (.cons h231 (.cons h232 .nil)))
theorem s127 (h128 : SN ads 128 c1) : SN ads 127 (g127 c1) :=
  mk_snd [(nn128, c1)] ⟨fun _ => [], fun _ => none⟩ [.slice, .ptr, .ptr] Tryz.func127 rfl (.cons h128 .nil)
theorem s129 : SN ads 129 (g129) :=
  mk_snd [] ⟨fun n => match n with | 0 => [(12, .int .i64)] | _ => [], fun _ => none⟩ [.ptr, .ptr, .int .i64, .slice] Tryz.func129 rfl .nil
theorem s57 (h11 : SN ads 11 c1) (h23 : SN ads 23 c2) (h123 : SN ads 123 c3) (h125 : SN ads 125 c4) (h127 : SN ads 127 c5) (h129 : SN ads 129 c6) : SN ads 57 (g57 c1 c2 c3 c4 c5 c6) :=
  mk_snd [(nn11, c1), (nn23, c2), (nn123, c3), (nn125, c4), (nn127, c5), (nn129, c6)] ⟨fun _ => [], fun n => match n with | 14 => some [(12, .any)] | 15 => some [(8, .slice), (9, .slice)] | 18 => some [(9, .slice)] | 21 => some [] | 22 => some [(9, .slice)] | _ => none⟩ [.ptr, .any] Tryz.func57 rfl (.cons h11 (.cons h23 (.cons h123 (.cons h125 (.cons h127 (.cons h129 .nil))))))
theorem s58 (h36 : SN ads 36 c1) (h55 : SN ads 55 c2) (h82 : SN ads 82 c3) (h122 : SN ads 122 c4) (h129 : SN ads 129 c5) : SN ads 58 (g58 c1 c2 c3 c4) :=
  mk_snd [(nn36, c1), (nn55, c2), (nn82, c3), (nn122, c4), (nn129, c5)] ⟨fun _ => [], fun n => match n with | 11 => some [] | _ => none⟩ [.ptr, .ptr, .any] Tryz.func58 rfl (.cons h36 (.cons h55 (.cons h82 (.cons h122 (.cons h129 .nil)))))
theorem s19 (h56 : SN ads 56 c1) (h57 : SN ads 57 c2) (h58 : SN ads 58 c3) : SN ads 19 (g19 c1 c2 c3) :=
  mk_snd [(nn56, c1), (nn57, c2), (nn58, c3)] ⟨fun _ => [], fun _ => none⟩ [.ptr, .any] Tryz.func19 rfl (.cons h56 (.cons h57 (.cons h58 .nil)))
theorem s59 : SN ads 59 (g59) :=
  mk_snd [] ⟨fun _ => [], fun _ => none⟩ [.ptr, .int .i64] Tryz.func59 rfl .nil
theorem s121 : SN ads 121 (g121) :=
  mk_snd [] ⟨fun _ => [], fun _ => none⟩ [.slice] Tryz.func121 rfl .nil
theorem s53 (h59 : SN ads 59 c1) (h121 : SN ads 121 c2) (h122 : SN ads 122 c3) : SN ads 53 (g53 c1 c2 c3) :=
  mk_snd [(nn59, c1), (nn121, c2), (nn122, c3)] ⟨fun n => match n with | 0 => [(20, .int .i64)] | _ => [], fun _ => none⟩ [.ptr, .int .i64] Tryz.func53 rfl (.cons h59 (.cons h121 (.cons h122 .nil)))
theorem s17 (h7 : SN ads 7 c1) (h18 : SN ads 18 c2) (h19 : SN ads 19 c3) (h53 : SN ads 53 c4) : SN ads 17 (g17 c1 c2 c3 c4) :=
  mk_snd [(nn7, c1), (nn18, c2), (nn19, c3), (nn53, c4)] ⟨fun _ => [], fun _ => none⟩ [] Tryz.func17 rfl (.cons h7 (.cons h18 (.cons h19 (.cons h53 .nil))))
theorem s20 (h59 : SN ads 59 c1) : SN ads 20 (g20 c1) :=
  mk_snd [(nn59, c1)] ⟨fun _ => [], fun _ => none⟩ [.ptr, .int .i64] Tryz.func20 rfl (.cons h59 .nil)
theorem s21 : SN ads 21 (g21) :=
  mk_snd [] ⟨fun _ => [], fun _ => none⟩ [.ptr] Tryz.func21 rfl .nil
end
end Go.Proofs.YtjjkbedlnbaccaaGreatDoor
