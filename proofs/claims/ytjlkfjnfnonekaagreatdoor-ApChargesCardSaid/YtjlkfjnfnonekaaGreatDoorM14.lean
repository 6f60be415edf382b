import Derived.Test.YtjlkfjnfnonekaaGreatDoorRows
import Derived.Test.YtjlkfjnfnonekaaGreatDoorVcOa
set_option linter.all false
set_option maxRecDepth 100000
set_option maxHeartbeats 4000000
namespace Go.Proofs.YtjlkfjnfnonekaaGreatDoor
open Go.Vc
attribute [local irreducible] aj cell row wr c0 b3 bm ec fits eu iI iQ e8 src du eL eM ic gV er fR gR gb hS hP im hZ iq ia
def aoF (c:List Value) (size:Int) (h0:J) (Post:Value->J->Prop):=ar {} Tryz.func7 #[(.agg (c).toArray),(.int .i64 size)] h0 Post
def hT:bg:={c:= λn=>match n with|10=>some [(7, .int .i64),(8, .any)]|_=>none,s:= λn=>match n with|5=> .r 0 7 (.a 7 [6] (.r 8 3 (.a 11 [4,6] .z)))|9=> .r 0 5 (.r 6 1 (.r 8 2 (.r 13 7 (.b 5 [] (.b 7 [] (.a 10 [9] (.r 11 2 (.a 20 [9,19] (.a 21 [3,9,12,14,19] (.r 22 5 .z))))) (.a 10 [9] (.b 7 [] (.r 11 2 (.a 20 [9,19] (.a 21 [3,9,12,14,19] (.r 22 5 .z)))) (.a 20 [9,19] (.a 7 [] (.r 11 2 (.a 21 [3,9,12,14,19] (.r 22 5 .z)))))))) (.a 7 [] (.a 5 [] (.a 10 [9] (.r 11 2 (.a 20 [9,19] (.a 21 [3,9,12,14,19] (.r 22 5 .z)))))))))))|12=> .r 0 3 (.r 5 4 (.a 3 [] (.a 4 [] (.a 9 [8] (.r 10 2 (.a 12 [8] .z))))))|20=> .r 0 14 (.a 14 [3,10,13] (.r 15 2 .z))|24=> .r 0 12 (.a 12 [3,7,11] (.r 13 2 .z))|26=> .r 0 5 (.r 6 1 (.a 5 [] (.a 7 [] (.r 8 1 (.a 9 [3] (.r 10 5 .z))))))|30=> .r 0 10 (.a 10 [3,7,9] .z)|33=> .r 0 10 (.a 10 [9] (.r 11 1 (.a 12 [3,7,9] .z)))|35=> .r 0 6 (.a 6 [3,5] .z)|40=> .r 0 8 (.r 9 1 (.a 8 [2,6] (.a 10 [2,6,9] (.r 11 1 .z))))|42=> .r 0 10 (.r 12 2 (.a 10 [9] (.r 11 1 (.a 14 [3,7,9,13] (.r 15 2 .z)))))|45=> .r 0 10 (.a 10 [3,7,9] .z)|_=> .z}
def Il (w:Nat) (d:List Value) (h0:J) (Post:Value->J->Prop):=ar hT Tryz.func8 #[(.pointer (some ⟨w,0,none⟩)),(.agg (d).toArray)] h0 Post
def DI:bg:={s:= λn=>match n with|2=> .r 0 14 (.r 15 4 (.a 14 [13] (.a 19 [3,7,11,13,16,18] (.r 20 5 .z))))|7=> .r 0 8 (.r 9 4 (.a 8 [7] (.a 13 [7,12] (.r 14 1 (.a 15 [7,10,12] (.a 16 [4,7,10,12] (.r 17 2 (.a 19 [4,7,10,12] .z))))))))|_=> .z}
def aoI (w:Nat) (fY:Int) (d:List Value) (h0:J) (Post:Value->J->Prop):=ar DI Tryz.func18 #[(.pointer (some ⟨w,0,none⟩)),(.int .i64 fY),(.agg (d).toArray)] h0 Post
def ag6:bg:={l:= λn=>match n with|0=>[(6, .int .i64)]|2=>[(11, .int .i64)]|_=>[],c:= λn=>match n with|8=>some [(8, .ptr),(9, .bool)]|19=>some [(149, .bool)]|24=>some [(12, .ptr),(13, .bool)]|_=>none,s:= λn=>match n with|7=> .r 0 9 (.b 9 [3,7,8] (.r 10 3 (.a 13 [] (.a 14 [3,7,8] (.r 15 1 .z)))) (.a 13 [] (.a 9 [3,7,8] (.r 10 3 (.a 14 [3,7,8] (.r 15 1 .z))))))|18=> .r 0 37 .z|20=> .r 0 6 (.a 6 [5] (.a 7 [4,5] (.r 8 2 (.a 10 [4,5] .z))))|23=> .r 0 6 (.b 6 [3,5] (.r 7 3 (.a 10 [] (.a 11 [3,5] (.r 12 1 .z)))) (.a 10 [] (.a 6 [3,5] (.r 7 3 (.a 11 [3,5] (.r 12 1 .z))))))|_=> .z}
def aoJ (w:Nat) (d:List Value) (h0:J) (Post:Value->J->Prop):=ar ag6 Tryz.func19 #[(.pointer (some ⟨w,0,none⟩)),(.agg (d).toArray)] h0 Post
def ag7:bg:={l:= λn=>match n with|0=>[(13, .slice),(14, .int .i64)]|_=>[],c:= λn=>match n with|14=>some [(12, .slice)]|17=>some [(13, .slice)]|19=>some [(95, .bool)]|32=>some [(11, .slice)]|34=>some [(11, .slice)]|37=>some [(11, .slice)]|_=>none,s:= λn=>match n with|5=> .r 0 10 (.a 10 [4,6] .z)|20=> .r 0 9 (.a 9 [8] (.a 10 [4,8] (.r 11 2 (.a 13 [4,8] .z))))|25=> .r 0 7 (.a 7 [3,5] (.r 8 5 .z))|29=> .r 0 6 (.a 6 [3,5] (.r 7 5 .z))|37=> .r 0 11 (.a 11 [3,7,9] (.r 12 2 .z))|_=> .z}
def aoH (w:Nat) (k:Int) (d:List Value) (h0:J) (Post:Value->J->Prop):=ar ag7 Tryz.func20 #[(.pointer (some ⟨w,0,none⟩)),(.int .i64 k),(.agg (d).toArray)] h0 Post
def aht:bg:={l:= λn=>match n with|0=>[(5, .int .i64)]|_=>[]}
def aoK (w:Nat) (aid:Int) (h0:J) (Post:Value->J->Prop):=ar aht Tryz.func57 #[(.pointer (some ⟨w,0,none⟩)),(.int .i64 aid)] h0 Post
def ahp:bg:={l:= λn=>match n with|0=>[(4, .int .i64)]|_=>[],s:= λn=>match n with|3=> .r 0 16 (.a 16 [9,14] (.a 17 [4,9,14] (.r 18 2 (.a 20 [4,9,14] .z))))|_=> .z}
def aoG (s:Option Addr) (l:Option Addr) (sG sF:Nat) (h0:J) (Post:Value->J->Prop):=ar ahp Tryz.func52 #[(.pointer s),(.slice l sG sF)] h0 Post
def aoD (h0:J) (Post:Value->J->Prop):=ar {} Tryz.func15 #[] h0 Post
def aoC (fY:Int) (h0:J) (Post:Value->J->Prop):=ar {} Tryz.func14 #[(.int .i64 fY)] h0 Post
def aoE (n:Int) (h0:J) (Post:Value->J->Prop):=ar {} Tryz.func6 #[(.int .i64 n)] h0 Post
def aoM (h0:J) (Post:Value->J->Prop):=ar {} Tryz.func4 #[] h0 Post
def yM:bg:={l:= λn=>match n with|0=>[(12, .int .i64)]|2=>[(13, .int .i64)]|_=>[],s:= λn=>match n with|20=> .r 0 26 (.a 26 [4,12] (.r 27 2 .z))|_=> .z}
def aoL (AW:Int) (size:Int) (tid:Int) (h0:J) (Post:Value->J->Prop):=ar yM Tryz.func3 #[(.int .i64 AW),(.int .i64 size),(.int .i64 tid)] h0 Post
end Go.Proofs.YtjlkfjnfnonekaaGreatDoor
set_option maxRecDepth 100000
set_option maxHeartbeats 4000000
namespace Go.Proofs.YtjlkfjnfnonekaaGreatDoor
open Go.Vc
attribute [local irreducible] aj cell row wr c0 b3 bm ec fits eu iI iQ e8 src du eL eM ic gV er fR gR gb hS hP im hZ iq ia
def n245:bg:={s:= λn=>match n with|2=> .r 0 3 .z|_=> .z}
def an0 (b:Option Addr) (id:Int) (h0:J) (Post:Value->J->Prop):=ar n245 Tryz.func245 #[(.pointer b),(.int .i64 id)] h0 Post
def ahc:bg:={s:= λn=>match n with|2=> .r 0 3 .z|_=> .z}
def anb (alg:Int) (all:Int) (h0:J) (Post:Value->J->Prop):=ar ahc Tryz.func33 #[(.int .i64 alg),(.int .i64 all)] h0 Post
def ahi:bg:={s:= λn=>match n with|3=> .r 0 2 (.a 2 [] (.r 3 4 (.r 8 4 (.a 7 [] (.r 12 3 (.r 16 4 (.a 15 [11] (.r 20 4 .z))))))))|_=> .z}
def am8 (l:Nat) (aid:Int) (h0:J) (Post:Value->J->Prop):=ar ahi Tryz.func43 #[(.pointer (some ⟨l,0,none⟩)),(.int .i64 aid)] h0 Post
def ahz:bg:={s:= λn=>match n with|5=> .r 0 12 (.a 12 [6] .z)|_=> .z}
def ana (l:Nat) (aid:Int) (air:Int) (h0:J) (Post:Value->J->Prop):=ar ahz Tryz.func76 #[(.pointer (some ⟨l,0,none⟩)),(.int .i64 aid),(.int .i64 air)] h0 Post
def anc (n:Int) (h0:J) (Post:Value->J->Prop):=ar {} Tryz.func87 #[(.int .i64 n)] h0 Post
def ane (aid:Int) (h0:J) (Post:Value->J->Prop):=ar {} Tryz.func101 #[(.int .i64 aid)] h0 Post
def am9 (l:Nat) (aid:Int) (h0:J) (Post:Value->J->Prop):=ar {} Tryz.func102 #[(.pointer (some ⟨l,0,none⟩)),(.int .i64 aid)] h0 Post
def n103:bg:={l:= λn=>match n with|0=>[(3, .int .i64),(10, .int .i64)]|_=>[]}
def am7 (l:Nat) (h0:J) (Post:Value->J->Prop):=ar n103 Tryz.func103 #[(.pointer (some ⟨l,0,none⟩))] h0 Post
def n121:bg:={s:= λn=>match n with|3=> .r 0 12 (.a 12 [6] .z)|_=> .z}
def am6 (l:Nat) (aid:Int) (air:Int) (h0:J) (Post:Value->J->Prop):=ar n121 Tryz.func121 #[(.pointer (some ⟨l,0,none⟩)),(.int .i64 aid),(.int .i64 air)] h0 Post
def anX (b:Option Addr) (h0:J) (Post:Value->J->Prop):=ar {} Tryz.func137 #[(.pointer b)] h0 Post
def anZ (b:Option Addr) (id:Int) (ZZ:Int) (h0:J) (Post:Value->J->Prop):=ar {} Tryz.func170 #[(.pointer b),(.int .i64 id),(.int .i64 ZZ)] h0 Post
def anY (b:Option Addr) (id:Int) (reason:Int) (h0:J) (Post:Value->J->Prop):=ar {} Tryz.func180 #[(.pointer b),(.int .i64 id),(.int .i64 reason)] h0 Post
def an1 (x:Option Addr) (h0:J) (Post:Value->J->Prop):=ar {} Tryz.func246 #[(.pointer x)] h0 Post
end Go.Proofs.YtjlkfjnfnonekaaGreatDoor
set_option maxRecDepth 100000
set_option maxHeartbeats 4000000
namespace Go.Proofs.YtjlkfjnfnonekaaGreatDoor
open Go.Vc
attribute [local irreducible] aj cell row wr c0 b3 bm ec fits eu iI iQ e8 src du eL eM ic gV er fR gR gb hS hP im hZ iq ia
def n299:bg:={s:= λn=>match n with|4=> .r 0 9 (.a 9 [3] (.r 10 2 .z))|_=> .z}
def anN (c:List Value) (now:Int) (target:Int) (interval:Int) (bytes:Int) (l:Option Addr) (sG sF:Nat) (h0:J) (Post:Value->J->Prop):=ar n299 Tryz.func299 #[(.agg (c).toArray),(.int .i64 now),(.int .i64 target),(.int .i64 interval),(.int .i64 bytes),(.slice l sG sF)] h0 Post
def anR (s:Option Addr) (h0:J) (Post:Value->J->Prop):=ar {} Tryz.func300 #[(.pointer s)] h0 Post
def n301:bg:={s:= λn=>match n with|1=> .r 0 10 .z|4=> .r 0 10 (.a 10 [] (.a 11 [3,7,9] .z))|5=> .r 0 10 (.a 10 [3,5] .z)|6=> .r 0 20 .z|10=> .r 0 13 (.a 13 [4,8] .z)|12=> .r 0 12 .z|_=> .z}
def anP (s:Option Addr) (h0:J) (Post:Value->J->Prop):=ar n301 Tryz.func301 #[(.pointer s)] h0 Post
def n302:bg:={l:= λn=>match n with|0=>[(3, .bool)]|_=>[],c:= λn=>match n with|6=>some []|_=>none,s:= λn=>match n with|2=> .r 0 17 .z|10=> .r 0 15 (.a 15 [5,9,14] (.r 16 3 (.a 19 [5,9,14] .z)))|_=> .z}
def anQ (s:Option Addr) (h0:J) (Post:Value->J->Prop):=ar n302 Tryz.func302 #[(.pointer s)] h0 Post
def n303:bg:={e:= λn=>⟨!km n [4],false⟩,c:= λn=>match n with|8=>some []|_=>none,s:= λn=>match n with|4=> .r 0 12 .z|6=> .r 0 20 .z|9=> .r 0 14 (.a 14 [4,8,13] (.r 15 3 (.a 18 [4,8,13] .z)))|_=> .z}
def anO (s:Option Addr) (h0:J) (Post:Value->J->Prop):=ar n303 Tryz.func303 #[(.pointer s)] h0 Post
end Go.Proofs.YtjlkfjnfnonekaaGreatDoor
