import Derived.Test.YtjlkfjnfnonekaaGreatDoorRows
import Derived.Test.YtjlkfjnfnonekaaGreatDoorVcOa
set_option linter.all false
set_option maxRecDepth 100000
set_option maxHeartbeats 4000000
namespace Go.Proofs.YtjlkfjnfnonekaaGreatDoor
open Go.Vc
attribute [local irreducible] aj cell row wr c0 b3 bm ec fits eu iI iQ e8 src du eL eM ic gV er fR gR gb hS hP im hZ iq ia
def aoU (me:List Value) (bss:List Value) (size:Int) (h0:J) (Post:Value->J->Prop):=ar {} Tryz.func16 #[(.agg (me).toArray),(.agg (bss).toArray),(.int .i64 size)] h0 Post
def n149:bg:={s:= λn=>match n with|1=> .r 0 7 .z|3=> .r 0 18 .z|7=> .r 0 5 (.a 5 [4] (.a 6 [3,4] (.r 7 1 (.a 8 [3,4] .z))))|9=> .r 0 6 (.a 6 [3,5] (.r 7 1 .z))|12=> .r 0 9 (.a 9 [3,7] (.a 10 [3,7] .z))|14=> .r 0 6 (.a 6 [5] (.a 7 [4,5] (.r 8 2 (.a 10 [4,5] .z))))|_=> .z}
def aoX (s:Nat) (up:Option Addr) (f:List Value) (h0:J) (Post:Value->J->Prop):=ar n149 Tryz.func149 #[(.pointer (some ⟨s,0,none⟩)),(.pointer up),(.agg (f).toArray)] h0 Post
def n150:bg:={s:= λn=>match n with|2=> .r 0 14 (.a 14 [] (.a 15 [3,7,12] .z))|_=> .z}
def aoW (s:Nat) (tid:Int) (h0:J) (Post:Value->J->Prop):=ar n150 Tryz.func150 #[(.pointer (some ⟨s,0,none⟩)),(.int .i64 tid)] h0 Post
def ahv:bg:={l:= λn=>match n with|0=>[(10, .int .i64),(11, .int .i64)]|_=>[],s:= λn=>match n with|10=> .r 0 9 (.a 9 [4,8] (.r 10 8 (.a 18 [4,8,13,17] (.r 19 1 .z))))|15=> .r 0 3 (.a 3 [] (.r 4 2 .z))|_=> .z}
def aoV (s:Nat) (agg:Bool) (b:Option Addr) (je jd:Nat) (h0:J) (Post:Value->J->Prop):=ar ahv Tryz.func62 #[(.pointer (some ⟨s,0,none⟩)),(.bool agg),(.slice b je jd)] h0 Post
end Go.Proofs.YtjlkfjnfnonekaaGreatDoor
set_option maxRecDepth 100000
set_option maxHeartbeats 4000000
namespace Go.Proofs.YtjlkfjnfnonekaaGreatDoor
open Go.Vc
attribute [local irreducible] aj cell row wr c0 b3 bm ec fits eu iI iQ e8 src du eL eM ic gV er fR gR gb hS hP im hZ iq ia
def amy (r:List Value) (bytes:Int) (h0:J) (Post:Value->J->Prop):=ar {} Tryz.func9 #[(.agg (r).toArray),(.int .i64 bytes)] h0 Post
def ag9:bg:={s:= λn=>match n with|5=> .r 0 1 (.r 2 2 (.a 1 [0] (.a 4 [0,3] (.r 5 3 .z))))|_=> .z}
def amx (r:List Value) (bytes:Int) (h0:J) (Post:Value->J->Prop):=ar ag9 Tryz.func28 #[(.agg (r).toArray),(.int .i64 bytes)] h0 Post
def amw (h0:J) (Post:Value->J->Prop):=ar {} Tryz.func29 #[] h0 Post
def ahm:bg:={s:= λn=>match n with|2=> .r 0 34 (.r 35 2 (.a 34 [27,33] (.a 37 [27,33,36] (.r 38 2 .z))))|_=> .z}
def aps (r:List Value) (h0:J) (Post:Value->J->Prop):=ar ahm Tryz.func47 #[(.agg (r).toArray)] h0 Post
def ahC:bg:={s:= λn=>match n with|6=> .r 0 1 (.r 2 1 (.r 4 2 (.r 7 1 (.r 9 1 (.a 1 [0] (.r 3 1 (.r 6 1 (.r 8 1 (.r 10 2 .z)))))))))|_=> .z}
def apo (r:List Value) (h0:J) (Post:Value->J->Prop):=ar ahC Tryz.func82 #[(.agg (r).toArray)] h0 Post
def apq (r:List Value) (h0:J) (Post:Value->J->Prop):=ar {} Tryz.func83 #[(.agg (r).toArray)] h0 Post
def apr (r:List Value) (h0:J) (Post:Value->J->Prop):=ar {} Tryz.func84 #[(.agg (r).toArray)] h0 Post
def Wv (mode:Int) (h0:J) (Post:Value->J->Prop):=ar {} Tryz.func122 #[(.int .i64 mode)] h0 Post
def Ww (mode:Int) (h0:J) (Post:Value->J->Prop):=ar {} Tryz.func124 #[(.int .i64 mode)] h0 Post
def n174:bg:={s:= λn=>match n with|2=> .r 0 9 .z|_=> .z}
def apu (AW:Int) (h0:J) (Post:Value->J->Prop):=ar n174 Tryz.func174 #[(.int .i64 AW)] h0 Post
def n175:bg:={s:= λn=>match n with|1=> .r 0 2 (.r 3 2 (.a 2 [1] (.a 5 [1,4] (.r 6 1 .z))))|_=> .z}
def apt (r:List Value) (h0:J) (Post:Value->J->Prop):=ar n175 Tryz.func175 #[(.agg (r).toArray)] h0 Post
def n255:bg:={l:= λn=>match n with|0=>[(8, .int .i64)]|_=>[],s:= λn=>match n with|4=> .r 0 5 (.a 5 [0,1] .z)|_=> .z}
def anK (r:List Value) (m:List Value) (lens:Option Addr) (DB DA:Nat) (h0:J) (Post:Value->J->Prop):=ar n255 Tryz.func255 #[(.agg (r).toArray),(.agg (m).toArray),(.slice lens DB DA)] h0 Post
def n257:bg:={s:= λn=>match n with|4=> .r 0 8 (.r 9 3 (.a 8 [2,6] (.r 12 3 .z)))|_=> .z}
def anL (r:List Value) (m:List Value) (lens:Option Addr) (DB DA:Nat) (h0:J) (Post:Value->J->Prop):=ar n257 Tryz.func257 #[(.agg (r).toArray),(.agg (m).toArray),(.slice lens DB DA)] h0 Post
def anM (n:Int) (h0:J) (Post:Value->J->Prop):=ar {} Tryz.func285 #[(.int .i64 n)] h0 Post
end Go.Proofs.YtjlkfjnfnonekaaGreatDoor
set_option maxRecDepth 100000
set_option maxHeartbeats 4000000
namespace Go.Proofs.YtjlkfjnfnonekaaGreatDoor
open Go.Vc
attribute [local irreducible] aj cell row wr c0 b3 bm ec fits eu iI iQ e8 src du eL eM ic gV er fR gR gb hS hP im hZ iq ia
def n147:bg:={c:= λn=>match n with|6=>some [(4, .ptr)]|_=>none,g:= λn=>match n with|6=>[(11,[(58, .bool)]),(6,[(64, .bool)]),(6,[(70, .bool)]),(7,[(77, .bool)]),(6,[(83, .bool)])]|_=>[],s:= λn=>match n with|5=> .r 0 2 (.r 3 2 (.r 6 2 (.r 9 2 (.r 13 20 (.b 2 [] (.b 5 [] (.b 8 [] (.b 11 [] (.r 12 1 (.r 33 1 (.a 34 [] (.a 35 [15,20,25,30] .z)))) (.a 34 [] (.a 11 [] (.r 12 1 (.r 33 1 (.a 35 [15,20,25,30] .z)))))) (.a 34 [] (.a 8 [] (.a 11 [] (.r 12 1 (.r 33 1 (.a 35 [15,20,25,30] .z))))))) (.a 34 [] (.a 5 [] (.a 8 [] (.a 11 [] (.r 12 1 (.r 33 1 (.a 35 [15,20,25,30] .z)))))))) (.a 34 [] (.a 2 [] (.a 5 [] (.a 8 [] (.a 11 [] (.r 12 1 (.r 33 1 (.a 35 [15,20,25,30] .z)))))))))))))|_=> .z}
def aoO (b:Option Addr) (je jd:Nat) (h0:J) (Post:Value->J->Prop):=ar n147 Tryz.func147 #[(.slice b je jd)] h0 Post
end Go.Proofs.YtjlkfjnfnonekaaGreatDoor
set_option maxRecDepth 100000
set_option maxHeartbeats 4000000
namespace Go.Proofs.YtjlkfjnfnonekaaGreatDoor
open Go.Vc
attribute [local irreducible] aj cell row wr c0 b3 bm ec fits eu iI iQ e8 src du eL eM ic gV er fR gR gb hS hP im hZ iq ia
def apv (h0:J) (Post:Value->J->Prop):=ar {} Tryz.func37 #[] h0 Post
def apC (aid:Int) (h0:J) (Post:Value->J->Prop):=ar {} Tryz.func126 #[(.int .i64 aid)] h0 Post
def apB (weight:Int) (h0:J) (Post:Value->J->Prop):=ar {} Tryz.func127 #[(.int .i64 weight)] h0 Post
def apA (s:Nat) (aid:Int) (h0:J) (Post:Value->J->Prop):=ar {} Tryz.func128 #[(.pointer (some ⟨s,0,none⟩)),(.int .i64 aid)] h0 Post
def apx (s:Nat) (aid:Int) (weight:Int) (h0:J) (Post:Value->J->Prop):=ar {} Tryz.func49 #[(.pointer (some ⟨s,0,none⟩)),(.int .i64 aid),(.int .i64 weight)] h0 Post
def ahK:bg:={s:= λn=>match n with|6=> .r 0 20 (.a 20 [4,8,11,13,16] .z)|11=> .r 0 9 (.a 9 [3,8] .z)|_=> .z}
def apw (s:Nat) (aid:Int) (on:Bool) (h0:J) (Post:Value->J->Prop):=ar ahK Tryz.func97 #[(.pointer (some ⟨s,0,none⟩)),(.int .i64 aid),(.bool on)] h0 Post
def n120:bg:={s:= λn=>match n with|6=> .r 0 16 (.a 16 [4,10] .z)|8=> .r 0 9 (.a 9 [3,8] .z)|_=> .z}
def apy (s:Nat) (aid:Int) (air:Int) (h0:J) (Post:Value->J->Prop):=ar n120 Tryz.func120 #[(.pointer (some ⟨s,0,none⟩)),(.int .i64 aid),(.int .i64 air)] h0 Post
def ahh:bg:={l:= λn=>match n with|0=>[(18, .int .i64)]|2=>[(7, .slice)]|_=>[]}
def apz (s:Nat) (h0:J) (Post:Value->J->Prop):=ar ahh Tryz.func42 #[(.pointer (some ⟨s,0,none⟩))] h0 Post
end Go.Proofs.YtjlkfjnfnonekaaGreatDoor
set_option maxRecDepth 100000
set_option maxHeartbeats 4000000
namespace Go.Proofs.YtjlkfjnfnonekaaGreatDoor
open Go.Vc
attribute [local irreducible] aj cell row wr c0 b3 bm ec fits eu iI iQ e8 src du eL eM ic gV er fR gR gb hS hP im hZ iq ia
def Wu (b:Option Addr) (je jd:Nat) (kind:Int) (n:Int) (h0:J) (Post:Value->J->Prop):=ar {} Tryz.func232 #[(.slice b je jd),(.int .u8 kind),(.int .i64 n)] h0 Post
def n277:bg:={c:= λn=>match n with|2=>some [(3, .ptr)]|_=>none,s:= λn=>match n with|1=> .r 0 2 (.r 4 2 (.b 2 [] (.r 3 1 (.b 6 [] (.r 7 2 (.a 9 [] (.a 10 [] .z))) (.a 9 [] (.a 6 [] (.r 7 2 (.a 10 [] .z)))))) (.a 9 [] (.a 2 [] (.r 3 1 (.a 6 [] (.r 7 2 (.a 10 [] .z))))))))|2=> .r 0 4 (.a 4 [] .z)|3=> .r 0 4 (.a 4 [] .z)|_=> .z}
def an6 (b:Option Addr) (je jd:Nat) (h0:J) (Post:Value->J->Prop):=ar n277 Tryz.func277 #[(.slice b je jd)] h0 Post
def n233:bg:={s:= λn=>match n with|1=> .r 0 11 .z|_=> .z}
def an7 (b:Option Addr) (je jd:Nat) (h0:J) (Post:Value->J->Prop):=ar n233 Tryz.func233 #[(.slice b je jd)] h0 Post
def an4 (f:List Value) (h0:J) (Post:Value->J->Prop):=ar {} Tryz.func112 #[(.agg (f).toArray)] h0 Post
def n115:bg:={c:= λn=>match n with|3=>some []|7=>some [(5, .slice)]|9=>some [(5, .slice)]|_=>none,s:= λn=>match n with|2=> .r 0 3 .z|6=> .r 0 7 (.r 8 3 (.b 7 [1,3,5] (.a 11 [9] (.a 12 [1,3,5,9] (.r 13 1 .z))) (.a 11 [9] (.a 7 [1,3,5] (.a 12 [1,3,5,9] (.r 13 1 .z))))))|_=> .z}
def amt (f:List Value) (h0:J) (Post:Value->J->Prop):=ar n115 Tryz.func115 #[(.agg (f).toArray)] h0 Post
def Wp (n:Int) (most:Int) (h0:J) (Post:Value->J->Prop):=ar {} Tryz.func196 #[(.int .i64 n),(.int .i64 most)] h0 Post
def n197:bg:={l:= λn=>match n with|0=>[(9, .slice),(18, .int .i64)]|_=>[]}
def amu (NA:List Value) (from_:List Value) (bss:List Value) (what:Int) (h0:J) (Post:Value->J->Prop):=ar n197 Tryz.func197 #[(.agg (NA).toArray),(.agg (from_).toArray),(.agg (bss).toArray),(.int .u8 what)] h0 Post
def n198:bg:={e:= λn=>⟨false,false⟩}
def amv (n:Int) (h0:J) (Post:Value->J->Prop):=ar n198 Tryz.func198 #[(.int .i64 n)] h0 Post
end Go.Proofs.YtjlkfjnfnonekaaGreatDoor
