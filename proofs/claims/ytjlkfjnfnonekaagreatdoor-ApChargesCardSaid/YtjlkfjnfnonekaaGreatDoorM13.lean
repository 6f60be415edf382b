import Derived.Test.YtjlkfjnfnonekaaGreatDoorRows
import Derived.Test.YtjlkfjnfnonekaaGreatDoorVcOa
set_option linter.all false
set_option maxRecDepth 100000
set_option maxHeartbeats 4000000
namespace Go.Proofs.YtjlkfjnfnonekaaGreatDoor
open Go.Vc
attribute [local irreducible] aj cell row wr c0 b3 bm ec fits eu iI iQ e8 src du eL eM ic gV er fR gR gb hS hP im hZ iq ia
def Wq (a:Nat) (aid:Int) (ac:Int) (h0:J) (Post:Value->J->Prop):=ar {} Tryz.func10 #[(.pointer (some ⟨a,0,none⟩)),(.int .i64 aid),(.int .i64 ac)] h0 Post
def ag4:bg:={l:= λn=>match n with|0=>[(99, .int .i64)]|_=>[],s:= λn=>match n with|12=> .r 0 3 .z|17=> .r 0 2 (.r 3 2 (.a 2 [] (.r 5 1 (.a 6 [] .z))))|_=> .z}
def am1 (c:List Value) (h0:J) (Post:Value->J->Prop):=ar ag4 Tryz.func11 #[(.agg (c).toArray)] h0 Post
def ag5:bg:={l:= λn=>match n with|1=>[(71, .int .i64)]|3=>[(107, .int .i64)]|_=>[],s:= λn=>match n with|2=> .r 0 3 .z|3=> .r 0 8 .z|4=> .r 0 3 .z|6=> .r 0 3 .z|7=> .r 0 4 (.a 4 [3] (.r 5 5 .z))|14=> .r 0 17 (.r 21 2 (.a 17 [6,11,16] (.r 18 3 (.r 23 2 (.a 25 [6,11,16] (.r 26 1 .z))))))|25=> .r 0 6 (.a 6 [4] (.r 7 1 .z))|_=> .z}
def amE (a:Nat) (addr:List Value) (r:List Value) (weight:Int) (NH:List Value) (most:Int) (h0:J) (Post:Value->J->Prop):=ar ag5 Tryz.func13 #[(.pointer (some ⟨a,0,none⟩)),(.agg (addr).toArray),(.agg (r).toArray),(.int .i64 weight),(.agg (NH).toArray),(.int .i64 most)] h0 Post
def amF (a:Nat) (aid:Int) (r:List Value) (h0:J) (Post:Value->J->Prop):=ar {} Tryz.func25 #[(.pointer (some ⟨a,0,none⟩)),(.int .i64 aid),(.agg (r).toArray)] h0 Post
def ag8:bg:={c:= λn=>match n with|19=>some [(13, .bool)]|_=>none,s:= λn=>match n with|8=> .r 0 14 (.a 14 [3,8,13] .z)|10=> .r 0 10 .z|19=> .r 0 9 (.a 9 [7] (.r 10 1 .z))|_=> .z}
def amC (a:Nat) (now:Int) (num:Int) (answer:Option Addr) (xN xM:Nat) (h0:J) (Post:Value->J->Prop):=ar ag8 Tryz.func26 #[(.pointer (some ⟨a,0,none⟩)),(.int .i64 now),(.int .i64 num),(.slice answer xN xM)] h0 Post
def am2 (n:Int) (h0:J) (Post:Value->J->Prop):=ar {} Tryz.func34 #[(.int .i64 n)] h0 Post
def ahq:bg:={s:= λn=>match n with|2=> .r 0 3 .z|4=> .r 0 3 .z|_=> .z}
def Wr (a:Nat) (now:Int) (aid:Int) (tid:Int) (ad:Int) (body:Option Addr) (Zi Zh:Nat) (h0:J) (Post:Value->J->Prop):=ar ahq Tryz.func54 #[(.pointer (some ⟨a,0,none⟩)),(.int .i64 now),(.int .i64 aid),(.int .i64 tid),(.int .u32 ad),(.slice body Zi Zh)] h0 Post
def ahs:bg:={l:= λn=>match n with|0=>[(3, .slice),(11, .int .i64)]|_=>[]}
def amI (a:Nat) (h0:J) (Post:Value->J->Prop):=ar ahs Tryz.func56 #[(.pointer (some ⟨a,0,none⟩))] h0 Post
def amG (a:Nat) (num:Int) (h0:J) (Post:Value->J->Prop):=ar {} Tryz.func58 #[(.pointer (some ⟨a,0,none⟩)),(.int .i64 num)] h0 Post
def amZ (a:Nat) (num:Int) (h0:J) (Post:Value->J->Prop):=ar {} Tryz.func73 #[(.pointer (some ⟨a,0,none⟩)),(.int .i64 num)] h0 Post
def amD (x:Option Addr) (cW:Option Addr) (h0:J) (Post:Value->J->Prop):=ar {} Tryz.func75 #[(.pointer x),(.pointer cW)] h0 Post
def ahA:bg:={l:= λn=>match n with|0=>[(36, .int .i64)]|_=>[],s:= λn=>match n with|3=> .r 0 5 (.a 5 [3,4] (.r 6 5 .z))|8=> .r 0 6 (.a 6 [5] .z)|_=> .z}
def amO (a:Nat) (u:Option Addr) (l:Option Addr) (answer:Option Addr) (xN xM:Nat) (h0:J) (Post:Value->J->Prop):=ar ahA Tryz.func77 #[(.pointer (some ⟨a,0,none⟩)),(.pointer u),(.pointer l),(.slice answer xN xM)] h0 Post
def amL (a:Nat) (u:Option Addr) (l:Option Addr) (answer:Option Addr) (xN xM:Nat) (h0:J) (Post:Value->J->Prop):=ar {} Tryz.func78 #[(.pointer (some ⟨a,0,none⟩)),(.pointer u),(.pointer l),(.slice answer xN xM)] h0 Post
def ahB:bg:={s:= λn=>match n with|4=> .r 0 8 (.a 8 [3,7] .z)|_=> .z}
def amK (a:Nat) (u:Option Addr) (l:Option Addr) (a3:Option Addr) (Xh Xg:Nat) (h0:J) (Post:Value->J->Prop):=ar ahB Tryz.func79 #[(.pointer (some ⟨a,0,none⟩)),(.pointer u),(.pointer l),(.slice a3 Xh Xg)] h0 Post
def n168:bg:={s:= λn=>match n with|2=> .r 0 33 (.a 33 [0,15,20] (.r 34 1 .z))|_=> .z}
def amS (a:Nat) (u:Option Addr) (answer:Option Addr) (xN xM:Nat) (h0:J) (Post:Value->J->Prop):=ar n168 Tryz.func168 #[(.pointer (some ⟨a,0,none⟩)),(.pointer u),(.slice answer xN xM)] h0 Post
def ahy:bg:={l:= λn=>match n with|0=>[(5, .int .i64),(6, .int .i64)]|_=>[]}
def apV (s:Option Addr) (cL h5:Nat) (del:Value) (h0:J) (Post:Value->J->Prop):=ar ahy Tryz.func74 #[(.slice s cL h5),del] h0 Post
end Go.Proofs.YtjlkfjnfnonekaaGreatDoor
set_option maxRecDepth 100000
set_option maxHeartbeats 4000000
namespace Go.Proofs.YtjlkfjnfnonekaaGreatDoor
open Go.Vc
attribute [local irreducible] aj cell row wr c0 b3 bm ec fits eu iI iQ e8 src du eL eM ic gV er fR gR gb hS hP im hZ iq ia
def ans (s:Nat) (h0:J) (Post:Value->J->Prop):=ar {} Tryz.func91 #[(.pointer (some ⟨s,0,none⟩))] h0 Post
def n181:bg:={l:= λn=>match n with|0=>[(5, .slice),(13, .int .i64)]|_=>[]}
def anH (s:Nat) (f:Value) (h0:J) (Post:Value->J->Prop):=ar n181 Tryz.func181 #[(.pointer (some ⟨s,0,none⟩)),f] h0 Post
def ant (a0:List Value) (h0:J) (Post:Value->J->Prop):=ar {} Tryz.func182 #[(.agg (a0).toArray)] h0 Post
def ahb:bg:={s:= λn=>match n with|2=> .r 0 3 .z|_=> .z}
def anf (size:Int) (cY:Int) (fG:Int) (h0:J) (Post:Value->J->Prop):=ar ahb Tryz.func32 #[(.int .i64 size),(.int .i64 cY),(.int .i64 fG)] h0 Post
def anJ (m:List Value) (h0:J) (Post:Value->J->Prop):=ar {} Tryz.func250 #[(.agg (m).toArray)] h0 Post
def ahG:bg:={l:= λn=>match n with|0=>[(7, .slice),(18, .int .i64)]|_=>[],s:= λn=>match n with|12=> .r 0 4 (.a 4 [0] (.r 5 2 (.a 7 [0,1] .z)))|_=> .z}
def anz (s:Nat) (now:Int) (h0:J) (Post:Value->J->Prop):=ar ahG Tryz.func89 #[(.pointer (some ⟨s,0,none⟩)),(.int .i64 now)] h0 Post
def anm (s:Nat) (h0:J) (Post:Value->J->Prop):=ar {} Tryz.func92 #[(.pointer (some ⟨s,0,none⟩))] h0 Post
def anw (s:Nat) (h0:J) (Post:Value->J->Prop):=ar {} Tryz.func108 #[(.pointer (some ⟨s,0,none⟩))] h0 Post
def anv (s:Nat) (h0:J) (Post:Value->J->Prop):=ar {} Tryz.func109 #[(.pointer (some ⟨s,0,none⟩))] h0 Post
def anx (s:Nat) (h0:J) (Post:Value->J->Prop):=ar {} Tryz.func110 #[(.pointer (some ⟨s,0,none⟩))] h0 Post
def ani (s:Nat) (h0:J) (Post:Value->J->Prop):=ar {} Tryz.func111 #[(.pointer (some ⟨s,0,none⟩))] h0 Post
def ank (s:Nat) (h0:J) (Post:Value->J->Prop):=ar {} Tryz.func113 #[(.pointer (some ⟨s,0,none⟩))] h0 Post
def n114:bg:={s:= λn=>match n with|2=> .r 0 3 .z|4=> .r 0 3 .z|_=> .z}
def anh (s:Nat) (token:Int) (h0:J) (Post:Value->J->Prop):=ar n114 Tryz.func114 #[(.pointer (some ⟨s,0,none⟩)),(.int .i64 token)] h0 Post
def ang (s:Nat) (token:Int) (status:Int) (size:Int) (h0:J) (Post:Value->J->Prop):=ar {} Tryz.func163 #[(.pointer (some ⟨s,0,none⟩)),(.int .i64 token),(.int .i64 status),(.int .i64 size)] h0 Post
def n169:bg:={s:= λn=>match n with|3=> .r 0 3 .z|4=> .r 0 14 (.a 14 [1,5,12,13] (.r 15 3 .z))|5=> .r 0 3 .z|_=> .z}
def ano (s:Nat) (a:List Value) (h0:J) (Post:Value->J->Prop):=ar n169 Tryz.func169 #[(.pointer (some ⟨s,0,none⟩)),(.agg (a).toArray)] h0 Post
def anr (s:Nat) (h0:J) (Post:Value->J->Prop):=ar {} Tryz.func171 #[(.pointer (some ⟨s,0,none⟩))] h0 Post
def n172:bg:={s:= λn=>match n with|2=> .r 0 12 .z|_=> .z}
def anj (s:Nat) (done:Bool) (h0:J) (Post:Value->J->Prop):=ar n172 Tryz.func172 #[(.pointer (some ⟨s,0,none⟩)),(.bool done)] h0 Post
def n177:bg:={s:= λn=>match n with|2=> .r 0 9 .z|_=> .z}
def anA (x:List Value) (cW:Option Addr) (aK:Option Addr) (h0:J) (Post:Value->J->Prop):=ar n177 Tryz.func177 #[(.agg (x).toArray),(.pointer cW),(.pointer aK)] h0 Post
def n178:bg:={l:= λn=>match n with|0=>[(23, .int .i64)]|_=>[],s:= λn=>match n with|6=> .r 0 6 (.a 6 [3,5] (.r 7 1 .z))|_=> .z}
def anI (s:Nat) (f:Value) (h0:J) (Post:Value->J->Prop):=ar n178 Tryz.func178 #[(.pointer (some ⟨s,0,none⟩)),f] h0 Post
def anB (x:List Value) (cW:Option Addr) (h0:J) (Post:Value->J->Prop):=ar {} Tryz.func179 #[(.agg (x).toArray),(.pointer cW)] h0 Post
def anu (s:Nat) (h0:J) (Post:Value->J->Prop):=ar {} Tryz.func189 #[(.pointer (some ⟨s,0,none⟩))] h0 Post
def anl (x:List Value) (h0:J) (Post:Value->J->Prop):=ar {} Tryz.func194 #[(.agg (x).toArray)] h0 Post
def n202:bg:={l:= λn=>match n with|0=>[(11, .int .i64)]|2=>[(40, .int .i64)]|_=>[],s:= λn=>match n with|4=> .r 0 4 (.a 4 [3] (.r 5 6 (.a 11 [3,9] (.r 12 2 .z))))|_=> .z}
def anC (s:Nat) (iW:Option Addr) (akx akw:Nat) (h0:J) (Post:Value->J->Prop):=ar n202 Tryz.func202 #[(.pointer (some ⟨s,0,none⟩)),(.slice iW akx akw)] h0 Post
def anp (x:List Value) (cW:Option Addr) (h0:J) (Post:Value->J->Prop):=ar {} Tryz.func240 #[(.agg (x).toArray),(.pointer cW)] h0 Post
def anE (s:Nat) (h0:J) (Post:Value->J->Prop):=ar {} Tryz.func241 #[(.pointer (some ⟨s,0,none⟩))] h0 Post
def apQ (s:Option Addr) (cL h5:Nat) (f:Value) (h0:J) (Post:Value->J->Prop):=ar {} Tryz.func242 #[(.slice s cL h5),f] h0 Post
def n243:bg:={s:= λn=>match n with|1=> .r 0 2 (.a 2 [0,1] (.r 3 8 (.a 11 [0,1,7,10] (.r 12 5 .z))))|_=> .z}
def anq (x:List Value) (cW:Option Addr) (aK:Option Addr) (h0:J) (Post:Value->J->Prop):=ar n243 Tryz.func243 #[(.agg (x).toArray),(.pointer cW),(.pointer aK)] h0 Post
def n244:bg:={l:= λn=>match n with|0=>[(8, .int .i64)]|_=>[]}
def anG (s:Nat) (h0:J) (Post:Value->J->Prop):=ar n244 Tryz.func244 #[(.pointer (some ⟨s,0,none⟩))] h0 Post
def n247:bg:={l:= λn=>match n with|0=>[(5, .int .i64),(6, .int .i64)]|_=>[]}
def apU (s:Option Addr) (cL h5:Nat) (del:Value) (h0:J) (Post:Value->J->Prop):=ar n247 Tryz.func247 #[(.slice s cL h5),del] h0 Post
def apO (s:Option Addr) (cL h5:Nat) (h0:J) (Post:Value->J->Prop):=ar {} Tryz.func248 #[(.slice s cL h5)] h0 Post
def anD (x:List Value) (cW:Option Addr) (h0:J) (Post:Value->J->Prop):=ar {} Tryz.func261 #[(.agg (x).toArray),(.pointer cW)] h0 Post
def anF (x:List Value) (h0:J) (Post:Value->J->Prop):=ar {} Tryz.func279 #[(.agg (x).toArray)] h0 Post
def n280:bg:={l:= λn=>match n with|0=>[(8, .int .i64)]|_=>[]}
def apX (s:Option Addr) (cL h5:Nat) (f:Value) (h0:J) (Post:Value->J->Prop):=ar n280 Tryz.func280 #[(.slice s cL h5),f] h0 Post
def n284:bg:={s:= λn=>match n with|2=> .r 0 2 (.a 2 [] (.r 3 1 .z))|4=> .r 0 2 (.a 2 [] (.r 3 1 .z))|7=> .r 0 2 (.a 2 [] (.r 3 1 .z))|8=> .r 0 9 (.b 9 [0,6] (.a 10 [] (.a 11 [0,6] .z)) (.a 10 [] (.a 9 [0,6] (.a 11 [0,6] .z))))|9=> .r 0 7 (.a 7 [5] (.a 8 [4,5] (.r 9 2 (.a 11 [4,5] .z))))|_=> .z}
def ann (s:Nat) (p:List Value) (now:Int) (h0:J) (Post:Value->J->Prop):=ar n284 Tryz.func284 #[(.pointer (some ⟨s,0,none⟩)),(.agg (p).toArray),(.int .i64 now)] h0 Post
end Go.Proofs.YtjlkfjnfnonekaaGreatDoor
