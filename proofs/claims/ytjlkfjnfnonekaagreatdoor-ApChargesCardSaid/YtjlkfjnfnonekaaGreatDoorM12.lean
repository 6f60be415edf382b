import Derived.Test.YtjlkfjnfnonekaaGreatDoorRows
import Derived.Test.YtjlkfjnfnonekaaGreatDoorVcOa
set_option linter.all false
set_option maxRecDepth 100000
set_option maxHeartbeats 4000000
namespace Go.Proofs.YtjlkfjnfnonekaaGreatDoor
open Go.Vc
attribute [local irreducible] aj cell row wr c0 b3 bm ec fits eu iI iQ e8 src du eL eM ic gV er fR gR gb hS hP im hZ iq ia
def amB (n:Int) (h0:J) (Post:Value->J->Prop):=ar {} Tryz.func214 #[(.int .i64 n)] h0 Post
def n287:bg:={e:= λn=>⟨false,false⟩,l:= λn=>match n with|0=>[(3, .int .u8),(9, .int .i64)]|2=>[(3, .int .u8),(5, .int .u8),(13, .int .i64)]|_=>[]}
def an3 (b:Option Addr) (je jd:Nat) (h0:J) (Post:Value->J->Prop):=ar n287 Tryz.func287 #[(.slice b je jd)] h0 Post
def aoB (x:Int) (h0:J) (Post:Value->J->Prop):=ar {} Tryz.func295 #[(.int .u8 x)] h0 Post
end Go.Proofs.YtjlkfjnfnonekaaGreatDoor
set_option maxRecDepth 100000
set_option maxHeartbeats 4000000
namespace Go.Proofs.YtjlkfjnfnonekaaGreatDoor
open Go.Vc
attribute [local irreducible] aj cell row wr c0 b3 bm ec fits eu iI iQ e8 src du eL eM ic gV er fR gR gb hS hP im hZ iq ia
def n259:bg:={l:= λn=>match n with|0=>[(3, .int .i64),(8, .int .i64)]|_=>[]}
def amz (lens:Option Addr) (DB DA:Nat) (h0:J) (Post:Value->J->Prop):=ar n259 Tryz.func259 #[(.slice lens DB DA)] h0 Post
def n201:bg:={e:= λn=>⟨!km n [19],false⟩,l:= λn=>match n with|0=>[(4, .slice),(13, .int .i64)]|3=>[(7, .slice),(49, .int .i64)]|_=>[],s:= λn=>match n with|6=> .r 0 3 .z|10=> .r 0 3 .z|12=> .r 0 3 .z|_=> .z}
def amA (l:Option Addr) (sG sF:Nat) (h0:J) (Post:Value->J->Prop):=ar n201 Tryz.func201 #[(.slice l sG sF)] h0 Post
def an2 (b:Option Addr) (je jd:Nat) (h0:J) (Post:Value->J->Prop):=ar {} Tryz.func260 #[(.slice b je jd)] h0 Post
def n200:bg:={e:= λn=>⟨!km n [16,17],false⟩,l:= λn=>match n with|0=>[(6, .slice),(60, .int .i64)]|_=>[],c:= λn=>match n with|6=>some [(4, .int .u8)]|8=>some [(4, .int .u8)]|10=>some [(5, .int .u8)]|_=>none,s:= λn=>match n with|2=> .r 0 3 .z|3=> .r 0 5 .z|_=> .z}
def apl (f:List Value) (h0:J) (Post:Value->J->Prop):=ar n200 Tryz.func200 #[(.agg (f).toArray)] h0 Post
def apm (body:Int) (h0:J) (Post:Value->J->Prop):=ar {} Tryz.func258 #[(.int .i64 body)] h0 Post
def n239:bg:={l:= λn=>match n with|0=>[(27, .int .i64)]|_=>[],s:= λn=>match n with|9=> .r 0 13 (.a 13 [1,6] .z)|13=> .r 0 2 (.a 2 [] (.r 3 1 .z))|_=> .z}
def an5 (b:Option Addr) (je jd:Nat) (h0:J) (Post:Value->J->Prop):=ar n239 Tryz.func239 #[(.slice b je jd)] h0 Post
def apR (s:Option Addr) (cL h5:Nat) (f:Value) (h0:J) (Post:Value->J->Prop):=ar {} Tryz.func286 #[(.slice s cL h5),f] h0 Post
def n294:bg:={l:= λn=>match n with|0=>[(8, .int .i64)]|_=>[]}
def apY (s:Option Addr) (cL h5:Nat) (f:Value) (h0:J) (Post:Value->J->Prop):=ar n294 Tryz.func294 #[(.slice s cL h5),f] h0 Post
end Go.Proofs.YtjlkfjnfnonekaaGreatDoor
set_option maxRecDepth 100000
set_option maxHeartbeats 4000000
namespace Go.Proofs.YtjlkfjnfnonekaaGreatDoor
open Go.Vc
attribute [local irreducible] aj cell row wr c0 b3 bm ec fits eu iI iQ e8 src du eL eM ic gV er fR gR gb hS hP im hZ iq ia
def G1:bg:={l:= λn=>match n with|0=>[(36, .int .i64)]|2=>[(40, .int .i64)]|4=>[(82, .int .i64)]|6=>[(98, .int .i64)]|_=>[],s:= λn=>match n with|15=> .r 0 4 (.r 5 1 (.a 4 [] (.a 6 [5] (.r 7 7 .z))))|_=> .z}
def amH (a:Nat) (now:Int) (JP:List Value) (h0:J) (Post:Value->J->Prop):=ar G1 Tryz.func12 #[(.pointer (some ⟨a,0,none⟩)),(.int .i64 now),(.agg (JP).toArray)] h0 Post
def n119:bg:={l:= λn=>match n with|0=>[(15, .int .i64)]|_=>[]}
def amR (a:Nat) (aid:Int) (mb:Int) (n:Int) (h0:J) (Post:Value->J->Prop):=ar n119 Tryz.func119 #[(.pointer (some ⟨a,0,none⟩)),(.int .i64 aid),(.int .i64 mb),(.int .i64 n)] h0 Post
def amV (a:Nat) (aid:Int) (h0:J) (Post:Value->J->Prop):=ar {} Tryz.func30 #[(.pointer (some ⟨a,0,none⟩)),(.int .i64 aid)] h0 Post
def ahe:bg:={l:= λn=>match n with|0=>[(22, .int .i64)]|_=>[],s:= λn=>match n with|0=> .r 0 8 (.a 8 [3,7] (.r 9 5 .z))|4=> .r 0 7 (.a 7 [6] (.a 8 [4,6] .z))|_=> .z}
def amY (a:Nat) (x:Option Addr) (h0:J) (Post:Value->J->Prop):=ar ahe Tryz.func39 #[(.pointer (some ⟨a,0,none⟩)),(.pointer x)] h0 Post
def ahg:bg:={l:= λn=>match n with|0=>[(15, .int .i64)]|2=>[(6, .slice),(24, .int .i64)]|4=>[(65, .int .i64)]|_=>[]}
def amJ (a:Nat) (h0:J) (Post:Value->J->Prop):=ar ahg Tryz.func41 #[(.pointer (some ⟨a,0,none⟩))] h0 Post
def ahj:bg:={l:= λn=>match n with|0=>[(7, .slice),(9, .int .i64)]|_=>[]}
def amW (a:Nat) (aid:Int) (ac:Int) (h0:J) (Post:Value->J->Prop):=ar ahj Tryz.func44 #[(.pointer (some ⟨a,0,none⟩)),(.int .i64 aid),(.int .i64 ac)] h0 Post
def ahk:bg:={c:= λn=>match n with|8=>some [(12, .int .i64)]|22=>some []|_=>none,s:= λn=>match n with|8=> .r 0 10 (.r 11 4 (.r 16 4 (.r 21 10 (.a 10 [] (.a 15 [14] (.a 20 [14,19] (.a 31 [14,19,30] (.r 32 3 (.a 35 [8,9,14,19,25] (.r 36 1 .z))))))))))|14=> .r 0 10 (.a 10 [1,6] (.r 11 6 (.a 17 [1,6] .z)))|15=> .r 0 6 (.a 6 [5] (.r 7 31 .z))|16=> .r 0 8 (.a 8 [3,7] (.r 9 5 .z))|20=> .r 0 24 (.a 24 [1,6,11,15,21] (.r 25 6 (.a 31 [1,6,11,15,21] .z)))|22=> .r 0 7 (.a 7 [] (.a 8 [] .z))|_=> .z}
def amU (a:Nat) (aid:Int) (tid:Int) (h0:J) (Post:Value->J->Prop):=ar ahk Tryz.func45 #[(.pointer (some ⟨a,0,none⟩)),(.int .i64 aid),(.int .i64 tid)] h0 Post
def ahl:bg:={s:= λn=>match n with|4=> .r 0 12 (.a 12 [5,10] (.r 13 3 (.a 16 [5,10] .z)))|5=> .r 0 20 (.a 20 [5,9,14,19] .z)|6=> .r 0 14 (.a 14 [3,8,13] .z)|7=> .r 0 19 (.a 19 [5,9,14] .z)|8=> .r 0 10 (.a 10 [5] .z)|_=> .z}
def amT (a:Nat) (u:Option Addr) (slots:Int) (h0:J) (Post:Value->J->Prop):=ar ahl Tryz.func46 #[(.pointer (some ⟨a,0,none⟩)),(.pointer u),(.int .i64 slots)] h0 Post
def ahH:bg:={l:= λn=>match n with|0=>[(10, .int .i64)]|_=>[],s:= λn=>match n with|3=> .r 0 6 (.a 6 [4] .z)|_=> .z}
def amP (a:Nat) (reason:Int) (l:Option Addr) (sG sF:Nat) (h0:J) (Post:Value->J->Prop):=ar ahH Tryz.func90 #[(.pointer (some ⟨a,0,none⟩)),(.int .i64 reason),(.slice l sG sF)] h0 Post
def am3 (tid:Int) (h0:J) (Post:Value->J->Prop):=ar {} Tryz.func104 #[(.int .i64 tid)] h0 Post
def amX (a:Nat) (aid:Int) (tid:Int) (h0:J) (Post:Value->J->Prop):=ar {} Tryz.func105 #[(.pointer (some ⟨a,0,none⟩)),(.int .i64 aid),(.int .i64 tid)] h0 Post
def am5 (h0:J) (Post:Value->J->Prop):=ar {} Tryz.func107 #[] h0 Post
def n116:bg:={l:= λn=>match n with|0=>[(15, .slice),(16, .slice),(77, .int .i64)]|_=>[],c:= λn=>match n with|13=>some [(19, .slice)]|16=>some []|18=>some []|_=>none,s:= λn=>match n with|5=> .r 0 13 (.a 13 [5,10] (.r 14 1 .z))|6=> .r 0 14 (.a 14 [7,12] (.r 15 5 .z))|12=> .r 0 31 (.a 31 [4,9,14,19,21,23,29] (.r 32 5 .z))|15=> .r 0 18 (.a 18 [10,14] (.r 19 3 (.a 22 [10,14] (.r 23 3 (.a 26 [10,14] (.r 27 3 (.a 30 [10,14] (.r 31 3 (.a 34 [10,14] .z)))))))))|_=> .z}
def amN (a:Nat) (u:Option Addr) (l:Option Addr) (alone:Bool) (h0:J) (Post:Value->J->Prop):=ar n116 Tryz.func116 #[(.pointer (some ⟨a,0,none⟩)),(.pointer u),(.pointer l),(.bool alone)] h0 Post
def n199:bg:={l:= λn=>match n with|0=>[(13, .slice)]|_=>[],c:= λn=>match n with|2=>some [(12, .ptr)]|8=>some [(13, .slice)]|_=>none,s:= λn=>match n with|1=> .r 0 4 (.r 5 10 (.b 4 [3] (.r 15 1 (.a 16 [] (.a 17 [3,9,14] .z))) (.a 16 [] (.a 4 [3] (.r 15 1 (.a 17 [3,9,14] .z))))))|10=> .r 0 3 (.a 3 [] (.a 4 [0,1] (.r 5 5 .z)))|13=> .r 0 4 (.a 4 [3] (.r 5 5 (.a 10 [3] (.a 11 [3] (.a 12 [3] (.a 13 [3] (.a 14 [3,7,8] (.r 15 1 .z))))))))|_=> .z}
def amM (a:Nat) (u:Option Addr) (l:Option Addr) (r:List Value) (alone:Bool) (h0:J) (Post:Value->J->Prop):=ar n199 Tryz.func199 #[(.pointer (some ⟨a,0,none⟩)),(.pointer u),(.pointer l),(.agg (r).toArray),(.bool alone)] h0 Post
def n254:bg:={c:= λn=>match n with|2=>some [(8, .ptr),(9, .slice),(10, .bool)]|6=>some [(11, .ptr),(12, .any)]|_=>none,s:= λn=>match n with|1=> .r 0 18 (.b 18 [3,8,13,17] (.r 19 4 (.a 23 [] (.a 24 [3,8,13,17] (.r 25 2 .z)))) (.a 23 [] (.a 18 [3,8,13,17] (.r 19 4 (.a 24 [3,8,13,17] (.r 25 2 .z))))))|5=> .r 0 9 (.b 9 [3,4,8] (.r 10 3 (.a 13 [] (.a 14 [3,4,8] (.r 15 1 .z)))) (.a 13 [] (.a 9 [3,4,8] (.r 10 3 (.a 14 [3,4,8] (.r 15 1 .z))))))|8=> .r 0 5 (.a 5 [4] .z)|_=> .z}
def amQ (a:Nat) (u:Option Addr) (l:Option Addr) (h0:J) (Post:Value->J->Prop):=ar n254 Tryz.func254 #[(.pointer (some ⟨a,0,none⟩)),(.pointer u),(.pointer l)] h0 Post
def n256:bg:={l:= λn=>match n with|0=>[(3, .slice),(8, .int .i64)]|_=>[]}
def am4 (l:Option Addr) (sG sF:Nat) (h0:J) (Post:Value->J->Prop):=ar n256 Tryz.func256 #[(.slice l sG sF)] h0 Post
end Go.Proofs.YtjlkfjnfnonekaaGreatDoor
