import Derived.Test.YtjlkfjnfnonekaaGreatDoorRows
import Derived.Test.YtjlkfjnfnonekaaGreatDoorVcOa
set_option linter.all false
set_option maxRecDepth 100000
set_option maxHeartbeats 4000000
namespace Go.Proofs.YtjlkfjnfnonekaaGreatDoor
open Go.Vc
attribute [local irreducible] aj cell row wr c0 b3 bm ec fits eu iI iQ e8 src du eL eM ic gV er fR gR gb hS hP im hZ iq ia
def aov (ad:Int) (bf:Int) (h0:J) (Post:Value->J->Prop):=ar {} Tryz.func263 #[(.int .u32 ad),(.int .u32 bf)] h0 Post
def n288:bg:={e:= λn=>⟨false,false⟩}
def aow (ad:Int) (bf:Int) (h0:J) (Post:Value->J->Prop):=ar n288 Tryz.func288 #[(.int .u32 ad),(.int .u32 bf)] h0 Post
end Go.Proofs.YtjlkfjnfnonekaaGreatDoor
set_option maxRecDepth 100000
set_option maxHeartbeats 4000000
namespace Go.Proofs.YtjlkfjnfnonekaaGreatDoor
open Go.Vc
attribute [local irreducible] aj cell row wr c0 b3 bm ec fits eu iI iQ e8 src du eL eM ic gV er fR gR gb hS hP im hZ iq ia
def n307:bg:={l:= λn=>match n with|0=>[(3, .int .u64),(4, .int .u64)]|_=>[]}
def aoz (n:Int) (h0:J) (Post:Value->J->Prop):=ar n307 Tryz.func307 #[(.int .u64 n)] h0 Post
def aox (count:Int) (h0:J) (Post:Value->J->Prop):=ar {} Tryz.func305 #[(.int .u32 count)] h0 Post
def aoy (at_:Int) (interval:Int) (count:Int) (h0:J) (Post:Value->J->Prop):=ar {} Tryz.func304 #[(.int .i64 at_),(.int .i64 interval),(.int .u32 count)] h0 Post
def n306:bg:={e:= λn=>⟨!km n [21,28],true⟩,l:= λn=>match n with|0=>[(15, .int .u64),(16, .int .u64)]|2=>[(16, .int .u64),(18, .int .u64)]|_=>[],c:= λn=>match n with|21=>some [(15, .int .u64)]|28=>some [(18, .int .u64)]|_=>none,s:= λn=>match n with|6=> .r 0 8 .z|_=> .z}
def aoA (hi:Int) (cw:Int) (y:Int) (h0:J) (Post:Value->J->Prop):=ar n306 Tryz.func306 #[(.int .u64 hi),(.int .u64 cw),(.int .u64 y)] h0 Post
end Go.Proofs.YtjlkfjnfnonekaaGreatDoor
set_option maxRecDepth 100000
set_option maxHeartbeats 4000000
namespace Go.Proofs.YtjlkfjnfnonekaaGreatDoor
open Go.Vc
attribute [local irreducible] aj cell row wr c0 b3 bm ec fits eu iI iQ e8 src du eL eM ic gV er fR gR gb hS hP im hZ iq ia
def apS (s:Option Addr) (cL h5:Nat) (f:Value) (h0:J) (Post:Value->J->Prop):=ar {} Tryz.func35 #[(.slice s cL h5),f] h0 Post
def ahF:bg:={l:= λn=>match n with|0=>[(8, .int .i64)]|_=>[]}
def apZ (s:Option Addr) (cL h5:Nat) (f:Value) (h0:J) (Post:Value->J->Prop):=ar ahF Tryz.func88 #[(.slice s cL h5),f] h0 Post
end Go.Proofs.YtjlkfjnfnonekaaGreatDoor
set_option maxRecDepth 100000
set_option maxHeartbeats 4000000
namespace Go.Proofs.YtjlkfjnfnonekaaGreatDoor
open Go.Vc
attribute [local irreducible] aj cell row wr c0 b3 bm ec fits eu iI iQ e8 src du eL eM ic gV er fR gR gb hS hP im hZ iq ia
def DK:bg:={e:= λn=>⟨!km n [1,2],false⟩}
def ao0 (n:Int) (below:Int) (h0:J) (Post:Value->J->Prop):=ar DK Tryz.func5 #[(.int .i64 n),(.int .i64 below)] h0 Post
end Go.Proofs.YtjlkfjnfnonekaaGreatDoor
set_option maxRecDepth 100000
set_option maxHeartbeats 4000000
namespace Go.Proofs.YtjlkfjnfnonekaaGreatDoor
open Go.Vc
attribute [local irreducible] aj cell row wr c0 b3 bm ec fits eu iI iQ e8 src du eL eM ic gV er fR gR gb hS hP im hZ iq ia
def aha:bg:={l:= λn=>match n with|0=>[(36, .int .i64)]|_=>[],s:= λn=>match n with|2=> .r 0 3 .z|_=> .z}
def ao1 (bf:Int) (target:Int) (interval:Int) (aiJ:Int) (bytes:Int) (h0:J) (Post:Value->J->Prop):=ar aha Tryz.func31 #[(.int .u32 bf),(.int .i64 target),(.int .i64 interval),(.int .i64 aiJ),(.int .i64 bytes)] h0 Post
def apd (aid:Int) (tid:Int) (h0:J) (Post:Value->J->Prop):=ar {} Tryz.func205 #[(.int .i64 aid),(.int .i64 tid)] h0 Post
def n265:bg:={s:= λn=>match n with|0=> .r 0 2 (.a 2 [] (.r 3 1 (.a 4 [0] .z)))|_=> .z}
def ao6 (q:Option Addr) (cW:Option Addr) (h0:J) (Post:Value->J->Prop):=ar n265 Tryz.func265 #[(.pointer q),(.pointer cW)] h0 Post
def n266:bg:={s:= λn=>match n with|0=> .r 0 2 (.a 2 [] (.r 3 1 (.a 4 [0] .z)))|_=> .z}
def ao3 (q:Option Addr) (cW:Option Addr) (h0:J) (Post:Value->J->Prop):=ar n266 Tryz.func266 #[(.pointer q),(.pointer cW)] h0 Post
def apc (q:Option Addr) (cW:Option Addr) (aK:Option Addr) (aG:Option Addr) (h0:J) (Post:Value->J->Prop):=ar {} Tryz.func268 #[(.pointer q),(.pointer cW),(.pointer aK),(.pointer aG)] h0 Post
def ahD:bg:={l:= λn=>match n with|0=>[(5, .int .i64)]|_=>[],s:= λn=>match n with|3=> .r 0 15 (.r 16 3 (.a 15 [6,10,14] (.r 19 1 (.a 20 [6,10,14] .z))))|_=> .z}
def apa (p:Nat) (i:Int) (h0:J) (Post:Value->J->Prop):=ar ahD Tryz.func85 #[(.pointer (some ⟨p,0,none⟩)),(.int .i64 i)] h0 Post
def n264:bg:={l:= λn=>match n with|0=>[(6, .int .i64)]|2=>[(9, .int .i64)]|_=>[]}
def ao9 (p:Nat) (f:Value) (h0:J) (Post:Value->J->Prop):=ar n264 Tryz.func264 #[(.pointer (some ⟨p,0,none⟩)),f] h0 Post
def ao5 (p:Nat) (h0:J) (Post:Value->J->Prop):=ar {} Tryz.func210 #[(.pointer (some ⟨p,0,none⟩))] h0 Post
def ao2 (p:Nat) (h0:J) (Post:Value->J->Prop):=ar {} Tryz.func211 #[(.pointer (some ⟨p,0,none⟩))] h0 Post
def apb (p:Nat) (h0:J) (Post:Value->J->Prop):=ar {} Tryz.func212 #[(.pointer (some ⟨p,0,none⟩))] h0 Post
def n138:bg:={l:= λn=>match n with|0=>[(8, .slice)]|_=>[],c:= λn=>match n with|6=>some []|_=>none,s:= λn=>match n with|2=> .r 0 3 .z|3=> .r 0 11 (.a 11 [4,9,10] .z)|5=> .r 0 1 (.r 2 4 (.a 1 [] (.r 6 3 (.r 10 4 (.a 9 [5] (.r 14 2 .z))))))|_=> .z}
def ao7 (p:Nat) (aid:Int) (x:List Value) (h0:J) (Post:Value->J->Prop):=ar n138 Tryz.func138 #[(.pointer (some ⟨p,0,none⟩)),(.int .i64 aid),(.agg (x).toArray)] h0 Post
def ao8 (p:Nat) (aid:Int) (tid:Int) (now:Int) (h0:J) (Post:Value->J->Prop):=ar {} Tryz.func283 #[(.pointer (some ⟨p,0,none⟩)),(.int .i64 aid),(.int .i64 tid),(.int .i64 now)] h0 Post
def ao4 (p:Nat) (aid:Int) (tid:Int) (h0:J) (Post:Value->J->Prop):=ar {} Tryz.func188 #[(.pointer (some ⟨p,0,none⟩)),(.int .i64 aid),(.int .i64 tid)] h0 Post
end Go.Proofs.YtjlkfjnfnonekaaGreatDoor
set_option maxRecDepth 100000
set_option maxHeartbeats 4000000
namespace Go.Proofs.YtjlkfjnfnonekaaGreatDoor
open Go.Vc
attribute [local irreducible] aj cell row wr c0 b3 bm ec fits eu iI iQ e8 src du eL eM ic gV er fR gR gb hS hP im hZ iq ia
def ahd:bg:={l:= λn=>match n with|0=>[(3, .slice),(10, .int .i64)]|_=>[]}
def ap6 (t:Option Addr) (h0:J) (Post:Value->J->Prop):=ar ahd Tryz.func38 #[(.pointer t)] h0 Post
def ap3 (a:List Value) (h0:J) (Post:Value->J->Prop):=ar {} Tryz.func36 #[(.agg (a).toArray)] h0 Post
def ahf:bg:={l:= λn=>match n with|0=>[(9, .int .i64),(10, .int .i64),(16, .int .i64)]|2=>[(71, .int .i64)]|_=>[],s:= λn=>match n with|8=> .r 0 7 (.a 7 [] (.r 8 6 (.a 14 [] (.r 15 2 (.a 17 [4] .z)))))|9=> .r 0 1 (.r 2 7 (.a 1 [] (.r 9 2 .z)))|23=> .r 0 1 (.r 2 4 (.r 7 1 (.a 1 [] (.r 6 1 (.r 8 2 .z)))))|24=> .r 0 7 (.a 7 [] (.r 8 6 (.a 14 [4] .z)))|_=> .z}
def an9 (e:Option Addr) (ready:List Value) (JP:List Value) (h0:J) (Post:Value->J->Prop):=ar ahf Tryz.func40 #[(.pointer e),(.agg (ready).toArray),(.agg (JP).toArray)] h0 Post
def ahn:bg:={l:= λn=>match n with|0=>[(22, .int .i64)]|_=>[],s:= λn=>match n with|2=> .r 0 3 .z|5=> .r 0 3 .z|11=> .r 0 5 (.a 5 [] (.r 6 2 (.a 8 [2] .z)))|15=> .r 0 3 .z|_=> .z}
def ap4 (t:Option Addr) (a:List Value) (h0:J) (Post:Value->J->Prop):=ar ahn Tryz.func48 #[(.pointer t),(.agg (a).toArray)] h0 Post
def aho:bg:={s:= λn=>match n with|5=> .r 0 9 (.a 9 [3] .z)|_=> .z}
def ape (p:Option Addr) (aid:Int) (NH:List Value) (most:Int) (h0:J) (Post:Value->J->Prop):=ar aho Tryz.func50 #[(.pointer p),(.int .i64 aid),(.agg (NH).toArray),(.int .i64 most)] h0 Post
def aoa (e:Option Addr) (ac:Int) (well:Bool) (h0:J) (Post:Value->J->Prop):=ar {} Tryz.func80 #[(.pointer e),(.int .i64 ac),(.bool well)] h0 Post
def apj (p:Option Addr) (aid:Int) (h0:J) (Post:Value->J->Prop):=ar {} Tryz.func129 #[(.pointer p),(.int .i64 aid)] h0 Post
def ahI:bg:={s:= λn=>match n with|3=> .r 0 1 (.r 2 7 (.a 1 [] (.r 9 2 .z)))|_=> .z}
def aob (e:Option Addr) (ac:Int) (h0:J) (Post:Value->J->Prop):=ar ahI Tryz.func93 #[(.pointer e),(.int .i64 ac)] h0 Post
def aog (ac:Int) (h0:J) (Post:Value->J->Prop):=ar {} Tryz.func94 #[(.int .i64 ac)] h0 Post
def ahJ:bg:={s:= λn=>match n with|0=> .r 0 4 (.r 7 1 (.r 10 1 (.r 13 2 (.a 4 [] (.r 5 2 (.a 8 [] (.r 9 1 (.a 11 [] (.r 12 1 (.r 15 2 (.a 17 [] .z)))))))))))|_=> .z}
def aoc (e:Option Addr) (ac:Int) (h0:J) (Post:Value->J->Prop):=ar ahJ Tryz.func95 #[(.pointer e),(.int .i64 ac)] h0 Post
def apf (p:Option Addr) (aid:Int) (ac:Int) (h0:J) (Post:Value->J->Prop):=ar {} Tryz.func96 #[(.pointer p),(.int .i64 aid),(.int .i64 ac)] h0 Post
def ap5 (t:Option Addr) (aid:Int) (h0:J) (Post:Value->J->Prop):=ar {} Tryz.func106 #[(.pointer t),(.int .i64 aid)] h0 Post
def apg (p:Option Addr) (aid:Int) (h0:J) (Post:Value->J->Prop):=ar {} Tryz.func117 #[(.pointer p),(.int .i64 aid)] h0 Post
def n118:bg:={s:= λn=>match n with|3=> .r 0 3 .z|5=> .r 0 3 .z|7=> .r 0 3 .z|_=> .z}
def aph (p:Option Addr) (aid:Int) (ac:Int) (more:Bool) (h0:J) (Post:Value->J->Prop):=ar n118 Tryz.func118 #[(.pointer p),(.int .i64 aid),(.int .i64 ac),(.bool more)] h0 Post
def n125:bg:={l:= λn=>match n with|0=>[(12, .int .i64)]|_=>[]}
def ap7 (t:Option Addr) (a:List Value) (h0:J) (Post:Value->J->Prop):=ar n125 Tryz.func125 #[(.pointer t),(.agg (a).toArray)] h0 Post
def apk (ac:Int) (h0:J) (Post:Value->J->Prop):=ar {} Tryz.func165 #[(.int .i64 ac)] h0 Post
def aod (ac:Int) (h0:J) (Post:Value->J->Prop):=ar {} Tryz.func173 #[(.int .i64 ac)] h0 Post
def aoe (ac:Int) (h0:J) (Post:Value->J->Prop):=ar {} Tryz.func184 #[(.int .i64 ac)] h0 Post
def aof (ac:Int) (h0:J) (Post:Value->J->Prop):=ar {} Tryz.func185 #[(.int .i64 ac)] h0 Post
def ap8 (t:Option Addr) (aid:Int) (h0:J) (Post:Value->J->Prop):=ar {} Tryz.func190 #[(.pointer t),(.int .i64 aid)] h0 Post
end Go.Proofs.YtjlkfjnfnonekaaGreatDoor
