import Derived.Test.YtjlkfjnfnonekaaGreatDoorRows
import Derived.Test.YtjlkfjnfnonekaaGreatDoorVcOa
set_option linter.all false
set_option maxRecDepth 100000
set_option maxHeartbeats 4000000
namespace Go.Proofs.YtjlkfjnfnonekaaGreatDoor
open Go.Vc
attribute [local irreducible] aj cell row wr c0 b3 bm ec fits eu iI iQ e8 src du eL eM ic gV er fR gR gb hS hP im hZ iq ia
def aoh (bf:Int) (target:Int) (interval:Int) (h0:J) (Post:Value->J->Prop):=ar {} Tryz.func176 #[(.int .u32 bf),(.int .i64 target),(.int .i64 interval)] h0 Post
def n209:bg:={s:= λn=>match n with|1=> .r 0 6 (.a 6 [1,5] (.r 7 1 .z))|4=> .r 0 6 (.a 6 [5] (.a 7 [4,5] (.r 8 2 (.a 10 [4,5] .z))))|5=> .r 0 10 (.a 10 [3,5] .z)|7=> .r 0 10 (.a 10 [3,5] .z)|_=> .z}
def aon (q:Nat) (p:List Value) (h0:J) (Post:Value->J->Prop):=ar n209 Tryz.func209 #[(.pointer (some ⟨q,0,none⟩)),(.agg (p).toArray)] h0 Post
def n290:bg:={s:= λn=>match n with|4=> .r 0 10 (.a 10 [3,5] .z)|6=> .r 0 10 (.a 10 [3,5] .z)|_=> .z}
def aoq (q:Nat) (k:Int) (h0:J) (Post:Value->J->Prop):=ar n290 Tryz.func290 #[(.pointer (some ⟨q,0,none⟩)),(.int .i64 k)] h0 Post
def n297:bg:={l:= λn=>match n with|0=>[(9, .slice),(26, .int .i64)]|2=>[(15, .slice),(68, .int .i64)]|_=>[],c:= λn=>match n with|9=>some [(12, .ptr),(13, .int .i64),(14, .bool)]|_=>none,s:= λn=>match n with|8=> .r 0 18 (.b 18 [3,8,12,16] (.r 19 4 (.a 23 [] (.a 24 [3,8,12,16] (.r 25 2 .z)))) (.a 23 [] (.a 18 [3,8,12,16] (.r 19 4 (.a 24 [3,8,12,16] (.r 25 2 .z))))))|_=> .z}
def aop (q:Nat) (k:Int) (now:Int) (h0:J) (Post:Value->J->Prop):=ar n297 Tryz.func297 #[(.pointer (some ⟨q,0,none⟩)),(.int .i64 k),(.int .i64 now)] h0 Post
def n292:bg:={l:= λn=>match n with|0=>[(7, .slice)]|_=>[],s:= λn=>match n with|17=> .r 0 10 (.a 10 [3,5] .z)|_=> .z}
def aoo (q:Nat) (now:Int) (h0:J) (Post:Value->J->Prop):=ar n292 Tryz.func292 #[(.pointer (some ⟨q,0,none⟩)),(.int .i64 now)] h0 Post
def aol (q:Nat) (bucket:Int) (h0:J) (Post:Value->J->Prop):=ar {} Tryz.func289 #[(.pointer (some ⟨q,0,none⟩)),(.int .i64 bucket)] h0 Post
def aor (p:List Value) (h0:J) (Post:Value->J->Prop):=ar {} Tryz.func262 #[(.agg (p).toArray)] h0 Post
def aoj (q:Nat) (bucket:Int) (h0:J) (Post:Value->J->Prop):=ar {} Tryz.func270 #[(.pointer (some ⟨q,0,none⟩)),(.int .i64 bucket)] h0 Post
def n269:bg:={l:= λn=>match n with|0=>[(4, .int .i64),(5, .int .i64),(8, .int .i64)]|_=>[],s:= λn=>match n with|7=> .r 0 7 .z|_=> .z}
def aok (q:Nat) (h0:J) (Post:Value->J->Prop):=ar n269 Tryz.func269 #[(.pointer (some ⟨q,0,none⟩))] h0 Post
def aom (q:Nat) (h0:J) (Post:Value->J->Prop):=ar {} Tryz.func251 #[(.pointer (some ⟨q,0,none⟩))] h0 Post
def aoi (q:Nat) (h0:J) (Post:Value->J->Prop):=ar {} Tryz.func267 #[(.pointer (some ⟨q,0,none⟩))] h0 Post
end Go.Proofs.YtjlkfjnfnonekaaGreatDoor
set_option maxRecDepth 100000
set_option maxHeartbeats 4000000
namespace Go.Proofs.YtjlkfjnfnonekaaGreatDoor
open Go.Vc
attribute [local irreducible] aj cell row wr c0 b3 bm ec fits eu iI iQ e8 src du eL eM ic gV er fR gR gb hS hP im hZ iq ia
def n220:bg:={l:= λn=>match n with|0=>[(4, .int .i64)]|_=>[]}
def aoS (b:Option Addr) (je jd:Nat) (h0:J) (Post:Value->J->Prop):=ar n220 Tryz.func220 #[(.slice b je jd)] h0 Post
def n143:bg:={s:= λn=>match n with|1=> .r 0 11 .z|_=> .z}
def aoQ (b:Option Addr) (je jd:Nat) (h0:J) (Post:Value->J->Prop):=ar n143 Tryz.func143 #[(.slice b je jd)] h0 Post
def aoR (n:Int) (most:Int) (h0:J) (Post:Value->J->Prop):=ar {} Tryz.func229 #[(.int .i64 n),(.int .i64 most)] h0 Post
def ahw:bg:={l:= λn=>match n with|0=>[(0, .slice),(5, .int .i64)]|_=>[]}
def aoP (b:Option Addr) (je jd:Nat) (a:List Value) (h0:J) (Post:Value->J->Prop):=ar ahw Tryz.func65 #[(.slice b je jd),(.agg (a).toArray)] h0 Post
def ahx:bg:={e:= λn=>⟨false,false⟩}
def aoT (b:Option Addr) (je jd:Nat) (n:Int) (h0:J) (Post:Value->J->Prop):=ar ahx Tryz.func66 #[(.slice b je jd),(.int .i64 n)] h0 Post
def n223:bg:={e:= λn=>⟨false,false⟩,l:= λn=>match n with|0=>[(4, .slice),(5, .int .i64)]|_=>[],s:= λn=>match n with|3=> .r 1 2 (.r 4 2 (.r 7 4 (.r 12 3 (.a 0 [] (.a 3 [2] (.a 6 [2,5] (.a 11 [2,5,8] (.a 15 [2,5,8,13] (.r 16 1 .z)))))))))|_=> .z}
def aoN (f:List Value) (h0:J) (Post:Value->J->Prop):=ar n223 Tryz.func223 #[(.agg (f).toArray)] h0 Post
def n148:bg:={l:= λn=>match n with|0=>[(5, .int .i64)]|_=>[],s:= λn=>match n with|4=> .r 0 7 .z|_=> .z}
def aoZ (a:List Value) (b:List Value) (h0:J) (Post:Value->J->Prop):=ar n148 Tryz.func148 #[(.agg (a).toArray),(.agg (b).toArray)] h0 Post
def n140:bg:={e:= λn=>⟨!km n [6,10,11],false⟩,l:= λn=>match n with|2=>[(97, .int .i64)]|_=>[],c:= λn=>match n with|12=>some [(31, .bool)]|15=>some []|21=>some []|_=>none,s:= λn=>match n with|2=> .r 0 2 (.a 2 [] (.r 3 1 .z))|4=> .r 0 2 (.a 2 [] (.r 3 1 .z))|5=> .r 0 11 .z|12=> .r 0 2 (.a 2 [] (.r 3 1 .z))|14=> .r 0 2 (.a 2 [] (.r 3 1 .z))|15=> .r 0 24 (.b 24 [] (.r 25 1 (.a 26 [] (.a 27 [2,9,14,19] .z))) (.a 26 [] (.a 24 [] (.r 25 1 (.a 27 [2,9,14,19] .z)))))|19=> .r 0 8 (.a 8 [] .z)|_=> .z}
def apn (b:Option Addr) (je jd:Nat) (h0:J) (Post:Value->J->Prop):=ar n140 Tryz.func140 #[(.slice b je jd)] h0 Post
def n253:bg:={e:= λn=>⟨false,false⟩}
def an8 (n:Int) (h0:J) (Post:Value->J->Prop):=ar n253 Tryz.func253 #[(.int .i64 n)] h0 Post
def n193:bg:={s:= λn=>match n with|2=> .r 0 3 .z|_=> .z}
def Wt (kind:Int) (NA:List Value) (from_:List Value) (tid:Int) (seq:Int) (h0:J) (Post:Value->J->Prop):=ar n193 Tryz.func193 #[(.int .u8 kind),(.agg (NA).toArray),(.agg (from_).toArray),(.int .i64 tid),(.int .i64 seq)] h0 Post
def n278:bg:={e:= λn=>⟨false,false⟩,l:= λn=>match n with|0=>[(4, .slice),(22, .int .i64)]|_=>[]}
def Ws (f:List Value) (h0:J) (Post:Value->J->Prop):=ar n278 Tryz.func278 #[(.agg (f).toArray)] h0 Post
def apJ (a:Int) (b:Int) (h0:J) (Post:Value->J->Prop):=ar {} Tryz.func219 #[(.int .i64 a),(.int .i64 b)] h0 Post
def apI (a:Int) (n:Int) (h0:J) (Post:Value->J->Prop):=ar {} Tryz.func298 #[(.int .i64 a),(.int .i64 n)] h0 Post
def n274:bg:={e:= λn=>⟨false,false⟩}
def apL (n:Int) (h0:J) (Post:Value->J->Prop):=ar n274 Tryz.func274 #[(.int .i64 n)] h0 Post
end Go.Proofs.YtjlkfjnfnonekaaGreatDoor
set_option maxRecDepth 100000
set_option maxHeartbeats 4000000
namespace Go.Proofs.YtjlkfjnfnonekaaGreatDoor
open Go.Vc
attribute [local irreducible] aj cell row wr c0 b3 bm ec fits eu iI iQ e8 src du eL eM ic gV er fR gR gb hS hP im hZ iq ia
def ahu:bg:={l:= λn=>match n with|0=>[(11, .ptr),(36, .int .i64)]|_=>[],c:= λn=>match n with|9=>some [(8, .slice)]|17=>some [(15, .any)]|20=>some []|21=>some []|_=>none,s:= λn=>match n with|4=> .r 0 2 (.a 2 [] (.r 3 1 .z))|19=> .r 0 7 (.a 7 [1] (.r 8 1 (.a 9 [1,3] (.r 10 1 (.a 11 [1,3,5] .z)))))|20=> .r 0 4 (.r 6 4 (.r 12 4 (.b 4 [3] (.b 5 [1,3] (.r 18 1 (.b 10 [9] (.b 11 [1,3,7,9] (.a 16 [15] (.a 17 [1,3,7,9,13,15] (.a 19 [1,3,7,9,13,15] (.r 20 1 (.a 21 [1,3,7,9,13,15] (.r 22 1 (.a 23 [1,3,7,9,13,15] .z))))))) (.a 16 [15] (.a 11 [1,3,7,9] (.a 17 [1,3,7,9,13,15] (.a 19 [1,3,7,9,13,15] (.r 20 1 (.a 21 [1,3,7,9,13,15] (.r 22 1 (.a 23 [1,3,7,9,13,15] .z))))))))) (.a 16 [15] (.a 10 [9] (.a 11 [1,3,7,9] (.a 17 [1,3,7,9,13,15] (.a 19 [1,3,7,9,13,15] (.r 20 1 (.a 21 [1,3,7,9,13,15] (.r 22 1 (.a 23 [1,3,7,9,13,15] .z))))))))))) (.b 10 [9] (.b 5 [1,3] (.r 18 1 (.b 11 [1,3,7,9] (.a 16 [15] (.a 17 [1,3,7,9,13,15] (.a 19 [1,3,7,9,13,15] (.r 20 1 (.a 21 [1,3,7,9,13,15] (.r 22 1 (.a 23 [1,3,7,9,13,15] .z))))))) (.a 16 [15] (.a 11 [1,3,7,9] (.a 17 [1,3,7,9,13,15] (.a 19 [1,3,7,9,13,15] (.r 20 1 (.a 21 [1,3,7,9,13,15] (.r 22 1 (.a 23 [1,3,7,9,13,15] .z)))))))))) (.a 16 [15] (.a 5 [1,3] (.r 18 1 (.a 11 [1,3,7,9] (.a 17 [1,3,7,9,13,15] (.a 19 [1,3,7,9,13,15] (.r 20 1 (.a 21 [1,3,7,9,13,15] (.r 22 1 (.a 23 [1,3,7,9,13,15] .z))))))))))) (.a 16 [15] (.b 5 [1,3] (.r 18 1 (.a 10 [9] (.a 11 [1,3,7,9] (.a 17 [1,3,7,9,13,15] (.a 19 [1,3,7,9,13,15] (.r 20 1 (.a 21 [1,3,7,9,13,15] (.r 22 1 (.a 23 [1,3,7,9,13,15] .z))))))))) (.a 10 [9] (.a 5 [1,3] (.r 18 1 (.a 11 [1,3,7,9] (.a 17 [1,3,7,9,13,15] (.a 19 [1,3,7,9,13,15] (.r 20 1 (.a 21 [1,3,7,9,13,15] (.r 22 1 (.a 23 [1,3,7,9,13,15] .z)))))))))))))) (.b 10 [9] (.b 4 [3] (.b 5 [1,3] (.r 18 1 (.b 11 [1,3,7,9] (.a 16 [15] (.a 17 [1,3,7,9,13,15] (.a 19 [1,3,7,9,13,15] (.r 20 1 (.a 21 [1,3,7,9,13,15] (.r 22 1 (.a 23 [1,3,7,9,13,15] .z))))))) (.a 16 [15] (.a 11 [1,3,7,9] (.a 17 [1,3,7,9,13,15] (.a 19 [1,3,7,9,13,15] (.r 20 1 (.a 21 [1,3,7,9,13,15] (.r 22 1 (.a 23 [1,3,7,9,13,15] .z)))))))))) (.a 16 [15] (.a 5 [1,3] (.r 18 1 (.a 11 [1,3,7,9] (.a 17 [1,3,7,9,13,15] (.a 19 [1,3,7,9,13,15] (.r 20 1 (.a 21 [1,3,7,9,13,15] (.r 22 1 (.a 23 [1,3,7,9,13,15] .z))))))))))) (.a 16 [15] (.a 4 [3] (.a 5 [1,3] (.r 18 1 (.a 11 [1,3,7,9] (.a 17 [1,3,7,9,13,15] (.a 19 [1,3,7,9,13,15] (.r 20 1 (.a 21 [1,3,7,9,13,15] (.r 22 1 (.a 23 [1,3,7,9,13,15] .z)))))))))))) (.a 16 [15] (.b 4 [3] (.b 5 [1,3] (.r 18 1 (.a 10 [9] (.a 11 [1,3,7,9] (.a 17 [1,3,7,9,13,15] (.a 19 [1,3,7,9,13,15] (.r 20 1 (.a 21 [1,3,7,9,13,15] (.r 22 1 (.a 23 [1,3,7,9,13,15] .z))))))))) (.a 10 [9] (.a 5 [1,3] (.r 18 1 (.a 11 [1,3,7,9] (.a 17 [1,3,7,9,13,15] (.a 19 [1,3,7,9,13,15] (.r 20 1 (.a 21 [1,3,7,9,13,15] (.r 22 1 (.a 23 [1,3,7,9,13,15] .z))))))))))) (.a 10 [9] (.a 4 [3] (.a 5 [1,3] (.r 18 1 (.a 11 [1,3,7,9] (.a 17 [1,3,7,9,13,15] (.a 19 [1,3,7,9,13,15] (.r 20 1 (.a 21 [1,3,7,9,13,15] (.r 22 1 (.a 23 [1,3,7,9,13,15] .z)))))))))))))))))|_=> .z}
def aos (m:List Value) (agg:Bool) (b:Option Addr) (je jd:Nat) (h0:J) (Post:Value->J->Prop):=ar ahu Tryz.func59 #[(.agg (m).toArray),(.bool agg),(.slice b je jd)] h0 Post
def n141:bg:={s:= λn=>match n with|1=> .r 0 33 .z|3=> .r 0 6 (.a 6 [1,3,5] (.r 7 9 (.r 17 6 (.a 16 [1,3,5,13,15] (.a 23 [1,3,5,13,15,18,22] (.r 24 4 .z))))))|5=> .r 0 21 .z|_=> .z}
def aot (m:List Value) (f:List Value) (last:Option Addr) (h0:J) (Post:Value->J->Prop):=ar n141 Tryz.func141 #[(.agg (m).toArray),(.agg (f).toArray),(.pointer last)] h0 Post
def n142:bg:={s:= λn=>match n with|3=> .r 0 2 (.a 2 [1] (.r 3 5 (.a 8 [1,6] (.r 9 8 (.r 18 2 (.a 17 [6,15] (.r 20 4 .z)))))))|_=> .z}
def aou (m:List Value) (agg:Bool) (parts:Int) (bytes:Int) (h0:J) (Post:Value->J->Prop):=ar n142 Tryz.func142 #[(.agg (m).toArray),(.bool agg),(.int .i64 parts),(.int .i64 bytes)] h0 Post
def apK (start:Int) (size:Int) (s:Int) (h0:J) (Post:Value->J->Prop):=ar {} Tryz.func218 #[(.int .i64 start),(.int .i64 size),(.int .i64 s)] h0 Post
end Go.Proofs.YtjlkfjnfnonekaaGreatDoor
