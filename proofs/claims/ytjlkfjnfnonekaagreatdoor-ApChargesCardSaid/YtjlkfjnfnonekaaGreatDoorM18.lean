import Derived.Test.YtjlkfjnfnonekaaGreatDoorRows
import Derived.Test.YtjlkfjnfnonekaaGreatDoorVcOa
import Derived.Test.YtjlkfjnfnonekaaGreatDoorVc
set_option linter.all false
set_option maxRecDepth 100000
set_option maxHeartbeats 4000000
namespace Go.Proofs.YtjlkfjnfnonekaaGreatDoor
open Go.Vc
attribute [local irreducible] aj cell row wr c0 b3 bm ec fits eu iI iQ e8 src du eL eM ic gV er fR gR gb hS hP im hZ iq ia
def apN (s:Option Addr) (cL h5:Nat) (h0:J) (Post:Value->J->Prop):=ar {} Tryz.func217 #[(.slice s cL h5)] h0 Post
def apT (s:Option Addr) (cL h5:Nat) (v:Int) (h0:J) (Post:Value->J->Prop):=ar {} Tryz.func123 #[(.slice s cL h5),(.int .i64 v)] h0 Post
def n204:bg:={l:= λn=>match n with|0=>[(8, .int .i64)]|_=>[]}
def ap1 (s:Option Addr) (cL h5:Nat) (v:Int) (h0:J) (Post:Value->J->Prop):=ar n204 Tryz.func204 #[(.slice s cL h5),(.int .i64 v)] h0 Post
def apP (s:Option Addr) (cL h5:Nat) (h0:J) (Post:Value->J->Prop):=ar {} Tryz.func282 #[(.slice s cL h5)] h0 Post
def apM (s:Option Addr) (cL h5:Nat) (h0:J) (Post:Value->J->Prop):=ar {} Tryz.func296 #[(.slice s cL h5)] h0 Post
def n226:bg:={l:= λn=>match n with|0=>[(5, .int .i64)]|_=>[],s:= λn=>match n with|6=> .r 0 10 .z|_=> .z}
def asE (a:Option Addr) (l8 mY:Nat) (b:Option Addr) (je jd:Nat) (h0:J) (Post:Value->J->Prop):=ar n226 Tryz.func226 #[(.slice a l8 mY),(.slice b je jd)] h0 Post
def ahr:bg:={l:= λn=>match n with|0=>[(3, .slice),(4, .int .i64)]|_=>[]}
def aoY (l:Option Addr) (sG sF:Nat) (h0:J) (Post:Value->J->Prop):=ar ahr Tryz.func55 #[(.slice l sG sF)] h0 Post
end Go.Proofs.YtjlkfjnfnonekaaGreatDoor
set_option maxRecDepth 100000
set_option maxHeartbeats 4000000
namespace Go.Proofs.YtjlkfjnfnonekaaGreatDoor
open Go.Vc
attribute [local irreducible] aj cell row wr c0 b3 bm ec fits eu iI iQ e8 src du eL eM ic gV er fR gR gb hS hP im hZ iq ia
def apD (t:Nat) (h0:J) (Post:Value->J->Prop):=ar {} Tryz.func99 #[(.pointer (some ⟨t,0,none⟩))] h0 Post
def n330:bg:={s:= λn=>match n with|1=> .r 0 16 .z|2=> .r 0 32 .z|_=> .z}
def apE (t:Nat) (i:Int) (k:Int) (h0:J) (Post:Value->J->Prop):=ar n330 Tryz.func330 #[(.pointer (some ⟨t,0,none⟩)),(.int .i64 i),(.int .i64 k)] h0 Post
def n333:bg:={s:= λn=>match n with|0=> .r 0 25 (.a 25 [3,8,13,16,20,23] (.r 26 1 (.a 27 [3,8,13,16,20,23] .z)))|1=> .r 0 18 (.a 18 [3,6,10,13] (.r 19 2 (.a 21 [3,6,10,13] .z)))|_=> .z}
def apH (t:Nat) (i:Int) (k:Int) (h0:J) (Post:Value->J->Prop):=ar n333 Tryz.func333 #[(.pointer (some ⟨t,0,none⟩)),(.int .i64 i),(.int .i64 k)] h0 Post
def apG (t:Nat) (x:Value) (h0:J) (Post:Value->J->Prop):=ar {} Tryz.func332 #[(.pointer (some ⟨t,0,none⟩)),x] h0 Post
def n331:bg:={s:= λn=>match n with|1=> .r 0 13 .z|2=> .r 0 14 (.a 14 [4,8] .z)|_=> .z}
def apF (t:Nat) (h0:J) (Post:Value->J->Prop):=ar n331 Tryz.func331 #[(.pointer (some ⟨t,0,none⟩))] h0 Post
def anT (uG:Value) (x:Value) (h0:J) (Post:Value->J->Prop):=ar {} Tryz.func98 #[uG,x] h0 Post
def anU (uG:Value) (i:Int) (h0:J) (Post:Value->J->Prop):=ar {} Tryz.func100 #[uG,(.int .i64 i)] h0 Post
def anS (uG:Value) (i:Int) (h0:J) (Post:Value->J->Prop):=ar {} Tryz.func203 #[uG,(.int .i64 i)] h0 Post
def n186:bg:={e:= λn=>⟨false,false⟩,l:= λn=>match n with|0=>[(1, .int .i64)]|_=>[]}
def anW (uG:Value) (j:Int) (h0:J) (Post:Value->J->Prop):=ar n186 Tryz.func186 #[uG,(.int .i64 j)] h0 Post
def n187:bg:={l:= λn=>match n with|0=>[(7, .int .i64)]|_=>[]}
def anV (uG:Value) (i0:Int) (n:Int) (h0:J) (Post:Value->J->Prop):=ar n187 Tryz.func187 #[uG,(.int .i64 i0),(.int .i64 n)] h0 Post
end Go.Proofs.YtjlkfjnfnonekaaGreatDoor
set_option maxRecDepth 100000
set_option maxHeartbeats 4000000
namespace Go.Proofs.YtjlkfjnfnonekaaGreatDoor
open Go.Vc
attribute [local irreducible] aj cell row wr c0 b3 bm ec fits eu iI iQ e8 src du eL eM ic gV er fR gR gb hS hP im hZ iq ia
def n166:bg:={l:= λn=>match n with|0=>[(8, .int .i64)]|_=>[]}
def ap0 (s:Option Addr) (cL h5:Nat) (f:Value) (h0:J) (Post:Value->J->Prop):=ar n166 Tryz.func166 #[(.slice s cL h5),f] h0 Post
def n167:bg:={s:= λn=>match n with|1=> .r 0 8 .z|_=> .z}
def am0 (u:Option Addr) (cW:Option Addr) (h0:J) (Post:Value->J->Prop):=ar n167 Tryz.func167 #[(.pointer u),(.pointer cW)] h0 Post
end Go.Proofs.YtjlkfjnfnonekaaGreatDoor
set_option maxRecDepth 100000
set_option maxHeartbeats 4000000
namespace Go.Proofs.YtjlkfjnfnonekaaGreatDoor
open Go.Vc
attribute [local irreducible] aj cell row wr c0 b3 bm ec fits eu iI iQ e8 src du eL eM ic gV er fR gR gb hS hP im hZ iq ia
def ahE:bg:={s:= λn=>match n with|2=> .r 0 3 .z|_=> .z}
def ap9 (start:Int) (size:Int) (h0:J) (Post:Value->J->Prop):=ar ahE Tryz.func86 #[(.int .i64 start),(.int .i64 size)] h0 Post
def NN (w:Nat) (size:Int) (h0:J) (Post:Value->J->Prop):=ar {} Tryz.func183 #[(.pointer (some ⟨w,0,none⟩)),(.int .i64 size)] h0 Post
def aqf (w:Nat) (h0:J) (Post:Value->J->Prop):=ar {} Tryz.func191 #[(.pointer (some ⟨w,0,none⟩))] h0 Post
def aqe (w:Nat) (h0:J) (Post:Value->J->Prop):=ar {} Tryz.func192 #[(.pointer (some ⟨w,0,none⟩))] h0 Post
def aqa (w:Nat) (h0:J) (Post:Value->J->Prop):=ar {} Tryz.func195 #[(.pointer (some ⟨w,0,none⟩))] h0 Post
def aqb (w:Nat) (s:Int) (h0:J) (Post:Value->J->Prop):=ar {} Tryz.func249 #[(.pointer (some ⟨w,0,none⟩)),(.int .i64 s)] h0 Post
def n252:bg:={s:= λn=>match n with|1=> .r 0 12 (.a 12 [7,11] (.r 13 3 .z))|_=> .z}
def aqd (w:Nat) (h0:J) (Post:Value->J->Prop):=ar n252 Tryz.func252 #[(.pointer (some ⟨w,0,none⟩))] h0 Post
def n281:bg:={s:= λn=>match n with|5=> .r 0 6 (.a 6 [] (.r 7 1 .z))|_=> .z}
def apW (s:Option Addr) (cL h5:Nat) (i:Int) (j:Int) (h0:J) (Post:Value->J->Prop):=ar n281 Tryz.func281 #[(.slice s cL h5),(.int .i64 i),(.int .i64 j)] h0 Post
def aqc (w:Nat) (h0:J) (Post:Value->J->Prop):=ar {} Tryz.func293 #[(.pointer (some ⟨w,0,none⟩))] h0 Post
end Go.Proofs.YtjlkfjnfnonekaaGreatDoor
namespace Go.Vc
def cT (h:J) (b:Nat) (vs:List Value) (T:TypeId):Prop:=h[b]?=some (.cells vs.toArray T)
section
variable{h h' h0:J} {b b' o n:Nat} {vs ws:List Value} {T q7:TypeId} {v:Value}
theorem cT.lt (hb:cT h b vs T):b<h.size:=(Array.getElem?_eq_some_iff.1 hb).1
theorem cT.cell (hb:cT h b vs T):Go.Vc.cell h b o=vs[o]?:=by unfold cT at hb;simp[Go.Vc.cell,hb]
theorem cT.vR (hb:cT h b vs T) (e:vs[o]?=some v):Go.Vc.cell h b o=some v:=hb.cell.trans e
theorem D4:∀{n o:Nat} {cs:List Value},cs.length=n->(∀j v,cs[j]?=some v->Go.Vc.cell h b (o+j)=some v)->row h b o n=some cs
 |0,o,cs,hl,_=>by rw[List.eq_nil_of_length_eq_zero hl];rfl
 |n+1,o,c::cs,hl,hc=>by
  have h1:=hc 0 c rfl
  have h2:=D4 (n:=n) (o:=o+1) (cs:=cs) (by simpa using hl) (λj v ah=>by
   have:=hc (j+1) v (by simpa using ah)
   rw[show o+1+j=o+(j+1) by omega];exact this)
  simp only[row]
  rw[show Go.Vc.cell h b o=some c by simpa using h1,h2]
theorem Bd {cs:List Value}:row h b o n=some cs↔cs.length=n/\∀j v,cs[j]?=some v->Go.Vc.cell h b (o+j)=some v:=
 ⟨ML,λ⟨h1,h2⟩=>D4 h1 h2⟩
theorem cT.row (hb:cT h b vs T) (hl:o+n<=vs.length):Go.Vc.row h b o n=some ((vs.drop o).take n):=by
 refine D4 (by simp;omega) λj v ah=>?_
 rw[hb.cell]
 have np:j<n:=by have:=(List.getElem?_eq_some_iff.1 ah).1;simp at this;omega
 rw[List.getElem?_take_of_lt np,List.getElem?_drop]at ah
 exact ah
theorem cT.HL {cs:List Value} (hb:cT h b vs T) (e:(vs.drop o).take n=cs) (hl:o+n<=vs.length):Go.Vc.row h b o n=some cs:=e▸hb.row hl
theorem cT.wr (hb:cT h b vs T) (aw:o<vs.length):Go.Vc.wr h b o:=⟨_,_,0,0,hb,by simpa using aw,by omega⟩
theorem cT.c0 (hb:cT h b vs T) (aw:o+n<=vs.length):Go.Vc.c0 h b o n:=⟨_,_,0,0,hb,by simpa using aw,by omega⟩
theorem M0:(b3 h b o v).size=h.size:=by simp[b3]
theorem MZ (b6:b'≠b):(b3 h b o v)[b']?=h[b']?:=by
 unfold b3
 rw[Array.getElem?_modify]
 simp[Ne.symm b6]
theorem cT.b3 (hb:cT h b vs T):cT (Go.Vc.b3 h b o v) b (vs.set o v) T:=by
 have:=Vy (o:=o) (v:=v) hb
 unfold cT
 rw[this]
 simp
theorem HV:∀{us:List Value} {h:J} {o:Nat},(bm h b o us).size=h.size
 |[],_,_=>rfl
 |u::us,h,o=>by simp only[bm];rw[HV,M0]
theorem HU (b6:b'≠b):∀{us:List Value} {h:J} {o:Nat},(bm h b o us)[b']?=h[b']?
 |[],_,_=>rfl
 |u::us,h,o=>by simp only[bm];rw[HU b6,MZ b6]
def bG:List Value->Nat->List Value->List Value
 |vs,_,[]=>vs
 |vs,o,u::us=>bG (vs.set o u) (o+1) us
theorem n3:∀{us vs:List Value} {o:Nat},o+us.length<=vs.length->bG vs o us=vs.take o++us++vs.drop (o+us.length)
 |[],vs,o,_=>by simp[bG]
 |u::us,vs,o,hl=>by
  simp only[bG]
  rw[n3 (by simp at hl⊢;omega)]
  simp at hl
  have af:(vs.set o u).take (o+1)=vs.take o++[u]:=by
   rw[List.take_add_one,List.take_set_of_le (Nat.le_refl _)]
   simp[show o<vs.length by omega]
  have ag:(vs.set o u).drop (o+1+us.length)=vs.drop (o+(us.length+1)):=by
   rw[List.drop_set_of_lt (by omega)];congr 1;omega
  rw[af,ag];simp
theorem cT.bm:∀{us vs:List Value} {h:J} {o:Nat},cT h b vs T->cT (Go.Vc.bm h b o us) b (bG vs o us) T
 |[],_,_,_,hb=>hb
 |u::us,vs,h,o,hb=>by simp only[Go.Vc.bm,bG];exact cT.bm hb.b3
theorem cT.MA {x:Obj} (hb:cT h b vs T):cT (h.push x) b vs T:=by
 unfold cT at hb⊢
 rw[Array.getElem?_push_lt (cT.lt hb)]
 rw[Array.getElem?_eq_getElem (cT.lt hb)]at hb
 exact hb
theorem cT.Mz:cT (h.push (.cells vs.toArray T)) h.size vs T:=by unfold cT;simp
end
structure Mem (h0 h:J) (S:List Nat) (L:List (Nat×List Value×TypeId)):Prop where
 le:h0.size<=h.size
 gH:∀b,b<h0.size->b∉S->h[b]?=h0[b]?
 has:∀x∈L,cT h x.1 x.2.1 x.2.2
 new:∀x∈L,x.1∈S\/h0.size<=x.1
 fm:(L.map (·.1)).Nodup
section
variable{h0 h h':J} {S:List Nat} {L:List (Nat×List Value×TypeId)} {b o n i:Nat} {vs:List Value} {T:TypeId} {v:Value}
theorem Mem.start (h:J):Mem h h [] []:=⟨Nat.le_refl _,λ_ _ _=>rfl,λx hx=>(by cases hx),λx hx=>(by cases hx),List.nodup_nil⟩
theorem Mem.H2 (hb:cT h b vs T):Mem h h [b] [(b,vs,T)]:=
 ⟨Nat.le_refl _,λ_ _ _=>rfl,λx hx=>(by simp at hx;subst hx;exact hb),λx hx=>(by simp at hx;subst hx;simp),by simp⟩
theorem Mem.da (m:Mem h0 h S L) (i:Nat) (hi:L[i]?=some (b,vs,T)):cT h b vs T:=m.has _ (List.mem_of_getElem? hi)
theorem Mem.cell (m:Mem h0 h S L) (i:Nat) (hi:L[i]?=some (b,vs,T)) (e:vs[o]?=some v):cell h b o=some v:=(m.da i hi).vR e
theorem Mem.push (m:Mem h0 h S L) (hh:h'=h.push (.cells vs.toArray T)) (hb:b=h.size):Mem h0 h' S ((b,vs,T)::L):=by
 subst hh;subst hb
 refine⟨by simp;have:=m.le;omega,λb hb hs=>?_,λx hx=>?_,λx hx=>?_,?_⟩
 ·rw[Array.getElem?_push_lt (by have:=m.le;omega)]
  rw[<-m.gH b hb hs,Array.getElem?_eq_getElem]
 ·cases hx with
  |head=>exact cT.Mz
  |tail _ hx=>exact(m.has x hx).MA
 ·cases hx with
  |head=>exact .inr m.le
  |tail _ hx=>exact m.new x hx
 ·simp only[List.map_cons,List.nodup_cons]
  refine⟨λhc=>?_,m.fm⟩
  obtain⟨x,hx,he⟩:=List.mem_map.1 hc
  have:=(m.has x hx).lt
  omega
theorem ahS {L:List (Nat×List Value×TypeId)} (hn:(L.map (·.1)).Nodup) {i j:Nat} {x y:Nat×List Value×TypeId} (hi:L[i]?=some x) (ah:L[j]?=some y) (uL:i≠j):x.1≠y.1:=by
 intro he
 have h1:(L.map (·.1))[i]?=some x.1:=by simp[hi]
 have h2:(L.map (·.1))[j]?=some y.1:=by simp[ah]
 have gq:=(List.getElem?_eq_some_iff.1 h1).1
 have fv:=(List.getElem?_eq_some_iff.1 h2).1
 have af:=(List.getElem?_eq_some_iff.1 h1).2
 have ag:=(List.getElem?_eq_some_iff.1 h2).2
 have hp:=List.pairwise_iff_getElem.1 hn
 rcases Nat.lt_or_gt_of_ne uL with h|h
 ·exact hp i j gq fv h (by rw[af,ag,he])
 ·exact hp j i fv gq h (by rw[af,ag,he])
theorem Mem.turn {ws:List Value} (m:Mem h0 h S L) (i:Nat) (hi:L[i]?=some (b,vs,T)) (hs:h.size<=h'.size) (hb:cT h' b ws T) (I:∀c,c<h.size->c≠b->h'[c]?=h[c]?):
 Mem h0 h' S (L.set i (b,ws,T)):=by
 have gq:=(List.getElem?_eq_some_iff.1 hi).1
 have af:(L.set i (b,ws,T)).map (·.1)=L.map (·.1):=by
  rw[List.map_set]
  apply List.ext_getElem?
  intro j
  rw[List.getElem?_set]
  split
  ·rename_i h1;subst h1;simp[gq,hi]
   have:=(List.getElem?_eq_some_iff.1 hi).2
   rw[this]
  ·rfl
 refine⟨Nat.le_trans m.le hs,λc hc cz=>?_,λx hx=>?_,λx hx=>?_,by rw[af];exact m.fm⟩
 ·rw[I c (Nat.lt_of_lt_of_le hc m.le) ?_,m.gH c hc cz]
  rintro rfl
  rcases m.new _ (List.mem_of_getElem? hi)with h1|h1
  ·exact cz h1
  ·exact absurd hc (by have h1:h0.size<=c:=h1;omega)
 ·obtain⟨j,ah⟩:=List.mem_iff_getElem?.1 hx
  rw[List.getElem?_set]at ah
  split at ah
  ·rename_i h1;subst h1;simp[gq]at ah;subst ah;exact hb
  ·rename_i uL
   have mw:=m.has x (List.mem_of_getElem? ah)
   unfold cT
   rw[I x.1 mw.lt (ahS m.fm ah hi (Ne.symm uL))]
   exact mw
 ·obtain⟨j,ah⟩:=List.mem_iff_getElem?.1 hx
  rw[List.getElem?_set]at ah
  split at ah
  ·rename_i h1;subst h1;simp[gq]at ah;subst ah;exact m.new (b,vs,T) (List.mem_of_getElem? hi)
  ·exact m.new x (List.mem_of_getElem? ah)
theorem Mem.store (m:Mem h0 h S L) (i:Nat) (hi:L[i]?=some (b,vs,T)) (aw:o<vs.length) {Q:J->Prop} (k:∀h1,Mem h0 h1 S (L.set i (b,vs.set o v,T))->Q h1):
 wr h b o/\∀h1,h1=b3 h b o v->Q h1:=
 ⟨(m.da i hi).wr aw,λh1 e=>k h1 (by subst e;exact m.turn i hi (by rw[M0];exact Nat.le_refl _) (m.da i hi).b3 λc _ hc=>MZ hc)⟩
theorem Mem.bm {us:List Value} (m:Mem h0 h S L) (i:Nat) (hi:L[i]?=some (b,vs,T)) (hh:h'=bm h b o us):Mem h0 h' S (L.set i (b,bG vs o us,T)):=by
 subst hh
 exact m.turn i hi (by rw[HV];exact Nat.le_refl _) (m.da i hi).bm λc _ hc=>HU hc
theorem Mem.zO {ws:List Value} {L':List (Nat×List Value×TypeId)} (m:Mem h0 h S L) (i:Nat) (hi:L[i]?=some (b,vs,T)) (ax:Mem h h' [b] L') (j:Nat) (ah:L'[j]?=some (b,ws,T)):Mem h0 h' S (L.set i (b,ws,T)):=
 m.turn i hi ax.le (ax.da j ah) λc hc wk=>ax.gH c hc (by simpa using wk)
theorem Mem.forget (m:Mem h0 h S L) (i:Nat):Mem h0 h S (L.eraseIdx i):=
 ⟨m.le,m.gH,λx hx=>m.has x (List.mem_of_mem_eraseIdx hx),λx hx=>m.new x (List.mem_of_mem_eraseIdx hx),m.fm.sublist ((List.eraseIdx_sublist L i).map _)⟩
theorem Mem.kept (m:Mem h0 h [] L):Kept h0 h:=⟨m.le,λb hb=>m.gH b hb (by simp)⟩
theorem Mem.row {cs:List Value} (m:Mem h0 h S L) (hb:b∉S) (U:row h0 b o n=some cs):Go.Vc.row h b o n=some cs:=by
 obtain⟨h1,h2⟩:=Bd.1 U
 refine Bd.2 ⟨h1,λj v ah=>?_⟩
 have h3:=h2 j v ah
 have cn:b<h0.size:=by
  rcases Nat.lt_or_ge b h0.size with h'|h'
  ·exact h'
  ·unfold Go.Vc.cell at h3;rw[Array.getElem?_eq_none h']at h3;cases h3
 unfold Go.Vc.cell at h3⊢
 rw[m.gH b cn hb];exact h3
def lT:Option Addr->List Nat
 |some ⟨b,_,_⟩=>[b]
 |none=>[]
theorem Mem.src {a:Option Addr} {cs:List Value} (m:Mem h0 h S L) (hb:∀b∈lT a,b∉S) (U:src h0 a n cs):src h a n cs:=by
 unfold Go.Vc.src at U⊢
 split at U
 ·exact U
 ·rename_i b o;exact m.row (hb b (by simp[lT])) U
 ·exact U
theorem ak4 {a:Option Addr} {cs:List Value} {N k n:Nat} (hs:src h a N cs) (I:k+n<=cs.length) (hn:0<n):∃b o,a=some ⟨b,o,none⟩/\Go.Vc.row h b (o+k) n=some ((cs.drop k).take n):=by
 unfold Go.Vc.src at hs
 split at hs
 ·subst hs;simp at I;omega
 ·rename_i b o
  obtain⟨h1,h2⟩:=Bd.1 hs
  refine⟨b,o,rfl,Bd.2 ⟨by simp;omega,λj v ah=>?_⟩⟩
  have np:j<n:=by have:=(List.getElem?_eq_some_iff.1 ah).1;simp at this;omega
  rw[List.getElem?_take_of_lt np,List.getElem?_drop]at ah
  rw[Nat.add_assoc]
  exact h2 _ v ah
 ·obtain⟨_,rfl⟩:=hs;simp at I;omega
end
end Go.Vc
namespace Go.Vc
abbrev EK:=Nat×List Value×TypeId
abbrev ao:=List EK
abbrev Wd:=Nat->Option Obj
def Wd.le (W W':Wd):Prop:=∀b x,W b=some x->W' b=some x
theorem Wd.le.refl (W:Wd):W.le W:= λ_ _ h=>h
theorem Wd.le.trans {A B C:Wd} (h:A.le B) (k:B.le C):A.le C:= λb x e=>k b x (h b x e)
structure ai (W:Wd) (h:J) (G:List ao):Prop where
 gH:∀b x,W b=some x->h[b]?=some x
 has:∀x∈G.flatten,cT h x.1 x.2.1 x.2.2
 off:∀x∈G.flatten,W x.1=none
 fm:(G.flatten.map (·.1)).Nodup
def Wd.of (h:J):Wd:= λb=>h[b]?
def bT (W:Wd) (b o:Nat):Option Value:=match W b with
 |some (.cells c _ _)=>c[o]?
 |_=>none
def kT (W:Wd) (b o:Nat):Nat->Option (List Value)
 |0=>some []
 |n+1=>match bT W b o,kT W b (o+1) n with
  |some v,some r=>some (v::r)
  |_,_=>none
def e5 (W:Wd) (a:Option Addr) (n:Nat) (cs:List Value):Prop:=
 match a with
 |none=>cs=[]
 |some ⟨b,o,none⟩=>kT W b o n=some cs
 |some ⟨_,_,some _⟩=>n=0/\cs=[]
section
variable{W W':Wd} {h h':J} {G G':List ao} {E A B:ao} {b o n i:Nat} {vs ws us:List Value} {T:TypeId} {v:Value}
theorem ai.start (h:J):ai (Wd.of h) h []:=⟨λ_ _ e=>e,λ_ hx=>(by cases hx),λ_ hx=>(by cases hx),List.nodup_nil⟩
theorem rR (hl:W.le W') (hc:bT W b o=some v):bT W' b o=some v:=by
 unfold bT at hc⊢
 split at hc
 ·rename_i c e f hW;rw[hl _ _ hW];exact hc
 ·cases hc
theorem WM (hl:W.le W'):∀{n o:Nat} {cs:List Value},kT W b o n=some cs->kT W' b o n=some cs
 |0,_,_,U=>U
 |n+1,o,cs,U=>by
  simp only[kT]at U⊢
  split at U
  ·rename_i v r af ag;rw[rR hl af,WM hl ag];exact U
  ·cases U
theorem vx {a:Option Addr} {cs:List Value} (hl:W.le W') (hs:e5 W a n cs):e5 W' a n cs:=by
 unfold e5 at hs⊢
 split at hs
 ·exact hs
 ·exact WM hl hs
 ·exact hs
theorem ai.bT (m:ai W h G) (hc:bT W b o=some v):cell h b o=some v:=by
 unfold Go.Vc.bT at hc
 split at hc
 ·rename_i c e f hW;unfold cell;rw[m.gH _ _ hW];exact hc
 ·cases hc
theorem ai.kT (m:ai W h G):∀{n o:Nat} {cs:List Value},kT W b o n=some cs->row h b o n=some cs
 |0,_,_,U=>U
 |n+1,o,cs,U=>by
  simp only[Go.Vc.kT]at U
  simp only[row]
  split at U
  ·rename_i v r af ag;rw[m.bT af,m.kT ag];exact U
  ·cases U
theorem ai.e5 {a:Option Addr} {cs:List Value} (m:ai W h G) (hs:e5 W a n cs):src h a n cs:=by
 unfold Go.Vc.e5 at hs
 unfold src
 split at hs
 ·exact hs
 ·exact m.kT hs
 ·exact hs
theorem WN:∀{n o:Nat} {cs:List Value},kT W b o n=some cs->cs.length=n
 |0,_,_,U=>by cases U;rfl
 |n+1,o,cs,U=>by
  simp only[kT]at U
  split at U
  ·rename_i v r af ag;cases U;simp[WN ag]
  ·cases U
theorem WL:∀{n o:Nat} {cs:List Value},kT W b o n=some cs->∀j v,cs[j]?=some v->bT W b (o+j)=some v
 |0,_,_,U,j,v,ah=>by cases U;simp at ah
 |n+1,o,cs,U,j,v,ah=>by
  simp only[kT]at U
  split at U
  ·rename_i u r af ag;cases U
   cases j with
   |zero=>simp at ah;subst ah;exact af
   |succ j=>have:=WL ag j v (by simpa using ah);rw[show o+(j+1)=o+1+j by omega];exact this
  ·cases U
theorem NP:∀{n o:Nat} {cs:List Value},cs.length=n->(∀j v,cs[j]?=some v->bT W b (o+j)=some v)->kT W b o n=some cs
 |0,o,cs,hl,_=>by rw[List.eq_nil_of_length_eq_zero hl];rfl
 |n+1,o,c::cs,hl,hc=>by
  have h1:=hc 0 c rfl
  have h2:=NP (n:=n) (o:=o+1) (cs:=cs) (by simpa using hl) (λj v ah=>by
   have:=hc (j+1) v (by simpa using ah)
   rw[show o+1+j=o+(j+1) by omega];exact this)
  simp only[kT]
  rw[show bT W b o=some c by simpa using h1,h2]
theorem zj {cs:List Value}:kT W b o n=some cs↔cs.length=n/\∀j v,cs[j]?=some v->bT W b (o+j)=some v:=
 ⟨λU=>⟨WN U,WL U⟩,λ⟨h1,h2⟩=>NP h1 h2⟩
theorem ah6 (h:J):bT (Wd.of h) b o=cell h b o:=rfl
theorem TZ {h:J}:∀{n o:Nat},kT (Wd.of h) b o n=row h b o n
 |0,_=>rfl
 |n+1,o=>by simp only[kT,row,TZ,ah6];rfl
theorem L3 {h:J} {a:Option Addr} {cs:List Value}:e5 (Wd.of h) a n cs↔src h a n cs:=by
 unfold e5 src
 split<;>simp[TZ]
theorem ai.lt (m:ai W h G) {x:Obj} (hb:W b=some x):b<h.size:=(Array.getElem?_eq_some_iff.1 (m.gH b x hb)).1
theorem ai.kept {h0:J} (m:ai W h G) (hl:(Wd.of h0).le W):Kept h0 h:=by
 refine⟨Nat.le_of_not_lt λcn=>?_,λb hb=>?_⟩
 ·have:=m.gH h.size _ (hl h.size _ (Array.getElem?_eq_getElem cn))
  rw[Array.getElem?_eq_none (Nat.le_refl _)]at this;cases this
 ·have e:=Array.getElem?_eq_getElem hb
  exact(m.gH b _ (hl b _ e)).trans e.symm
theorem ai.perm (m:ai W h G) (hp:G.flatten.Perm G'.flatten):ai W h G':=
 ⟨m.gH,λx hx=>m.has x (hp.mem_iff.2 hx),λx hx=>m.off x (hp.mem_iff.2 hx),(hp.map _).nodup_iff.1 m.fm⟩
theorem ai.sub (m:ai W h G) (hp:∃K,G.flatten.Perm (G'.flatten++K)):ai W h G':=by
 obtain⟨K,hp⟩:=hp
 refine⟨m.gH,λx hx=>m.has x (hp.mem_iff.2 (List.mem_append_left _ hx)),λx hx=>m.off x (hp.mem_iff.2 (List.mem_append_left _ hx)),?_⟩
 have:=(hp.map (·.1)).nodup_iff.1 m.fm
 rw[List.map_append]at this
 exact(List.nodup_append.1 this).1
theorem Cr (hi:G[i]?=some A):G.flatten.Perm (A++(G.eraseIdx i).flatten):=by
 induction G generalizing i with
 |nil=>simp at hi
 |cons X G b9=>
  cases i with
  |zero=>simp at hi;subst hi;simp
  |succ i=>
   simp at hi
   simp only[List.flatten_cons,List.eraseIdx_cons_succ]
   exact((b9 hi).append_left X).trans (by rw[<-List.append_assoc,<-List.append_assoc];exact List.perm_append_comm.append_right _)
theorem ai.focus (m:ai W h G) (i:Nat) (hi:G[i]?=some A):ai W h (A::G.eraseIdx i):=m.perm (by simpa using Cr hi)
theorem ai.aB (m:ai W h (A::G)):ai W h G:=m.sub ⟨A,by simp only[List.flatten_cons];exact List.perm_append_comm⟩
theorem ai.free (m:ai W h G) (i:Nat) (hi:G[i]?=some A):ai W h (G.eraseIdx i):=(m.focus i hi).aB
theorem ai.split (m:ai W h ((A++B)::G)):ai W h (A::B::G):=m.perm (by simp)
theorem ai.join (m:ai W h (A::B::G)):ai W h ((A++B)::G):=m.perm (by simp)
theorem ai.hU (m:ai W h G):ai W h ([]::G):=m.perm (by simp)
theorem ai.LX (m:ai W h ([]::G)):ai W h G:=m.perm (by simp)
theorem ai.da (m:ai W h G) (i:Nat) (hi:G[i]?=some [(b,vs,T)]):cT h b vs T:=m.has (b,vs,T) (List.mem_flatten.2 ⟨_,List.mem_of_getElem? hi,by simp⟩)
theorem ai.cell (m:ai W h G) (i:Nat) (hi:G[i]?=some [(b,vs,T)]) (e:vs[o]?=some v):cell h b o=some v:=(m.da i hi).vR e
theorem ai.row (m:ai W h G) (i:Nat) (hi:G[i]?=some [(b,vs,T)]) (e:(vs.drop o).take n=us) (hl:o+n<=vs.length):Go.Vc.row h b o n=some us:=(m.da i hi).HL e hl
theorem ai.push (m:ai W h G) (hh:h'=h.push (.cells vs.toArray T)) (hb:b=h.size):ai W h' ([(b,vs,T)]::G):=by
 subst hh;subst hb
 refine⟨λb x hW=>?_,λx hx=>?_,λx hx=>?_,?_⟩
 ·rw[Array.getElem?_push_lt (m.lt hW)]
  rw[<-m.gH b x hW,Array.getElem?_eq_getElem]
 ·simp only[List.flatten_cons,List.singleton_append,List.mem_cons]at hx
  rcases hx with rfl|hx
  ·exact cT.Mz
  ·exact(m.has x hx).MA
 ·simp only[List.flatten_cons,List.singleton_append,List.mem_cons]at hx
  rcases hx with rfl|hx
  ·cases hW:W h.size with
   |none=>rfl
   |some x=>exact absurd (m.lt hW) (by omega)
  ·exact m.off x hx
 ·simp only[List.flatten_cons,List.singleton_append,List.map_cons,List.nodup_cons]
  refine⟨λhc=>?_,m.fm⟩
  obtain⟨x,hx,he⟩:=List.mem_map.1 hc
  have:=(m.has x hx).lt
  omega
theorem ai.ND (m:ai W h ([(b,vs,T)]::G)) (hs:h.size<=h'.size) (hb:cT h' b ws T) (I:∀c,c<h.size->c≠b->h'[c]?=h[c]?):ai W h' ([(b,ws,T)]::G):=by
 have Ay:=m.off (b,vs,T) (by simp)
 have hnd:=m.fm
 simp only[List.flatten_cons,List.singleton_append,List.map_cons,List.nodup_cons]at hnd
 refine⟨λc x hW=>?_,λx hx=>?_,λx hx=>?_,?_⟩
 ·rw[I c (m.lt hW) (by rintro rfl;simp[Ay]at hW)];exact m.gH c x hW
 ·simp only[List.flatten_cons,List.singleton_append,List.mem_cons]at hx
  rcases hx with rfl|hx
  ·exact hb
  ·have mw:=m.has x (by simp only[List.flatten_cons,List.singleton_append,List.mem_cons];exact .inr hx)
   unfold cT
   rw[I x.1 mw.lt (by rintro e;exact hnd.1 (e▸List.mem_map_of_mem hx))]
   exact mw
 ·simp only[List.flatten_cons,List.singleton_append,List.mem_cons]at hx
  rcases hx with rfl|hx
  ·exact Ay
  ·exact m.off x (by simp only[List.flatten_cons,List.singleton_append,List.mem_cons];exact .inr hx)
 ·simp only[List.flatten_cons,List.singleton_append,List.map_cons,List.nodup_cons];exact hnd
theorem Cp (hi:G[i]?=some A):(B++(G.eraseIdx i).flatten).Perm (G.set i B).flatten:=by
 have gq:=(List.getElem?_eq_some_iff.1 hi).1
 have h1:(G.set i B)[i]?=some B:=by simp[gq]
 have h2:=Cr h1
 rw[List.eraseIdx_set_eq]at h2
 exact h2.symm
theorem ai.turn (m:ai W h G) (i:Nat) (hi:G[i]?=some [(b,vs,T)]) (hs:h.size<=h'.size) (hb:cT h' b ws T) (I:∀c,c<h.size->c≠b->h'[c]?=h[c]?):ai W h' (G.set i [(b,ws,T)]):=
 ((m.focus i hi).ND hs hb I).perm (by simpa using Cp (B:=[(b,ws,T)]) hi)
theorem ai.b3 (m:ai W h G) (i:Nat) (hi:G[i]?=some [(b,vs,T)]) (hh:h'=Go.Vc.b3 h b o v):ai W h' (G.set i [(b,vs.set o v,T)]):=by
 subst hh
 exact m.turn i hi (by rw[M0];exact Nat.le_refl _) (m.da i hi).b3 λc _ hc=>MZ hc
theorem ai.bm (m:ai W h G) (i:Nat) (hi:G[i]?=some [(b,vs,T)]) (hh:h'=Go.Vc.bm h b o us):ai W h' (G.set i [(b,bG vs o us,T)]):=by
 subst hh
 exact m.turn i hi (by rw[HV];exact Nat.le_refl _) (m.da i hi).bm λc _ hc=>HU hc
theorem ai.store (m:ai W h G) (i:Nat) (hi:G[i]?=some [(b,vs,T)]) (aw:o<vs.length) {Q:J->Prop} (k:∀h1,ai W h1 (G.set i [(b,vs.set o v,T)])->Q h1):
 wr h b o/\∀h1,h1=Go.Vc.b3 h b o v->Q h1:=
 ⟨(m.da i hi).wr aw,λh1 e=>k h1 (m.b3 i hi e)⟩
theorem ai.c0 (m:ai W h G) (i:Nat) (hi:G[i]?=some [(b,vs,T)]) (aw:o+n<=vs.length):Go.Vc.c0 h b o n:=(m.da i hi).c0 aw
theorem ai.lH (m:ai W h G) (i:Nat) (hi:G[i]?=some [(b,vs,T)]) (e:(vs.drop o).take n=us) (hl:Nat.ble (o+n) vs.length=true):Go.Vc.row h b o n=some us:=m.row i hi e (Nat.le_of_ble_eq_true hl)
theorem ai.NO (m:ai W h G) (i:Nat) (hi:G[i]?=some [(b,vs,T)]) (hl:Nat.ble (o+1) vs.length=true):Go.Vc.wr h b o:=(m.da i hi).wr (Nat.le_of_ble_eq_true hl)
theorem ai.dR (m:ai W h G) (i:Nat) (hi:G[i]?=some [(b,vs,T)]) (hl:Nat.ble (o+n) vs.length=true):Go.Vc.c0 h b o n:=(m.da i hi).c0 (Nat.le_of_ble_eq_true hl)
theorem ai.give (m:ai W h (E::G)):∃W',W.le W'/\(∀x∈E,W' x.1=some (.cells x.2.1.toArray x.2.2))/\ai W' h G:=by
 have hnd:=m.fm
 simp only[List.flatten_cons,List.map_append]at hnd
 obtain⟨_,_,acW⟩:=List.nodup_append.1 hnd
 have hE:∀x∈E,x∈(E::G).flatten:= λx hx=>by simp only[List.flatten_cons];exact List.mem_append_left _ hx
 have RE:∀x∈G.flatten,x∈(E::G).flatten:= λx hx=>by simp only[List.flatten_cons];exact List.mem_append_right _ hx
 refine⟨λb=>if b∈E.map (·.1)then h[b]?else W b,λb x hW=>?_,λx hx=>?_,?_,?_,?_,?_⟩
 ·show(if b∈E.map (·.1)then h[b]?else W b)=_
  split
  ·exact m.gH b x hW
  ·exact hW
 ·show(if x.1∈E.map (·.1)then h[x.1]?else W x.1)=_
  rw[if_pos (List.mem_map_of_mem hx)]
  exact m.has x (hE x hx)
 ·intro b x hx
  replace hx:(if b∈E.map (·.1)then h[b]?else W b)=some x:=hx
  split at hx
  ·exact hx
  ·exact m.gH b x hx
 ·exactλx hx=>m.has x (RE x hx)
 ·intro x hx
  show(if x.1∈E.map (·.1)then h[x.1]?else W x.1)=none
  rw[if_neg (λhc=>acW _ hc _ (List.mem_map_of_mem hx) rfl)]
  exact m.off x (RE x hx)
 ·exact m.aB.fm
theorem ai.same {h2:J} (m:ai W h G) (e:h2=h):ai W h2 G:=e▸m
theorem ai.pick {Es:List ao} (m:ai W h (Es.flatten::G)) (k:Nat) (I:Es[k]?=some E):ai W h (E::(Es.eraseIdx k).flatten::G):=
 m.perm (by simp only[List.flatten_cons];rw[<-List.append_assoc];exact(Cr I).append_right _)
theorem ai.n9 {Es:List ao} {xx:ao} (k:Nat) (I:Es[k]?=some xx) (m:ai W h (E::(Es.eraseIdx k).flatten::G)):ai W h ((Es.set k E).flatten::G):=
 m.perm (by simp only[List.flatten_cons];rw[<-List.append_assoc];exact(Cp I).append_right _)
end
end Go.Vc
namespace Go.Vc
def au (a:Option Addr) (l c sz:Nat) (vs:List Value) (E:ao):Prop:=
 (a=none/\l=0/\c=0/\vs=[]/\E=[])\/
 ∃(b o:Nat) (j rest t:List Value) (T:TypeId),a=some ⟨b,o,none⟩/\l<=c/\vs.length=l*sz/\rest.length=(c -l)*sz/\j.length=o/\E=[(b,j++(vs++(rest++t)),T)]
section
variable{W W':Wd} {h h':J} {G:List ao} {E:ao} {a:Option Addr} {l c sz i n:Nat} {T:TypeId} {vs us:List Value}
theorem au.nil {sz:Nat}:au none 0 0 sz [] []:= .inl ⟨rfl,rfl,rfl,rfl,rfl⟩
theorem au.fresh {b l c sz:Nat} {vs rest:List Value} {T:TypeId} (hl:vs.length=l*sz) (U:rest.length=(c -l)*sz) (adt:l<=c):au (some ⟨b,0,none⟩) l c sz vs [(b,vs++rest,T)]:=
 .inr ⟨b,0,[],rest,[],T,rfl,adt,hl,U,rfl,by simp⟩
theorem au.wb {b l sz:Nat} {vs:List Value} {T:TypeId} (hl:vs.length=l*sz):au (some ⟨b,0,none⟩) l l sz vs [(b,vs,T)]:=
 .inr ⟨b,0,[],[],[],T,rfl,Nat.le_refl _,hl,by simp,rfl,by simp⟩
theorem au.len (o:au a l c sz vs E):vs.length=l*sz:=by
 rcases o with⟨_,rfl,_,rfl,_⟩|⟨b,o,j,rest,t,T,_,_,h,_⟩
 ·simp
 ·exact h
theorem au.le (o:au a l c sz vs E):l<=c:=by
 rcases o with⟨_,rfl,rfl,rfl,_⟩|⟨b,o,j,rest,t,T,_,h,_⟩
 ·exact Nat.le_refl _
 ·exact h
theorem au.src (o:au a l c sz vs E) (m:ai W h G) (i:Nat) (hi:G[i]?=some E):Go.Vc.src h a (l*sz) vs:=by
 rcases o with⟨rfl,rfl,rfl,rfl,rfl⟩|⟨b,o,j,rest,t,T,rfl,h1,h2,h3,h4,rfl⟩
 ·rfl
 ·have hb:=m.da i hi
  show Go.Vc.row h b o (l*sz)=some vs
  rw[hb.row (by simp;omega),<-h4,List.drop_left,<-h2,List.take_left]
theorem au.oL (o:au a l c 1 vs E) (m:ai W h G) (i:Nat) (hi:G[i]?=some E):Go.Vc.src h a l vs:=by
 have:=o.src m i hi
 rwa[Nat.mul_one]at this
theorem mK {h:J} {a:Option Addr} {N k n:Nat} {cs us:List Value} (hs:src h a N cs) (I:k+n<=cs.length) (hn:0<n) (hu:(cs.drop k).take n=us):∃b o,a=some ⟨b,o,none⟩/\Go.Vc.row h b (o+k) n=some us:=by
 subst hu;exact ak4 hs I hn
theorem fW {h:J} {a:Option Addr} {N k:Nat} {cs:List Value} {v:Value} (hs:src h a N cs) (I:cs[k]?=some v):∃b o,a=some ⟨b,o,none⟩/\cell h b (o+k)=some v:=by
 have bY:=(List.getElem?_eq_some_iff.1 I).1
 obtain⟨b,o,e,U⟩:=mK (n:=1) (us:=[v]) hs bY (by decide) (by rw[List.drop_eq_getElem_cons bY,(List.getElem?_eq_some_iff.1 I).2];rfl)
 refine⟨b,o,e,?_⟩
 have:=(Bd.1 U).2 0 v rfl
 simpa using this
theorem au.MQ {k:Nat} {v:Value} (o:au a l c sz vs E) (m:ai W h G) (i:Nat) (hi:G[i]?=some E) (I:k<vs.length):∃b p,a=some ⟨b,p,none⟩/\Go.Vc.wr h b (p+k)/\
 ∀h1,h1=Go.Vc.b3 h b (p+k) v->∃bn,ai W h1 (G.set i bn)/\au a l c sz (vs.set k v) bn:=by
 rcases o with⟨rfl,rfl,rfl,rfl,rfl⟩|⟨b,o,j,rest,t,T,rfl,h1,h2,h3,h4,rfl⟩
 ·simp at I
 ·refine⟨b,o,rfl,(m.da i hi).wr (by simp;omega),λh1' e=>?_⟩
  have ax:=m.b3 i hi e
  have af:(j++(vs++(rest++t))).set (o+k) v=j++(vs.set k v++(rest++t)):=by
   rw[List.set_append_right _ _ (by omega),show o+k -j.length=k by omega,List.set_append_left _ _ I]
  rw[af]at ax
  exact⟨_,ax, .inr ⟨b,o,j,rest,t,T,rfl,h1,by simpa using h2,h3,h4,rfl⟩⟩
theorem au.tail (o:au a l c sz vs E) (k:Nat) (I:k<=l):au (en a k c (k*sz)) (l -k) (c -k) sz (vs.drop (k*sz)) E:=by
 rcases o with⟨rfl,rfl,rfl,rfl,rfl⟩|⟨b,o,j,rest,t,T,rfl,h1,h2,h3,h4,rfl⟩
 ·refine .inl ⟨?_,by omega,by omega,by simp,rfl⟩
  unfold en;split<;>rfl
 ·unfold en
  by_cases hc:c=k
  ·rw[if_pos hc]
   refine .inr ⟨b,o,j,[],vs++(rest++t),T,rfl,by omega,?_,?_,h4,?_⟩
   ·rw[List.length_drop,h2,<-Nat.sub_mul]
   ·rw[show c -k -(l -k)=0 by omega];simp
   ·rw[List.drop_of_length_le (by rw[h2];exact Nat.mul_le_mul_right _ (by omega))];simp
  ·rw[if_neg hc]
   refine .inr ⟨b,o+k*sz,j++vs.take (k*sz),rest,t,T,by simp only[Option.map_some,add_eq],by omega,?_,?_,?_,?_⟩
   ·rw[List.length_drop,h2,<-Nat.sub_mul]
   ·rw[h3];congr 1;omega
   ·have:k*sz<=l*sz:=Nat.mul_le_mul_right _ I
    simp[h4];omega
   ·simp only[List.append_assoc]
    rw[<-List.append_assoc (List.take (k*sz) vs),List.take_append_drop]
theorem au.head (o:au a l c sz vs E) (k:Nat) (I:k<=l):au a k c sz (vs.take (k*sz)) E:=by
 rcases o with⟨rfl,rfl,rfl,rfl,rfl⟩|⟨b,o,j,rest,t,T,rfl,h1,h2,h3,h4,rfl⟩
 ·exact .inl ⟨rfl,by omega,rfl,by simp,rfl⟩
 ·have:k*sz<=l*sz:=Nat.mul_le_mul_right _ I
  refine .inr ⟨b,o,j,vs.drop (k*sz)++rest,t,T,rfl,by omega,by simp[h2,this],?_,h4,?_⟩
  ·simp[h2,h3]
   rw[<-Nat.sub_mul,<-Nat.add_mul];congr 1;omega
  ·simp only[List.append_assoc]
   rw[<-List.append_assoc (List.take (k*sz) vs),List.take_append_drop]
theorem akB {j vs us rest:List Value} (h:us.length<=rest.length):bG (j++(vs++rest)) (j.length+vs.length) us=j++(vs++(us++rest.drop us.length)):=by
 rw[n3 (by simp;omega)]
 have af:(j++(vs++rest)).take (j.length+vs.length)=j++vs:=by
  rw[<-List.append_assoc,<-List.length_append,List.take_left]
 have ag:(j++(vs++rest)).drop (j.length+vs.length+us.length)=rest.drop us.length:=by
  rw[<-List.append_assoc,<-List.length_append,<-List.drop_drop,List.drop_left]
 rw[af,ag];simp
theorem au.app {k bytes e:Nat} {Q:Option Addr->Nat->J->Prop} (o:au a l c sz vs E) (m:ai W h G) (i:Nat) (hi:G[i]?=some E) (hD:us.length=k*sz) (mo:(l+k)*bytes<=140737488355328) (fj:0<bytes)
 (q:∀ay c' bn h',ai W h' (G.set i bn)->au ay (l+k) c' sz (vs++us) bn->Q ay c' h'):e8 h a l c k sz e bytes us Q:=by
 refine⟨λhle=>?_,λcn=>⟨⟨mo,fj⟩,vs,o.src m i hi,λcap ck b h1 h2 h3 h4 aA=>?_⟩⟩
 ·rcases o with⟨rfl,rfl,rfl,rfl,rfl⟩|⟨b,o,j,rest,t,T,rfl,h1,h2,h3,h4,rfl⟩
  ·obtain rfl:k=0:=by omega
   have:us=[]:=List.eq_nil_of_length_eq_zero (by rw[hD];simp)
   subst this
   refine q none 0 [] h ?_ (.inl ⟨rfl,rfl,rfl,rfl,rfl⟩)
   exact m.perm (by simpa using(Cr hi).trans (Cp (B:=[]) hi))
  ·show c0 h b (o+l*sz) us.length/\_
   have rq:=m.da i hi
   have hlen:us.length<=rest.length:=by
    rw[hD,h3];exact Nat.mul_le_mul_right _ (by omega)
   refine⟨rq.c0 (by simp;omega),λh' o5=>?_⟩
   have ax:=m.bm i hi o5
   have af:o+l*sz=j.length+vs.length:=by rw[h4,h2]
   rw[af,akB (by simp;omega)]at ax
   refine q _ _ [(b,j++((vs++us)++(rest.drop us.length++t)),T)] _ ?_ (.inr ⟨b,o,j,rest.drop us.length,t,T,rfl,hle,by simp[h2,hD,Nat.add_mul],?_,h4,rfl⟩)
   ·rw[List.drop_append_of_le_length hlen]at ax
    simpa using ax
   ·rw[List.length_drop,h3,hD,<-Nat.sub_mul]
    congr 1;omega
 ·have ax:=m.push aA h4
  have hl:=o.len
  have m2:ai W h1 (G.set i [(b,(vs++us)++ck,e)]):=by
   have m3:=(ax.focus (i+1) (A:=E) (by simpa using hi)).aB
   simp only[List.eraseIdx_cons_succ]at m3
   exact m3.perm (by simpa using Cp (B:=[(b,vs++us++ck,e)]) hi)
  exact q _ _ _ _ m2 (au.fresh (by simp[hl,hD,Nat.add_mul]) h3 h2)
theorem au.um {bytes e:Nat} {ag:TypeId} {Q:Option Addr->Nat->J->Prop} (o:au a l c sz vs E) (m:ai W h G) (i:Nat) (hi:G[i]?=some E) (hD:us.length=sz) (h1:∀u∈us,u.oneCell'=true) (mo:(l+1)*bytes<=140737488355328) (fj:0<bytes)
 (q:∀ay c' bn h',ai W h' (G.set i bn)->au ay (l+1) c' sz (vs++us) bn->Q ay c' h'):
 ∀(bx:Nat) (h3:J),bx=h.size->h3=h.push (.cells us.toArray ag)->∃news:List Value,(Go.Vc.row h3 bx 0 sz=some news/\∀u∈news,u.oneCell'=true)/\e8 h3 a l c 1 sz e bytes news Q:=by
 intro bx h3 af ag
 have ax:=m.push ag af
 refine⟨us,⟨ax.row 0 rfl (by rw[List.drop_zero,<-hD,List.take_length]) (by omega),h1⟩,?_⟩
 refine o.app ax (i+1) (by simpa using hi) (by simp[hD]) mo fj λay c' bn h' m2 aM=>q ay c' bn h' ?_ aM
 simp only[List.set_cons_succ]at m2
 exact m2.aB
theorem ai.Tp (m:ai W h G):W.le (Wd.of h):=m.gH
theorem ai.on (m:ai W h G) (k:Kept h h'):ai W h' G:=
 ⟨λb x e=>by rw[k.2 b (m.lt e)];exact m.gH b x e,λx hx=>by have:=m.has x hx;unfold cT;rw[k.2 _ this.lt];exact this,m.off,m.fm⟩
theorem Kept.le {h h':J} (k:Kept h h'):(Wd.of h).le (Wd.of h'):= λb x e=>by
 have hb:b<h.size:=(Array.getElem?_eq_some_iff.1 e).1
 show h'[b]?=some x
 rw[k.2 b hb];exact e
theorem Kept.src {h h':J} {a:Option Addr} {n:Nat} {cs:List Value} (k:Kept h h') (hs:Go.Vc.src h a n cs):Go.Vc.src h' a n cs:=L3.1 (vx k.le (L3.2 hs))
end
def bX {α:Type} (R:α->List Value->Prop):List α->List Value->Prop
 |[],vs=>vs=[]
 |x::xs,vs=>∃cs r,vs=cs++r/\R x cs/\bX R xs r
section
variable{α:Type} {R fM:α->List Value->Prop} {n:Nat}
theorem bX.mono (h:∀x cs,R x cs->fM x cs):∀{xs:List α} {vs:List Value},bX R xs vs->bX fM xs vs
 |[],_,hs=>hs
 |x::xs,_,⟨cs,r,e,h1,h2⟩=>⟨cs,r,e,h x cs h1,h2.mono h⟩
theorem bX.len (hn:∀x cs,R x cs->cs.length=n):∀{xs:List α} {vs:List Value},bX R xs vs->vs.length=xs.length*n
 |[],_,hs=>by cases hs;simp
 |x::xs,_,⟨cs,r,e,h1,h2⟩=>by subst e;simp[hn x cs h1,h2.len hn,Nat.add_mul,Nat.add_comm]
theorem bX.app:∀{xs ys:List α} {vs us:List Value},bX R xs vs->bX R ys us->bX R (xs++ys) (vs++us)
 |[],_,_,_,hs,ht=>by cases hs;exact ht
 |x::xs,_,_,_,⟨cs,r,e,h1,h2⟩,ht=>⟨cs,r++_,by subst e;simp,h1,h2.app ht⟩
theorem bX.one {x:α} {cs:List Value} (h:R x cs):bX R [x] cs:=⟨cs,[],by simp,h,rfl⟩
theorem bX.snoc {xs:List α} {vs cs:List Value} {x:α} (hs:bX R xs vs) (h:R x cs):bX R (xs++[x]) (vs++cs):=hs.app (.one h)
theorem bX.drop (hn:∀x cs,R x cs->cs.length=n):∀(k:Nat) {xs:List α} {vs:List Value},bX R xs vs->bX R (xs.drop k) (vs.drop (k*n))
 |0,xs,vs,hs=>by simpa using hs
 |k+1,[],_,hs=>by cases hs;simp[bX]
 |k+1,x::xs,_,⟨cs,r,e,h1,h2⟩=>by
  subst e
  have af:(cs++r).drop ((k+1)*n)=r.drop (k*n):=by
   rw[show(k+1)*n=cs.length+k*n by rw[hn x cs h1,Nat.add_mul];omega,<-List.drop_drop,List.drop_left]
  rw[af]
  exact h2.drop hn k
theorem bX.take (hn:∀x cs,R x cs->cs.length=n):∀(k:Nat) {xs:List α} {vs:List Value},bX R xs vs->bX R (xs.take k) (vs.take (k*n))
 |0,xs,vs,hs=>by simp[bX]
 |k+1,[],_,hs=>by cases hs;simp[bX]
 |k+1,x::xs,_,⟨cs,r,e,h1,h2⟩=>by
  subst e
  rw[show(k+1)*n=cs.length+k*n by rw[hn x cs h1,Nat.add_mul];omega,List.take_length_add_append]
  exact⟨cs,_,rfl,h1,h2.take hn k⟩
theorem bX.get (hn:∀x cs,R x cs->cs.length=n) {xs:List α} {vs:List Value} (hs:bX R xs vs) {i:Nat} {x:α} (hx:xs[i]?=some x):∃cs,R x cs/\(vs.drop (i*n)).take n=cs/\i*n+n<=vs.length:=by
 have hl:=hs.len hn
 have hi:=(List.getElem?_eq_some_iff.1 hx).1
 have hd:=hs.drop hn i
 rw[List.drop_eq_getElem_cons hi,(List.getElem?_eq_some_iff.1 hx).2]at hd
 obtain⟨cs,r,e,h1,h2⟩:=hd
 refine⟨cs,h1,by rw[e,<-hn x cs h1,List.take_left],?_⟩
 rw[hl,<-Nat.succ_mul];exact Nat.mul_le_mul_right _ hi
theorem bX.set (hn:∀x cs,R x cs->cs.length=n):∀{xs:List α} {vs cs:List Value} {i:Nat} {y:α},bX R xs vs->i<xs.length->R y cs->bX R (xs.set i y) (vs.take (i*n)++(cs++vs.drop (i*n+n)))
 |[],_,_,_,_,_,hi,_=>by simp at hi
 |x::xs,_,Ch,0,y,⟨cs,r,e,h1,h2⟩,_,hy=>by
  subst e
  refine⟨Ch,r,?_,hy,h2⟩
  rw[Nat.zero_mul,Nat.zero_add,<-hn x cs h1,List.drop_left];simp
 |x::xs,_,Ch,i+1,y,⟨cs,r,e,h1,h2⟩,hi,hy=>by
  subst e
  refine⟨cs,_,?_,h1,h2.set hn (i:=i) (by simpa using hi) hy⟩
  have af:(i+1)*n=cs.length+i*n:=by rw[hn x cs h1,Nat.add_mul];omega
  have ag:(cs++r).drop (cs.length+(i*n+n))=r.drop (i*n+n):=by rw[<-List.drop_drop,List.drop_left]
  rw[af,List.take_length_add_append,Nat.add_assoc,ag];simp
theorem bX.all (h1:∀x cs,R x cs->∀u∈cs,u.oneCell'=true):∀{xs:List α} {vs:List Value},bX R xs vs->∀u∈vs,u.oneCell'=true
 |[],_,hs,u,hu=>by cases hs;cases hu
 |x::xs,_,⟨cs,r,e,hx,h2⟩,u,hu=>by
  subst e
  rcases List.mem_append.1 hu with hu|hu
  ·exact h1 x cs hx u hu
  ·exact h2.all h1 u hu
end
def ints (k:IntKind) (l:List Int):List Value:=l.map (Value.int k)
theorem dL {k:IntKind} {l:List Int}:(ints k l).length=l.length:=by simp[ints]
theorem j5 {k:IntKind} {l:List Int} {i:Nat} {x:Int} (h:l[i]?=some x):(ints k l)[i]?=some (.int k x):=by simp[ints,h]
theorem dM {k:IntKind} {l:List Int}:∀u∈ints k l,u.oneCell'=true:=by
 intro u hu;simp only[ints,List.mem_map]at hu;obtain⟨x,_,rfl⟩:=hu;rfl
theorem kI {k:IntKind} {l r:List Int}:ints k (l++r)=ints k l++ints k r:=by simp[ints]
theorem S0 {k:IntKind} {l:List Int} {n:Nat}:(ints k l).drop n=ints k (l.drop n):=by simp[ints]
theorem S2 {k:IntKind} {l:List Int} {n:Nat}:(ints k l).take n=ints k (l.take n):=by simp[ints]
def cm (W:Wd) (v:Value) (l:List Int):Prop:=∃a c,v= .slice a l.length c/\l.length<=c/\e5 W a l.length (ints .u8 l)
theorem cm.le {W W':Wd} {v:Value} {l:List Int} (hl:W.le W') (hb:cm W v l):cm W' v l:=by
 obtain⟨a,c,e,h1,h2⟩:=hb;exact⟨a,c,e,h1,vx hl h2⟩
theorem cm.nil {W:Wd}:cm W (.slice none 0 0) []:=⟨none,0,rfl,Nat.le_refl _,rfl⟩
end Go.Vc
