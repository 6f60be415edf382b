import Derived.Test.YtjlkfjnfnonekaaGreatDoorM30
set_option linter.all false
namespace Go.Proofs.YtjlkfjnfnonekaaGreatDoor.Pl
structure bL where
 bf:Int
 tg:Int
 iv:Int
 mp:Int
 cF:Int
 q:List az
def ln (bf tg iv mp cF:Int):bL:=⟨bf,tg,iv,mp,cF,List.replicate 128 (pC bf tg iv)⟩
def bL.new (P:bL):az:=pC P.bf P.tg P.iv
def bL.b7 (P:bL) (k:Nat):az:=(P.q[k]?).getD P.new
def bL.set (P:bL) (k:Nat) (q:az):bL:=⟨P.bf,P.tg,P.iv,P.mp,P.cF,P.q.set k q⟩
def j0:List az->Nat
 |[]=>0
 |q::r=>q.bB+j0 r
def lU:List az->Int
 |[]=>0
 |q::r=>q.e9+lU r
def r9 (l:List az):List bh:=(l.map λq=>cc q.a6).flatten
def bL.len (P:bL):Nat:=j0 P.q
def bL.e9 (P:bL):Int:=lU P.q
def bL.all (P:bL):List bh:=r9 P.q
abbrev r4:=Option Nat×Int×Int
def o8 (k:Nat) (q:az) (s:r4):r4:=if 0<q.bB/\s.2.2<q.gU.2 then(some k,q.gU.1,q.gU.2)else s
def p7:List az->Nat->r4->r4
 |[],_,s=>s
 |q::r,k,s=>p7 r (k+1) (o8 k q s)
def bL.x7 (P:bL):r4:=p7 P.q 0 (none,0,-1)
def bL.shrink (P:bL):bL×bh:=match P.x7.1 with
 |none=>(P,pv)
 |some k=>(P.set k ((P.b7 k).kF P.x7.2.1).1,((P.b7 k).kF P.x7.2.1).2.getD pv)
def j7:Nat->bL->List bh->bL×List bh
 |0,P,d=>(P,d)
 |n+1,P,d=>if P.mp<P.len\/P.cF<P.e9 then j7 n P.shrink.1 (d++[P.shrink.2])else(P,d)
def iY (aid tid:Int):Bool:=decide (1<=aid/\aid<=16/\0<=tid/\tid<8)
def dJ (aid tid:Int):Nat:=(aid -1).toNat*8+tid.toNat
def bL.qJ (P:bL) (k:Nat) (p:bh):bL:=P.set k ((P.b7 k).put p)
def bL.put (P:bL) (k:Nat) (p:bh):bL×List bh:=j7 (P.qJ k p).len (P.qJ k p) []
def bL.take (P:bL) (k:Nat) (now:Int):bL×List bh×Option bh:=(P.set k ((P.b7 k).take now).1,((P.b7 k).take now).2)
def vc (P:bL) (b:Nat):Nat->List bh
 |0=>[]
 |n+1=>vc P b n++cc (P.b7 (b+n)).a6
def WI (P:bL) (b:Nat):Nat->bL
 |0=>P
 |n+1=>(WI P b n).set (b+n) P.new
def bL.drop (P:bL) (aid:Int):bL×List bh:=if iY aid 0=true then(WI P ((aid -1).toNat*8) 8,vc P ((aid -1).toNat*8) 8)else(P,[])
structure eT (P:bL):Prop where
 n:P.q.length=128
 w:∀q∈P.q,jW q
 p0:1<=P.mp
 p1:P.mp<=512
 gO:1<=P.cF
 al:P.cF<=1048576
structure Alike (P kX:bL):Prop where
 bf:kX.bf=P.bf
 tg:kX.tg=P.tg
 iv:kX.iv=P.iv
 mp:kX.mp=P.mp
 cF:kX.cF=P.cF
theorem Alike.refl (P:bL):Alike P P:=⟨rfl,rfl,rfl,rfl,rfl⟩
theorem Alike.trans {A B C:bL} (h:Alike A B) (k:Alike B C):Alike A C:=⟨k.bf.trans h.bf,k.tg.trans h.tg,k.iv.trans h.iv,k.mp.trans h.mp,k.cF.trans h.cF⟩
theorem vp {aid tid:Int}:iY aid tid=true↔(1<=aid/\aid<=16/\0<=tid/\tid<8):=by simp[iY]
theorem Mn {aid tid:Int} (h:iY aid tid=true):dJ aid tid<128:=by
 have:=vp.1 h
 unfold dJ;omega
section
variable{P kX:bL} {q q':az} {k j n:Nat} {l:List az} {p:bh} {f g:cU} {s:r4} {r:List bh} {c:Int}
theorem n1 {a b:List bh}:a.Perm b↔∀x,a.count x=b.count x:=List.perm_iff_count
theorem Zp {a b:List bh} (h:a.Perm b):c5 a=c5 b:=by
 induction h with
 |nil=>rfl
 |cons x _ b9=>simp only[c5,b9]
 |swap x y l=>simp only[c5];omega
 |trans _ _ h1 h2=>exact h1.trans h2
theorem BW (f:cU) (l:List cU):cc (f::l)=f.l++cc l:=by simp[cc]
theorem zD (q:az) (l:List az):r9 (q::l)=cc q.a6++r9 l:=by simp[r9]
theorem Oy:∀{l:List cU} {k:Nat} {f g:cU},l[k]?=some f->(cc (l.set k g)++f.l).Perm (cc l++g.l)
 |[],k,f,g,h=>by simp at h
 |x::l,0,f,g,h=>by
  simp at h;subst h
  rw[List.set_cons_zero,BW,BW]
  exact n1.2 λx=>by simp only[List.count_append];omega
 |x::l,k+1,f,g,h=>by
  have:=n1.1 (Oy (l:=l) (k:=k) (g:=g) (by simpa using h))
  rw[List.set_cons_succ,BW,BW]
  exact n1.2 λx=>by have:=this x;simp only[List.count_append]at this⊢;omega
theorem Oz:∀{l:List az} {k:Nat} {q q':az},l[k]?=some q->(r9 (l.set k q')++cc q.a6).Perm (r9 l++cc q'.a6)
 |[],k,f,g,h=>by simp at h
 |x::l,0,f,g,h=>by
  simp at h;subst h
  rw[List.set_cons_zero,zD,zD]
  exact n1.2 λx=>by simp only[List.count_append];omega
 |x::l,k+1,f,g,h=>by
  have:=n1.1 (Oz (l:=l) (k:=k) (q':=g) (by simpa using h))
  rw[List.set_cons_succ,zD,zD]
  exact n1.2 λx=>by have:=this x;simp only[List.count_append]at this⊢;omega
theorem PG:∀(l:List cU),iP l=c5 (cc l)
 |[]=>rfl
 |f::r=>by rw[BW,B6];simp only[iP];rw[PG r]
theorem Qg:∀(l:List az),j0 l=(r9 l).length
 |[]=>rfl
 |q::r=>by rw[zD,List.length_append,uj];simp only[j0];rw[Qg r];rfl
theorem PI:∀(l:List az),lU l=c5 (r9 l)
 |[]=>rfl
 |q::r=>by rw[zD,B6,<-PG];simp only[lU];rw[PI r];rfl
theorem bL.rA (P:bL):P.len=P.all.length:=Qg _
theorem bL.Fq (P:bL):P.e9=c5 P.all:=PI _
theorem Qh:∀{l:List az} {k:Nat} {q:az},l[k]?=some q->q.bB<=j0 l
 |[],k,f,h=>by simp at h
 |x::l,0,f,h=>by simp at h;subst h;simp only[j0];omega
 |x::l,k+1,f,h=>by have:=Qh (l:=l) (k:=k) (by simpa using h);simp only[j0];omega
theorem Qi:∀{l:List az} {k:Nat} {q:az},l[k]?=some q->j0 (l.take (k+1))=j0 (l.take k)+q.bB
 |[],k,f,h=>by simp at h
 |x::l,0,f,h=>by simp at h;subst h;simp[j0]
 |x::l,k+1,f,h=>by have:=Qi (l:=l) (k:=k) (by simpa using h);simp only[List.take_succ_cons,j0];omega
theorem PJ:∀{l:List az} {k:Nat} {q:az},l[k]?=some q->lU (l.take (k+1))=lU (l.take k)+q.e9
 |[],k,f,h=>by simp at h
 |x::l,0,f,h=>by simp at h;subst h;simp[lU]
 |x::l,k+1,f,h=>by have:=PJ (l:=l) (k:=k) (by simpa using h);simp only[List.take_succ_cons,lU];omega
theorem Qj:∀(l:List az) (k:Nat),j0 (l.take k)<=j0 l
 |[],k=>by simp[j0]
 |x::l,0=>by simp[j0]
 |x::l,k+1=>by have:=Qj l k;simp only[List.take_succ_cons,j0];omega
theorem Jt:∀(l:List az),0<=lU l
 |[]=>by simp[lU]
 |q::r=>by have:=Jt r;have:=PH q.a6;simp only[lU,az.e9];omega
theorem PK:∀(l:List az) (k:Nat),lU (l.take k)<=lU l
 |[],k=>by simp[lU]
 |x::l,0=>by have:=Jt (x::l);simpa[lU]using this
 |x::l,k+1=>by have:=PK l k;simp only[List.take_succ_cons,lU];omega
theorem c1.E1 (hq:c1 q):∀p∈cc q.a6,p.body.length<=1048576:=by
 intro p hp
 simp[cc]at hp
 obtain⟨_,⟨f,hf,rfl⟩,hp⟩:=hp
 exact((hq.f f hf).p p hp).2.2
theorem eT.E1 (b5:eT P):∀p∈P.all,p.body.length<=1048576:=by
 intro p hp
 simp[bL.all,r9]at hp
 obtain⟨_,⟨q,hq,rfl⟩,hp⟩:=hp
 exact(b5.w q hq).ok.E1 p hp
theorem eT.Ju (b5:eT P):P.e9<=1048576*P.len:=by
 rw[bL.Fq,bL.rA]
 exact zM (N:=1048576) b5.E1
theorem eT.b7 (b5:eT P) (I:k<128):P.q[k]?=some (P.b7 k)/\jW (P.b7 k):=by
 have cn:k<P.q.length:=by rw[b5.n];omega
 have e:P.q[k]?=some (P.b7 k):=by unfold bL.b7;rw[List.getElem?_eq_getElem cn];rfl
 exact⟨e,b5.w _ (List.mem_of_getElem? e)⟩
theorem eT.bB (b5:eT P) (I:k<128):(P.b7 k).bB<=P.len:=Qh (b5.b7 I).1
theorem UW (b5:eT P) (I:k<128):(P.set k q).b7 k=q:=by
 have cn:k<P.q.length:=by rw[b5.n];omega
 simp[bL.b7,bL.set,cn]
theorem ajA (h:j≠k):(P.set k q).b7 j=P.b7 j:=by
 unfold bL.b7 bL.set
 dsimp only
 rw[List.getElem?_set_ne (by omega)]
 rfl
theorem MV:Alike P (P.set k q):=⟨rfl,rfl,rfl,rfl,rfl⟩
theorem set_set (q q':az):(P.set k q).set k q'=P.set k q':=by simp[bL.set]
theorem eT.set (b5:eT P) (hq:jW q):eT (P.set k q):=by
 refine⟨by simp[bL.set,b5.n],λx hx=>?_,b5.p0,b5.p1,b5.gO,b5.al⟩
 rcases List.mem_or_eq_of_mem_set hx with hx|rfl
 ·exact b5.w x hx
 ·exact hq
theorem BX (b5:eT P) (I:k<128):((P.set k q).all++cc (P.b7 k).a6).Perm (P.all++cc q.a6):=Oz (b5.b7 I).1
theorem tH (b5:eT P) (I:k<128):(P.set k q).len+(P.b7 k).bB=P.len+q.bB:=by
 have:=(BX (q:=q) b5 I).length_eq
 rw[List.length_append,List.length_append,uj,uj,<-bL.rA,<-bL.rA]at this
 exact this
theorem Mq (bf tg iv:Int) {mp cF:Int} (p0:1<=mp) (p1:mp<=512) (gO:1<=cF) (al:cF<=1048576):eT (ln bf tg iv mp cF):=
 ⟨List.length_replicate,λq hq=>by simp[ln]at hq;subst hq;exact aql _ _ _,p0,p1,gO,al⟩
theorem Qf (q:az) (h:q.bB=0):∀n,j0 (List.replicate n q)=0
 |0=>rfl
 |n+1=>by rw[List.replicate_succ];simp only[j0];rw[Qf q h n];omega
theorem AU (bf tg iv mp cF:Int):(ln bf tg iv mp cF).len=0:=Qf _ rfl _
theorem Mp (bf tg iv mp cF:Int) (k:Nat):(ln bf tg iv mp cF).b7 k=pC bf tg iv:=by
 unfold bL.b7 ln
 dsimp only
 rw[List.getElem?_replicate]
 split<;>rfl
theorem Q5:∀{l:List cU} {k:Int} {s:Int×Int},ni l k s=s\/∃(j:Nat) (f:cU),l[j]?=some f/\f.l≠[]/\ni l k s=(k+(j:Int),c5 f.l)
 |[],_,_=> .inl rfl
 |f::l,k,s=>by
  rcases Q5 (l:=l) (k:=k+1) (s:=if f.l≠[]/\s.2<c5 f.l then(k,c5 f.l)else s)with h|⟨j,g,h1,h2,h3⟩
  ·by_cases hc:f.l≠[]/\s.2<c5 f.l
   ·refine .inr ⟨0,f,rfl,hc.1,?_⟩
    simp only[ni];rw[h,if_pos hc];simp
   ·left;simp only[ni];rw[h,if_neg hc]
  ·refine .inr ⟨j+1,g,by simpa using h1,h2,?_⟩
   simp only[ni];rw[h3]
   rw[show k+1+(j:Int)=k+((j+1:Nat):Int) by omega]
theorem Q4:∀{l:List cU} {k:Int} {s:Int×Int},s.2<0->0<et l->∃(j:Nat) (f:cU),l[j]?=some f/\f.l≠[]/\ni l k s=(k+(j:Int),c5 f.l)
 |[],_,_,_,h=>by simp[et]at h
 |f::l,k,s,hs,h=>by
  by_cases hf:f.l=[]
  ·simp only[et,hf,List.length_nil]at h
   obtain⟨j,g,h1,h2,h3⟩:=Q4 (l:=l) (k:=k+1) hs (by omega)
   refine⟨j+1,g,by simpa using h1,h2,?_⟩
   simp only[ni];rw[if_neg (by simp[hf]),h3]
   rw[show k+1+(j:Int)=k+((j+1:Nat):Int) by omega]
  ·have hb:=oZ f.l
   have hc:f.l≠[]/\s.2<c5 f.l:=⟨hf,by omega⟩
   rcases Q5 (l:=l) (k:=k+1) (s:=(k,c5 f.l))with h|⟨j,g,h1,h2,h3⟩
   ·refine⟨0,f,rfl,hf,?_⟩
    simp only[ni];rw[if_pos hc,h];simp
   ·refine⟨j+1,g,by simpa using h1,h2,?_⟩
    simp only[ni];rw[if_pos hc,h3]
    rw[show k+1+(j:Int)=k+((j+1:Nat):Int) by omega]
theorem abE (hq:c1 q) (hc:0<q.bB):0<=q.gU.1/\q.gU.1<16/\(q.ad q.gU.1).l≠[]/\q.gU.2=c5 (q.ad q.gU.1).l:=by
 obtain⟨j,f,h1,h2,h3⟩:=Q4 (l:=q.a6) (k:=0) (s:=(0,-1)) (by decide) hc
 have ah:j<16:=by have:=(List.getElem?_eq_some_iff.1 h1).1;rw[hq.len]at this;exact this
 have af:q.gU.1=(j:Int):=by unfold az.gU;dsimp only;rw[h3];simp
 have ag:q.gU.2=c5 f.l:=by unfold az.gU;dsimp only;rw[h3];have:=oZ f.l;dsimp only;omega
 have aI:=Kg hq ah
 rw[h1]at aI
 cases aI
 rw[af]
 exact⟨by omega,by omega,h2,ag⟩
theorem abF:0<=q.gU.2:=by unfold az.gU;dsimp only;omega
theorem abB {l:List az} {k:Nat} {q:az} {s:r4} (hf:l[k]?=some q):p7 (l.drop k) k s=p7 (l.drop (k+1)) (k+1) (o8 k q s):=by
 rw[List.drop_eq_getElem_cons (List.getElem?_eq_some_iff.1 hf).1,(List.getElem?_eq_some_iff.1 hf).2]
 rfl
theorem Ka:∀{l:List az} {k:Nat} {s:r4},p7 l k s=s\/∃j q,l[j]?=some q/\0<q.bB/\p7 l k s=(some (k+j),q.gU.1,q.gU.2)
 |[],_,_=> .inl rfl
 |q::l,k,s=>by
  rcases Ka (l:=l) (k:=k+1) (s:=o8 k q s)with h|⟨j,g,h1,h2,h3⟩
  ·by_cases hc:0<q.bB/\s.2.2<q.gU.2
   ·refine .inr ⟨0,q,rfl,hc.1,?_⟩
    simp only[p7];rw[h];unfold o8;rw[if_pos hc];rfl
   ·left;simp only[p7];rw[h];unfold o8;rw[if_neg hc]
  ·refine .inr ⟨j+1,g,by simpa using h1,h2,?_⟩
   simp only[p7];rw[h3]
   rw[show k+1+j=k+(j+1) by omega]
theorem Q6:∀{l:List az} {k:Nat} {s:r4},(s.1.isSome=true\/s.2.2<0)->0<j0 l->(p7 l k s).1.isSome=true
 |[],_,_,_,h=>by simp[j0]at h
 |q::l,k,s,hs,h=>by
  have key:∀(l:List az) (k:Nat) (s:r4),s.1.isSome=true->(p7 l k s).1.isSome=true:=by
   intro l k s hs
   rcases Ka (l:=l) (k:=k) (s:=s)with h|⟨j,g,h1,h2,h3⟩
   ·rw[h];exact hs
   ·rw[h3];rfl
  simp only[p7]
  by_cases hc:0<q.bB
  ·refine key _ _ _ ?_
   unfold o8
   split
   ·rfl
   ·rename_i hn
    rcases hs with hs|hs
    ·exact hs
    ·have:=abF (q:=q)
     exact absurd ⟨hc,by omega⟩ hn
  ·have:o8 k q s=s:=by unfold o8;rw[if_neg (λh=>hc h.1)]
   rw[this]
   simp only[j0]at h
   exact Q6 hs (by omega)
theorem bL.abC (b5:eT P) (h:0<P.len):∃k,k<128/\0<(P.b7 k).bB/\P.x7=(some k,(P.b7 k).gU.1,(P.b7 k).gU.2):=by
 have h1:=Q6 (l:=P.q) (k:=0) (s:=(none,0,-1)) (.inr (by decide)) h
 rcases Ka (l:=P.q) (k:=0) (s:=(none,0,-1))with h2|⟨j,q,h2,h3,h4⟩
 ·rw[h2]at h1;cases h1
 ·have ah:j<128:=by have:=(List.getElem?_eq_some_iff.1 h2).1;rw[b5.n]at this;exact this
  have e:=(b5.b7 ah).1
  rw[h2]at e;cases e
  exact⟨j,ah,h3,by rw[Nat.zero_add]at h4;exact h4⟩
theorem Qx {c:Int} (av:0<=c) (k1:c<16) (hl:(q.ad c).l=p::r):q.kF c=(q.aX c ((q.ad c).bG r),some p):=by
 have hh:q.head c=some p:=by unfold az.head;rw[if_pos ⟨av,k1⟩,hl];rfl
 unfold az.kF;rw[hh,hl];rfl
theorem jW.kF {k:Int} (w:jW q):jW (q.kF k).1/\(q.kF k).1.bB<=q.bB:=by
 unfold az.kF
 cases hh:q.head k with
 |none=>exact⟨w,Nat.le_refl _⟩
 |some p=>
  have I:0<=k/\k<16:=by
   unfold az.head at hh
   by_cases I:0<=k/\k<16
   ·exact I
   ·rw[if_neg I]at hh;cases hh
  obtain⟨av,k1⟩:=I
  have cS:=(w.ok.ad av k1).2
  have cn:(q.ad k).l.tail.length<=(q.ad k).l.length:=by simp
  have eX:=w.ok.aX av k1 (g:=(q.ad k).bG (q.ad k).l.tail) ⟨cS.c,λx hx=>cS.p x (List.mem_of_mem_tail hx),cS.d0,cS.d1⟩ cn
  have bd:=pZ (g:=(q.ad k).bG (q.ad k).l.tail) (w.ok.ad av k1).1
  have e:q.bB=et q.a6:=rfl
  simp only[Ed]at bd
  refine⟨⟨eX,λj dI eC ah=>?_,λj dI eC p hp=>?_⟩,by show et (q.a6.set k.toNat _)<=_;omega⟩
  ·by_cases h:j=k
   ·subst h
    rw[mh w.ok av k1]at ah
    refine w.busy j dI eC λe=>ah ?_
    simp[e]
   ·rw[yc av dI h]at ah
    exact w.busy j dI eC ah
  ·by_cases h:j=k
   ·subst h
    rw[mh w.ok av k1]at hp
    exact w.wp j dI eC p (List.mem_of_mem_tail hp)
   ·rw[yc av dI h]at hp
    exact w.wp j dI eC p hp
theorem Vv {c:Int} (hq:c1 q) (av:0<=c) (k1:c<16):(cc (q.aX c g).a6++(q.ad c).l).Perm (cc q.a6++g.l):=Oy (hq.ad av k1).1
theorem aaz {c:Int} (hq:c1 q) (av:0<=c) (k1:c<16) (hl:(q.ad c).l=p::r):(p::cc (q.kF c).1.a6).Perm (cc q.a6):=by
 rw[Qx av k1 hl]
 have:=n1.1 (Vv (g:=(q.ad c).bG r) hq av k1)
 refine n1.2 λx=>?_
 have:=this x
 rw[hl]at this
 simp only[List.count_append,List.count_cons,Ed]at this⊢
 omega
theorem UL (hq:c1 q):(cc (q.put p).a6).Perm (p::cc q.a6):=by
 obtain⟨av,k1⟩:=zJ p.ad q.bf
 have key:∀g:cU,g.l=(q.ad (db p.ad q.bf)).l++[p]->(cc (q.aX (db p.ad q.bf) g).a6).Perm (p::cc q.a6):=by
  intro g hg
  have:=n1.1 (Vv (g:=g) hq av k1)
  refine n1.2 λx=>?_
  have:=this x
  rw[hg]at this
  simp only[List.count_append,List.count_cons,List.count_nil]at this⊢
  omega
 by_cases h:db p.ad q.bf∈q.fresh\/db p.ad q.bf∈q.b2
 ·rw[DW h];exact key _ rfl
 ·rw[DX h];exact key _ rfl
theorem M1 (b5:eT P) (h:0<P.len):∃k p,k<128/\P.x7=(some k,(P.b7 k).gU.1,(P.b7 k).gU.2)/\P.shrink=(P.set k ((P.b7 k).kF (P.b7 k).gU.1).1,p)/\((P.b7 k).kF (P.b7 k).gU.1).2=some p/\
 eT P.shrink.1/\Alike P P.shrink.1/\(p::P.shrink.1.all).Perm P.all/\P.shrink.1.len+1=P.len/\P.shrink.1.e9+p.body.length=P.e9:=by
 obtain⟨k,I,hc,hf⟩:=bL.abC b5 h
 obtain⟨e,w⟩:=b5.b7 I
 obtain⟨av,k1,b6,_⟩:=abE w.ok hc
 obtain⟨p,r,hl⟩:∃p r,((P.b7 k).ad (P.b7 k).gU.1).l=p::r:=by
  cases hx:((P.b7 k).ad (P.b7 k).gU.1).l with
  |nil=>exact absurd hx b6
  |cons p r=>exact⟨p,r,rfl⟩
 have hd:=Qx av k1 hl
 have rr:((P.b7 k).kF (P.b7 k).gU.1).2=some p:=by rw[hd]
 have hs:P.shrink=(P.set k ((P.b7 k).kF (P.b7 k).gU.1).1,p):=by unfold bL.shrink;rw[hf];dsimp only;rw[rr];rfl
 have hp:(p::P.shrink.1.all).Perm P.all:=by
  have h1:=n1.1 (BX (q:=((P.b7 k).kF (P.b7 k).gU.1).1) b5 I)
  have h2:=n1.1 (aaz w.ok av k1 hl)
  rw[hs]
  refine n1.2 λx=>?_
  have h1:=h1 x
  have h2:=h2 x
  simp only[List.count_append,List.count_cons]at h1 h2⊢
  omega
 refine⟨k,p,I,hf,hs,rr,?_,?_,hp,?_,?_⟩
 ·rw[hs];exact b5.set w.kF.1
 ·rw[hs];exact MV
 ·have:=hp.length_eq
  rw[bL.rA,bL.rA]
  simpa using this
 ·have:=Zp hp
  rw[bL.Fq,bL.Fq]
  simp only[c5]at this
  omega
theorem TN (b5:eT P) (h:P.mp<P.len\/P.cF<P.e9):0<P.len:=by
 have h1:=b5.p0
 have h2:=b5.gO
 have h3:=b5.Ju
 rcases h with h|h
 ·omega
 ·rcases Nat.eq_zero_or_pos P.len with e|e
  ·rw[e]at h3;omega
  ·exact e
theorem VD:∀(n:Nat) {P:bL} {d:List bh},eT P->P.len<=n->∃e,(j7 n P d).2=d++e/\eT (j7 n P d).1/\Alike P (j7 n P d).1/\(e++(j7 n P d).1.all).Perm P.all/\(j7 n P d).1.len<=P.mp/\(j7 n P d).1.e9<=P.cF
 |0,P,d,b5,h=>by
  refine⟨[],by simp[j7],b5,Alike.refl _, .refl _,?_,?_⟩
  ·have:=b5.p0;simp only[j7];omega
  ·have:=b5.gO;have:=b5.Ju;simp only[j7];omega
 |n+1,P,d,b5,h=>by
  by_cases hc:P.mp<P.len\/P.cF<P.e9
  ·obtain⟨k,p,I,_,hs,_,eX,ml,hp,hl,_⟩:=M1 b5 (TN b5 hc)
   have dW:j7 (n+1) P d=j7 n P.shrink.1 (d++[P.shrink.2]):=by simp only[j7];rw[if_pos hc]
   have af:P.shrink.2=p:=by rw[hs]
   rw[dW,af]
   obtain⟨e,h1,h2,h3,h4,aA,aU⟩:=VD n (P:=P.shrink.1) (d:=d++[p]) eX (by omega)
   refine⟨p::e,by rw[h1];simp,h2,ml.trans h3,?_,by rw[ml.mp]at aA;exact aA,by rw[ml.cF]at aU;exact aU⟩
   rw[List.cons_append]
   exact(h4.cons p).trans hp
  ·have dW:j7 (n+1) P d=(P,d):=by simp only[j7];rw[if_neg hc]
   rw[dW]
   exact⟨[],by simp,b5,Alike.refl _, .refl _,by dsimp only;omega,by dsimp only;omega⟩
theorem akP {n:Nat} {d:List bh} (h:P.mp<P.len\/P.cF<P.e9):j7 (n+1) P d=j7 n P.shrink.1 (d++[P.shrink.2]):=by simp only[j7];rw[if_pos h]
theorem VC {n:Nat} {d:List bh} (h:¬(P.mp<P.len\/P.cF<P.e9)):j7 n P d=(P,d):=by
 cases n with
 |zero=>rfl
 |succ n=>simp only[j7];rw[if_neg h]
theorem UJ (b5:eT P) (I:k<128) (h0:0<=p.at_) (h1:p.at_<=1125899906842624) (hl:p.body.length<=1048576) (hc:P.len<1048576):
 eT (P.qJ k p)/\Alike P (P.qJ k p)/\(P.qJ k p).all.Perm (p::P.all)/\(P.qJ k p).len=P.len+1:=by
 obtain⟨e,w⟩:=b5.b7 I
 have F3:=b5.bB I
 obtain⟨w',_⟩:=w.put (p:=p) h0 h1 hl (by omega)
 have hp:(P.qJ k p).all.Perm (p::P.all):=by
  have h1:=n1.1 (BX (q:=(P.b7 k).put p) b5 I)
  have h2:=n1.1 (UL (p:=p) w.ok)
  refine n1.2 λx=>?_
  have h1:=h1 x
  have h2:=h2 x
  simp only[List.count_append,List.count_cons,bL.qJ]at h1 h2⊢
  omega
 refine⟨b5.set w',MV,hp,?_⟩
 have:=hp.length_eq
 rw[bL.rA,bL.rA]
 simpa using this
theorem ajq (b5:eT P) (I:k<128) (h0:0<=p.at_) (h1:p.at_<=1125899906842624) (hl:p.body.length<=1048576) (hc:P.len<1048576):
 eT (P.put k p).1/\Alike P (P.put k p).1/\((P.put k p).2++(P.put k p).1.all).Perm (p::P.all)/\(P.put k p).1.len<=P.mp/\(P.put k p).1.e9<=P.cF:=by
 obtain⟨a1,a2,a3,a4⟩:=UJ b5 I h0 h1 hl hc
 obtain⟨e,al,aP,bx,dO,fh,ey⟩:=VD (P.qJ k p).len (P:=P.qJ k p) (d:=[]) a1 (Nat.le_refl _)
 unfold bL.put
 rw[al,List.nil_append]
 exact⟨aP,a2.trans bx,dO.trans a3,by rw[<-a2.mp];exact fh,by rw[<-a2.cF];exact ey⟩
theorem alL {now:Int} (b5:eT P) (I:k<128) (cp:0<=now) (bC:now<=1125899906842624):eT (P.take k now).1/\Alike P (P.take k now).1/\(P.take k now).1.len<=P.len:=by
 obtain⟨e,w⟩:=b5.b7 I
 have hl:=Bq cp bC w
 have hc:=hl.bB w.ok
 refine⟨b5.set hl.w,MV,?_⟩
 have:=tH (q:=((P.b7 k).take now).1) b5 I
 show(P.set k ((P.b7 k).take now).1).len<=_
 omega
end
end Go.Proofs.YtjlkfjnfnonekaaGreatDoor.Pl
