import Derived.Test.YtjlkfjnfnonekaaGreatDoorM20
import Derived.Test.YtjlkfjnfnonekaaGreatDoorM29
set_option linter.all false
namespace Go.Proofs.YtjlkfjnfnonekaaGreatDoor.Pl
structure cU where
 l:List bh
 cE:Int
 c:e6
def cU.bG (f:cU) (l:List bh):cU:=⟨l,f.cE,f.c⟩
def cU.e3 (f:cU) (d:Int):cU:=⟨f.l,d,f.c⟩
@[simp] theorem Ed (f:cU) (l:List bh):(f.bG l).l=l:=rfl
@[simp] theorem akA (f:cU) (l:List bh):(f.bG l).cE=f.cE:=rfl
@[simp] theorem asY (f:cU) (l:List bh):(f.bG l).c=f.c:=rfl
@[simp] theorem MS (f:cU) (d:Int):(f.e3 d).l=f.l:=rfl
@[simp] theorem asX (f:cU) (d:Int):(f.e3 d).cE=d:=rfl
@[simp] theorem asW (f:cU) (d:Int):(f.e3 d).c=f.c:=rfl
def o2:e6:=⟨0,0,0,0,false,0,0⟩
def v7:cU:=⟨[],0,o2⟩
structure az where
 bf:Int
 tg:Int
 iv:Int
 a6:List cU
 fresh:List Int
 b2:List Int
def pC (bf tg iv:Int):az:=⟨bf,tg,iv,List.replicate 16 v7,[],[]⟩
def c5:List bh->Int
 |[]=>0
 |p::r=>p.body.length+c5 r
theorem B6:∀(a b:List bh),c5 (a++b)=c5 a+c5 b
 |[],b=>by simp[c5]
 |p::a,b=>by simp only[List.cons_append,c5,B6 a b];omega
theorem oZ:∀(a:List bh),0<=c5 a
 |[]=>by simp[c5]
 |p::a=>by have:=oZ a;simp only[c5];omega
def et:List cU->Nat
 |[]=>0
 |f::r=>f.l.length+et r
def iP:List cU->Int
 |[]=>0
 |f::r=>c5 f.l+iP r
def az.bB (q:az):Nat:=et q.a6
def az.e9 (q:az):Int:=iP q.a6
theorem pZ:∀{l:List cU} {k:Nat} {f g:cU},l[k]?=some f->et (l.set k g)+f.l.length=et l+g.l.length
 |[],k,f,g,h=>by simp at h
 |x::l,0,f,g,h=>by simp at h;subst h;simp[et];omega
 |x::l,k+1,f,g,h=>by have:=pZ (l:=l) (k:=k) (g:=g) (by simpa using h);simp[et];omega
theorem zL:∀{l:List cU} {k:Nat} {f g:cU},l[k]?=some f->iP (l.set k g)+c5 f.l=iP l+c5 g.l
 |[],k,f,g,h=>by simp at h
 |x::l,0,f,g,h=>by simp at h;subst h;simp[iP];omega
 |x::l,k+1,f,g,h=>by have:=zL (l:=l) (k:=k) (g:=g) (by simpa using h);simp[iP];omega
theorem te:∀{l:List cU} {k:Nat} {f:cU},l[k]?=some f->f.l.length<=et l
 |[],k,f,h=>by simp at h
 |x::l,0,f,h=>by simp at h;subst h;simp[et]
 |x::l,k+1,f,h=>by have:=te (l:=l) (k:=k) (by simpa using h);simp[et];omega
theorem vP:∀{l:List cU} {k:Nat} {f:cU},l[k]?=some f->c5 f.l<=iP l
 |[],k,f,h=>by simp at h
 |x::l,0,f,h=>by
  have:∀l:List cU,0<=iP l:= λl=>by induction l with|nil=>simp[iP]|cons y r b9=>have:=oZ y.l;simp only[iP];omega
  simp at h;subst h;have:=this l;simp only[iP];omega
 |x::l,k+1,f,h=>by have:=vP (l:=l) (k:=k) (by simpa using h);have:=oZ x.l;simp only[iP];omega
theorem PH:∀l:List cU,0<=iP l:= λl=>by induction l with|nil=>simp[iP]|cons y r b9=>have:=oZ y.l;simp only[iP];omega
def e6.rest (s:e6):e6:={s with bytes:=0,pos:=0}
def nu (l:List bh):List (Int×Int):=l.map λp=>(p.at_,(p.body.length:Int))
def pY (n:Int):Int:=k9 n 1073741824
def ea (tg iv now:Int) (f:cU):e6×Bool:=n2 now (pY tg) (pY iv) (nu f.l) {f.c with bytes:=c5 f.l,pos:=0}
def dN (tg iv now:Int) (f:cU):cU:=⟨f.l.drop (ea tg iv now f).1.pos,f.cE,(ea tg iv now f).1.rest⟩
def kE (tg iv now:Int) (f:cU):List bh:=f.l.take (ea tg iv now f).1.pos
def qv (tg iv now:Int) (f:cU):Bool:=(ea tg iv now f).2
def az.turn (q:az):Option Int:=match q.fresh with|k::_=>some k|[]=>q.b2.head?
def az.ad (q:az) (k:Int):cU:=(q.a6[k.toNat]?).getD v7
def az.aX (q:az) (k:Int) (f:cU):az:={q with a6:=q.a6.set k.toNat f}
def az.cr (q:az):az:=if q.fresh=[]then{q with b2:=q.b2.tail}else{q with fresh:=q.fresh.tail}
def az.gN (q:az) (k:Int):az:={q with b2:=q.b2++[k]}
def az.zB (q:az) (k:Int):az:={q with fresh:=q.fresh++[k]}
def takeN (now:Int):Nat->az->List bh->az×List bh×Option bh
 |0,q,d=>(q,d,none)
 |n+1,q,d=>
  match q.turn with
  |none=>(q,d,none)
  |some k=>
   if(q.ad k).cE<=0 then takeN now n (((q.aX k ((q.ad k).e3 ((q.ad k).cE+300))).cr).gN k) d
   else if qv q.tg q.iv now (q.ad k)=true then
    match(dN q.tg q.iv now (q.ad k)).l with
    |[]=>(q,d,none)
    |p::r=>(q.aX k (((dN q.tg q.iv now (q.ad k)).bG r).e3 ((q.ad k).cE -p.body.length)),d++kE q.tg q.iv now (q.ad k),some p)
   else if q.fresh≠[]/\q.b2≠[]then takeN now n (((q.aX k (dN q.tg q.iv now (q.ad k))).cr).gN k) (d++kE q.tg q.iv now (q.ad k))
   else takeN now n ((q.aX k (dN q.tg q.iv now (q.ad k))).cr) (d++kE q.tg q.iv now (q.ad k))
def Bc (d:Int):Nat:=if d<=0 then((-d)/300).toNat+1 else 0
theorem ajP {d:Int} (h:d<=0):Bc (d+300)+1<=Bc d:=by
 unfold Bc
 rw[if_pos h]
 split<;>omega
def refl (f:cU):Nat:=Bc f.cE
def mL (q:az):List Int->Nat
 |[]=>0
 |k::r=>refl (q.ad k)+mL q r
def az.hQ (q:az):Nat:=mL q q.fresh+mL q q.b2+2*q.fresh.length+q.b2.length
def az.take (q:az) (now:Int):az×List bh×Option bh:=takeN now (q.hQ+1) q []
def az.put (q:az) (p:bh):az:=
 let k:=db p.ad q.bf
 if k∈q.fresh\/k∈q.b2 then q.aX k ((q.ad k).bG ((q.ad k).l++[p]))
 else(q.aX k (((q.ad k).bG ((q.ad k).l++[p])).e3 300)).zB k
def az.all (q:az):List bh:=(q.a6.map (·.l)).flatten
def az.head (q:az) (k:Int):Option bh:=if 0<=k/\k<16 then(q.ad k).l.head? else none
def az.kF (q:az) (k:Int):az×Option bh:=match q.head k with
 |none=>(q,none)
 |some p=>(q.aX k ((q.ad k).bG (q.ad k).l.tail),some p)
def ni:List cU->Int->Int×Int->Int×Int
 |[],_,s=>s
 |f::r,k,s=>ni r (k+1) (if f.l≠[]/\s.2<c5 f.l then(k,c5 f.l)else s)
def az.gU (q:az):Int×Int:=let s:=ni q.a6 0 (0,-1);(s.1,max s.2 0)
structure pM (f:cU):Prop where
 c:xv f.c
 p:∀p∈f.l,0<=p.at_/\p.at_<=1125899906842624/\p.body.length<=1048576
 d0:-1048576<=f.cE
 d1:f.cE<=300
structure c1 (q:az):Prop where
 len:q.a6.length=16
 f:∀f∈q.a6,pM f
 fm:(q.fresh++q.b2).Nodup
 b:∀k∈q.fresh++q.b2,0<=k/\k<16
 bB:q.bB<=1048576
section
variable{q:az} {f g:cU} {k d:Int} {p:bh} {r:List bh} {tg iv now:Int}
theorem LY:∀(N:Nat) (l:List Int),l.Nodup->(∀x∈l,0<=x/\x<N)->l.length<=N
 |0,l,_,h=>by
  cases l with
  |nil=>simp
  |cons x r=>have:=h x (by simp);omega
 |N+1,l,hn,h=>by
  by_cases hm:(N:Int)∈l
  ·have h1:=LY N (l.erase N) (hn.erase _) (λx hx=>by
    have mw:=(List.Nodup.mem_erase_iff hn).1 hx
    have h2:=h x mw.2
    have h3:x≠N:=mw.1
    omega)
   rw[List.length_erase_of_mem hm]at h1;omega
  ·have h1:=LY N l hn (λx hx=>by
    have h2:=h x hx
    have h3:x≠N:= λe=>hm (e▸hx)
    omega)
   omega
theorem c1.lens (hq:c1 q):q.fresh.length+q.b2.length<=16:=by
 have:=LY 16 _ hq.fm hq.b
 simpa using this
theorem abU:pM v7:=⟨by constructor<;>decide,by simp[v7],by decide,by decide⟩
theorem US (bf tg iv:Int):c1 (pC bf tg iv):=by
 refine⟨rfl,λf hf=>?_,by simp[pC],by simp[pC],?_⟩
 ·simp[pC]at hf;subst hf;exact abU
 ·show et (List.replicate 16 v7)<=_;decide
theorem zM {N:Nat}:∀{l:List bh},(∀p∈l,p.body.length<=N)->c5 l<=N*l.length
 |[],_=>by simp[c5]
 |p::r,h=>by
  have h1:=zM (l:=r) λp hp=>h p (by simp[hp])
  have h2:=h p (by simp)
  simp only[c5,List.length_cons]
  have e:((N:Int))*((r.length+1:Nat):Int)=N*r.length+N:=by rw[show((r.length+1:Nat):Int)=(r.length:Int)+1 by omega,Int.mul_add];omega
  omega
theorem c1.ad (hq:c1 q) (av:0<=k) (k1:k<16):q.a6[k.toNat]?=some (q.ad k)/\pM (q.ad k):=by
 have cn:k.toNat<q.a6.length:=by rw[hq.len];omega
 have e:q.a6[k.toNat]?=some (q.ad k):=by unfold az.ad;rw[List.getElem?_eq_getElem cn];rfl
 exact⟨e,hq.f _ (List.mem_of_getElem? e)⟩
theorem c1.aX (hq:c1 q) (wx:0<=k) (pc:k<16) (hg:pM g) (hc:g.l.length<=(q.ad k).l.length):c1 (q.aX k g):=by
 refine⟨by simp[az.aX,hq.len],λf hf=>?_,hq.fm,hq.b,?_⟩
 ·rcases List.mem_or_eq_of_mem_set hf with hf|rfl
  ·exact hq.f f hf
  ·exact hg
 ·have h1:=pZ (g:=g) (hq.ad wx pc).1
  have h2:=hq.bB
  show et (q.a6.set k.toNat g)<=_
  unfold az.bB at h2
  omega
theorem mh (hq:c1 q) (av:0<=k) (k1:k<16):(q.aX k g).ad k=g:=by
 have cn:k.toNat<q.a6.length:=by rw[hq.len];omega
 simp[az.ad,az.aX,cn]
theorem yc {j:Int} (av:0<=k) (dI:0<=j) (h:j≠k):(q.aX k g).ad j=q.ad j:=by
 unfold az.ad az.aX
 dsimp only
 rw[List.getElem?_set_ne (by omega)]
theorem rM (ht:q.turn=some k):k∈q.fresh++q.b2:=by
 unfold az.turn at ht
 split at ht
 ·rename_i e;cases ht;rw[e];simp
 ·rename_i e;rw[e];simp;exact List.mem_of_mem_head? ht
theorem c1.cr (hq:c1 q):c1 q.cr:=by
 unfold az.cr
 split
 ·rename_i e
  refine⟨hq.len,hq.f,?_,?_,hq.bB⟩
  ·have:=hq.fm;rw[e]at*;simp at*;exact this.sublist (List.tail_sublist _)
  ·intro k I;refine hq.b k ?_;rw[e]at*;simp at*;exact List.mem_of_mem_tail I
 ·refine⟨hq.len,hq.f,?_,?_,hq.bB⟩
  ·exact hq.fm.sublist ((List.tail_sublist _).append_right _)
  ·intro k I;refine hq.b k ?_;simp at*;rcases I with I|I;exact .inl (List.mem_of_mem_tail I);exact .inr I
theorem sO (hq:c1 q) (ht:q.turn=some k):k∉q.cr.fresh++q.cr.b2:=by
 have hn:=hq.fm
 unfold az.turn at ht
 unfold az.cr
 split at ht
 ·rename_i k' r e;cases ht
  rw[if_neg (by rw[e];simp)]
  show k∉q.fresh.tail++q.b2
  rw[e,List.cons_append,List.nodup_cons]at hn
  rw[e];exact hn.1
 ·rename_i e
  rw[if_pos e]
  show k∉q.fresh++q.b2.tail
  cases he:q.b2 with
  |nil=>simp[he]at ht
  |cons x r=>
   simp[he]at ht;subst ht
   rw[e,he,List.nil_append,List.nodup_cons]at hn
   rw[e];exact hn.1
theorem c1.gN (hq:c1 q) (hn:k∉q.fresh++q.b2) (av:0<=k) (k1:k<16):c1 (q.gN k):=by
 refine⟨hq.len,hq.f,?_,?_,hq.bB⟩
 ·show(q.fresh++(q.b2++[k])).Nodup
  rw[<-List.append_assoc]
  refine List.nodup_append.2 ⟨hq.fm,by simp,λa ha b hb=>?_⟩
  simp at hb;subst hb
  rintro rfl;exact hn ha
 ·intro j ah
  have ah:j∈q.fresh++(q.b2++[k]):=ah
  rw[<-List.append_assoc]at ah
  rcases List.mem_append.1 ah with ah|ah
  ·exact hq.b j ah
  ·simp at ah;subst ah;exact⟨av,k1⟩
theorem Ec (g g2:cU):(q.aX k g).aX k g2=q.aX k g2:=by simp[az.aX]
theorem Vw:(q.aX k g).fresh=q.fresh:=rfl
theorem akz:(q.aX k g).b2=q.b2:=rfl
theorem Ni {q q':az}:∀{l:List Int},(∀k∈l,q'.ad k=q.ad k)->mL q' l=mL q l
 |[],_=>rfl
 |k::l,h=>by simp only[mL];rw[h k (by simp),Ni λk I=>h k (by simp[I])]
theorem VW {q:az}:∀{l r:List Int},mL q (l++r)=mL q l+mL q r
 |[],r=>by simp[mL]
 |k::l,r=>by simp only[List.cons_append,mL,VW (l:=l)];omega
theorem Nj (f e l:List Int):mL (az.mk q.bf q.tg q.iv q.a6 f e) l=mL q l:=Ni λ_ _=>rfl
theorem Wb (ht:q.turn=some k):q.hQ=refl (q.ad k)+q.cr.hQ+(if q.fresh=[]then 1 else 2):=by
 unfold az.turn at ht
 unfold az.cr
 split at ht
 ·rename_i k' r e;cases ht
  rw[if_neg (by rw[e];simp),if_neg (by rw[e];simp)]
  simp only[az.hQ,Nj,e,mL,List.length_cons,List.tail_cons]
  omega
 ·rename_i e;rw[if_pos e,if_pos e]
  cases he:q.b2 with
  |nil=>simp[he]at ht
  |cons x r=>
   simp[he]at ht;subst ht
   simp only[az.hQ,Nj,e,he,mL,List.length_cons,List.tail_cons]
   omega
theorem TI (hq:c1 q) (av:0<=k) (hn:k∉q.fresh++q.b2):(q.aX k g).hQ=q.hQ:=by
 have h1:∀l:List Int,(∀j∈l,j∈q.fresh++q.b2)->mL (q.aX k g) l=mL q l:= λl hl=>Ni λj ah=>
  yc av (hq.b j (hl j ah)).1 (by rintro rfl;exact hn (hl _ ah))
 simp only[az.hQ,Vw,akz]
 rw[h1 q.fresh (λj ah=>List.mem_append_left _ ah),h1 q.b2 (λj ah=>List.mem_append_right _ ah)]
theorem TH:(q.gN k).hQ=q.hQ+refl (q.ad k)+1:=by
 simp only[az.hQ,az.gN,VW,List.length_append,List.length_singleton]
 have ag:az.ad {q with b2:=q.b2++[k]} k=q.ad k:=rfl
 simp only[Nj,mL,ag]
 omega
theorem HR:(q.aX k g).cr=q.cr.aX k g:=by
 unfold az.cr
 rw[Vw]
 split<;>rfl
theorem Ms (j:Int):q.cr.ad j=q.ad j:=by unfold az.cr;split<;>rfl
theorem DF (hq:c1 q) (ht:q.turn=some k) (hd:(q.ad k).cE<=0):
 ((((q.aX k ((q.ad k).e3 ((q.ad k).cE+300))).cr).gN k)).hQ<q.hQ:=by
 obtain⟨av,k1⟩:=hq.b k (rM ht)
 rw[HR,TH,TI hq.cr av (sO hq ht),Wb ht,mh hq.cr av k1]
 have:refl ((q.ad k).e3 ((q.ad k).cE+300))+1<=refl (q.ad k):=ajP hd
 split<;>omega
theorem DE (hq:c1 q) (ht:q.turn=some k) (hd:¬(q.ad k).cE<=0) (hg:g.cE=(q.ad k).cE):
 ((q.aX k g).cr).hQ<q.hQ/\(q.fresh≠[]->(((q.aX k g).cr).gN k).hQ<q.hQ):=by
 obtain⟨av,k1⟩:=hq.b k (rM ht)
 rw[HR,TH,TI hq.cr av (sO hq ht),Wb ht,mh hq.cr av k1]
 have h1:refl g=0:=by unfold refl Bc;rw[hg,if_neg hd]
 have h2:refl (q.ad k)=0:=by unfold refl Bc;rw[if_neg hd]
 refine⟨by split<;>omega,λhf=>?_⟩
 rw[if_neg hf];omega
theorem DV (hf:pM f) (hc:f.l.length<=1048576) (cp:0<=now) (bC:now<=1125899906842624):
 oT now (pY tg) (pY iv) (nu f.l)/\xw {f.c with bytes:=c5 f.l,pos:=0}/\xv (ea tg iv now f).1/\(ea tg iv now f).1.pos<=f.l.length/\(ea tg iv now f).2=decide ((ea tg iv now f).1.pos<f.l.length):=by
 obtain⟨t0,t1⟩:=zT tg (show(0:Int)<=1073741824 by decide)
 obtain⟨i0,uX⟩:=zT iv (show(0:Int)<=1073741824 by decide)
 have hb:=zM (N:=1048576) λp hp=>(hf.p p hp).2.2
 have hE:oT now (pY tg) (pY iv) (nu f.l):=⟨cp,by omega,t0,t1,i0,uX,by simp[nu];omega,λx hx=>by
  simp only[nu,List.mem_map]at hx
  obtain⟨p,hp,rfl⟩:=hx
  have:=hf.p p hp
  exact⟨this.1,by have:=this.2.1;dsimp only;omega,by have:=this.2.2;dsimp only;omega⟩⟩
 have uE:xw {f.c with bytes:=c5 f.l,pos:=0}:=⟨hf.c.f0,hf.c.f1,hf.c.d0,hf.c.d1,hf.c.cW,hf.c.aK,hf.c.lF,hf.c.ca,oZ _,by dsimp only;omega,rfl⟩
 have hl:(nu f.l).length=f.l.length:=by simp[nu]
 obtain⟨h1,h2,_⟩:=akc (now:=now) (tg:=pY tg) (iv:=pY iv) (l:=nu f.l) (s:={f.c with bytes:=c5 f.l,pos:=0}) rfl rfl
 rw[hl]at h1 h2
 exact⟨hE,uE,akb hE uE,h2,h1⟩
theorem U5 {s:e6} (h:xv s):xv s.rest:=⟨h.f0,h.f1,h.d0,h.d1,h.cW,h.aK,h.lF,h.ca⟩
theorem xa (hf:pM f) (hc:f.l.length<=1048576) (cp:0<=now) (bC:now<=1125899906842624):pM (dN tg iv now f):=by
 obtain⟨_,_,h3,_,_⟩:=DV (tg:=tg) (iv:=iv) hf hc cp bC
 exact⟨U5 h3,λp hp=>hf.p p (List.mem_of_mem_drop hp),hf.d0,hf.d1⟩
theorem DT:q.cr.bB=q.bB:=by unfold az.cr;split<;>rfl
theorem IW:(q.gN k).bB=q.bB:=rfl
theorem Vu (hq:c1 q) (av:0<=k) (k1:k<16):(q.aX k ((q.ad k).e3 d)).bB=q.bB:=by
 have bd:=pZ (g:=(q.ad k).e3 d) (hq.ad av k1).1
 simp only[MS]at bd
 show et (q.a6.set k.toNat ((q.ad k).e3 d))=et q.a6
 omega
theorem Lo (hf:pM f) (hc:f.l.length<=1048576) (cp:0<=now) (bC:now<=1125899906842624):qv tg iv now f=true↔∃p r,(dN tg iv now f).l=p::r:=by
 obtain⟨_,_,_,h4,aA⟩:=DV (tg:=tg) (iv:=iv) hf hc cp bC
 unfold qv dN
 rw[aA]
 simp only[decide_eq_true_eq]
 constructor
 ·intro cn
  exact⟨_,_,List.drop_eq_getElem_cons cn⟩
 ·rintro⟨p,r,e⟩
  have:(f.l.drop (ea tg iv now f).1.pos).length=(p::r).length:=by rw[e]
  simp at this;omega
theorem c1.FJ (hq:c1 q) (av:0<=k) (k1:k<16):(q.ad k).l.length<=1048576:=Nat.le_trans (te (hq.ad av k1).1) hq.bB
theorem H9 {n:Nat} {d:List bh} (ht:q.turn=none):takeN now (n+1) q d=(q,d,none):=by simp only[takeN,ht]
theorem Et {n:Nat} {d:List bh} (ht:q.turn=some k) (hd:(q.ad k).cE<=0):takeN now (n+1) q d=takeN now n (((q.aX k ((q.ad k).e3 ((q.ad k).cE+300))).cr).gN k) d:=by
 simp only[takeN,ht];rw[if_pos hd]
theorem Er {n:Nat} {d:List bh} (ht:q.turn=some k) (hd:¬(q.ad k).cE<=0) (hi:qv q.tg q.iv now (q.ad k)=true) (hp:(dN q.tg q.iv now (q.ad k)).l=p::r):
 takeN now (n+1) q d=(q.aX k (((dN q.tg q.iv now (q.ad k)).bG r).e3 ((q.ad k).cE -p.body.length)),d++kE q.tg q.iv now (q.ad k),some p):=by
 simp only[takeN,ht];rw[if_neg hd,if_pos hi,hp]
theorem H8 {n:Nat} {d:List bh} (ht:q.turn=some k) (hd:¬(q.ad k).cE<=0) (hi:qv q.tg q.iv now (q.ad k)=false) (hm:q.fresh≠[]/\q.b2≠[]):
 takeN now (n+1) q d=takeN now n (((q.aX k (dN q.tg q.iv now (q.ad k))).cr).gN k) (d++kE q.tg q.iv now (q.ad k)):=by
 simp only[takeN,ht];rw[if_neg hd,if_neg (by simp[hi]),if_pos hm]
theorem Ep {n:Nat} {d:List bh} (ht:q.turn=some k) (hd:¬(q.ad k).cE<=0) (hi:qv q.tg q.iv now (q.ad k)=false) (hm:¬(q.fresh≠[]/\q.b2≠[])):
 takeN now (n+1) q d=takeN now n ((q.aX k (dN q.tg q.iv now (q.ad k))).cr) (d++kE q.tg q.iv now (q.ad k)):=by
 simp only[takeN,ht];rw[if_neg hd,if_neg (by simp[hi]),if_neg hm]
theorem Ea (hf:pM f) (h0:-1048576<=d) (h1:d<=300):pM (f.e3 d):=⟨hf.c,hf.p,h0,h1⟩
theorem abA {l:List cU} {k:Nat} {f:cU} {s:Int×Int} (hf:l[k]?=some f):ni (l.drop k) k s=ni (l.drop (k+1)) ((k:Int)+1) (if f.l≠[]/\s.2<c5 f.l then((k:Int),c5 f.l)else s):=by
 rw[List.drop_eq_getElem_cons (List.getElem?_eq_some_iff.1 hf).1,(List.getElem?_eq_some_iff.1 hf).2]
 rfl
def cc (l:List cU):List bh:=(l.map (·.l)).flatten
theorem uj:∀(l:List cU),(cc l).length=et l
 |[]=>rfl
 |f::r=>by simp[cc,et];have:=uj r;unfold cc at this;simpa using this
theorem JI:∀(a b:List cU),et (a++b)=et a+et b
 |[],b=>by simp[et]
 |f::a,b=>by simp[et,JI a b];omega
theorem E0 {l:List cU} {k:Nat} {f:cU} (hf:l[k]?=some f):(cc (l.take k)).length+f.l.length<=et l:=by
 rw[uj]
 conv=>rhs;rw[<-List.take_append_drop k l]
 rw[JI,List.drop_eq_getElem_cons (List.getElem?_eq_some_iff.1 hf).1,(List.getElem?_eq_some_iff.1 hf).2]
 simp only[et];omega
theorem Kg (hq:c1 q) {j:Nat} (ah:j<16):q.a6[j]?=some (q.ad (j:Int)):=(hq.ad (k:=(j:Int)) (by omega) (by omega)).1
end
end Go.Proofs.YtjlkfjnfnonekaaGreatDoor.Pl
namespace Go.Proofs.YtjlkfjnfnonekaaGreatDoor.Pl
open Go.Vc
theorem wK (n:Nat) (v:Value):cX (List.replicate n [v])=List.replicate n v:=by
 induction n with
 |zero=>rfl
 |succ n b9=>simp[List.replicate_succ,cX,b9]
section
variable{q:az} {f g:cU} {k d:Int} {p:bh} {r l:List bh} {tg iv now:Int}
structure zt (f:cU):Prop where
 c:f.c=o2
 at_:∀p∈f.l,p.at_=0
theorem aj9 (hf:zt f) (ht:pY tg=1073741824):(ea tg iv 0 f).1.rest=o2/\(ea tg iv 0 f).1.pos=0/\(ea tg iv 0 f).2=decide (f.l≠[]):=by
 unfold ea
 rw[ht,hf.c]
 cases hl:f.l with
 |nil=>simp[n2,eD,nu,o2,e6.rest]
 |cons p r=>
  have h0:=hf.at_ p (by rw[hl];simp)
  simp[n2,eD,nu,o2,e6.rest,h0]
theorem UF (hf:zt f) (ht:pY tg=1073741824):dN tg iv 0 f=f/\kE tg iv 0 f=[]/\qv tg iv 0 f=decide (f.l≠[]):=by
 obtain⟨h1,h2,h3⟩:=aj9 (iv:=iv) hf ht
 refine⟨?_,?_,h3⟩
 ·unfold dN
  rw[h1,h2]
  obtain⟨l,d,c⟩:=f
  have:c=o2:=hf.c
  subst this
  rfl
 ·unfold kE;rw[h2];rfl
structure Calm (q:az):Prop where
 ok:c1 q
 tg:pY q.tg=1073741824
 f:∀f∈q.a6,zt f
theorem Calm.ad (hq:Calm q) (av:0<=k) (k1:k<16):zt (q.ad k):=hq.f _ (List.mem_of_getElem? (hq.ok.ad av k1).1)
theorem Calm.aX (hq:Calm q) (av:0<=k) (k1:k<16) (hg:zt g) (aw:pM g) (hl:g.l.length<=(q.ad k).l.length):Calm (q.aX k g):=
 ⟨hq.ok.aX av k1 aw hl,hq.tg,λf hf=>by
  rcases List.mem_or_eq_of_mem_set hf with hf|rfl
  ·exact hq.f f hf
  ·exact hg⟩
theorem Calm.lists {q':az} (hq:Calm q) (aw:c1 q') (gp:q'.a6=q.a6) (ht:q'.tg=q.tg):Calm q':=⟨aw,by rw[ht];exact hq.tg,by rw[gp];exact hq.f⟩
def az.over (q:az) (k:Int):az:=((q.aX k ((q.ad k).e3 ((q.ad k).cE+300))).cr).gN k
def az.xn (q:az) (k:Int) (p:bh) (r:List bh):az:=q.aX k (((q.ad k).bG r).e3 ((q.ad k).cE -p.body.length))
theorem Calm.over (hq:Calm q) (ht:q.turn=some k) (hd:(q.ad k).cE<=0):Calm (q.over k)/\(q.over k).hQ<q.hQ:=by
 obtain⟨av,k1⟩:=hq.ok.b k (rM ht)
 have cS:=(hq.ok.ad av k1).2
 have fk:=hq.ad av k1
 have nk:=cS.d0
 have h1:=hq.aX av k1 (g:=(q.ad k).e3 ((q.ad k).cE+300)) ⟨fk.c,fk.at_⟩ (Ea cS (by omega) (by omega)) (by simp)
 refine⟨?_,DF hq.ok ht hd⟩
 exact h1.lists ((h1.ok.cr).gN (sO h1.ok (k:=k) ht) av k1) (by unfold az.over az.gN az.cr;split<;>rfl) (by unfold az.over az.gN az.cr;split<;>rfl)
theorem Calm.xn (hq:Calm q) (av:0<=k) (k1:k<16) (hd:0<(q.ad k).cE) (hp:(q.ad k).l=p::r):Calm (q.xn k p r):=by
 have cS:=(hq.ok.ad av k1).2
 have fk:=hq.ad av k1
 have h1:=cS.p p (by rw[hp];simp)
 have qf:=cS.d1
 refine hq.aX av k1 ⟨fk.c,λx hx=>fk.at_ x (by rw[hp];simp at hx;simp[hx])⟩ ⟨cS.c,λx hx=>cS.p x (by rw[hp];simp at hx;simp[hx]),?_,?_⟩ (by rw[hp];simp)
 ·simp;omega
 ·simp;omega
theorem alD {n:Nat} {d:List bh} (ht:q.turn=some k) (hd:(q.ad k).cE<=0):takeN 0 (n+1) q d=takeN 0 n (q.over k) d:=Et ht hd
theorem alE {n:Nat} {d:List bh} (hq:Calm q) (ht:q.turn=some k) (hd:0<(q.ad k).cE) (hp:(q.ad k).l=p::r):takeN 0 (n+1) q d=(q.xn k p r,d,some p):=by
 obtain⟨av,k1⟩:=hq.ok.b k (rM ht)
 obtain⟨h1,h2,h3⟩:=UF (iv:=q.iv) (hq.ad av k1) hq.tg
 rw[Er ht (by omega) (by rw[h3,hp];simp) (by rw[h1];exact hp),h1,h2,List.append_nil]
 rfl
theorem ajp (q:az) (p:bh):(q.put p).bf=q.bf:=by unfold az.put;dsimp only;split<;>rfl
theorem ajr (q:az) (p:bh):(q.put p).tg=q.tg:=by unfold az.put;dsimp only;split<;>rfl
theorem DW (h:db p.ad q.bf∈q.fresh\/db p.ad q.bf∈q.b2):q.put p=q.aX (db p.ad q.bf) ((q.ad (db p.ad q.bf)).bG ((q.ad (db p.ad q.bf)).l++[p])):=if_pos h
theorem DX (h:¬(db p.ad q.bf∈q.fresh\/db p.ad q.bf∈q.b2)):q.put p=(q.aX (db p.ad q.bf) (((q.ad (db p.ad q.bf)).bG ((q.ad (db p.ad q.bf)).l++[p])).e3 300)).zB (db p.ad q.bf):=if_neg h
theorem c1.put (hq:c1 q) (h0:0<=p.at_) (h1:p.at_<=1125899906842624) (hl:p.body.length<=1048576) (hc:q.bB<1048576):c1 (q.put p)/\(q.put p).bB=q.bB+1:=by
 obtain⟨av,k1⟩:=zJ p.ad q.bf
 by_cases h:db p.ad q.bf∈q.fresh\/db p.ad q.bf∈q.b2
 ·rw[DW h]
  generalize db p.ad q.bf=k at*
  have cS:=(hq.ad av k1).2
  have bd:=pZ (g:=(q.ad k).bG ((q.ad k).l++[p])) (hq.ad av k1).1
  simp only[Ed,List.length_append,List.length_singleton]at bd
  have e:(q.aX k ((q.ad k).bG ((q.ad k).l++[p]))).bB=q.bB+1:=by
   show et (q.a6.set k.toNat _)=et q.a6+1
   omega
  refine⟨⟨by simp[az.aX,hq.len],λf hf=>?_,hq.fm,hq.b,by omega⟩,e⟩
  rcases List.mem_or_eq_of_mem_set hf with hf|rfl
  ·exact hq.f f hf
  ·exact⟨cS.c,λx hx=>by
    simp at hx
    rcases hx with hx|rfl
    ·exact cS.p x hx
    ·exact⟨h0,h1,hl⟩,cS.d0,cS.d1⟩
 ·rw[DX h]
  generalize db p.ad q.bf=k at*
  have cS:=(hq.ad av k1).2
  have bd:=pZ (g:=((q.ad k).bG ((q.ad k).l++[p])).e3 300) (hq.ad av k1).1
  simp only[Ed,MS,List.length_append,List.length_singleton]at bd
  have e:((q.aX k (((q.ad k).bG ((q.ad k).l++[p])).e3 300)).zB k).bB=q.bB+1:=by
   show et (q.a6.set k.toNat _)=et q.a6+1
   omega
  refine⟨⟨by simp[az.aX,az.zB,hq.len],λf hf=>?_,?_,?_,by omega⟩,e⟩
  ·rcases List.mem_or_eq_of_mem_set hf with hf|rfl
   ·exact hq.f f hf
   ·exact⟨cS.c,λx hx=>by
     simp at hx
     rcases hx with hx|rfl
     ·exact cS.p x hx
     ·exact⟨h0,h1,hl⟩,by simp,by simp⟩
  ·show((q.fresh++[k])++q.b2).Nodup
   refine(List.perm_append_comm.nodup_iff).1 ?_
   rw[<-List.append_assoc]
   refine List.nodup_append.2 ⟨(List.perm_append_comm.nodup_iff).1 hq.fm,by simp,λa ha b hb=>?_⟩
   simp at hb;subst hb
   rintro rfl
   simp at ha
   exact h (ha.elim .inr .inl)
  ·intro j ah
   have ah:j∈(q.fresh++[k])++q.b2:=ah
   simp at ah
   rcases ah with ah|rfl|ah
   ·exact hq.b j (by simp[ah])
   ·exact⟨av,k1⟩
   ·exact hq.b j (by simp[ah])
theorem Calm.put (hq:Calm q) (h0:p.at_=0) (hl:p.body.length<=1048576) (hc:q.bB<1048576):Calm (q.put p):=by
 obtain⟨av,k1⟩:=zJ p.ad q.bf
 refine⟨(hq.ok.put (by omega) (by omega) hl hc).1,by rw[ajr];exact hq.tg,λf hf=>?_⟩
 have fk:=hq.ad av k1
 have key:zt ((q.ad (db p.ad q.bf)).bG ((q.ad (db p.ad q.bf)).l++[p])):=⟨fk.c,λx hx=>by
  simp at hx
  rcases hx with hx|rfl
  ·exact fk.at_ x hx
  ·exact h0⟩
 unfold az.put at hf
 dsimp only at hf
 split at hf
 ·rcases List.mem_or_eq_of_mem_set hf with hf|rfl
  ·exact hq.f f hf
  ·exact key
 ·rcases List.mem_or_eq_of_mem_set hf with hf|rfl
  ·exact hq.f f hf
  ·exact⟨key.c,key.at_⟩
end
end Go.Proofs.YtjlkfjnfnonekaaGreatDoor.Pl
namespace Go.Proofs.YtjlkfjnfnonekaaGreatDoor.Pl
section
variable{q:az} {f g:cU} {k d j:Int} {p:bh} {r l:List bh} {tg iv now:Int}
structure jW (q:az):Prop where
 ok:c1 q
 busy:∀k,0<=k->k<16->(q.ad k).l≠[]->k∈q.fresh++q.b2
 wp:∀k,0<=k->k<16->∀p∈(q.ad k).l,db p.ad q.bf=k
def sD (s k:Int) (l:List bh):List bh:=l.filter λp=>decide (db p.ad s=k)
theorem afa (s k:Int) (a b:List bh):sD s k (a++b)=sD s k a++sD s k b:=List.filter_append ..
theorem ae9 {s:Int} {l:List bh} (h:∀p∈l,db p.ad s=k):sD s k l=l:=List.filter_eq_self.2 λp hp=>by simp[h p hp]
theorem afb {s:Int} {l:List bh} (h:∀p∈l,db p.ad s=j) (b6:j≠k):sD s k l=[]:=List.filter_eq_nil_iff.2 λp hp=>by simp[h p hp,b6]
theorem jW.part (w:jW q) (av:0<=k) (k1:k<16) {out:List bh} {q':az} (I:(q.ad k).l=out++(q'.ad k).l) (ah:∀j,0<=j->j<16->j≠k->(q'.ad j).l=(q.ad j).l):
 ∀j,0<=j->j<16->(q.ad j).l=sD q.bf j out++(q'.ad j).l:=by
 intro j dI eC
 have aw:∀p∈out,db p.ad q.bf=k:= λp hp=>w.wp k av k1 p (by rw[I];simp[hp])
 by_cases h:j=k
 ·subst h;rw[ae9 aw];exact I
 ·rw[afb aw (Ne.symm h),ah j dI eC h];rfl
structure xB (now:Int) (q:az) (d:List bh) (aJ:az×List bh×Option bh):Prop where
 w:jW aJ.1
 bf:aJ.1.bf=q.bf
 tg:aJ.1.tg=q.tg
 iv:aJ.1.iv=q.iv
 out:∃uv,aJ.2.1=d++uv/\(∀j,0<=j->j<16->(q.ad j).l=sD q.bf j (uv++aJ.2.2.toList)++(aJ.1.ad j).l)/\∀p∈uv++aJ.2.2.toList,0<=db p.ad q.bf/\db p.ad q.bf<16/\p∈(q.ad (db p.ad q.bf)).l
 none:aJ.2.2=none->∀j,0<=j->j<16->(aJ.1.ad j).l=[]
theorem jW.akF (w:jW q) (av:0<=k) (k1:k<16) (cp:0<=now) (bC:now<=1125899906842624):c1 (q.aX k (dN q.tg q.iv now (q.ad k))):=by
 have cS:=(w.ok.ad av k1).2
 exact w.ok.aX av k1 (xa (tg:=q.tg) (iv:=q.iv) cS (w.ok.FJ av k1) cp bC) (by simp[dN])
theorem Mu:q.cr.bf=q.bf:=by unfold az.cr;split<;>rfl
theorem Mv:q.cr.tg=q.tg:=by unfold az.cr;split<;>rfl
theorem Mt:q.cr.iv=q.iv:=by unfold az.cr;split<;>rfl
theorem TK (ht:q.turn=some k) (ah:j∈q.fresh++q.b2) (b6:j≠k):j∈q.cr.fresh++q.cr.b2:=by
 unfold az.turn at ht
 unfold az.cr
 split at ht
 ·rename_i k' r e;cases ht;rw[if_neg (by rw[e];simp)]
  show j∈q.fresh.tail++q.b2
  rw[e]at ah⊢;simp at ah⊢
  rcases ah with h|h|h
  ·exact absurd h b6
  ·exact .inl h
  ·exact .inr h
 ·rename_i e;rw[if_pos e]
  show j∈q.fresh++q.b2.tail
  cases he:q.b2 with
  |nil=>simp[he]at ht
  |cons x r=>
   simp[he]at ht;subst ht
   rw[e,he]at ah;rw[e];simp at ah⊢
   rcases ah with h|h
   ·exact absurd h b6
   ·exact h
theorem Nu (cp:0<=now) (bC:now<=1125899906842624):∀(n:Nat) (q:az) (d:List bh),q.hQ<n->jW q->xB now q d (takeN now n q d)
 |0,q,d,hm,_=>by omega
 |n+1,q,d,hm,w=>by
  have hq:=w.ok
  cases ht:q.turn with
  |none=>
   have he:q.fresh=[]/\q.b2=[]:=by
    unfold az.turn at ht
    split at ht
    ·cases ht
    ·rename_i e;exact⟨e,List.head?_eq_none_iff.1 ht⟩
   rw[H9 ht]
   have hz:∀j,0<=j->j<16->(q.ad j).l=[]:= λj dI eC=>Classical.byContradiction λhc=>by
    have:=w.busy j dI eC hc
    rw[he.1,he.2]at this;cases this
   exact⟨w,rfl,rfl,rfl,⟨[],by simp,λj dI eC=>rfl,λp hp=>by simp at hp⟩,λ_=>hz⟩
  |some k=>
   obtain⟨av,k1⟩:=hq.b k (rM ht)
   have cS:=(hq.ad av k1).2
   have fk:=hq.FJ av k1
   by_cases hd:(q.ad k).cE<=0
   ·rw[Et ht hd]
    have nk:=cS.d0
    have tA:=hq.aX av k1 (Ea cS (d:=(q.ad k).cE+300) (by omega) (by omega)) (by simp)
    have ox:=(tA.cr).gN (sO tA (k:=k) ht) av k1
    have gp:∀j,0<=j->j<16->((((q.aX k ((q.ad k).e3 ((q.ad k).cE+300))).cr).gN k).ad j).l=(q.ad j).l:= λj dI eC=>by
     show(((q.aX k _).cr).ad j).l=_
     rw[Ms]
     by_cases h:j=k
     ·subst h;rw[mh hq av k1];rfl
     ·rw[yc av dI h]
    have qm:(((q.aX k ((q.ad k).e3 ((q.ad k).cE+300))).cr).gN k).bf=q.bf:=Mu
    have w2:jW (((q.aX k ((q.ad k).e3 ((q.ad k).cE+300))).cr).gN k):=by
     refine⟨ox,λj dI eC hl=>?_,λj dI eC p hp=>?_⟩
     ·rw[gp j dI eC]at hl
      have:=w.busy j dI eC hl
      show j∈((q.aX k _).cr).fresh++(((q.aX k _).cr).b2++[k])
      by_cases h:j=k
      ·subst h;simp
      ·have:=TK (q:=q.aX k ((q.ad k).e3 ((q.ad k).cE+300))) ht this h
       rw[<-List.append_assoc];exact List.mem_append_left _ this
     ·rw[gp j dI eC]at hp;rw[qm];exact w.wp j dI eC p hp
    obtain⟨a,b,al,aP,⟨uv,aK,aG,bd⟩,e⟩:=Nu cp bC n _ d (by have:=DF hq ht hd;omega) w2
    refine⟨a,b.trans qm,al.trans Mv,aP.trans Mt,⟨uv,aK,λj dI eC=>?_,λp hp=>?_⟩,e⟩
    ·rw[<-gp j dI eC,aG j dI eC,qm]
    ·have:=bd p hp;rw[qm]at this
     exact⟨this.1,this.2.1,by rw[<-gp _ this.1 this.2.1];exact this.2.2⟩
   ·have ox:=w.akF av k1 cp bC
    have nU:(q.ad k).l=kE q.tg q.iv now (q.ad k)++(dN q.tg q.iv now (q.ad k)).l:=(List.take_append_drop _ _).symm
    have b6:∀(g:cU) j,0<=j->j<16->j≠k->(q.aX k g).ad j=q.ad j:= λg j dI eC h=>yc av dI h
    have As:=Lo (tg:=q.tg) (iv:=q.iv) cS fk cp bC
    cases ez:qv q.tg q.iv now (q.ad k)with
    |true=>
     obtain⟨p,r,hp⟩:=As.1 ez
     rw[Er ht hd ez hp]
     rw[hp]at nU
     have uM:c1 (q.aX k (((dN q.tg q.iv now (q.ad k)).bG r).e3 ((q.ad k).cE -p.body.length))):=by
      have yu:=xa (tg:=q.tg) (iv:=q.iv) cS fk cp bC
      have yt:=(yu.p p (by rw[hp];simp)).2.2
      have qf:=cS.d1
      refine hq.aX av k1 ⟨yu.c,λx hx=>yu.p x (by rw[hp];simp at hx;simp[hx]),?_,?_⟩ ?_
      ·simp;omega
      ·simp;omega
      ·rw[nU];simp;omega
     refine⟨⟨uM,λj dI eC hl=>?_,λj dI eC x hx=>?_⟩,rfl,rfl,rfl,⟨_,rfl,?_,?_⟩,λh=>by cases h⟩
     ·show j∈q.fresh++q.b2
      by_cases h:j=k
      ·subst h;exact rM ht
      ·rw[b6 _ j dI eC h]at hl;exact w.busy j dI eC hl
     ·show db x.ad q.bf=j
      by_cases h:j=k
      ·subst h;rw[mh hq av k1]at hx
       exact w.wp j dI eC x (by rw[nU];simp at hx;simp[hx])
      ·rw[b6 _ j dI eC h]at hx;exact w.wp j dI eC x hx
     ·refine w.part av k1 ?_ λj dI eC h=>by rw[b6 _ j dI eC h]
      rw[mh hq av k1,nU];simp
     ·intro x hx
      have hm:x∈(q.ad k).l:=by rw[nU];simp at hx;simp;rcases hx with h|h;exact .inl h;exact .inr (.inl h)
      have hb:=w.wp k av k1 x hm
      rw[hb];exact⟨av,k1,hm⟩
    |false=>
     have ld:(dN q.tg q.iv now (q.ad k)).l=[]:=by
      cases hl:(dN q.tg q.iv now (q.ad k)).l with
      |nil=>rfl
      |cons p r=>rw[As.2 ⟨p,r,hl⟩]at ez;cases ez
     rw[ld,List.append_nil]at nU
     have CY:(dN q.tg q.iv now (q.ad k)).cE=(q.ad k).cE:=rfl
     have nS:=DE hq ht hd CY
     have rest:∀q2:az,c1 q2->q2.bf=q.bf->q2.tg=q.tg->q2.iv=q.iv->(∀j,q2.ad j=(q.aX k (dN q.tg q.iv now (q.ad k))).ad j)->(∀j,j∈q.cr.fresh++q.cr.b2->j∈q2.fresh++q2.b2)->q2.hQ<n->
      xB now q d (takeN now n q2 (d++kE q.tg q.iv now (q.ad k))):=by
      intro q2 h1 h2 nq tv h3 h4 aA
      have w2:jW q2:=by
       refine⟨h1,λj dI eC hl=>?_,λj dI eC p hp=>?_⟩
       ·rw[h3]at hl
        by_cases h:j=k
        ·subst h;rw[mh hq av k1]at hl;exact absurd ld hl
        ·rw[b6 _ j dI eC h]at hl
         exact h4 j (TK ht (w.busy j dI eC hl) h)
       ·rw[h3]at hp
        rw[h2]
        by_cases h:j=k
        ·subst h;rw[mh hq av k1,ld]at hp;cases hp
        ·rw[b6 _ j dI eC h]at hp;exact w.wp j dI eC p hp
      obtain⟨a,b,al,aP,⟨uv,aK,aG,bd⟩,e⟩:=Nu cp bC n q2 (d++kE q.tg q.iv now (q.ad k)) aA w2
      refine⟨a,b.trans h2,al.trans nq,aP.trans tv,⟨kE q.tg q.iv now (q.ad k)++uv,by rw[aK,List.append_assoc],λj dI eC=>?_,λp hp=>?_⟩,e⟩
      ·rw[List.append_assoc,afa,List.append_assoc,<-h2,<-aG j dI eC,h3,h2]
       refine w.part av k1 ?_ (λj dI eC h=>by rw[b6 _ j dI eC h]) j dI eC
       rw[mh hq av k1,ld,List.append_nil];exact nU
      ·rw[List.append_assoc]at hp
       rcases List.mem_append.1 hp with hp|hp
       ·have hm:p∈(q.ad k).l:=by rw[nU];exact hp
        have hb:=w.wp k av k1 p hm
        rw[hb];exact⟨av,k1,hm⟩
       ·have:=bd p hp
        rw[h2,h3]at this
        refine⟨this.1,this.2.1,?_⟩
        by_cases h:db p.ad q.bf=k
        ·rw[h,mh hq av k1,ld]at this;cases this.2.2
        ·rw[b6 _ _ this.1 this.2.1 h]at this;exact this.2.2
     by_cases ow:q.fresh≠[]/\q.b2≠[]
     ·rw[H8 ht hd ez ow]
      refine rest _ ((ox.cr).gN (sO ox (k:=k) ht) av k1) Mu Mv Mt (λj=>by show((q.aX k _).cr).ad j=_;rw[Ms]) (λj ah=>?_) (by have:=nS.2 ow.1;omega)
      show j∈((q.aX k _).cr).fresh++(((q.aX k _).cr).b2++[k])
      rw[HR,<-List.append_assoc];exact List.mem_append_left _ ah
     ·rw[Ep ht hd ez ow]
      refine rest _ ox.cr Mu Mv Mt (λj=>Ms j) (λj ah=>?_) (by have:=nS.1;omega)
      rw[HR];exact ah
theorem Bq (cp:0<=now) (bC:now<=1125899906842624) (w:jW q):xB now q [] (q.take now):=Nu cp bC _ q [] (Nat.lt_succ_self _) w
theorem aql (bf tg iv:Int):jW (pC bf tg iv):=by
 have hz:∀k:Int,((pC bf tg iv).ad k).l=[]:= λk=>by
  unfold az.ad pC
  simp only[List.getElem?_replicate]
  split<;>rfl
 exact⟨US _ _ _,λk _ _ h=>absurd (hz k) h,λk _ _ p hp=>by rw[hz]at hp;cases hp⟩
theorem jW.put (w:jW q) (h0:0<=p.at_) (h1:p.at_<=1125899906842624) (hl:p.body.length<=1048576) (hc:q.bB<1048576):
 jW (q.put p)/\((q.put p).ad (db p.ad q.bf)).l=(q.ad (db p.ad q.bf)).l++[p]/\∀j,0<=j->j≠db p.ad q.bf->(q.put p).ad j=q.ad j:=by
 obtain⟨av,k1⟩:=zJ p.ad q.bf
 have eX:=(w.ok.put h0 h1 hl hc).1
 have hs:=ajp q p
 have Rd:((q.put p).ad (db p.ad q.bf)).l=(q.ad (db p.ad q.bf)).l++[p]:=by
  by_cases h:db p.ad q.bf∈q.fresh\/db p.ad q.bf∈q.b2
  ·rw[DW h,mh w.ok av k1];rfl
  ·rw[DX h];show((q.aX _ _).ad _).l=_;rw[mh w.ok av k1];rfl
 have Kc:∀j,0<=j->j≠db p.ad q.bf->(q.put p).ad j=q.ad j:= λj dI ah=>by
  by_cases h:db p.ad q.bf∈q.fresh\/db p.ad q.bf∈q.b2
  ·rw[DW h,yc av dI ah]
  ·rw[DX h];show(q.aX _ _).ad j=_;rw[yc av dI ah]
 have Ts:db p.ad q.bf∈(q.put p).fresh++(q.put p).b2/\∀j,j∈q.fresh++q.b2->j∈(q.put p).fresh++(q.put p).b2:=by
  by_cases h:db p.ad q.bf∈q.fresh\/db p.ad q.bf∈q.b2
  ·rw[DW h];exact⟨by show _∈q.fresh++q.b2;simpa using h,λj ah=>ah⟩
  ·rw[DX h]
   refine⟨?_,λj ah=>?_⟩
   ·show _∈(q.fresh++[_])++q.b2;simp
   ·show j∈(q.fresh++[_])++q.b2
    simp at ah⊢
    rcases ah with h|h
    ·exact .inl h
    ·exact .inr (.inr h)
 refine⟨⟨eX,λj dI eC hl=>?_,λj dI eC x hx=>?_⟩,Rd,Kc⟩
 ·by_cases h:j=db p.ad q.bf
  ·rw[h];exact Ts.1
  ·rw[Kc j dI h]at hl;exact Ts.2 j (w.busy j dI eC hl)
 ·rw[hs]
  by_cases h:j=db p.ad q.bf
  ·subst h;rw[Rd]at hx
   rcases List.mem_append.1 hx with hx|hx
   ·exact w.wp _ dI eC x hx
   ·simp at hx;subst hx;rfl
  ·rw[Kc j dI h]at hx;exact w.wp j dI eC x hx
def lK (f:Nat->Nat):Nat->Nat
 |0=>0
 |n+1=>lK f n+f n
theorem Nh (f g:Nat->Nat):∀n,lK (λj=>f j+g j) n=lK f n+lK g n
 |0=>rfl
 |n+1=>by simp only[lK,Nh f g n];omega
theorem En {f g:Nat->Nat}:∀{n},(∀j,j<n->f j=g j)->lK f n=lK g n
 |0,_=>rfl
 |n+1,h=>by simp only[lK];rw[En λj ah=>h j (by omega),h n (by omega)]
theorem Qk {l:List cU}:∀n,et (l.take n)=lK (λj=>((l[j]?).getD v7).l.length) n
 |0=>rfl
 |n+1=>by
  simp only[lK]
  rw[<-Qk n,List.take_add_one,JI]
  cases l[n]?<;>simp[et,v7]
theorem Fw (hq:c1 q):q.bB=lK (λj=>(q.ad (j:Int)).l.length) 16:=by
 have:=Qk (l:=q.a6) 16
 rw[List.take_of_length_le (by rw[hq.len];omega)]at this
 exact this
theorem aim (n:Nat) (h:n<16):lK (λj=>if n=j then 1 else 0) 16=1:=by
 have:∀n,n<16->lK (λj=>if n=j then 1 else 0) 16=1:=by decide
 exact this n h
theorem SW {s:Int}:∀{l:List bh},(∀p∈l,0<=db p.ad s/\db p.ad s<16)->lK (λj=>(sD s (j:Int) l).length) 16=l.length
 |[],_=>rfl
 |p::r,h=>by
  have b9:=SW (l:=r) λx hx=>h x (by simp[hx])
  obtain⟨h0,h1⟩:=h p (by simp)
  have e:lK (λj=>(sD s (j:Int) (p::r)).length) 16=lK (λj=>(if(db p.ad s).toNat=j then 1 else 0)+(sD s (j:Int) r).length) 16:=by
   apply En
   intro j ah
   unfold sD
   rw[List.filter_cons]
   by_cases hb:db p.ad s=(j:Int)
   ·rw[if_pos (by simpa using hb),if_pos (by omega)];simp;omega
   ·rw[if_neg (by simpa using hb),if_neg (by omega)];simp
  rw[e,Nh,b9,aim _ (by omega)]
  simp;omega
theorem xB.bB {aJ:az×List bh×Option bh} (hq:c1 q) (hl:xB now q [] aJ):q.bB=(aJ.2.1++aJ.2.2.toList).length+aJ.1.bB:=by
 obtain⟨uv,e,h1,h2⟩:=hl.out
 rw[List.nil_append]at e
 rw[Fw hq,Fw hl.w.ok,e,<-SW (s:=q.bf) (λp hp=>⟨(h2 p hp).1,(h2 p hp).2.1⟩),<-Nh]
 apply En
 intro j ah
 rw[h1 (j:Int) (by omega) (by omega),List.length_append]
theorem I2 (hq:c1 q):p∈cc q.a6↔∃k,0<=k/\k<16/\p∈(q.ad k).l:=by
 constructor
 ·intro h
  unfold cc at h
  obtain⟨l,hl,hp⟩:=List.mem_flatten.1 h
  obtain⟨f,hf,rfl⟩:=List.mem_map.1 hl
  obtain⟨j,ah⟩:=List.mem_iff_getElem?.1 hf
  have fv:=(List.getElem?_eq_some_iff.1 ah).1
  rw[hq.len]at fv
  refine⟨(j:Int),by omega,by omega,?_⟩
  have:=Kg hq fv
  rw[ah]at this;cases this;exact hp
 ·rintro⟨k,av,k1,h⟩
  unfold cc
  exact List.mem_flatten.2 ⟨_,List.mem_map.2 ⟨_,List.mem_of_getElem? (hq.ad av k1).1,rfl⟩,h⟩
theorem xB.sub {aJ:az×List bh×Option bh} (hq:c1 q) (hl:xB now q [] aJ):(∀p∈cc aJ.1.a6,p∈cc q.a6)/\∀p∈aJ.2.1++aJ.2.2.toList,p∈cc q.a6:=by
 obtain⟨uv,e,h1,h2⟩:=hl.out
 rw[List.nil_append]at e
 refine⟨λp hp=>?_,λp hp=>?_⟩
 ·obtain⟨k,av,k1,h⟩:=(I2 hl.w.ok).1 hp
  exact(I2 hq).2 ⟨k,av,k1,by rw[h1 k av k1];simp[h]⟩
 ·rw[e]at hp
  have:=h2 p hp
  exact(I2 hq).2 ⟨_,this.1,this.2.1,this.2.2⟩
theorem H7:∀(n:Nat) {q:az} {d:List bh},q.hQ<n->Calm q->(takeN 0 n q d).2.1=d/\Calm (takeN 0 n q d).1
 |0,q,d,hm,_=>by omega
 |n+1,q,d,hm,hc=>by
  have hq:=hc.ok
  cases ht:q.turn with
  |none=>rw[H9 ht];exact⟨rfl,hc⟩
  |some k=>
   obtain⟨av,k1⟩:=hq.b k (rM ht)
   by_cases hd:(q.ad k).cE<=0
   ·obtain⟨h1,h2⟩:=hc.over ht hd
    rw[alD ht hd]
    exact H7 n (by omega) h1
   ·obtain⟨h1,h2,h3⟩:=UF (iv:=q.iv) (hc.ad av k1) hc.tg
    cases hl:(q.ad k).l with
    |cons p r=>
     rw[alE hc ht (by omega) hl]
     exact⟨rfl,hc.xn av k1 (by omega) hl⟩
    |nil=>
     have ez:qv q.tg q.iv 0 (q.ad k)=false:=by rw[h3,hl];simp
     have nS:=DE (g:=q.ad k) hq ht hd rfl
     have mn:Calm (q.aX k (q.ad k)):=hc.aX av k1 (hc.ad av k1) (hq.ad av k1).2 (Nat.le_refl _)
     by_cases ow:q.fresh≠[]/\q.b2≠[]
     ·rw[H8 ht hd ez ow,h1,h2,List.append_nil]
      exact H7 n (by have:=nS.2 ow.1;omega) (mn.lists ((mn.ok.cr).gN (sO mn.ok (k:=k) ht) av k1) (by unfold az.gN az.cr;split<;>rfl) (by unfold az.gN az.cr;split<;>rfl))
     ·rw[Ep ht hd ez ow,h1,h2,List.append_nil]
      exact H7 n (by have:=nS.1;omega) (mn.lists mn.ok.cr (by unfold az.cr;split<;>rfl) (by unfold az.cr;split<;>rfl))
theorem Calm.take (hc:Calm q) (w:jW q) (hn:0<q.bB):∃q' p,q.take 0=(q',[],some p)/\Calm q'/\jW q'/\q'.bB+1=q.bB/\p∈cc q.a6/\∀x∈cc q'.a6,x∈cc q.a6:=by
 have h1:=Bq (now:=0) (by decide) (by decide) w
 obtain⟨h2,h3⟩:=H7 (q.hQ+1) (d:=[]) (Nat.lt_succ_self _) hc
 have h4:=h1.bB w.ok
 obtain⟨aA,aU⟩:=h1.sub w.ok
 have bW:=h1.none
 have bJ:=h1.w
 unfold az.take at*
 generalize takeN 0 (q.hQ+1) q []=aJ at*
 obtain⟨q',d,r⟩:=aJ
 dsimp only at*
 subst h2
 cases r with
 |none=>
  have:q'.bB=0:=by
   rw[Fw bJ.ok]
   have:lK (λj=>(q'.ad (j:Int)).l.length) 16=lK (λ_=>0) 16:=En λj ah=>by rw[bW rfl (j:Int) (by omega) (by omega)];rfl
   rw[this];decide
  simp at h4;omega
 |some p=>exact⟨q',p,rfl,h3,bJ,by simp at h4;omega,aU p (by simp),aA⟩
end
end Go.Proofs.YtjlkfjnfnonekaaGreatDoor.Pl
