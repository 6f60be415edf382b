import Derived.Test.YtjlkfjnfnonekaaGreatDoorM46
set_option linter.all false
set_option maxRecDepth 8000
namespace Go.Proofs.YtjlkfjnfnonekaaGreatDoor
open Go.Vc
def pX:jT:=⟨gP,0,40,8000,50000,1000000,1,2,1073741824,20000,[0,0,0,0],100000,200000⟩
def lG:dk:=⟨xU 1 2 1073741824,0,false,false,false⟩
def xm:List jb:=⟨true,jt 0,1⟩::⟨true,jt 1,1⟩::List.replicate 14 w3
def powC:List hr:=HC 0::HC 0::List.replicate 14 pB
def gQ (t:Int) (on:Bool):dm:=some ⟨1,t,on⟩::some ⟨1,0,false⟩::List.replicate 14 none
def rh (z:Int):eR:=⟨100000,200000,z::List.replicate 15 0⟩
structure oc where
 now:Int
 book:fZ
 bK:Pl.bL
 t:Int
 on:Bool
 g:Int
 y:dk
 A:Int
 r:bo
 num:Int
def mc (tid ac:Nat) (q:oc):ba:=⟨q.r,0,(List.replicate 8 lG).set tid q.y,(List.replicate 4 (0:Int)).set ac q.A⟩
def bA (tid ac:Nat) (q:oc) (z:Int) (w:List bR):ab:=
 ⟨pX,q.now,xm,powC,q.book,q.bK,rh z,(List.replicate 4 (gQ 0 false)).set ac (gQ q.t q.on),(List.replicate 4 la).set ac ⟨false,0,q.g⟩,some (mc tid ac q)::some ⟨oK,0,List.replicate 8 lG,List.replicate 4 0⟩::List.replicate 14 none,q.num,w⟩
structure jI (y:dk) (n k:Nat) (T:Int):Prop where
 li:iL pX y
 u:y.under=false
 e:y.ends=false
 a:y.s.asks=false
 st:y.s.st=1
 ca:y.s.l.length<=1
 f:∀f∈y.s.l,f.a6=false/\f.m.cZ<=k/\T<=f.m.vr/\f.m.p.body=List.replicate n 0
section
variable{x:ab} {y:dk} {q:oc} {tid ac n k m t:Nat} {T z now aid:Int} {w:List bR} {p:bh} {b:fZ} {s:ba}
theorem als (n:eG x) (h1:lq x.now (x.aT aid t)=x.aT aid t) (h2:∀b,nD x.now (x.aT aid t) b=b) (ht:t<8):x.l4 aid t=x:=by
 unfold ab.l4 ab.de
 split
 ·rfl
 ·rw[h1,h2]
  cases hs:x.of aid with
  |none=>unfold ab.aW;rw[hs];rfl
  |some s=>
   rw[ab.lJ hs,ab.hj hs,ba.vm (by rw[(n.lens hs).1];exact ht),ab.vm n.st hs];rfl
theorem Nn (h:∀t,t<8->x.l4 aid t=x):∀k,k<=8->x.kQ aid k=x
 |0,_=>rfl
 |k+1,I=>by rw[ab.kQ,Nn h k (by omega),h k (by omega)]
theorem alw (h:∀f∈y.s.l,kJ y.s.cY now f=false) (he:y.ends=false):lq now y=y/\∀b,nD now y b=b:=by
 have af:y.s.l.filter (kJ y.s.cY now)=[]:=List.filter_eq_nil_iff.2 λf hf=>by rw[h f hf];decide
 have ag:(y.s.l.filter λf=>!kJ y.s.cY now f)=y.s.l:=List.filter_eq_self.2 λf hf=>by rw[h f hf];rfl
 have aI:y.s.de now=y.s:=by
  unfold aS.de aS.jE aS.gone aS.take
  rw[af,ag,if_neg (by simp)];rfl
 refine⟨?_,λb=>?_⟩
 ·unfold lq
  rw[aI,if_neg (by rw[he];simp)];rfl
 ·unfold nD aS.jE aS.oa aS.gone
  rw[af];rfl
theorem jI.H4 (c:jI y n k T) (I:k<=2) (hn:now<=T):lq now y=y/\∀b,nD now y b=b:=by
 refine alw (λf hf=>?_) c.e
 obtain⟨h1,h2,h3,-⟩:=c.f f hf
 have U:y.s.cY=2:=c.li.r.1
 unfold kJ qQ
 rw[U,if_neg (by rw[h1];decide),if_neg (by omega),if_neg (by omega)];rfl
theorem GP:jI lG n k T:=
 ⟨⟨dB.new ⟨by decide,by decide⟩ ⟨by decide,by decide⟩,⟨rfl,rfl,rfl⟩,⟨by decide,by decide⟩,λ_=>⟨by decide,λf hf=>(by cases hf)⟩,λf hf=>(by cases hf),λh=>(by cases h), .inl rfl⟩,rfl,rfl,rfl,rfl,by decide,λf hf=>(by cases hf)⟩
theorem se:(bA tid ac q z w).of 1=some (mc tid ac q):=rfl
theorem JF:(bA tid ac q z w).of 2=some ⟨oK,0,List.replicate 8 lG,List.replicate 4 0⟩:=rfl
theorem B9 (ht:tid<8) (h:t<8):(mc tid ac q).l.getD t ak=if t=tid then q.y else lG:=by
 unfold mc
 rw[fg (by rw[List.length_replicate];exact ht)]
 split
 ·rfl
 ·rw[List.getD_eq_getElem?_getD,List.getElem?_replicate,if_pos h];rfl
theorem HK (h:t<8):(List.replicate 8 lG).getD t ak=lG:=by
 rw[List.getD_eq_getElem?_getD,List.getElem?_replicate,if_pos h];rfl
theorem Na {l:List (Option ba)} {a b:ba} (e:l=some a::some b::List.replicate 14 none) (h:l.getD k none=some s):(k=0/\s=a)\/(k=1/\s=b):=by
 subst e
 match k,h with
 |0,h=>cases h;exact .inl ⟨rfl,rfl⟩
 |1,h=>cases h;exact .inr ⟨rfl,rfl⟩
 |k+2,h=>
  replace h:(List.replicate 14 (none:Option ba)).getD k none=some s:=h
  rw[List.getD_eq_getElem?_getD,List.getElem?_replicate]at h
  split at h<;>cases h
theorem JE (qc:ac<4):eG (bA tid ac q z w):=by
 refine⟨rfl,by show(List.set _ _ _).length=4;rw[List.length_set];rfl,λk s I=>?_,rfl,rfl⟩
 rcases Na rfl I with⟨-,rfl⟩|⟨-,rfl⟩
 ·exact⟨by show(List.set _ _ _).length=8;rw[List.length_set];rfl,by show(List.set _ _ _).length=4;rw[List.length_set];rfl⟩
 ·exact⟨rfl,rfl⟩
theorem H6:cc xm 0=[1,2]:=rfl
theorem ZK (qc:ac<4) (ht:tid<8) (c:jI q.y n k T) (I:k<=2) (hn:now<=T):(bA tid ac q z w).looks now=bA tid ac {q with now:=now} z w:=by
 have dW:(bA tid ac q z w).c6 now=bA tid ac {q with now:=now} z w:=rfl
 have key:∀a,a=1\/a=2->∀t,t<8->(bA tid ac {q with now:=now} z w).l4 a t=bA tid ac {q with now:=now} z w:= λa ha t nq=>by
  have hl:lq now ((bA tid ac {q with now:=now} z w).aT a t)=(bA tid ac {q with now:=now} z w).aT a t/\∀b,nD now ((bA tid ac {q with now:=now} z w).aT a t) b=b:=by
   rcases ha with rfl|rfl
   ·rw[ab.hj se,B9 ht nq]
    split
    ·exact c.H4 I hn
    ·exact(GP (n:=n) (k:=k) (T:=T)).H4 I hn
   ·rw[ab.hj JF]
    show lq now ((List.replicate 8 lG).getD t ak)=(List.replicate 8 lG).getD t ak/\_
    rw[HK nq]
    exact(GP (n:=n) (k:=k) (T:=T)).H4 I hn
  exact als (JE qc) hl.1 hl.2 nq
 unfold ab.looks
 have af:(bA tid ac q z w).dh=xm:=rfl
 rw[dW,af,H6]
 unfold ab.lL
 simp only[List.foldl]
 rw[show(bA tid ac {q with now:=now} z w).kQ 1 8=_ from Nn (key 1 (.inl rfl)) 8 (Nat.le_refl _),Nn (key 2 (.inr rfl)) 8 (Nat.le_refl _)]
theorem aiX {a:Int} (ht:tid<8) (bJ:t<8) (ha:a=1\/a=2) (b6:¬(a=1/\t=tid)):Pl.dJ a t≠Pl.dJ 1 tid:=by
 unfold Pl.dJ
 rcases ha with rfl|rfl<;>omega
theorem RM {a:Int} (hp:Pl.ho q.bK (Pl.dJ 1 tid) n m) (ht:tid<8) (bJ:t<8) (ha:a=1\/a=2) (b6:¬(a=1/\t=tid)):(bA tid ac q z w).wj a t=false:=by
 unfold ab.wj
 show(Pl.iY a t&&decide (0<(q.bK.b7 (Pl.dJ a t)).bB))=false
 rw[hp.n0 (Pl.dJ a t) (by unfold Pl.dJ;rcases ha with rfl|rfl<;>omega) (aiX ht bJ ha b6)]
 simp
theorem Qz (c:jI y n k T):y.s.due.length=y.s.l.length:=by
 unfold aS.due
 rw[List.length_map,List.filter_eq_self.2 λf hf=>by unfold Dq;rw[(c.f f hf).1];rfl]
theorem Tw {a:Int} (h:(bA tid ac q z w).wj a t=false):(bA tid ac q z w).vj a t lG=false:=by
 unfold ab.vj;rw[h];rfl
theorem ajN (hp:Pl.ho q.bK (Pl.dJ 1 tid) n m) (c:jI q.y n k T) (gW:q.y.s.l≠[]\/0<m) (ht:tid<8) (bJ:t<8):(bA tid ac q z w).ready 1 t=decide (t=tid):=by
 unfold ab.ready
 rw[se]
 show(bA tid ac q z w).vj 1 t ((mc tid ac q).l.getD (t:Int).toNat ak)=_
 rw[Int.toNat_natCast,B9 ht bJ]
 by_cases e:t=tid
 ·subst e
  rw[if_pos rfl,decide_eq_true rfl]
  unfold ab.vj
  rw[c.u,c.a,Qz c]
  by_cases hl:q.y.s.l=[]
  ·have hm:0<m:=gW.resolve_left (λh=>h hl)
   have:(bA t ac q z w).wj 1 t=true:=by
    unfold ab.wj
    show(Pl.iY 1 t&&decide (0<(q.bK.b7 (Pl.dJ 1 t)).bB))=true
    rw[hp.rj,decide_eq_true hm,Pl.vp.2 ⟨by decide,by decide,by omega,by omega⟩];rfl
   rw[this,c.st];simp
  ·have:decide (q.y.s.l.length≠0)=true:=decide_eq_true λh=>hl (List.length_eq_zero_iff.1 h)
   rw[this];rfl
 ·rw[if_neg e,decide_eq_false e]
  exact Tw (RM hp ht bJ (.inl rfl) λh=>e h.2)
theorem ajO (hp:Pl.ho q.bK (Pl.dJ 1 tid) n m) (ht:tid<8) (bJ:t<8):(bA tid ac q z w).ready 2 t=false:=by
 unfold ab.ready
 rw[JF]
 show(bA tid ac q z w).vj 2 t ((List.replicate 8 lG).getD (t:Int).toNat ak)=_
 rw[Int.toNat_natCast,HK bJ]
 exact Tw (RM hp ht bJ (.inr rfl) λh=>by omega)
theorem V4 {a:Int} (h:a∈lr):∃t:Nat,a=t/\t<8:=by
 have:0<=a/\a<8:=by
  unfold lr at h;simp at h;omega
 exact⟨a.toNat,by omega,by omega⟩
theorem U1 {c:Int} (hp:Pl.ho q.bK (Pl.dJ 1 tid) n m) (hy:jI q.y n k T) (gW:q.y.s.l≠[]\/0<m) (ht:tid<8):(bA tid ac q z w).readies 1 c=if fA tid=c then[(tid:Int)]else[]:=by
 unfold ab.readies
 rw[List.filter_congr (q:= λa=>decide (fA a=c)&&decide (a=(tid:Int))) λa ha=>by
  obtain⟨t,rfl,bJ⟩:=V4 ha
  rw[ajN hp hy gW ht bJ]
  congr 1
  exact decide_eq_decide.2 ⟨λh=>by rw[h],λh=>by omega⟩]
 have:tid=0\/tid=1\/tid=2\/tid=3\/tid=4\/tid=5\/tid=6\/tid=7:=by omega
 rcases this with rfl|rfl|rfl|rfl|rfl|rfl|rfl|rfl<;>(split<;>rename_i h<;>simp at h<;>simp[lr,List.filter,h])
theorem ajL {c:Int} (hp:Pl.ho q.bK (Pl.dJ 1 tid) n m) (ht:tid<8):(bA tid ac q z w).readies 2 c=[]:=by
 unfold ab.readies
 refine List.filter_eq_nil_iff.2 λa ha=>?_
 obtain⟨t,rfl,bJ⟩:=V4 ha
 rw[ajO hp ht bJ];simp
theorem agL {c:Nat} (hc:c<4):px powC 1 c=true:=by
 have:c=0\/c=1\/c=2\/c=3:=by omega
 rcases this with rfl|rfl|rfl|rfl<;>rfl
theorem WA {c:Nat} (hc:c<4) (hp:Pl.ho q.bK (Pl.dJ 1 tid) n m) (hy:jI q.y n k T) (gW:q.y.s.l≠[]\/0<m) (ht:tid<8):(bA tid ac q z w).wants c 1=decide (fA tid=(c:Int)):=by
 unfold ab.wants
 show(px powC 1 c&&_)=_
 rw[agL hc,U1 hp hy gW ht]
 by_cases h:fA tid=(c:Int)
 ·rw[if_pos h,decide_eq_true h];rfl
 ·rw[if_neg h,decide_eq_false h];rfl
theorem WB {c:Int} (hp:Pl.ho q.bK (Pl.dJ 1 tid) n m) (ht:tid<8):(bA tid ac q z w).wants c 2=false:=by
 unfold ab.wants
 rw[ajL hp ht];simp
theorem T4 {c:Nat} (hc:c<4) (hp:Pl.ho q.bK (Pl.dJ 1 tid) n m) (hy:jI q.y n k T) (gW:q.y.s.l≠[]\/0<m) (ht:tid<8):(bA tid ac q z w).nA c=if fA tid=(c:Int)then[1]else[]:=by
 unfold ab.nA
 have af:(bA tid ac q z w).dh=xm:=rfl
 rw[af,H6]
 simp only[List.filter,WA hc hp hy gW ht,WB hp ht]
 by_cases h:fA tid=(c:Int)
 ·rw[if_pos h,decide_eq_true h]
 ·rw[if_neg h,decide_eq_false h]
theorem af7 (hz:z=0):(rh z).may 1=true:=by subst hz;rfl
theorem aix {c:Nat} (hc:c<4) (hz:z=0) (hp:Pl.ho q.bK (Pl.dJ 1 tid) n m) (hy:jI q.y n k T) (gW:q.y.s.l≠[]\/0<m) (ht:tid<8):(bA tid ac q z w).vb c=decide (fA tid=(c:Int)):=by
 unfold ab.vb
 rw[T4 hc hp hy gW ht]
 by_cases h:fA tid=(c:Int)
 ·rw[if_pos h,decide_eq_true h];show((rh z).may 1||false)=true;rw[af7 hz];rfl
 ·rw[if_neg h,decide_eq_false h];rfl
theorem zP (ht:tid<8) (ha:fA tid=ac):ac<4:=by
 have:tid=0\/tid=1\/tid=2\/tid=3\/tid=4\/tid=5\/tid=6\/tid=7:=by omega
 rcases this with rfl|rfl|rfl|rfl|rfl|rfl|rfl|rfl<;>(have:(ac:Int)<=3:=by rw[<-ha];decide)<;>omega
theorem aiB (hz:z=0) (hp:Pl.ho q.bK (Pl.dJ 1 tid) n m) (hy:jI q.y n k T) (gW:q.y.s.l≠[]\/0<m) (ht:tid<8) (ha:fA tid=ac):(bA tid ac q z w).outs=(List.replicate 4 false).set ac true:=by
 unfold ab.outs
 have e:∀c:Nat,c<4->(bA tid ac q z w).vb c=decide (ac=c):= λc hc=>by
  rw[aix hc hz hp hy gW ht,ha];exact decide_eq_decide.2 ⟨λh=>by omega,λh=>by omega⟩
 have h4:=zP ht ha
 rw[show(0:Int)=(0:Nat)from rfl,show(1:Int)=(1:Nat)from rfl,show(2:Int)=(2:Nat)from rfl,show(3:Int)=(3:Nat)from rfl,e 0 (by decide),e 1 (by decide),e 2 (by decide),e 3 (by decide)]
 have:ac=0\/ac=1\/ac=2\/ac=3:=by omega
 rcases this with h|h|h|h<;>rw[h]<;>rfl
theorem aaC (k g:Int):rk k 0 ⟨false,0,g⟩=⟨true,0,g⟩:=by unfold rk;simp
theorem aa2 (qc:ac<4) (g:Int):gd ((List.replicate 4 false).set ac true) [0,0,0,0] ((List.replicate 4 la).set ac ⟨false,0,g⟩)=((List.replicate 4 la).set ac ⟨false,0,g⟩,(ac:Int),lb ac,true):=by
 have:ac=0\/ac=1\/ac=2\/ac=3:=by omega
 rcases this with rfl|rfl|rfl|rfl<;>simp[gd,dG,ng,kh,aaC,tQ,lb,B2]
theorem Xm {c:Nat} (hc:c<4) (hp:Pl.ho q.bK (Pl.dJ 1 tid) n m) (hy:jI q.y n k T) (gW:q.y.s.l≠[]\/0<m) (ht:tid<8) (ha:fA tid=ac) (t:Int) (on:Bool):(bA tid ac q z w).xJ c (gQ t on)=if ac=c then gQ t true else gQ t false:=by
 unfold ab.xJ
 have af:(bA tid ac q z w).dh=xm:=rfl
 rw[T4 hc hp hy gW ht,af,H6]
 simp only[List.foldl,WA hc hp hy gW ht,WB hp ht,ha]
 by_cases h:ac=c
 ·subst h
  rw[if_pos (rfl:(ac:Int)=ac),if_pos (rfl:ac=ac),decide_eq_true (rfl:(ac:Int)=ac)]
  cases on<;>rfl
 ·have h':¬(ac:Int)=c:= λe=>h (by omega)
  rw[if_neg h,decide_eq_false h',if_neg h']
  cases on<;>rfl
theorem Xp (hp:Pl.ho q.bK (Pl.dJ 1 tid) n m) (hy:jI q.y n k T) (gW:q.y.s.l≠[]\/0<m) (ht:tid<8) (ha:fA tid=ac):(bA tid ac q z w).oY=bA tid ac {q with on:=true} z w:=by
 have h4:=zP ht ha
 have e:∀(c:Nat) (t:Int) (on:Bool),c<4->(bA tid ac q z w).xJ c (gQ t on)=if ac=c then gQ t true else gQ t false:= λc t on hc=>Xm hc hp hy gW ht ha t on
 unfold ab.oY
 have ag:(bA tid ac q z w).fe 4=(List.replicate 4 (gQ 0 false)).set ac (gQ q.t true):=by
  simp only[ab.fe]
  have:ac=0\/ac=1\/ac=2\/ac=3:=by omega
  have t0:(bA tid ac q z w).bc=(List.replicate 4 (gQ 0 false)).set ac (gQ q.t q.on):=rfl
  rw[t0]
  rcases this with h|h|h|h<;>rw[h]at e⊢ <;>simp[List.replicate,List.set,List.getD]<;>exact⟨e 0 _ _ (by decide),e 1 _ _ (by decide),e 2 _ _ (by decide),e 3 _ _ (by decide)⟩
 rw[ag];rfl
theorem ais (t:Int):rJ (gQ t true)=[1]:=rfl
end
end Go.Proofs.YtjlkfjnfnonekaaGreatDoor
set_option maxRecDepth 8000
namespace Go.Proofs.YtjlkfjnfnonekaaGreatDoor
open Go.Vc
structure vF (y:dk) (n k:Nat) (T:Int):Prop where
 b:dB y.s
 r:y.s.cY=2/\y.s.size=1/\y.s.fG=1073741824
 v:0<=y.dy/\y.dy<=2
 e:y.ends=false
 a:y.s.asks=false
 st:y.s.st=1
 ca:y.s.l.length<=1
 f:∀f∈y.s.l,f.m.cZ<=k/\T<=f.m.vr/\f.m.p.body=List.replicate n 0
structure Iz (q q':oc) (tid n m k:Nat) (T:Int) (f:cq):Prop where
 now:q'.now=q.now
 t:q'.t=q.t
 on:q'.on=q.on
 g:q'.g=q.g
 A:q'.A=q.A
 r:q'.r=q.r
 num:q'.num=q.num
 bk:q'.book.length=q.book.length
 y:vF q'.y n k T
 u:q'.y.under=false
 a6:∀f∈q'.y.s.l,f.a6=false
 bK:∃ax,ax<=m/\Pl.ho q'.bK (Pl.dJ 1 tid) n ax
 sq:(0<=f.sq/\f.sq<4096)/\cC q.y.s.w.st f.sq<q.y.s.w.sz
 nb:f.p.body=List.replicate n 0
section
variable{x:ab} {y:dk} {q q':oc} {tid ac n k m t:Nat} {T z now aid slots:Int} {w:List bR} {p:bh} {b:fZ} {s:ba} {r:bo} {f:cq} {u:bR} {bs:List Int}
theorem jI.alZ (c:jI y n k T) (hv:y.dy<=2):vF y n k T:=⟨c.li.b,c.li.r,⟨c.li.v.1,hv⟩,c.e,c.a,c.st,c.ca,λf hf=>⟨(c.f f hf).2.1,(c.f f hf).2.2.1,(c.f f hf).2.2.2⟩⟩
theorem JD (ht:tid<8):(mc tid ac q).aT (tid:Int)=q.y:=by
 unfold ba.aT
 rw[Int.toNat_natCast,B9 ht ht,if_pos rfl]
theorem vS (ht:tid<8):(bA tid ac q z w).aT 1 tid=q.y:=by
 unfold ab.aT
 rw[se];exact JD ht
theorem zR (fy:dk):(bA tid ac q z w).aW 1 tid fy=bA tid ac {q with y:=fy} z w:=by
 unfold ab.aW
 rw[se]
 show(bA tid ac q z w).bw 1 (some ((mc tid ac q).aW tid fy))=_
 have e:(mc tid ac q).aW tid fy=mc tid ac {q with y:=fy}:=by
  unfold ba.aW mc
  simp only[Int.toNat_natCast,List.set_set]
 rw[e];rfl
theorem UC (qc:ac<4) (more:Bool):pz powC 1 ac more=(powC,false):=by
 have:ac=0\/ac=1\/ac=2\/ac=3:=by omega
 rcases this with rfl|rfl|rfl|rfl<;>rfl
theorem Is {n:Nat}:∀z∈List.replicate n (0:Int),0<=z/\z<256:= λz hz=>by rw[List.eq_of_mem_replicate hz];decide
theorem ZR (hp:Pl.ho q.bK (Pl.dJ 1 tid) n m) (hy:jI q.y n k 1073741824) (hv:q.y.dy<=2) (gW:q.y.s.l≠[]\/0<m) (ht:tid<8) (hn:n<=199) (hN:0<=q.now/\q.now<=1000000000) {ticks:Int}:
 ∃q' f,(bA tid ac q z w).choose r 1 tid ticks true=(bA tid ac q' z w,[f],false)/\Iz q q' tid n m k 1073741824 f:=by
 have uN:Pl.dJ 1 (tid:Int)<128:=by unfold Pl.dJ;omega
 have hb:=hy.li.b
 unfold ab.choose
 rw[vS ht,Qz hy]
 cases hl:q.y.s.l with
 |nil=>
  have hm:=gW.resolve_left λh=>h hl
  obtain⟨ax,rfl⟩:∃ax,m=ax+1:=⟨m -1,by omega⟩
  obtain⟨kX,p,e,c,hC⟩:=hp.take (now:=q.now) uN hN.1 (by omega)
  have uz:(bA tid ac q z w).bK.gy 1 tid (bA tid ac q z w).now=(kX,[],some p):=by
   unfold Pl.bL.gy
   rw[if_pos (Pl.vp.2 ⟨by decide,by decide,by omega,by omega⟩)];exact e
  have aw:q.y.s.w.out=[]:=by rw[hb.l,hl];rfl
  have ih:=hb.w.e aw
  have hz:=hb.w.z
  have hd:cC q.y.s.w.st q.y.s.w.dD=0:=by rw[ih];unfold cC;omega
  have mu:q.y.s.w.room≠0:=by unfold eV.room;rw[hd];omega
  have yu:q4 p:=⟨by rw[hC,List.length_replicate];omega,by rw[hC];exact Is⟩
  have acH:=hb.fresh (now:=q.now) mu yu
  rw[if_pos (by rfl),yd (by rw[uz])]
  refine⟨{q with bK:=kX,book:=ma q.book p.id 2,y:=q.y.dE (q.y.s.fresh p q.now)},q.y.s.o9 p q.now,?_,rfl,rfl,rfl,rfl,rfl,rfl,rfl,Jp,?_,hy.u,?_,⟨ax,by omega,c⟩,⟨hb.w.n,by show cC _ q.y.s.w.dD<_;rw[hd];omega⟩,hC⟩
  ·have af:(bA tid ac q z w).take 1 tid=bA tid ac {q with bK:=kX} z w:=by
    unfold ab.take;rw[uz];rfl
   have ag:((bA tid ac q z w).take 1 tid).sk 1 tid p=bA tid ac {q with bK:=kX,book:=ma q.book p.id 2,y:=q.y.dE (q.y.s.fresh p q.now)} z w:=by
    rw[af];unfold ab.sk;rw[vS ht,zR];rfl
   show ab.jZ (((bA tid ac q z w).take 1 tid).sk 1 tid p) _ _ _ _ _ _=_
   rw[ag,vS ht];rfl
  ·refine⟨acH,hy.li.r,⟨hy.li.v.1,hv⟩,hy.e,hy.a,hy.st,?_,λf hf=>?_⟩
   ·show(q.y.s.l++[_]).length<=1;rw[hl];exact Nat.le_refl 1
   ·replace hf:f∈q.y.s.l++[⟨q.y.s.o9 p q.now,false⟩]:=hf
    rw[hl]at hf;simp at hf;subst hf
    have:q.y.s.fG=1073741824:=hy.li.r.2.2
    exact⟨by show(0:Int)<=k;omega,by show 1073741824<=q.now+q.y.s.fG;omega,hC⟩
  ·intro f hf
   replace hf:f∈q.y.s.l++[⟨q.y.s.o9 p q.now,false⟩]:=hf
   rw[hl]at hf;simp at hf;subst hf;rfl
 |cons fr l=>
  have h1:=hy.ca
  rw[hl]at h1
  have ld:l=[]:=by simpa using h1
  subst ld
  obtain⟨g1,g2,g3,g4⟩:=hy.f fr (by rw[hl];simp)
  have aw:q.y.s.w.out=[fr.m.sq]:=by rw[hb.l,hl];rfl
  have ih:=hb.w.h _ _ aw
  have acJ:=(hb.w.b fr.m.sq (by rw[aw];simp)).1
  have hz:=hb.w.z
  have hd:cC q.y.s.w.st fr.m.sq=0:=by rw[ih];unfold cC;omega
  have ss:q.y.s.due=[fr.m]:=by unfold aS.due;rw[hl];simp[Dq,g1]
  rw[if_neg (by simp),ss]
  exact⟨q,fr.m,rfl,rfl,rfl,rfl,rfl,rfl,rfl,rfl,rfl,hy.alZ hv,hy.u,λf hf=>(hy.f f hf).1,⟨m,Nat.le_refl _,hp⟩,⟨acJ,by rw[hd];omega⟩,g4⟩
def sn (u:bR) (more:Bool) (f:cq):bQ:=⟨u.to,u.bss,u.bss,u.tid,f.sq,decide (0<f.cZ),more,false,f.p.body⟩
def oP (tid ac:Nat) (q:oc) (y:dk) (bs:List Int):bR:=⟨0,1,tid,ac,1,1,false,bs,0,0,0,gP,jt 0,q.r,y.s.w.st,y.s.w.sz,20000,54840,decide (y.s.st=3)⟩
theorem aao (h4:ac<4) (ht:tid<8) (h1:u.aid=1) (h2:u.tid=tid) (h3:u.ac=ac) (e:(bA tid ac q z w).choose r 1 tid u.ticks true=(bA tid ac q' z w,[f],false)):
 (bA tid ac q z w).data r u true=(bA tid ac {q' with y:=q'.y.dE (q'.y.s.hG [f.sq])} z w,some {u with kind:=1,bB:=1,agg:=false,r:=r,cO:=gg (sn u ((bA tid ac q' z w).has 1 tid 1) f)}):=by
 have af:∀b,(bA tid ac q' z w).cZ 1 ac b=bA tid ac q' z w:= λb=>by
  unfold ab.cZ
  rw[show(bA tid ac q' z w).pow=powC from rfl,UC h4];rfl
 have ed:(bA tid ac q' z w).mf r u [f] false=(bA tid ac {q' with y:=q'.y.dE (q'.y.s.hG [f.sq])} z w,{u with kind:=1,bB:=1,agg:=false,r:=r,cO:=gg (sn u ((bA tid ac q' z w).has 1 tid 1) f)}):=by
  unfold ab.mf
  rw[h1,h2,h3,show(bA tid ac q' z w).pow=powC from rfl,UC h4,af]
  unfold ab.hG
  rw[vS ht,zR]
  simp[ko,rm,sn,l3,h2]
 unfold ab.data
 rw[h1,h2,e,if_neg (by simp)]
 dsimp only
 rw[ed]
 simp[h1,h2]
theorem agF (hp:Pl.ho q.bK (Pl.dJ 1 tid) n m) (hy:jI q.y n k 1073741824) (hv:q.y.dy<=2) (gW:q.y.s.l≠[]\/0<m) (ht:tid<8) (hn:n<=199) (hN:0<=q.now/\q.now<=1000000000) (ha:fA tid=ac):
 ∃q' f more,Iz q q' tid n m k 1073741824 f/\(bA tid ac q z w).make 1 tid=(bA tid ac {q' with y:=q'.y.dE (q'.y.s.hG [f.sq])} z w,some (oP tid ac q q.y (gg (sn (oP tid ac q q.y []) more f)))):=by
 have h4:=zP ht ha
 have wG:(bA tid ac q z w).Bu ac=54840:=by
  unfold ab.Bu
  have:ac=0\/ac=1\/ac=2\/ac=3:=by omega
  rcases this with h|h|h|h<;>rw[h]<;>rfl
 have hu:(bA tid ac q z w).mO 1 tid q.y={oP tid ac q q.y []with kind:=0,r:=oK}:=by
  unfold ab.mO;rw[ha,wG];rfl
 obtain⟨q',f,e,c⟩:=ZR (z:=z) (w:=w) (ac:=ac) (r:=q.r) (ticks:=54840) hp hy hv gW ht hn hN
 refine⟨q',f,(bA tid ac q' z w).has 1 tid 1,c,?_⟩
 unfold ab.make
 rw[se]
 dsimp only
 rw[JD ht,hy.a,if_neg (by decide),if_neg (λh=>absurd h.2.2.1 (by show¬(1:Int)<1;decide)),hu,hy.st]
 have:=aao (u:={oP tid ac q q.y []with kind:=0,r:=oK}) h4 ht rfl rfl rfl e
 exact this
theorem ZH (h0:0<=z/\z<=1099511627776):(rh 0).add 1 z=rh z:=by
 unfold eR.add
 rw[if_pos ⟨rfl,decide_eq_true h0⟩]
 show(⟨100000,200000,(0+z)::List.replicate 15 0⟩:eR)=_
 rw[Int.zero_add];rfl
theorem ZI (h0:0<=z/\z<=1099511627776):(rh z).sub 1 z=rh 0:=by
 unfold eR.sub
 rw[if_pos ⟨rfl,decide_eq_true h0,by show¬z<z;omega⟩]
 show(⟨100000,200000,(z -z)::List.replicate 15 0⟩:eR)=_
 rw[Int.sub_self];rfl
theorem afY (ht:tid<8) (h4:ac<4) (h1:u.aid=1) (h2:u.tid=tid) (h3:u.ac=ac) (hz:0<=(u.r.total u.cO.length)/\u.r.total u.cO.length<=1099511627776):
 (bA tid ac q 0 []).nv u slots=(bA tid ac {q with y:=q.y.gx true,A:=q.A+u.r.total u.cO.length,t:=td ⟨1,q.t,q.on⟩ (u.r.total u.cO.length),num:=q.num+1} (u.r.total u.cO.length) [u.fin (q.num+1) slots],u.fin (q.num+1) slots):=by
 unfold ab.nv ab.tG
 have dW:(bA tid ac q 0 []).num=q.num:=rfl
 rw[dW]
 obtain⟨v,hv⟩:∃v,v=u.fin (q.num+1) slots:=⟨_,rfl⟩
 have v1:v.aid=1/\v.tid=tid/\v.ac=ac/\v.air=u.r.total u.cO.length/\v.num=q.num+1:=by rw[hv];exact⟨h1,h2,h3,rfl,rfl⟩
 rw[<-hv]
 obtain⟨al,aP,bx,dO,fh⟩:=v1
 rw[<-dO]at hz⊢
 have af:(bA tid ac q 0 []).ie v=bA tid ac {q with y:=q.y.gx true,A:=q.A+v.air} 0 []:=by
  unfold ab.ie
  rw[al,se,aP,bx]
  dsimp only
  rw[JD ht]
  have e:(⟨(mc tid ac q).r,(mc tid ac q).tok,(mc tid ac q).l.set (tid:Int).toNat (q.y.gx true),xL (mc tid ac q).air (ac:Int) v.air⟩:ba)=mc tid ac {q with y:=q.y.gx true,A:=q.A+v.air}:=by
   unfold mc xL
   rw[Int.toNat_natCast,Int.toNat_natCast,List.set_set,fg (by simpa using h4),if_pos rfl,List.set_set]
  rw[e];rfl
 have ag:(bA tid ac q 0 []).tV (ac:Int)=gQ q.t q.on:=by
  unfold ab.tV
  rw[Int.toNat_natCast]
  show((List.replicate 4 (gQ 0 false)).set ac (gQ q.t q.on)).getD ac c3=_
  rw[fg (by simpa using h4),if_pos rfl]
 have aI:(o1 (gQ q.t q.on) 1 v.air).1=gQ (td ⟨1,q.t,q.on⟩ v.air) q.on:=by
  unfold o1
  rw[show hB (gQ q.t q.on) 1=some ⟨1,q.t,q.on⟩from rfl]
  dsimp only
  rw[if_pos hz];rfl
 rw[af,al,bx,fh,ag,aI]
 show(({bA tid ac {q with y:=q.y.gx true,A:=q.A+v.air} 0 []with num:=_,bc:=((List.replicate 4 (gQ 0 false)).set ac (gQ q.t q.on)).set (ac:Int).toNat _,cM:=(rh 0).add 1 v.air,ways:=[]++[v]}:ab),v)=_
 rw[Int.toNat_natCast,List.set_set,ZH hz]
 rfl
theorem afX (c:vF y n k T) (I:k<=3):jI ((y.gx false).dE y.s.land) n k T/\y.dy<=2:=by
 have hm:=Tm (o:=y.s)
 have hl:y.s.land.l.length<=1:=by show(y.s.l.map sH).length<=1;rw[List.length_map];exact c.ca
 refine⟨⟨⟨c.b.land,c.r,⟨c.v.1,by have:=c.v.2;show y.dy<=16;omega⟩,λ_=>⟨by show y.s.st≠2;rw[c.st];decide,λf hf=>(hm f hf).1⟩,λf hf=>?_,λh2=>?_, .inl c.st⟩,rfl,c.e,c.a,c.st,hl,λf hf=>?_⟩,c.v.2⟩
 ·obtain⟨g,hg,e⟩:=(hm f hf).2
  rw[<-e];have:=(c.f g hg).1;show g.m.cZ<=2+1;omega
 ·have h3:y.s.st=2:=h2
  rw[c.st]at h3;exact absurd h3 (by decide)
 ·obtain⟨g,hg,e⟩:=(hm f hf).2
  have:=c.f g hg
  rw[<-e];exact⟨(hm f hf).1,this⟩
end
end Go.Proofs.YtjlkfjnfnonekaaGreatDoor
set_option maxRecDepth 8000
namespace Go.Proofs.YtjlkfjnfnonekaaGreatDoor
open Go.Vc
section
variable{x:ab} {y:dk} {q q':oc} {tid ac n k m t:Nat} {T z now aid slots num:Int} {w:List bR} {p:bh} {b:fZ} {s:ba} {r:bo} {f:cq} {u:bR} {bs:List Int} {well more:Bool}
def BA (tid ac:Nat) (q:oc) (more:Bool) (f:cq):bR:=(oP tid ac q q.y (gg (sn (oP tid ac q q.y []) more f))).fin (q.num+1) (lb ac)
def B8 (q':oc) (f:cq) (air:Int):oc:={q' with y:=(q'.y.dE (q'.y.s.hG [f.sq])).gx true,A:=q'.A+air,t:=td ⟨1,q'.t,q'.on⟩ air,num:=q'.num+1}
theorem akv (hp:Pl.ho q.bK (Pl.dJ 1 tid) n m) (hy:jI q.y n k 1073741824) (hv:q.y.dy<=2) (gW:q.y.s.l≠[]\/0<m) (ht:tid<8) (hn:n<=199) (hN:q.now<=now/\0<=now/\now<=1000000000) (I:k<=2) (ha:fA tid=ac):
 ∃q' f more,Iz {q with now:=now,on:=true} q' tid n m k 1073741824 f/\(bA tid ac q 0 []).send now [0,0,0,0]=(bA tid ac (B8 q' f (BA tid ac q more f).air) (BA tid ac q more f).air [BA tid ac q more f],some (BA tid ac q more f)):=by
 have h4:=zP ht ha
 obtain⟨q',f,more,c,em⟩:=agF (ac:=ac) (z:=0) (w:=[]) (q:={q with now:=now,on:=true}) hp hy hv gW ht hn hN.2 ha
 refine⟨q',f,more,c,?_⟩
 unfold ab.send
 rw[if_neg (by show¬now<q.now;omega),ZK h4 ht hy I (by omega)]
 unfold ab.y8
 have fC:=aiB (q:={q with now:=now}) (z:=0) (w:=[]) rfl hp hy gW ht ha
 have x5:(bA tid ac {q with now:=now} 0 []).ed=(List.replicate 4 la).set ac ⟨false,0,q.g⟩:=rfl
 have dn:=Xp (q:={q with now:=now}) (z:=0) (w:=[]) hp hy gW ht ha
 rw[fC,x5,aa2 h4,if_pos rfl,dn]
 dsimp only
 have ag:(bA tid ac {q with now:=now,on:=true} 0 []).tV (ac:Int)=gQ q.t true:=by
  unfold ab.tV
  rw[Int.toNat_natCast]
  show((List.replicate 4 (gQ 0 false)).set ac (gQ q.t true)).getD ac c3=_
  rw[fg (by simpa using h4),if_pos rfl]
 rw[ag,ais]
 show ab.n6 ac (lb ac) [1] (bA tid ac {q with now:=now,on:=true} 0 [])=_
 unfold ab.n6
 rw[if_pos (by show(rh 0).may 1=true;rfl),U1 (q:={q with now:=now,on:=true}) (z:=0) (w:=[]) hp hy gW ht,if_pos ha,Wa (by rw[em]),em]
 dsimp only
 have hz:=NC (r:=q.r) (n:=(gg (sn (oP tid ac q q.y []) more f)).length)
 have:=afY (q:={q' with y:=q'.y.dE (q'.y.s.hG [f.sq])}) (u:=oP tid ac q q.y (gg (sn (oP tid ac q q.y []) more f))) (slots:=lb ac) ht h4 rfl rfl rfl ⟨hz.1,by have:=hz.2;exact Int.le_trans this (by decide)⟩
 have abg:q'.num=q.num:=c.num
 have aI:oP tid ac {q with now:=now,on:=true} q.y=oP tid ac q q.y:=rfl
 rw[aI,this]
 unfold B8 BA
 rw[<-abg];rfl
theorem aqn (c:vF y n k T) (I:k<=3) {l:List Int}:vF ((y.dE (y.s.hG l)).gx true) n (k+1) T:=by
 refine⟨c.b.hG (λf hf=>by have:=(c.f f hf).1;omega),c.r,c.v,c.e,c.a,c.st,by show(y.s.l.map _).length<=1;rw[List.length_map];exact c.ca,λf hf=>?_⟩
 obtain⟨g,hg,rfl⟩:=List.mem_map.1 (show f∈y.s.l.map (pH l)from hf)
 obtain⟨h1,h2,h3⟩:=c.f g hg
 unfold pH
 split
 ·exact⟨by show g.m.cZ+1<=((k+1:Nat):Int);omega,h2,h3⟩
 ·exact⟨by omega,h2,h3⟩
theorem ac3 (c:vF y n k T) (I:k<=3) {sq mp:Int} (h:y.s.nn sq=true):jI ((y.gx false).dE (y.s.heard sq mp).2) n k T:=by
 have hm:=RV (mp:=mp) h
 obtain⟨af,ag,aI,cx⟩:=RW (o:=y.s) (sq:=sq) (mp:=mp)
 have hf:∀f∈(y.s.heard sq mp).2.l,f.a6=false/\f.m.cZ<=k/\T<=f.m.vr/\f.m.p.body=List.replicate n 0:= λf hf=>by
  obtain⟨g,hg,e⟩:=(hm f hf).2
  rw[<-e];exact⟨(hm f hf).1,c.f g hg⟩
 have ha:(y.s.heard sq mp).2.asks=false:=by
  unfold aS.heard;rw[if_pos h];exact c.a
 have hl:(y.s.heard sq mp).2.l.length<=1:=by
  unfold aS.heard;rw[if_pos h]
  show((y.s.l.filter _).map sH).length<=1
  rw[List.length_map];exact Nat.le_trans (List.length_filter_le _ _) c.ca
 have ih:(y.s.heard sq mp).2.st=1:=af.trans c.st
 refine⟨⟨c.b.heard,⟨ag.trans c.r.1,aI.trans c.r.2.1,cx.trans c.r.2.2⟩,⟨c.v.1,by have:=c.v.2;show y.dy<=16;omega⟩,λ_=>⟨by show(y.s.heard sq mp).2.st≠2;rw[ih];decide,λf h=>(hf f h).1⟩,λf h=>by have:=(hf f h).2.1;show f.m.cZ<=2+1;omega,λh2=>?_, .inl ih⟩,rfl,c.e,ha,ih,hl,hf⟩
 have h3:(y.s.heard sq mp).2.st=2:=h2
 rw[ih]at h3;exact absurd h3 (by decide)
structure vA (q:oc) (tid ac n m k:Nat):Prop where
 now:0<=q.now/\q.now<=200000000
 bK:Pl.ho q.bK (Pl.dJ 1 tid) n m
 m:m<=3
 y:jI q.y n k 1073741824
 v:q.y.dy<=2
 bk:q.book.length<=10
 g:0<=q.g/\q.g<=ot ac -jg ac
 t:0<=q.t/\q.t<=1152921504606846976
 num:0<=q.num/\q.num<=10
 A:0<=q.A/\q.A<=20000000*q.num
 r:q.r.ok=true
theorem acd (h4:ac<4) (g:Int):tn ac ⟨false,0,g⟩=⟨false,0,min (2*(jg ac+g)+1) (ot ac) -jg ac⟩:=rfl
theorem aa7 (h4:ac<4) (hg:0<=q.g/\q.g<=ot ac -jg ac):∃g',(0<=g'/\g'<=ot ac -jg ac)/\(oq ((List.replicate 4 la).set ac ⟨false,0,q.g⟩) ac well).1=(List.replicate 4 la).set ac ⟨false,0,g'⟩:=by
 have hb:=sg (k4 h4)
 have hf:=Ac (k4 h4)
 have cP:kh ((List.replicate 4 la).set ac ⟨false,0,q.g⟩) ac=⟨false,0,q.g⟩:=by
  unfold kh
  rw[fg (by simpa using h4),if_pos rfl]
 unfold oq
 rw[if_pos (k4 h4),Int.toNat_natCast,cP]
 cases well with
 |true=>exact⟨0,⟨by omega,by omega⟩,by rw[if_pos rfl,List.set_set]⟩
 |false=>exact⟨min (2*(jg ac+q.g)+1) (ot ac) -jg ac,⟨by omega,by omega⟩,by rw[if_neg (by decide),List.set_set,acd h4]⟩
theorem aat (ht:tid<8) (h4:ac<4) (hy:vF q.y n k 1073741824) (I:k<=2) (hu:q.y.under=true) (hg:0<=q.g/\q.g<=ot ac -jg ac) (h1:u.aid=1) (h2:u.tid=tid) (h3:u.ac=ac) (R9:u.kind=1) (hz:0<=u.air/\u.air<=1099511627776) (hn:q.now<=now/\now<=1073741824):
 ∃aE,(bA tid ac q u.air [u]).done now u.num bs=(bA tid ac aE 0 [],none)/\aE.now=now/\aE.bK=q.bK/\jI aE.y n k 1073741824/\aE.y.dy<=2/\aE.book.length=q.book.length/\(0<=aE.g/\aE.g<=ot ac -jg ac)/\aE.t=q.t/\aE.num=q.num/\aE.A=q.A/\aE.r=q.r:=by
 have abv:(bA tid ac q u.air [u]).rQ u.num=some 0:=by
  unfold ab.rQ
  show List.findIdx? (λw=>decide (w.num=u.num)) [u]=some 0
  simp
 obtain⟨bj,Gz⟩:∃bj,bj=bA tid ac {q with now:=now,y:=q.y.gx false} 0 []:=⟨_,rfl⟩
 have ou:(bA tid ac q u.air [u]).lets now 0 u=bj:=by
  unfold ab.lets
  rw[h1,h2,vS ht]
  have af:(((bA tid ac q u.air [u]).c6 now).rO 0).nF ((bA tid ac q u.air [u]).cM.sub 1 u.air)=bA tid ac {q with now:=now} 0 []:=by
   rw[show(bA tid ac q u.air [u]).cM=rh u.air from rfl,ZI hz];rfl
  rw[af,zR,Gz]
 have fin:∀(bO:dk) (bx:fZ) (well:Bool),jI bO n k 1073741824->∃g',(0<=g'/\g'<=ot ac -jg ac)/\ab.zU u (bA tid ac {q with now:=now,y:=bO,book:=bx} 0 [],well)=bA tid ac {q with now:=now,y:=bO,book:=bx,g:=g'} 0 []:= λbO bx well c=>by
  obtain⟨g',hg',e⟩:=aa7 (well:=well) h4 hg
  refine⟨g',hg',?_⟩
  unfold ab.zU
  rw[h1,h2,h3,show(bA tid ac {q with now:=now,y:=bO,book:=bx} 0 []).ed=(List.replicate 4 la).set ac ⟨false,0,q.g⟩from rfl,e]
  show(bA tid ac {q with now:=now,y:=bO,book:=bx,g:=g'} 0 []).de 1 tid=_
  unfold ab.de
  rw[vS ht]
  obtain⟨s1,s2⟩:=c.H4 (now:=now) I hn.2
  show((bA tid ac {q with now:=now,y:=bO,book:=bx,g:=g'} 0 []).aW 1 tid (lq now bO)).dX (nD now bO bx)=_
  rw[s1,s2,zR];rfl
 have ed:∃bO bx well,(bj.ended u bs)=(bA tid ac {q with now:=now,y:=bO,book:=bx} 0 [],well)/\jI bO n k 1073741824/\bO.dy<=2/\bx.length=q.book.length:=by
  have lost:∃bO bx well,(bj.tF u,false)=(bA tid ac {q with now:=now,y:=bO,book:=bx} 0 [],well)/\jI bO n k 1073741824/\bO.dy<=2/\bx.length=q.book.length:=by
   obtain⟨c,cv⟩:=afX hy (by omega)
   refine⟨_,q.book,false,?_,c,cv,rfl⟩
   unfold ab.tF
   rw[h1,h2,Gz,vS ht,zR];rfl
  unfold ab.ended
  rw[if_neg (by rw[R9];decide),if_neg (by rw[R9];decide)]
  unfold ab.nf
  cases hh:lB bj u bs with
  |none=>exact lost
  |some p=>
   dsimp only
   have h9:bj.aT u.aid u.tid=q.y.gx false:=by rw[h1,h2,Gz,vS ht]
   rw[h9]
   by_cases U:(q.y.gx false).s.nn p.1=true
   ·rw[if_pos U]
    refine⟨_,_,true,?_,ac3 (mp:=p.2) hy (by omega) U,hy.v.2,GV (c:=3) (l:=(q.y.s.heard p.1 p.2).1)⟩
    rw[h1,h2,Gz,zR];rfl
   ·rw[if_neg U];exact lost
 obtain⟨bO,bx,well,aI,bd,v3,dw⟩:=ed
 obtain⟨g',hg',cx⟩:=fin bO bx well bd
 refine⟨{q with now:=now,y:=bO,book:=bx,g:=g'},?_,rfl,rfl,bd,v3,dw,hg',rfl,rfl,rfl,rfl⟩
 unfold ab.done
 rw[abv]
 dsimp only
 rw[show(bA tid ac q u.air [u]).ways[0]?=some u from rfl]
 dsimp only
 rw[if_neg (by show¬now<q.now;omega),ou,aI,cx]
end
end Go.Proofs.YtjlkfjnfnonekaaGreatDoor
set_option maxRecDepth 8000
namespace Go.Proofs.YtjlkfjnfnonekaaGreatDoor
open Go.Vc
section
variable{x:ab} {y:dk} {q q':oc} {tid ac n k m t j:Nat} {T z now aid slots num:Int} {w:List bR} {p:bh} {b:fZ} {s:ba} {r:bo} {f:cq} {u:bR} {bs:List Int} {well more on:Bool}
theorem PW (h:0<=T/\T<=1152921504606846976):eH (gQ T on):=by
 refine⟨rfl,λk s I=>?_⟩
 match k,I with
 |0,I=>cases I;exact⟨Int.le_refl 1,by show(1:Int)<=100;decide,h.1,h.2⟩
 |1,I=>cases I;exact⟨by decide,by decide,by decide,by decide⟩
 |k+2,I=>
  replace I:(List.replicate 14 (none:Option Go.Vc.eU))[k]?=some (some s):=I
  rw[List.getElem?_replicate]at I
  split at I<;>cases I
theorem ZJ:(gQ T on).getD k none=if k=0 then some ⟨1,T,on⟩else if k=1 then some ⟨1,0,false⟩else none:=by
 match k with
 |0=>rfl
 |1=>rfl
 |k+2=>
  show(List.replicate 14 (none:Option Go.Vc.eU)).getD k none=_
  rw[show(if k+2=0 then some (⟨1,T,on⟩:Go.Vc.eU)else if k+2=1 then some ⟨1,0,false⟩else none)=none from by rw[if_neg (by omega),if_neg (by omega)],List.getD_eq_getElem?_getD,List.getElem?_replicate]
  split<;>rfl
theorem V8 (h4:ac<4) (ah:j<4):((bA tid ac q z w).bc).getD j c3=if j=ac then gQ q.t q.on else gQ 0 false:=by
 show((List.replicate 4 (gQ 0 false)).set ac (gQ q.t q.on)).getD j c3=_
 rw[fg (by simpa using h4)]
 split
 ·rfl
 ·rw[List.getD_eq_getElem?_getD,List.getElem?_replicate,if_pos ah];rfl
theorem VN (k:Nat):((bA tid ac q z w).st.getD k none).isSome=decide (k<2):=by
 match k with
 |0=>rfl
 |1=>rfl
 |k+2=>
  show((List.replicate 14 (none:Option ba)).getD k none).isSome=_
  rw[List.getD_eq_getElem?_getD,List.getElem?_replicate,decide_eq_false (by omega)]
  split<;>rfl
theorem LD:iL pX lG:=(GP (n:=0) (k:=0) (T:=0)).li
theorem akn:oW xm:=⟨rfl,by decide,by decide⟩
theorem ajs:q6 powC:=⟨⟨rfl,by decide⟩,by decide⟩
theorem Tt:mU (rh 0):=⟨rfl,by decide⟩
theorem PV:EL pX:=⟨by decide,by decide,by decide,by decide,by decide,by decide⟩
theorem Xi:∀o∈xm,∀z∈o.a,0<=z/\z<256:=by decide
theorem JC (i:vA q tid ac n m k) (ht:tid<8) (h4:ac<4) (hn:n<=199):vz (bA tid ac q 0 []):=by
 have gr:∀k s,(bA tid ac q 0 []).st.getD k none=some s->∀t,t<8->iL pX (s.l.getD t ak):= λk s I t bJ=>by
  rcases Na rfl I with⟨-,rfl⟩|⟨-,rfl⟩
  ·rw[B9 ht bJ]
   split
   ·exact i.y.li
   ·exact LD
  ·show iL pX ((List.replicate 8 lG).getD t ak)
   rw[HK bJ];exact LD
 have wB:=i.num
 have hA:=i.A
 refine⟨⟨JE h4,λk s I t bJ=>(gr k s I t bJ).ok,i.bK.ok,by show q.bK.len<=1000000;rw[i.bK.aT];have:=i.m;omega,λp hp=>?_,akn,ajs,Tt,λj ah=>?_,⟨by show(List.set _ _ _).length=4;rw[List.length_set];rfl,λj c hc=>?_⟩,by show q.book.length<=1000000;have:=i.bk;omega,⟨i.now.1,by show q.now<=_;have:=i.now.2;omega⟩,λk s I=>?_,⟨wB.1,by show q.num<=1000000;omega⟩,λz hz=>?_,PV,Xi⟩,gr,λk I=>?_,λj ah k I=>?_⟩
 ·have:=i.bK.kB p hp
  exact⟨by rw[this,List.length_replicate];omega,by rw[this];exact Is⟩
 ·rw[V8 h4 ah]
  split
  ·exact PW i.t
  ·exact PW ⟨by decide,by decide⟩
 ·have hm:c∈(List.replicate 4 la).set ac ⟨false,0,q.g⟩:=List.mem_of_getElem? hc
  by_cases e:ac=j
  ·subst e
   rw[show(bA tid ac q 0 []).ed=(List.replicate 4 la).set ac ⟨false,0,q.g⟩from rfl,List.getElem?_set_self (by simpa using h4)]at hc
   cases hc
   exact⟨⟨Int.le_refl 0,by show(0:Int)<=1023;decide⟩,i.g⟩
  ·rw[show(bA tid ac q 0 []).ed=(List.replicate 4 la).set ac ⟨false,0,q.g⟩from rfl,List.getElem?_set_ne e,List.getElem?_replicate]at hc
   split at hc
   ·rename_i ah
    cases hc
    have:=sg (k4 ah)
    exact⟨⟨by decide,by decide⟩,Int.le_refl 0,by show(0:Int)<=_;omega⟩
   ·cases hc
 ·rcases Na rfl I with⟨-,rfl⟩|⟨-,rfl⟩
  ·refine⟨⟨by show(0:Int)<=0;decide,by show(0:Int)<256;decide⟩,i.r,λz hz=>?_⟩
   show 0<=z/\z<=20000000*q.num
   rcases List.mem_or_eq_of_mem_set (show z∈(List.replicate 4 (0:Int)).set ac q.A from hz)with hz|rfl
   ·rw[List.eq_of_mem_replicate hz];omega
   ·exact hA
  ·refine⟨⟨by show(0:Int)<=0;decide,by show(0:Int)<256;decide⟩,rfl,λz hz=>?_⟩
   rw[List.eq_of_mem_replicate hz]
   show(0:Int)<=0/\0<=20000000*q.num
   omega
 ·have:z=0:=by
   have:z∈(0:Int)::List.replicate 15 0:=hz
   simp at this;exact this
  rw[this];show(0:Int)<=20000000*q.num;omega
 ·rw[VN,show(bA tid ac q 0 []).dh=xm from rfl,H6]
  simp;omega
 ·rw[V8 h4 ah,VN]
  split<;>rw[ZJ]
  ·by_cases e:k=0
   ·subst e;rfl
   ·by_cases af:k=1
    ·subst af;rfl
    ·rw[if_neg e,if_neg af,decide_eq_false (by omega)];rfl
  ·by_cases e:k=0
   ·subst e;rfl
   ·by_cases af:k=1
    ·subst af;rfl
    ·rw[if_neg e,if_neg af,decide_eq_false (by omega)];rfl
theorem Mw (U:r.ok=true) {z:Int} (h:0<=z/\z<=1000):0<r.kp z/\r.kp z<=54840:=by
 have hb:=bo.Fh U
 unfold bo.kp
 rw[if_pos ⟨U,h.1,by omega⟩]
 have hp:200<=r.pre/\r.pre<=360:=by unfold bo.pre;split<;>decide
 have qf:0<=(22+8*z+r.bits -1)/r.bits:=Int.ediv_nonneg (by omega) (by omega)
 have rr:(22+8*z+r.bits -1)/r.bits<=400:=by
  have h1:(22+8*z+r.bits -1)/r.bits<401:=Int.ediv_lt_of_lt_mul (by omega) (by omega)
  omega
 omega
theorem ajV (i:vA q tid ac n m k) (gW:q.y.s.l≠[]\/0<m) (ht:tid<8) (ha:fA tid=ac) (hn:n<=199) (I:k<=1) (hN:q.now<=now/\now<=190000000) (Gh:q.num<=5):
 ∃x' u,(bA tid ac q 0 []).send now [0,0,0,0]=(x',some u)/\N9 (bA tid ac q 0 []) x' u now/\(u.tid=tid/\u.ac=ac/\u.air=q.r.total (26+(n:Int)))/\∀bs,∃aE ax,ax<=m/\(x'.done (now+u.air) u.num bs).1=bA tid ac aE 0 []/\vA aE tid ac n ax (k+1)/\aE.A=q.A+u.air/\aE.r=q.r/\aE.now=now+u.air/\aE.num=q.num+1/\aE.book.length=q.book.length:=by
 have h4:=zP ht ha
 have hi:=i.now
 obtain⟨q',f,more,c,e⟩:=akv i.bK i.y i.v gW ht hn ⟨hN.1,by omega,by omega⟩ (by omega) ha
 obtain⟨ax,adw,eA⟩:=c.bK
 have Lw:gK (sn (oP tid ac q q.y []) more f):=⟨rfl,rfl,rfl,by show(0:Int)<=tid;omega,by show(tid:Int)<=7;omega,c.sq.1.1,by have:=c.sq.1.2;show f.sq<=4095;omega,by show f.p.body.length<=1500;rw[c.nb,List.length_replicate];omega⟩
 have hlen:(gg (sn (oP tid ac q q.y []) more f)).length=26+n:=by rw[D1 Lw];show 26+f.p.body.length=_;rw[c.nb,List.length_replicate]
 obtain⟨u,hu⟩:∃u,u=BA tid ac q more f:=⟨_,rfl⟩
 rw[<-hu]at e
 have ei:u.aid=1/\u.tid=tid/\u.ac=ac/\u.kind=1/\u.bB=1/\u.agg=false/\u.slots=lb ac/\u.r=q.r/\u.cO=gg (sn (oP tid ac q q.y []) more f)/\u.num=q.num+1/\u.start=q.y.s.w.st/\u.size=q.y.s.w.sz/\u.bss=gP/\u.to=jt 0:=by rw[hu];exact⟨rfl,rfl,rfl,rfl,rfl,rfl,rfl,rfl,rfl,rfl,rfl,rfl,rfl,rfl⟩
 obtain⟨a1,a2,a3,a4,a5,vG,hJ,uh,a9,Of,Og,a12,xG,Oh⟩:=ei
 have CM:u.air=q.r.total (26+(n:Int)):=by
  rw[hu]
  show q.r.total ((gg (sn (oP tid ac q q.y []) more f)).length:Int)=_
  rw[hlen];congr 1
 have KX:=Mw i.r (z:=26+(n:Int)) ⟨by omega,by omega⟩
 have F0:0<u.air/\u.air<=60000:=by
  rw[CM];unfold bo.total;rw[if_neg (by omega)];omega
 have hw:vF (B8 q' f u.air).y n (k+1) 1073741824:=aqn c.y (by omega)
 have RT:= λbs=>aat (q:=B8 q' f u.air) (u:=u) (now:=now+u.air) (bs:=bs) ht h4 hw (by omega) rfl (by show 0<=q'.g/\q'.g<=_;rw[c.g];exact i.g) a1 a2 a3 a4 ⟨by omega,by omega⟩ ⟨by show q'.now<=_;rw[c.now];show now<=_;omega,by omega⟩
 have RL:jq u:=⟨by rw[xG];rfl,by rw[Oh];rfl⟩
 have aba:=FD (k4 h4)
 refine⟨_,u,e,?_,⟨a2,a3,CM⟩,λbs=>?_⟩
 ·refine⟨⟨RL,a4,a5,vG,F0.1,by rw[hJ];exact aba.1,by rw[a3];omega,⟨_,Lw,a9,Oh.symm,xG.symm,xG.symm,by rw[Og,a12];exact c.sq.2,a2.symm⟩,by rw[a12];exact i.y.li.b.w.z.1,by rw[uh];exact i.r,by rw[uh,a9,hlen];exact KX.2⟩,a1,⟨λz hz=>?_,by rw[a9,hlen];omega⟩,by omega,rfl,⟨0,?_,rfl⟩,λz hz=>?_,λbs=>by obtain⟨aE,aI,-⟩:=RT bs;rw[aI]⟩
  ·rw[a9]at hz
   exact UT Lw (by show∀z∈jt 0,0<=z/\z<256;decide) (by show∀z∈gP,0<=z/\z<256;decide) (by show∀z∈gP,0<=z/\z<256;decide) (by show∀z∈f.p.body,0<=z/\z<256;rw[c.nb];exact Is) z hz
  ·unfold ab.rQ
   show List.findIdx? (λw=>decide (w.num=u.num)) [u]=some 0
   simp
  ·have:z=u:=by
    have:z∈[u]:=hz
    simpa using this
   subst this
   refine⟨⟨mc tid ac (B8 q' f z.air),by rw[a1];rfl,tid,a2,ht,?_⟩,RL,⟨by omega,by omega⟩,by rw[a3];exact k4 h4⟩
   rw[B9 ht ht,if_pos rfl]
   exact⟨hw.b,hw.r,⟨hw.v.1,by have:=hw.v.2;omega⟩,λg hg=>by have:=(hw.f g hg).1;show g.m.cZ<=2+1;omega,λh=>by rw[hw.st]at h;exact absurd h (by decide),λh=>by rw[a4]at h;rcases h with h|h<;>exact absurd h (by decide), .inl hw.st⟩
 ·obtain⟨aE,aI,al,aP,bx,dO,fh,ey,pQ,vM,vN,YB⟩:=RT bs
  have K5:=i.t
  have hA:=i.A
  have rv:=i.num
  have Zu:q'.A=q.A:=c.A
  have rj:q'.num=q.num:=c.num
  have JM:q'.t=q.t:=c.t
  have aae:q'.r=q.r:=c.r
  have zQ:q'.book.length=q.book.length:=c.bk
  have Rz:aE.A=q.A+u.air:=by rw[vN,<-Zu];rfl
  have Gg:aE.num=q.num+1:=by rw[vM,<-rj];rfl
  have AA:aE.r=q.r:=by rw[YB,<-aae];rfl
  have yf:aE.book.length=q.book.length:=by rw[fh,<-zQ];rfl
  refine⟨aE,ax,adw,by rw[aI],⟨by rw[al];omega,by rw[aP];exact eA,by have:=i.m;omega,bx,dO,by rw[yf];exact i.bk,ey,?_,by rw[Gg];omega,by rw[Rz,Gg];omega,by rw[AA];exact i.r⟩,Rz,AA,al,Gg,yf⟩
  rw[pQ]
  show 0<=min (q'.t+10000*u.air/1) 1152921504606846976/\_
  rw[JM,Int.ediv_one]
  constructor
  ·omega
  ·show min _ _<=_;omega
end
end Go.Proofs.YtjlkfjnfnonekaaGreatDoor
