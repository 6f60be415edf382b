import Derived.Test.YtjlkfjnfnonekaaGreatDoorM26
import Derived.Test.YtjlkfjnfnonekaaGreatDoorM27
import Derived.Lib.ItoaNum
import Derived.Test.YtjlkfjnfnonekaaGreatDoorM16
import Derived.Test.YtjlkfjnfnonekaaGreatDoorM25
set_option linter.all false
set_option maxRecDepth 8000
namespace Go.Proofs.YtjlkfjnfnonekaaGreatDoor
open Go.Vc
def qF (k:Nat):Nat:=(k+3)/4*4 -k
def A9 (out p:List Int):List Int:=out++(List.replicate (qF out.length) 0++([(p.length:Int)*16%256,(p.length:Int)*16/256%256]++([qO [(p.length:Int)*16%256,(p.length:Int)*16/256%256]]++([78]++p))))
def nC (l:List (List Int)):List Int:=l.foldl A9 []
def rB (l:List (List Int)):List Int:=l.map λp=>(p.length:Int)
section
variable{W W':Wd} {h h':J} {G:List ao} {E b4:ao} {a:Option Addr} {n c k i:Nat} {vs:List Value} {cs:List Value} {bs xs:List Int} {l:List (List Int)} {f:bQ} {v:Value} {z:Int}
theorem aiI (out p:List Int):(A9 out p).length=out.length+qF out.length+4+p.length:=by
 unfold A9;simp only[List.length_append,List.length_replicate,List.length_cons,List.length_nil];omega
theorem Mk {p:List Int} (I:l[k]?=some p):nC (l.take (k+1))=A9 (nC (l.take k)) p:=by
 unfold nC
 rw[List.take_add_one,I,List.foldl_append];rfl
theorem aah (m:ai W h G) (hb:cm W (.slice a n c) xs) (hx:∀x∈xs,0<=x/\x<256) (hl:xs.length<=65535):
 aj Tryz.prog 260 #[.slice a n c] h (II W G (xs++[qO xs]) λv=>v):=by
 obtain⟨k1,k2,k3⟩:=kC hb
 refine an2 _ _ _ _ _ ((Cf (m.e5 k1) (by rw[dL];exact k2) dM (by omega)).mono ?_)
 rintro _ h1 ⟨a1,aK,mS,rfl,m1,eg⟩
 have m2:=m.beside m1
 refine⟨_,_,_,rfl,(aai m2 hb hx hl).ret ⟨_,rfl,?_⟩⟩
 refine eg.s4 m2 rfl (by intro u hu;simp at hu;subst hu;rfl) (by omega) (by decide) λa3 bd mT h3 m3 cb=>?_
 have hs:=alo xs
 refine⟨a3,bd,mT,by rw[List.length_append,List.length_singleton,k2],m3,?_⟩
 rw[List.length_append,List.length_singleton,k2,kI]
 exact cb
theorem wK {v:Value}:∀{k:Nat},cX (List.replicate k [v])=List.replicate k v
 |0=>rfl
 |k+1=>by
  have b9:=wK (v:=v) (k:=k)
  rw[List.replicate_succ,List.replicate_succ]
  show[v]++cX (List.replicate k [v])=v::List.replicate k v
  rw[b9];rfl
theorem af4 {p:List Int} (I:l[k]?=some p):rB (l.take (k+1))=rB (l.take k)++[(p.length:Int)]:=by
 unfold rB
 rw[List.take_add_one,I,List.map_append];rfl
theorem Ub (hx:∀p∈l,p.length<=4095) (k:Nat):(nC (l.take k)).length<=k*4102:=by
 induction k with
 |zero=>
  have e:(nC (l.take 0)).length=0:=by rw[List.take_zero];rfl
  rw[e]
  omega
 |succ k b9=>
  cases I:l[k]?with
  |none=>
   have e:l.take (k+1)=l.take k:=by rw[List.take_add_one,I];simp
   exact Nat.le_trans (Nat.le_of_eq (congrArg (λx=>(nC x).length) e)) (Nat.le_trans b9 (Nat.mul_le_mul_right 4102 (Nat.le_succ k)))
  |some p=>
   have:=hx p (List.mem_of_getElem? I)
   rw[Mk I,aiI]
   unfold qF;omega
set_option maxHeartbeats 2000000 in
theorem XD (m:ai W h G) (o:au a vs.length c 1 vs E) (hi:G[i]?=some E) (hb:kd W vs l) (hx:∀p∈l,(∀x∈p,0<=x/\x<256)/\1<=p.length/\p.length<=4095) (h0:l.length≠0) (hl:l.length<=64) (hA:ky (rB l)<=65535):
 aj Tryz.prog 201 #[.slice a vs.length c] h λv h'=>∃W',W.le W'/\II W' G (nC l) (λv=> .tuple #[v, .nilIface]) v h':=by
 have qd:=hb.len
 have gt:∀(k:Nat),k<vs.length->∃cg p bZ,vs[k]?=some (.slice cg p.length bZ)/\l[k]?=some p/\p∈l/\cm W (.slice cg p.length bZ) p:= λk I=>by
  have bD:k<l.length:=by omega
  obtain⟨v1,ij,CQ⟩:=hb.get (List.getElem?_eq_getElem bD)
  have acL:=CQ
  obtain⟨cg,bZ,rfl,-,-⟩:=CQ
  exact⟨cg,l[k],bZ,ij,List.getElem?_eq_getElem bD,List.getElem_mem bD,acL⟩
 refine amA _ _ _ _ _ ⟨λay bI c' z h'=>∃(k:Nat) (bn:ao),z=(k:Int)/\k<=vs.length/\bI=k/\au ay k c' 1 (ints .i64 (rB (l.take k))) bn/\ai W h' (bn::G),λ_ _ _ z _=>((vs.length:Int) -z).toNat,⟨0,[],rfl,by omega,rfl,au.nil,m.hU⟩,λ_=>?_⟩
 clear m
 rintro ay k c' _ h1 ⟨av,bn,rfl,I,rfl,o',m1⟩
 refine aC (λq=>?_) λq=>?_
 ·obtain⟨cg,p,bZ,ij,hp,eA,CQ⟩:=gt k (by omega)
  obtain⟨-,Gi,C9⟩:=hx p eA
  obtain⟨aP,aM,rfl,mn⟩:=fW (o.oL m1 (i+1) hi) ij
  refine⟨⟨by omega,by omega⟩,aN ⟨_,_,_,by simpa using mn,bF (by omega) (bF (by omega) ?_)⟩⟩
  refine o'.s4 m1 rfl (by intro u hu;simp at hu;subst hu;rfl) (by omega) (by decide) λa3 bd mT h3 m3 cb=>?_
  refine⟨by simp only[fits];omega,⟨k+1,mT,by omega,by omega,rfl,?_,m3⟩,by dsimp only;omega⟩
  rw[af4 hp,kI]
  exact cb
 obtain rfl:k=vs.length:=by omega
 rw[List.take_of_length_le (by omega)]at o'
 have Gd:(rB l).length=vs.length:=by unfold rB;rw[List.length_map];omega
 refine bF (by omega) (bF (by omega) ?_)
 have lD:=o'.oL m1 0 rfl
 rw[<-Gd]at lD⊢
 refine(OC lD (by omega) (λx tC=>by unfold rB at tC;obtain⟨p,hp,rfl⟩:=List.mem_map.1 tC;have:=(hx p hp).2.2;omega)).ret ⟨_,rfl,bF (by omega) ?_⟩
 rw[Gd]
 refine⟨λay bI c' z h'=>∃(k:Nat) (aQ:Wd) (mS:ao),z=(k:Int)/\k<=vs.length/\W.le aQ/\bI=(nC (l.take k)).length/\au ay (nC (l.take k)).length c' 1 (ints .u8 (nC (l.take k))) mS/\ai aQ h' (mS::bn::G),λ_ _ _ z _=>((vs.length:Int) -z).toNat,⟨0,W,[],rfl,by omega,Wd.le.refl W,rfl,au.nil,m1.hU⟩,λ_=>?_⟩
 clear m1 lD
 rintro a5 _ eK _ aA ⟨k,aQ,mS,rfl,I,hle,rfl,kL,m5⟩
 refine aC (λq=>?_) λq=>?_
 ·obtain⟨cg,p,bZ,ij,hp,eA,CQ⟩:=gt k (by omega)
  obtain⟨arQ,Gi,C9⟩:=hx p eA
  have uN:=Ub (λp hp=>(hx p hp).2.2) k
  obtain⟨aP,aM,rfl,mn⟩:=fW (o.oL m5 (i+2) hi) ij
  obtain⟨out,ql⟩:∃out,out=nC (l.take k):=⟨_,rfl⟩
  rw[<-ql]at kL uN⊢
  have ar0:vt (out.length:Int)=((out.length+qF out.length:Nat):Int):=by unfold vt qF;omega
  refine⟨⟨by omega,by omega⟩,aN ⟨_,_,_,by simpa using mn,(OD _ (by omega)).ret ⟨_,rfl,?_⟩⟩⟩
  have Gt:vt (out.length:Int) -(out.length:Int)=(qF out.length:Int):=by omega
  have arN:qF out.length<=3:=by unfold qF;omega
  rw[Gt,Int.toNat_natCast]
  refine⟨by simp only[fits];omega,⟨by omega,by omega,by omega⟩,by intro u hu;simp at hu;subst hu;rfl,?_⟩
  rw[wK]
  refine kL.app m5 0 rfl (by rw[List.length_replicate,Nat.mul_one]) (by omega) (by decide) λvG nc ID aU m6 nZ=>?_
  simp only[List.set_cons_zero]at m6
  refine⟨by simp only[fits];omega,⟨by decide,by simp only[nW];decide⟩,?_⟩
  rw[pI,pI]
  obtain⟨cw,Sj⟩:∃cw,cw=(p.length:Int)*16%256:=⟨_,rfl⟩
  obtain⟨hh,R5⟩:∃hh,hh=(p.length:Int)*16/256%256:=⟨_,rfl⟩
  have QF:A9 out p=out++(List.replicate (qF out.length) 0++([cw,hh]++([qO [cw,hh]]++([78]++p)))):=by unfold A9;rw[Sj,R5]
  rw[<-Sj,<-R5]
  have Sd:0<=cw/\cw<256:=by omega
  have adg:0<=hh/\hh<256:=by omega
  intro pQ bW f1 f2
  have m7:=m6.push f2 f1
  obtain⟨BR,Av,m8,Ku⟩:=w5 (l:=[cw,hh]) (au.wb rfl) m7
  refine(aah m8 Ku (λu hu=>?_) (by show 2<=65535;decide)).mono ?_
  ·simp only[List.mem_cons,List.not_mem_nil,or_false]at hu
   rcases hu with rfl|rfl
   ·exact Sd
   ·exact adg
  rintro _ ct ⟨a9,om,vB,rfl,m9,nz⟩
  refine⟨_,_,_,rfl,ints .u8 ([cw,hh]++[qO [cw,hh]]),⟨by rw[Nat.mul_one];exact nz.oL m9 0 rfl,dM⟩,?_⟩
  refine nZ.app m9 1 rfl (by rw[dL,Nat.mul_one]) (by simp;omega) (by decide) λOf vQ NW dS m10 DM=>?_
  simp only[List.set_cons_zero,List.set_cons_succ]at m10
  replace m10:=m10.aB
  refine DM.s4 m10 rfl (by intro u hu;simp at hu;subst hu;rfl) (by simp;omega) (by decide) λOg Jw aqT fD m11 G5=>?_
  refine⟨ints .u8 p,⟨?_,dM⟩,?_⟩
  ·rw[Nat.mul_one]
   obtain⟨lD,-,-⟩:=kC CQ
   exact m11.e5 (vx (hle.trans Av) lD)
  refine G5.app m11 0 rfl (by rw[dL,Nat.mul_one]) (by simp;omega) (by decide) λa12 zN NX fu m12 L0=>?_
  simp only[List.set_cons_zero]at m12
  have QD:(out++(List.replicate (qF out.length) 0++([cw,hh]++([qO [cw,hh]]++([78]++p))))).length=out.length+qF out.length+([cw,hh]++[qO [cw,hh]]).length+1+p.length:=by simp;omega
  refine⟨by simp only[fits];omega,⟨k+1,BR,NX,by omega,by omega,hle.trans Av,by rw[Mk hp,<-ql,QF,QD],?_,m12⟩,by dsimp only;omega⟩
  rw[Mk hp,<-ql,QF,QD]
  have aaV:ints .u8 out++List.replicate (qF out.length) (Value.int .u8 0)++ints .u8 ([cw,hh]++[qO [cw,hh]])++[Value.int .u8 78]++ints .u8 p=ints .u8 (out++(List.replicate (qF out.length) 0++([cw,hh]++([qO [cw,hh]]++([78]++p))))):=by simp[ints]
  rw[<-aaV]
  exact L0
 ·obtain rfl:k=vs.length:=by omega
  rw[List.take_of_length_le (by omega)]at kL⊢
  exact⟨aQ,hle,a5,eK,mS,rfl,m5.free 1 rfl,kL⟩
end
end Go.Proofs.YtjlkfjnfnonekaaGreatDoor
set_option maxRecDepth 8000
namespace Go.Proofs.YtjlkfjnfnonekaaGreatDoor
open Go.Vc
def asN (Ew:Bool) (tid:Int):Int:=tid*4096+(if Ew then 2048 else 0)
def asM (to fr bss:List Int) (Ew:Bool) (tid ajJ:Int):List Int:=yj 2 to fr bss++(w2 (asN Ew tid)++w2 ajJ)
def asA (xs:List Int):Int:=wd xs 26/4096
def asP (xs:List Int):Bool:=decide (wd xs 26/2048%2=1)
def asO (xs:List Int):List Int:=asM (fJ xs 4) (fJ xs 10) (fJ xs 16) (asP xs) (asA xs) (wd xs 28)
def asG (xs:List Int):Prop:=dx [2] 30 xs/\asA xs<=7/\asO xs=xs
section
variable{W W':Wd} {h h':J} {G:List ao} {E:ao} {a a2:Option Addr} {l r c aG n k:Nat} {vs us:List Value} {bs xs ys to fr bss:List Int} {tid ajJ:Int}
end
end Go.Proofs.YtjlkfjnfnonekaaGreatDoor
namespace Go.Proofs.YtjlkfjnfnonekaaGreatDoor.Pl
def gF:Nat->Nat
 |0=>0
 |n+1=>if(gF n+1)*(gF n+1)<=n+1 then gF n+1 else gF n
theorem M9 {a b:Nat} (h:a*a<b*b):a<b:=by
 rcases Nat.lt_or_ge a b with h'|h'
 ·exact h'
 ·exact absurd (Nat.mul_le_mul h' h') (by omega)
theorem GI:∀n,gF n*gF n<=n/\n<(gF n+1)*(gF n+1)
 |0=>by decide
 |n+1=>by
  obtain⟨h1,h2⟩:=GI n
  unfold gF
  split
  ·rename_i h
   refine⟨h,?_⟩
   have e:(gF n+1+1)*(gF n+1+1)=(gF n+1)*(gF n+1)+2*(gF n+1)+1:=by
    rw[Nat.mul_add,Nat.add_mul];omega
   omega
  ·rename_i h
   exact⟨by omega,by omega⟩
theorem S5 {n r:Nat} (h1:r*r<=n) (h2:n<(r+1)*(r+1)):r=gF n:=by
 obtain⟨h3,h4⟩:=GI n
 have a:=M9 (show r*r<(gF n+1)*(gF n+1) by omega)
 have b:=M9 (show gF n*gF n<(r+1)*(r+1) by omega)
 omega
theorem S4 {m n:Nat} (h:m<=n):gF m<=gF n:=by
 obtain⟨h1,h2⟩:=GI m
 obtain⟨h3,h4⟩:=GI n
 have:=M9 (show gF m*gF m<(gF n+1)*(gF n+1) by omega)
 omega
theorem afr (s:Nat):gF (s*s)=s:=by
 refine(S5 (Nat.le_refl _) ?_).symm
 have e:(s+1)*(s+1)=s*s+2*s+1:=by rw[Nat.mul_add,Nat.add_mul];omega
 omega
def nV (c:Nat):Nat:=if c<=1 then 4294967296 else gF (18446744073709551616/c)
theorem AM {c:Nat} (h:c<=1):nV c=4294967296:=by unfold nV;rw[if_pos h]
theorem afh:nV 1=gF (18446744073709551616/1):=by
 have h1:gF (4294967296*4294967296)=4294967296:=afr _
 have h2:(18446744073709551616:Nat)/1=4294967296*4294967296:=by omega
 rw[AM (Nat.le_refl 1),h2,h1]
theorem Dm {c:Nat} (h:1<=c):nV c=gF (18446744073709551616/c):=by
 by_cases e:c=1
 ·subst e;exact afh
 ·unfold nV;rw[if_neg (by omega)]
theorem afe {a b:Nat} (h:a<=b):nV b<=nV a:=by
 by_cases ha:a=0
 ·subst ha
  by_cases hb:b<=1
  ·rw[AM hb,AM (Nat.zero_le 1)];exact Nat.le_refl _
  ·rw[show nV 0=nV 1 by rw[AM (Nat.zero_le 1),AM (Nat.le_refl 1)],Dm (by omega),Dm (by omega)]
   exact S4 (Nat.div_le_div_left (by omega) (by omega))
 ·rw[Dm (by omega),Dm (by omega)]
  exact S4 (Nat.div_le_div_left h (by omega))
theorem afg (c:Nat):nV c<=4294967296:=afe (Nat.zero_le c)
def k9 (n hi:Int):Int:=min (max n 0) hi
def tL (a i:Int) (c:Nat):Int:=k9 a 1125899906842624+k9 i 1073741824*(nV c:Int)/4294967296
theorem zT (n:Int) {hi:Int} (h:0<=hi):0<=k9 n hi/\k9 n hi<=hi:=by unfold k9;omega
theorem Ux (i:Int) (c:Nat):0<=k9 i 1073741824*(nV c:Int)/\k9 i 1073741824*(nV c:Int)<=4611686018427387904:=by
 obtain⟨h1,h2⟩:=zT i (show(0:Int)<=1073741824 by decide)
 have h3:=afg c
 have h4:k9 i 1073741824*(nV c:Int)<=1073741824*4294967296:=Int.mul_le_mul h2 (by omega) (by omega) (by omega)
 exact⟨Int.mul_nonneg h1 (by omega),by omega⟩
end Go.Proofs.YtjlkfjnfnonekaaGreatDoor.Pl
namespace Go.Proofs.YtjlkfjnfnonekaaGreatDoor.Pl
structure e6 where
 first:Int
 drop:Int
 count:Int
 last:Int
 dropping:Bool
 bytes:Int
 pos:Nat
deriving DecidableEq
def eD (now tg iv:Int) (l:List (Int×Int)) (s:e6):e6×Bool×Bool:=
 match l[s.pos]?with
 |none=>({s with first:=0},false,false)
 |some x=>
  if now -x.1<tg\/s.bytes -max x.2 0<=1514 then({s with bytes:=s.bytes -max x.2 0,first:=0},true,false)
  else if s.first=0 then({s with bytes:=s.bytes -max x.2 0,first:=now+iv},true,false)
  else({s with bytes:=s.bytes -max x.2 0},true,decide (s.first<=now))
def kR (c:Int):Int:=if c<4294967295 then c+1 else c
def iF (now tg iv:Int) (l:List (Int×Int)):Nat->e6->Bool->e6×Bool
 |0,s,is=>(s,is)
 |n+1,s,is=>
  if s.drop<=now/\s.dropping=true then
   match eD now tg iv l {s with pos:=s.pos+1,count:=kR s.count}with
   |(t,is,late)=>
    if is=true/\late=true then iF now tg iv l n {t with drop:=tL t.drop iv t.count.toNat} is
    else iF now tg iv l n {t with dropping:=false} is
  else(s,is)
def wrap32 (n:Int):Int:=n%4294967296
def uw (now iv:Int) (s:e6):Int:=if 1<wrap32 (s.count -s.last)/\now -s.drop<16*iv then wrap32 (s.count -s.last)else 1
def re (now tg iv:Int) (l:List (Int×Int)) (s:e6):e6×Bool:=
 match eD now tg iv l {s with pos:=s.pos+1}with
 |(t,is,_)=>({t with dropping:=true,count:=uw now iv t,last:=uw now iv t,drop:=tL now iv (uw now iv t).toNat},is)
def n2 (now tg iv:Int) (l:List (Int×Int)) (s:e6):e6×Bool:=
 match eD now tg iv l s with
 |(t,is,late)=>
  if is=false then({t with dropping:=false},false)
  else if t.dropping=true then
   if late=false then({t with dropping:=false},true)else iF now tg iv l (l.length+1) t true
  else if late=true then re now tg iv l t else(t,true)
structure oU (l:List (Int×Int)) (s:e6):Prop where
 f0:0<=s.first
 f1:s.first<=2251799813685248
 d0:0<=s.drop
 d1:s.drop<=2251799813685248
 cW:0<=s.count
 aK:s.count<4294967296
 lF:0<=s.last
 ca:s.last<4294967296
 gO:-(1048576*((s.pos:Int)+1))<=s.bytes
 al:s.bytes<=1152921504606846976
 p:s.pos<=l.length
structure oT (now tg iv:Int) (l:List (Int×Int)):Prop where
 cp:0<=now
 bC:now<=1126999418470400
 t0:0<=tg
 t1:tg<=1073741824
 i0:0<=iv
 uX:iv<=1073741824
 len:l.length<=1073741824
 a:∀x∈l,0<=x.1/\x.1<=1126999418470400/\x.2<=1048576
theorem LV (a i:Int) (c:Nat):0<=tL a i c/\tL a i c<=2251799813685248:=by
 obtain⟨h1,h2⟩:=Ux i c
 obtain⟨h3,h4⟩:=zT a (show(0:Int)<=1125899906842624 by decide)
 unfold tL
 exact⟨by omega,by omega⟩
theorem ami {c:Int} (h0:0<=c) (h1:c<4294967296):0<=kR c/\kR c<4294967296:=by unfold kR;split<;>omega
theorem sJ (now tg iv:Int) (l:List (Int×Int)) (s:e6):(eD now tg iv l s).1.drop=s.drop/\(eD now tg iv l s).1.count=s.count/\(eD now tg iv l s).1.last=s.last/\
 (eD now tg iv l s).1.dropping=s.dropping/\(eD now tg iv l s).1.pos=s.pos:=by
 unfold eD
 split
 ·simp
 ·split
  ·simp
  ·split<;>simp
theorem wP (now tg iv:Int) (l:List (Int×Int)) (s:e6):(eD now tg iv l s).2.1=decide (s.pos<l.length):=by
 unfold eD
 split
 ·rename_i h;have:=List.getElem?_eq_none_iff.1 h;simp;omega
 ·rename_i h;have:=(List.getElem?_eq_some_iff.1 h).1;split
  ·simp[this]
  ·split<;>simp[this]
theorem agm (now tg iv:Int) (l:List (Int×Int)) (s:e6) (h:(eD now tg iv l s).2.2=true):(eD now tg iv l s).2.1=true:=by
 rw[wP]
 unfold eD at h
 split at h
 ·cases h
 ·rename_i hx;simp[(List.getElem?_eq_some_iff.1 hx).1]
theorem LF {now tg iv:Int} {l:List (Int×Int)} {s:e6} (hE:oT now tg iv l) (h0:0<=s.first) (h1:s.first<=2251799813685248):
 0<=(eD now tg iv l s).1.first/\(eD now tg iv l s).1.first<=2251799813685248:=by
 obtain⟨cp,bC,t0,t1,i0,uX,len,a⟩:=hE
 unfold eD
 split
 ·simp
 ·split
  ·simp
  ·split
   ·exact⟨by simp;omega,by simp;omega⟩
   ·exact⟨h0,h1⟩
theorem Tx {now tg iv:Int} {l:List (Int×Int)} {s:e6} (hE:oT now tg iv l):s.bytes -1048576<=(eD now tg iv l s).1.bytes/\(eD now tg iv l s).1.bytes<=s.bytes:=by
 obtain⟨cp,bC,t0,t1,i0,uX,len,a⟩:=hE
 unfold eD
 split
 ·simp;omega
 ·rename_i x hx
  have:=a x (List.mem_of_getElem? hx)
  split
  ·simp;omega
  ·split
   ·simp;omega
   ·simp;omega
end Go.Proofs.YtjlkfjnfnonekaaGreatDoor.Pl
namespace Go.Proofs.YtjlkfjnfnonekaaGreatDoor.Pl
theorem LR {now tg iv:Int} {l:List (Int×Int)}:∀(n:Nat) (s:e6) (is:Bool),is=decide (s.pos<l.length)->(s.dropping=true->s.pos<l.length)->s.pos<=l.length->
 (iF now tg iv l n s is).2=decide ((iF now tg iv l n s is).1.pos<l.length)/\s.pos<=(iF now tg iv l n s is).1.pos/\(iF now tg iv l n s is).1.pos<=l.length
 |0,s,is,h1,h2,h3=>⟨h1,Nat.le_refl _,h3⟩
 |n+1,s,is,h1,h2,h3=>by
  simp only[iF]
  by_cases hc:s.drop<=now/\s.dropping=true
  ·rw[if_pos hc]
   have cn:=h2 hc.2
   obtain⟨af,ag,aI,cx,cy⟩:=sJ now tg iv l {s with pos:=s.pos+1,count:=kR s.count}
   have ez:=wP now tg iv l {s with pos:=s.pos+1,count:=kR s.count}
   generalize eD now tg iv l {s with pos:=s.pos+1,count:=kR s.count}=r at*
   obtain⟨t,i2,aF⟩:=r
   dsimp only at*
   by_cases hb:i2=true/\aF=true
   ·rw[if_pos hb]
    have:=LR (now:=now) (tg:=tg) (iv:=iv) (l:=l) n {t with drop:=tL t.drop iv t.count.toNat} i2 (by rw[ez];simp[cy]) (λ_=>by rw[hb.1]at ez;simp at ez⊢;omega) (by simp;omega)
    exact⟨this.1,by have:=this.2.1;simp at this;omega,this.2.2⟩
   ·rw[if_neg hb]
    have:=LR (now:=now) (tg:=tg) (iv:=iv) (l:=l) n {t with dropping:=false} i2 (by rw[ez];simp[cy]) (λh=>by cases h) (by simp;omega)
    exact⟨this.1,by have:=this.2.1;simp at this;omega,this.2.2⟩
  ·rw[if_neg hc]
   exact⟨h1,Nat.le_refl _,h3⟩
theorem akc {now tg iv:Int} {l:List (Int×Int)} {s:e6} {R:e6×Bool} (iC:n2 now tg iv l s=R) (hp:s.pos=0):
 R.2=decide (R.1.pos<l.length)/\R.1.pos<=l.length/\(R.2=true\/R.1.dropping=false\/0<R.1.pos):=by
 unfold n2 at iC
 obtain⟨af,ag,aI,cx,cy⟩:=sJ now tg iv l s
 have ez:=wP now tg iv l s
 generalize eD now tg iv l s=r at*
 obtain⟨t,i2,aF⟩:=r
 dsimp only at*
 by_cases h1:i2=false
 ·rw[if_pos h1]at iC
  subst iC
  rw[h1]at ez
  simp at ez
  exact⟨by simp;omega,by simp;omega,by simp⟩
 ·rw[if_neg h1]at iC
  have h1:i2=true:=by simpa using h1
  rw[h1]at ez
  simp at ez
  by_cases h2:t.dropping=true
  ·rw[if_pos h2]at iC
   by_cases h3:aF=false
   ·rw[if_pos h3]at iC;subst iC;exact⟨by simp;omega,by simp;omega,by simp⟩
   ·rw[if_neg h3]at iC
    obtain⟨k1,k2,k3⟩:=LR (now:=now) (tg:=tg) (iv:=iv) (l:=l) (l.length+1) t true (by simp;omega) (λ_=>by omega) (by omega)
    rw[iC]at k1 k2 k3
    refine⟨k1,k3,?_⟩
    cases hm:R.2 with
    |true=>exact .inl rfl
    |false=>rw[hm]at k1;simp at k1;exact .inr (.inr (by omega))
  ·rw[if_neg h2]at iC
   by_cases h3:aF=true
   ·rw[if_pos h3]at iC
    unfold re at iC
    obtain⟨af,ag,aI,cx,dP⟩:=sJ now tg iv l {t with pos:=t.pos+1}
    have adk:=wP now tg iv l {t with pos:=t.pos+1}
    generalize eD now tg iv l {t with pos:=t.pos+1}=r at*
    obtain⟨u,i3,dw⟩:=r
    dsimp only at*
    subst iC
    exact⟨by simp[adk,dP],by simp;omega, .inr (.inr (by simp;omega))⟩
   ·rw[if_neg h3]at iC;subst iC;exact⟨by simp;omega,by simp;omega,by simp⟩
end Go.Proofs.YtjlkfjnfnonekaaGreatDoor.Pl
namespace Go.Proofs.YtjlkfjnfnonekaaGreatDoor.Pl
open Go.Vc Go.RowKit
theorem HN {P:Program} {f:FuncId} {args:Array Value} {h:J} {v:Value} (hc:∀w:World,Calls P f args w λe w'=>e= .returned v/\w'=w):
 aj P f args h λu h'=>u=v/\h'=h:=
 λw hw=>(hc w).mono λe w' ⟨he,kj⟩=>⟨v,he,⟨rfl,by rw[kj,hw]⟩,by rw[kj];exact cH.refl w⟩
theorem afq {n out:Int} (hn:0<=n) (aw:0<=out) (h1:out*out<=n) (h2:n<(out+1)*(out+1)):out=(gF n.toNat:Int):=by
 obtain⟨o,rfl⟩:=Int.eq_ofNat_of_zero_le aw
 obtain⟨m,rfl⟩:=Int.eq_ofNat_of_zero_le hn
 have:o=gF m:=S5 (by rw[<-Int.natCast_mul]at h1;omega) (by
  have e:((o:Int)+1)*((o:Int)+1)=(((o+1)*(o+1):Nat):Int):=by rw[Int.natCast_mul];rfl
  rw[e]at h2;omega)
 simp[<-this]
def bo (n out p:Int):Prop:=0<=out/\0<p/\out+p<=4294967296/\out*out<=n/\n<(out+p)*(out+p)
theorem bo.nb {n out p:Int} (h:bo n out (2*p)) (hp:0<p):0<=out+p/\out+p<=4294967295/\0<=(out+p)*(out+p)/\(out+p)*(out+p)<=18446744065119617025:=by
 obtain⟨h1,h2,h3,h4,aA⟩:=h
 refine⟨by omega,by omega,Int.mul_nonneg (by omega) (by omega),?_⟩
 have:(out+p)*(out+p)<=4294967295*4294967295:=Int.mul_le_mul (by omega) (by omega) (by omega) (by omega)
 omega
theorem bo.up {n out p:Int} (h:bo n out (2*p)) (hp:0<p) (hx:(out+p)*(out+p)<=n):bo n (out+p) p:=by
 obtain⟨h1,h2,h3,h4,aA⟩:=h
 exact⟨by omega,hp,by omega,hx,by rw[show out+p+p=out+2*p by omega];exact aA⟩
theorem bo.down {n out p:Int} (h:bo n out (2*p)) (hp:0<p) (hx:¬(out+p)*(out+p)<=n):bo n out p:=by
 obtain⟨h1,h2,h3,h4,aA⟩:=h
 exact⟨h1,hp,by omega,h4,by omega⟩
theorem bo.start {n:Int} (h0:0<=n) (h1:n<18446744073709551616):bo n 0 (2^32):=by
 rw[show(2:Int)^32=4294967296 by decide]
 exact⟨by decide,by decide,by decide,by omega,by omega⟩
theorem ajX (n:Int) (h:J) (h0:0<=n) (h1:n<18446744073709551616):aj Tryz.prog 307 #[.int .u64 n] h λv h'=>v= .int .u64 (gF n.toNat)/\h'=h:=by
 refine aoz _ _ _ ⟨λout bit h'=>h'=h/\∃k:Nat,k<=32/\bit=2^k/2/\bo n out (2^k),λ_ bit _=>bit.toNat,⟨rfl,32,by decide,by decide,bo.start h0 h1⟩,λ_=>?_⟩
 rintro out bit _ ⟨rfl,k,I,rfl,U⟩
 cases k with
 |zero=>
  refine bF (by decide) ⟨?_,rfl⟩
  obtain⟨r1,r2,tS,xc,yZ⟩:=U
  congr 1
  exact afq h0 r1 xc yZ
 |succ k=>
  have e:(2:Int)^(k+1)=2*2^k:=by rw[Int.pow_succ];omega
  have hp:(0:Int)<2^k:=Int.pow_pos (by decide)
  rw[e]at U
  have ag:(2:Int)^(k+1)/2=2^k:=by rw[e];omega
  rw[ag]
  obtain⟨al,aP,bx,dO⟩:=U.nb hp
  obtain⟨aK,aG,bd,c7,eK⟩:=id U
  refine fB hp ⟨by simp only[fits];omega,by simp only[fits];omega,aC (λc=>?_) (λc=>?_)⟩
  ·exact⟨⟨by omega,by decide,by simp only[fits];omega⟩,⟨rfl,k,by omega,rfl,U.up hp c⟩,by dsimp only;omega⟩
  ·exact⟨⟨by omega,by decide,by simp only[fits];omega⟩,⟨rfl,k,by omega,rfl,U.down hp c⟩,by dsimp only;omega⟩
theorem XE {a:Int} (h0:0<=a) (h1:a<18446744073709551616):bits .and .u64 a 4294967295=a%4294967296:=by
 obtain⟨m,rfl⟩:=Int.eq_ofNat_of_zero_le h0
 have e:bits .and .u64 (m:Int) 4294967295=IntKind.u64.wrap ((BitVec.ofInt 64 (m:Int)&&&BitVec.ofInt 64 4294967295).toNat:Int):=rfl
 have ag:(BitVec.ofInt 64 (m:Int)&&&BitVec.ofInt 64 4294967295).toNat=m%4294967296:=by
  rw[BitVec.toNat_and,BitVec.toNat_ofInt,BitVec.toNat_ofInt]
  have:((m:Int)%(2^64:Nat)).toNat=m:=by omega
  rw[this]
  exact Nat.and_two_pow_sub_one_eq_mod m 32
 rw[e,ag,mP (show fits .u64 _ by simp only[fits];omega)]
 omega
theorem or_zero {a:Int} (h0:0<=a) (h1:a<18446744073709551616):bits .or .u64 a 0=a:=by
 obtain⟨m,rfl⟩:=Int.eq_ofNat_of_zero_le h0
 have e:bits .or .u64 (m:Int) 0=IntKind.u64.wrap ((BitVec.ofInt 64 (m:Int)|||BitVec.ofInt 64 0).toNat:Int):=rfl
 have ag:(BitVec.ofInt 64 (m:Int)|||BitVec.ofInt 64 0).toNat=m:=by
  rw[show BitVec.ofInt 64 0=0#64 from rfl,BitVec.or_zero,BitVec.toNat_ofInt]
  omega
 rw[e,ag,mP (show fits .u64 _ by simp only[fits];omega)]
theorem ags (y:Int) (h:J) (h0:0<=y) (h1:y<=18446744073709551615):aj Tryz.prog 308 #[.int .u64 y] h λv h'=>v= .int .i64 (64 -(Lib.bitLen y.toNat:Int))/\h'=h:=
 HN λw=>Tryz.bits_LeadingZeros64 y w h0 h1
theorem akO {y:Int} (h0:2<=y) (h1:y<4294967296):∃s:Nat,64 -(Lib.bitLen y.toNat:Int)=s/\32<=s/\s<=63/\y*(4294967296*2^(s -32))<18446744073709551616:=by
 have al:=Lib.bitLenAux_bounds 64 y.toNat (by omega) (by omega)
 have aP:=Lib.bitLen_le y.toNat 32 (by omega) (by omega)
 change 1<=Lib.bitLen y.toNat/\_/\y.toNat<2^Lib.bitLen y.toNat at al
 obtain⟨aK,aG,bd⟩:=al
 generalize Lib.bitLen y.toNat=L at*
 refine⟨64 -L,by omega,by omega,by omega,?_⟩
 have af:y.toNat*(4294967296*2^(64 -L -32))<2^L*(4294967296*2^(64 -L -32)):=Nat.mul_lt_mul_of_pos_right bd (Nat.mul_pos (by decide) (Nat.pow_pos (by decide)))
 have ag:2^L*(4294967296*2^(64 -L -32))=18446744073709551616:=by
  rw[show(4294967296:Nat)=2^32 by decide,<-Nat.pow_add,<-Nat.pow_add,show L+(32+(64 -L -32))=64 by omega]
 rw[ag]at af
 have aI:y=(y.toNat:Int):=by omega
 rw[aI,show(4294967296:Int)*2^(64 -L -32)=((4294967296*2^(64 -L -32):Nat):Int) by simp,<-Int.natCast_mul]
 omega
theorem aas {y M:Int} (h0:2<=y) (h1:y<4294967296) (Ak:0<M) (hb:y*(4294967296*M)<18446744073709551616):
 y*(4294967296*M)/4294967296=y*M/\y*(4294967296*M)%4294967296=0/\4294967296*M/(y*M)=4294967296/y/\
 4294967296*M -4294967296/y*(y*M)=4294967296%y*M/\
 4294967296%y*(4294967296*M)/(y*M)=4294967296%y*4294967296/y/\
 4294967296/y*4294967296+4294967296%y*4294967296/y=18446744073709551616/y:=by
 have hy:0<y:=by omega
 have af:y*(4294967296*M)=(y*M)*4294967296:=by rw[Int.mul_left_comm,Int.mul_comm]
 refine⟨by rw[af];exact Int.mul_ediv_cancel _ (by decide),by rw[af];exact Int.mul_emod_left _ _,?_,?_,?_,?_⟩
 ·exact Int.mul_ediv_mul_of_pos_left _ _ Ak
 ·have:=Int.mul_ediv_add_emod 4294967296 y
  have e:4294967296*M=(y*(4294967296/y)+4294967296%y)*M:=by rw[this]
  rw[Int.add_mul]at e
  have aI:y*(4294967296/y)*M=4294967296/y*(y*M):=by rw[Int.mul_comm y (4294967296/y),Int.mul_assoc]
  omega
 ·rw[<-Int.mul_assoc];exact Int.mul_ediv_mul_of_pos_left _ _ Ak
 ·have:=Int.mul_ediv_add_emod 4294967296 y
  have e:(18446744073709551616:Int)=4294967296%y*4294967296+y*(4294967296/y*4294967296):=by
   rw[<-Int.mul_assoc,<-Int.add_mul]
   omega
  rw[e,Int.add_mul_ediv_left _ _ (by omega)]
  omega
theorem wrap_u64 (n:Int):IntKind.u64.wrap n=n%18446744073709551616:=by
 unfold IntKind.wrap;simp[IntKind.bits,IntKind.signed]
theorem ajd {s:Nat} (h:32<=s):dU (s:Int)=4294967296*2^(s -32):=by
 unfold dU
 rw[Int.toNat_natCast,show(4294967296:Int)=2^32 by decide,<-Int.pow_add,show 32+(s -32)=s by omega]
theorem aar (y:Int) (h:J) (h0:2<=y) (h1:y<4294967296):aj Tryz.prog 306 #[.int .u64 1, .int .u64 0, .int .u64 y] h
 λv h'=>(∃r:Int,v= .tuple #[.int .u64 (18446744073709551616/y), .int .u64 r])/\h'=h:=by
 obtain⟨s,hs,s1,s2,hb⟩:=akO h0 h1
 obtain⟨M,Ak⟩:∃M:Int,M=2^(s -32):=⟨_,rfl⟩
 have Kr:0<M:=by rw[Ak];exact Int.pow_pos (by decide)
 rw[<-Ak]at hb
 have hp:dU (s:Int)=4294967296*M:=by rw[ajd s1,Ak]
 obtain⟨d1,d2,d3,d4,d5,d6⟩:=aas h0 h1 Kr hb
 have adP:0<=4294967296/y:=Int.ediv_nonneg (by decide) (by omega)
 have Db:4294967296/y<=2147483648:=Int.ediv_le_of_le_mul (by omega) (by omega)
 have Az:0<=4294967296%y:=Int.emod_nonneg _ (by omega)
 have oy:4294967296%y<y:=Int.emod_lt_of_pos _ (by omega)
 have aem:0<y*M:=Int.mul_pos (by omega) Kr
 have ar4:y*M<4294967296:=by
  have:y*(4294967296*M)=4294967296*(y*M):=by rw[Int.mul_left_comm]
  omega
 have arn:M<=y*M:=by
  have:1*M<=y*M:=Int.mul_le_mul_of_nonneg_right (by omega) (by omega)
  omega
 have arS:4294967296%y*M<y*M:=Int.mul_lt_mul_of_pos_right oy Kr
 have arT:0<=4294967296%y*M:=Int.mul_nonneg Az (by omega)
 have arU:4294967296%y*(4294967296*M)=4294967296*(4294967296%y*M):=by rw[Int.mul_left_comm]
 have KY:4294967296%y*4294967296/y<4294967296:=by
  apply Int.ediv_lt_of_lt_mul (by omega)
  omega
 have St:0<=4294967296%y*4294967296/y:=Int.ediv_nonneg (by omega) (by omega)
 have Ge:0<=4294967296/y*(y*M):=Int.mul_nonneg adP (by omega)
 refine aoA _ _ _ _ _ ?_
 rintro _ rfl _ rfl
 refine bF (by omega) (bF (by omega) (bF (by decide) ((ags _ _ (by omega) (by omega)).ret ⟨_,rfl,?_⟩)))
 rw[hs]
 refine⟨by simp only[fits];omega,?_⟩
 rintro _ rfl
 rw[hp]
 refine⟨⟨by omega,by simp only[nW];omega⟩,by simp only[fits];omega,?_⟩
 rintro _ rfl
 refine⟨by decide,?_⟩
 rintro _ rfl _ rfl
 rw[d1,XE (by omega) hb,d2]
 refine⟨⟨by omega,by simp only[nW];omega⟩,by simp only[fits];omega,by simp only[fits];omega,⟨by omega,by simp only[nW];omega⟩,?_⟩
 rw[show(0:Int)/dU (64 -(s:Int))=0 from Int.zero_ediv _,show(1:Int)*(4294967296*M)=4294967296*M by omega,or_zero (by omega) (by omega)]
 rintro _ rfl
 refine⟨⟨by omega,by simp only[nW];omega⟩,by simp only[fits];omega,?_⟩
 rintro _ rfl
 refine⟨by decide,?_⟩
 rintro _ rfl _ rfl
 rw[show(0:Int)*(4294967296*M)=0 by omega,show(0:Int)/4294967296=0 by decide,show bits .and .u64 0 4294967295=0 by decide]
 refine⟨⟨by omega,by omega,by rw[d3];simp only[fits];omega⟩,?_⟩
 rintro _ rfl
 rw[d3]
 refine⟨by simp only[fits];omega,by simp only[fits];omega,?_⟩
 rintro _ rfl
 rw[d4]
 refine⟨λq h'=>q=4294967296/y/\h'=h,⟨λq r h'=>q=4294967296/y/\r=4294967296%y*M/\h'=h,λ_ _ _=>0,⟨rfl,rfl,rfl⟩,λ_=>?_⟩,λ_=>?_⟩
 ·rintro _ _ _ ⟨rfl,rfl,rfl⟩
  exact bF (by omega) ⟨by simp only[fits];omega,by simp only[fits];omega,by simp only[fits];omega,bF (by omega) ⟨rfl,rfl⟩⟩
 ·rintro _ h2 ⟨rfl,rfl⟩ _ rfl
  have e:IntKind.u64.wrap (IntKind.u64.wrap (IntKind.u64.wrap (4294967296*M*4294967296)+0) -IntKind.u64.wrap (4294967296/y*(y*(4294967296*M))))=4294967296%y*(4294967296*M):=by
   simp only[wrap_u64]
   have k1:4294967296/y*(y*(4294967296*M))=4294967296*(4294967296/y*(y*M)):=by rw[Int.mul_left_comm y,Int.mul_left_comm]
   omega
  rw[e]
  refine⟨⟨by omega,by omega,by rw[d5];simp only[fits];omega⟩,?_⟩
  rintro _ rfl
  rw[d5]
  have hm:4294967296%y*4294967296/y*(y*M)<=4294967296%y*(4294967296*M):=by
   rw[<-d5];exact Int.ediv_mul_le _ (by omega)
  have KP:0<=4294967296%y*4294967296/y*(y*M):=Int.mul_nonneg St (by omega)
  have cn:4294967296%y*(4294967296*M)<4294967296%y*4294967296/y*(y*M)+y*M:=by
   rw[<-d5]
   have:=Int.lt_ediv_add_one_mul_self (4294967296%y*(4294967296*M)) aem
   rw[Int.add_mul]at this;omega
  refine⟨by simp only[fits];omega,by simp only[fits];omega,?_⟩
  rintro _ rfl
  refine⟨λq h'=>q=4294967296%y*4294967296/y/\h'=h2,⟨λr q h'=>q=4294967296%y*4294967296/y/\0<=r/\r<y*M/\h'=h2,λ_ _ _=>0,⟨rfl,by omega,by omega,rfl⟩,λ_=>?_⟩,λ_=>?_⟩
  ·rintro _ _ _ ⟨rfl,k1,k2,rfl⟩
   exact bF (by omega) ⟨by simp only[fits];omega,by simp only[fits];omega,by simp only[fits];omega,bF (by omega) ⟨rfl,rfl⟩⟩
  ·rintro _ _ ⟨rfl,rfl⟩
   refine⟨⟨by omega,by simp only[nW];omega⟩,?_⟩
   rintro _ rfl _ rfl
   have k2:IntKind.u64.wrap (IntKind.u64.wrap (4294967296/y*4294967296)+4294967296%y*4294967296/y)=18446744073709551616/y:=by
    simp only[wrap_u64];omega
   rw[k2]
   exact⟨⟨_,rfl⟩,rfl⟩
theorem aff {c:Int} (h0:2<=c) (h1:c<4294967296):(gF (18446744073709551616/c).toNat:Int)=(nV c.toNat:Int):=by
 obtain⟨n,rfl⟩:=Int.eq_ofNat_of_zero_le (show 0<=c by omega)
 rw[Dm (by simp;omega)]
 have:(18446744073709551616/(n:Int)).toNat=18446744073709551616/n:=by
  rw[show(18446744073709551616:Int)=((18446744073709551616:Nat):Int) by rfl,<-Int.natCast_ediv,Int.toNat_natCast]
 rw[this];simp
theorem afi (c:Int) (h:J) (h0:0<=c) (h1:c<4294967296):aj Tryz.prog 305 #[.int .u32 c] h λv h'=>v= .int .u64 (nV c.toNat)/\h'=h:=by
 refine aox _ _ _ (aC (λk=>⟨by rw[AM (by omega)];rfl,rfl⟩) λk=>⟨by simp only[fits];omega,(aar _ _ (by omega) h1).mono ?_⟩)
 rintro _ _ ⟨⟨r,rfl⟩,rfl⟩
 have q0:0<=18446744073709551616/c:=Int.ediv_nonneg (by decide) (by omega)
 have q1:18446744073709551616/c<=9223372036854775808:=Int.ediv_le_of_le_mul (by omega) (by omega)
 refine⟨_,_,rfl,(ajX _ _ q0 (by omega)).ret ⟨_,rfl,?_,rfl⟩⟩
 rw[aff (by omega) h1]
theorem TQ (a i c:Int) (h:J) (h0:0<=c) (h1:c<4294967296):aj Tryz.prog 304 #[.int .i64 a, .int .i64 i, .int .u32 c] h λv h'=>v= .int .i64 (tL a i c.toNat)/\h'=h:=by
 obtain⟨p1,p2⟩:=Ux i c.toNat
 obtain⟨aK,aG⟩:=zT i (show(0:Int)<=1073741824 by decide)
 obtain⟨bd,c7⟩:=zT a (show(0:Int)<=1125899906842624 by decide)
 refine aoy _ _ _ _ _ ?_
 rw[show min (max i 0) 1073741824=k9 i 1073741824 from rfl,show min (max a 0) 1125899906842624=k9 a 1125899906842624 from rfl]
 exact⟨by simp only[fits];omega,(afi _ _ h0 h1).ret ⟨_,rfl,by simp only[fits];omega,⟨by decide,by decide⟩,by simp only[fits];omega,by simp only[fits];omega,rfl,rfl⟩⟩
end Go.Proofs.YtjlkfjnfnonekaaGreatDoor.Pl
