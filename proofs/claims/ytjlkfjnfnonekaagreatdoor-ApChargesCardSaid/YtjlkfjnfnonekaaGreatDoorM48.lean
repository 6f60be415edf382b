import Derived.Test.YtjlkfjnfnonekaaGreatDoorM47
import Derived.Test.YtjlkfjnfnonekaaGreatDoorM46
import Derived.Test.YtjlkfjnfnonekaaGreatDoorM20
import Derived.Test.YtjlkfjnfnonekaaGreatDoorRows
import Derived.LaidMore
import Derived.LaidLaws
set_option linter.all false
set_option maxRecDepth 8000
namespace Go.Proofs.YtjlkfjnfnonekaaGreatDoor
open Go.Vc
section
variable{W:Wd} {h h':J} {R L:List aL} {a k j n tid ac:Nat} {y:cR} {g:cQ} {x:ab} {c:jT} {w:Int} {r:bo} {p:hr} {eo:List Int} {ads:List Addr}
theorem y1 {α:Type} {n:Nat} {v d:α} (h:k<n):(List.replicate n v).getD k d=v:=by
 rw[List.getD_eq_getElem?_getD,List.getElem?_replicate,if_pos h];rfl
theorem ahT:(List.replicate 16 (none:Option ba)).getD k none=none:=by
 rw[List.getD_eq_getElem?_getD,List.getElem?_replicate];split<;>rfl
theorem alm:eH c3:=⟨rfl,λk s I=>by
 unfold c3 at I
 rw[List.getElem?_replicate]at I
 split at I<;>cases I⟩
theorem Pj (p3:BE c):vz (k6 c):=by
 have ih:∀k,(k6 c).st.getD k none=none:= λk=>ahT
 refine⟨⟨⟨rfl,rfl,λk s I=>(by rw[ih]at I;cases I),p3.ey,p3.t4⟩,λk s I=>(by rw[ih]at I;cases I),Pl.Mq _ _ _ p3.eh.1 p3.eh.2 p3.bt.1 p3.bt.2,?_,λp hp=>?_,⟨rfl,?_,?_⟩,⟨⟨rfl,?_⟩,?_⟩,⟨rfl,?_⟩,λj ah=>?_,⟨rfl,λk c I=>?_⟩,Nat.zero_le _,⟨Int.le_refl 0,by show(0:Int)<=1125899906842624;decide⟩,λk s I=>(by rw[ih]at I;cases I),⟨Int.le_refl 0,by show(0:Int)<=1000000;decide⟩,λz hz=>?_,p3.toEL,λo aw=>?_⟩,λk s I=>(by rw[ih]at I;cases I),λk I=>?_,λj ah k I=>?_⟩
 ·show(Pl.ln _ _ _ _ _).len<=1000000;rw[Pl.AU];decide
 ·have h:=Pl.AU c.bf c.tg c.iv c.eh c.bt
  rw[Pl.bL.rA]at h
  have hp:p∈(Pl.ln c.bf c.tg c.iv c.eh c.bt).all:=hp
  rw[List.length_eq_zero_iff.1 h]at hp;cases hp
 ·intro o aw;rw[List.eq_of_mem_replicate aw];rfl
 ·intro o aw;rw[List.eq_of_mem_replicate aw];exact⟨by decide,by decide⟩
 ·intro o aw;rw[List.eq_of_mem_replicate aw];exact UO.1
 ·intro o aw;rw[List.eq_of_mem_replicate aw];exact UO.2
 ·intro o aw;rw[List.eq_of_mem_replicate aw];exact⟨by decide,by decide⟩
 ·show eH ((List.replicate 4 c3).getD j c3);rw[y1 ah];exact alm
 ·have I:(List.replicate 4 la)[k]?=some c:=I
  rw[List.getElem?_replicate]at I
  split at I
  ·rename_i h4
   cases I
   have:=sg (k4 h4)
   exact⟨⟨by decide,by decide⟩,Int.le_refl 0,by show(0:Int)<=_;omega⟩
  ·cases I
 ·rw[List.eq_of_mem_replicate hz];show(0:Int)<=20000000*0;decide
 ·rw[List.eq_of_mem_replicate aw];decide
 ·rw[ih,show cc (k6 c).dh 0=[]from rfl];simp
 ·rw[ih]
  show((((List.replicate 4 c3).getD j c3)).getD k none).isSome=_
  rw[y1 ah]
  unfold c3
  rw[List.getD_eq_getElem?_getD,List.getElem?_replicate]
  split<;>rfl
theorem PY:BE (xW 0):=
 ⟨⟨by decide,⟨by decide,by decide⟩,by decide,by decide,by decide,by decide⟩,rfl,rfl,by decide,by decide,by decide,by decide,by decide,by decide,by decide⟩
theorem PX:BE pX:=
 ⟨⟨by decide,⟨by decide,by decide⟩,by decide,by decide,by decide,by decide⟩,rfl,rfl,by decide,by decide,by decide,by decide,by decide,by decide,by decide⟩
theorem aku:(k6 (xW 0)).send 0 [0,0,0,0]=(k6 (xW 0),none):=rfl
theorem Ta (hc:x=k6 c) (hb:c.bss=gP) (k:Int) (I:k=0\/k=1):BI x (jt k) 0:=by
 subst hc
 rcases I with rfl|rfl
 all_goals exact⟨rfl,by decide,by show jt _≠c.bss;rw[hb];decide,rfl,by decide,rfl,λj ah=>by show hB ((List.replicate 4 c3).getD j c3) 1=none;rw[y1 ah];rfl,rfl,λz hz=>by rw[List.eq_of_mem_replicate hz];decide⟩
def B3:ab:=⟨pX,0,⟨true,jt 0,1⟩::List.replicate 15 w3,HC 0::List.replicate 15 pB,[],Pl.ln 0 50000 1000000 40 8000,rh 0,List.replicate 4 (some ⟨1,0,false⟩::List.replicate 15 none),List.replicate 4 la,some ⟨oK,0,List.replicate 8 lG,List.replicate 4 0⟩::List.replicate 15 none,0,[]⟩
def vg:oc:=⟨0,[],Pl.ln 0 50000 1000000 40 8000,0,false,0,lG,0,oK,0⟩
theorem Yb:(k6 pX).oA 0 0 0=B3:=rfl
theorem Ya (ht:tid<8) (h4:ac<4):B3.oA 1 0 1=bA tid ac vg 0 []:=by
 have a:ac=0\/ac=1\/ac=2\/ac=3:=by omega
 have t:tid=0\/tid=1\/tid=2\/tid=3\/tid=4\/tid=5\/tid=6\/tid=7:=by omega
 have af:∀ac,ac=0\/ac=1\/ac=2\/ac=3->(List.replicate 4 (gQ 0 false)).set ac (gQ 0 false)=List.replicate 4 (gQ 0 false)/\(List.replicate 4 la).set ac ⟨false,0,0⟩=List.replicate 4 la/\(List.replicate 4 (0:Int)).set ac 0=List.replicate 4 0:=by
  rintro _ (rfl|rfl|rfl|rfl)<;>exact⟨rfl,rfl,rfl⟩
 have ag:(List.replicate 8 lG).set tid lG=List.replicate 8 lG:=by
  rcases t with rfl|rfl|rfl|rfl|rfl|rfl|rfl|rfl<;>rfl
 obtain⟨h1,h2,h3⟩:=af ac a
 unfold bA mc
 rw[show vg.y=lG from rfl,show vg.A=0 from rfl,show vg.t=0 from rfl,show vg.on=false from rfl,show vg.g=0 from rfl,h1,h2,h3,ag]
 rfl
theorem Yc:bl B3:=by
 have aK:∀k s,B3.st.getD k none=some s->s=⟨oK,0,List.replicate 8 lG,List.replicate 4 0⟩:= λk s I=>by
  match k,I with
  |0,I=>cases I;rfl
  |k+1,I=>
   replace I:(List.replicate 15 (none:Option ba)).getD k none=some s:=I
   rw[List.getD_eq_getElem?_getD,List.getElem?_replicate]at I
   split at I<;>cases I
 refine⟨⟨rfl,rfl,λk s I=>(by rw[aK k s I];exact⟨rfl,rfl⟩),rfl,rfl⟩,λk s I t ht=>(by rw[aK k s I,HK ht];exact LD.ok),Pl.Mq _ _ _ (by decide) (by decide) (by decide) (by decide),?_,λp hp=>?_,⟨rfl,by decide,by decide⟩,⟨⟨rfl,by decide⟩,by decide⟩,Tt,λj ah=>?_,⟨rfl,λk c I=>?_⟩,Nat.zero_le _,⟨Int.le_refl 0,by show(0:Int)<=1125899906842624;decide⟩,λk s I=>(by rw[aK k s I];exact⟨⟨by show(0:Int)<=0;decide,by show(0:Int)<256;decide⟩,rfl,λz hz=>by rw[List.eq_of_mem_replicate hz];show(0:Int)<=0/\(0:Int)<=20000000*0;decide⟩),⟨Int.le_refl 0,by show(0:Int)<=1000000;decide⟩,λz hz=>?_,PV,by decide⟩
 ·show(Pl.ln _ _ _ _ _).len<=1000000;rw[Pl.AU];decide
 ·have h:=Pl.AU 0 50000 1000000 40 8000
  rw[Pl.bL.rA]at h
  have hp:p∈(Pl.ln 0 50000 1000000 40 8000).all:=hp
  rw[List.length_eq_zero_iff.1 h]at hp;cases hp
 ·show eH ((List.replicate 4 (some ⟨1,0,false⟩::List.replicate 15 none)).getD j c3)
  rw[y1 ah]
  refine⟨rfl,λk s I=>?_⟩
  match k,I with
  |0,I=>cases I;exact⟨Int.le_refl 1,by show(1:Int)<=100;decide,Int.le_refl 0,by show(0:Int)<=_;decide⟩
  |k+1,I=>
   replace I:(List.replicate 15 (none:Option Go.Vc.eU))[k]?=some (some s):=I
   rw[List.getElem?_replicate]at I
   split at I<;>cases I
 ·have I:(List.replicate 4 la)[k]?=some c:=I
  rw[List.getElem?_replicate]at I
  split at I
  ·rename_i h4
   cases I
   have:=sg (k4 h4)
   exact⟨⟨by decide,by decide⟩,Int.le_refl 0,by show(0:Int)<=_;omega⟩
  ·cases I
 ·have:z=0:=by
   have:z∈(0:Int)::List.replicate 15 0:=hz
   simp at this;exact this
  rw[this];show(0:Int)<=20000000*0;decide
theorem afu:BI B3 (jt 1) 1:=
 ⟨rfl,by decide,by decide,rfl,by decide,rfl,λj ah=>(by show hB ((List.replicate 4 (some ⟨1,0,false⟩::List.replicate 15 none)).getD j c3) 2=none;rw[y1 ah];rfl),rfl,by decide⟩
theorem aju (ht:tid<8) (h4:ac<4):vA vg tid ac n 0 0:=by
 have:=sg (k4 h4)
 exact⟨by decide,Pl.ho.new _ _ _ (by unfold Pl.dJ;omega),by decide,GP,by decide,by decide,⟨Int.le_refl 0,by show(0:Int)<=_;omega⟩,by decide,by decide,by decide,rfl⟩
theorem abH (a7:Snt W ads) (m:aa W h L):aj Tryz.prog 4 #[] h λv h'=>v= .bool true/\∃W',W.le W'/\aa W' h' L:=by
 refine aoM _ _ ((PU m).mono ?_)
 rintro _ h1 ⟨rfl,m1⟩
 refine⟨_,rfl,(O7 PY a7 m1).mono ?_⟩
 rintro _ h2 ⟨a,y,g,rfl,q,m2⟩
 refine⟨_,_,rfl,aZ rfl ⟨true,jk,aZ rfl ((Pd (dr:=[0,0,0,0]) (Pj PY) a7 q ⟨by decide,by decide⟩ rfl (by decide) (by decide) (by decide) m2).mono ?_)⟩⟩
 rw[aku]
 rintro _ h3 ⟨aQ,b0,g1,hle,q1,rG,m3,⟨-,rfl,rfl⟩|⟨u,bp,nL,dz,e,-⟩⟩
 ·refine⟨_,_,rfl,m3.bb λal h4 m4=>m4.c8 0 rfl rfl rfl tW λaA m5=>(I0 ⟨by decide,by decide⟩ m5).mono ?_⟩
  rintro _ aU ⟨rfl,m6⟩
  refine⟨_,rfl,(O4 (r:=⟨false,0⟩) rG (a7.le hle) q1 (Ta rfl rfl 1 (.inr rfl)) rfl ⟨by decide,by decide⟩ ⟨by decide,by decide⟩ (c4 m6)).mono ?_⟩
  rintro _ bW ⟨rfl,g',b,p,q',m7⟩
  exact⟨_,_,rfl,df rfl ⟨true,jk,df rfl ⟨rfl,aQ,hle,((m7.gD (Q:=aq a _ g' _)).aB.sub ⟨(aq a _ g' _).flatten,by simp only[List.flatten_append];exact List.perm_append_comm⟩)⟩⟩⟩
 ·cases e
end
end Go.Proofs.YtjlkfjnfnonekaaGreatDoor
set_option maxRecDepth 8000
namespace Go.Proofs.YtjlkfjnfnonekaaGreatDoor
open Go.Vc
section
variable{W:Wd} {h h':J} {R L:List aL} {a w k j n tid ac m N b:Nat} {y:cR} {g:cQ} {x:ab} {c:jT} {z v t:Int} {q:oc} {r:bo} {ws:List bR} {ads:List Addr} {o:iw} {cs:List Value} {T:TypeId}
theorem Xu (h4:ac<4) {a:Int} (ha:0<=a/\a<4):(bA tid ac q z ws).air 1 a=(if a=ac then q.A else 0)/\(bA tid ac q z ws).air 2 a=0:=by
 unfold ab.air
 rw[se,JF]
 dsimp only
 rw[if_pos ha,if_pos ha]
 constructor
 ·show((List.replicate 4 (0:Int)).set ac q.A).getD a.toNat 0=_
  rw[fg (by simpa using h4)]
  by_cases e:a.toNat=ac
  ·rw[if_pos e,if_pos (by omega)]
  ·rw[if_neg e,if_neg (by omega)]
   exact y1 (by omega)
 ·exact y1 (by omega)
theorem ajD (h:0<=v/\v<=7):(bA tid ac q z ws).y0 1 ⟨true,v⟩=(bA tid ac {q with r:=⟨true,v⟩} z ws,none):=by
 unfold ab.y0
 rw[se]
 dsimp only
 rw[if_pos (bo.wZ.2 h)]
 rfl
theorem aia (i:vA q tid ac n m k) (ht:tid<8) (hm:m<=2) (hn:n<=199) (hb:q.book.length<=9) (hN:q.now<=t/\t<=200000000):
 ∃q',(bA tid ac q 0 []).offer t 1 tid 0 (List.replicate n 0)=(bA tid ac q' 0 [],(q.book.length:Int)+1,none)/\vA q' tid ac n (m+1) k/\q'.A=q.A/\q'.r=q.r/\q'.num=q.num/\q'.now=t/\q'.book.length=q.book.length+1:=by
 have hi:=i.now
 obtain⟨af,aK⟩:=i.bK.put (p:=⟨(q.book.length:Int)+1,0,tid,t,List.replicate n 0⟩) (by unfold Pl.dJ;omega) (by have:=i.m;omega) hn (by show 0<=t;omega) (by show t<=_;omega) rfl
 refine⟨{q with now:=t,bK:=q.bK.set (Pl.dJ 1 tid) ((q.bK.b7 (Pl.dJ 1 tid)).put ⟨(q.book.length:Int)+1,0,tid,t,List.replicate n 0⟩),book:=q.book++[(1,0)]},?_,⟨⟨by show 0<=t;omega,hN.2⟩,aK,by omega,i.y,i.v,by show(q.book++[(1,0)]).length<=10;simp;omega,i.g,i.t,i.num,i.A,i.r⟩,rfl,rfl,rfl,rfl,by show(q.book++[(1,0)]).length=_;simp⟩
 unfold ab.offer
 rw[se]
 dsimp only
 rw[if_neg (by show¬((tid:Int)<0\/8<=(tid:Int)\/1500<(List.replicate n (0:Int)).length\/t<q.now);rw[List.length_replicate];omega)]
 unfold ab.DY
 have ag:(bA tid ac q 0 []).bK.jl 1 ((bA tid ac q 0 []).qG t tid 0 (List.replicate n 0))=(q.bK.set (Pl.dJ 1 tid) ((q.bK.b7 (Pl.dJ 1 tid)).put ⟨(q.book.length:Int)+1,0,tid,t,List.replicate n 0⟩),[]):=by
  unfold Pl.bL.jl
  rw[if_pos (Pl.vp.2 ⟨by decide,by decide,by show(0:Int)<=tid;omega,by show(tid:Int)<8;omega⟩)]
  exact af
 rw[ag]
 rfl
theorem V9 (h:0<=v/\v<=7) (hz:0<=z/\z<=1000):(⟨true,v⟩:bo).total z=360+(22+8*z+(⟨true,v⟩:bo).bits -1)/(⟨true,v⟩:bo).bits*40+480:=by
 have hp:=Mw (r:=⟨true,v⟩) (bo.wZ.2 h) hz
 unfold bo.total
 rw[if_neg (by omega)]
 unfold bo.kp
 rw[if_pos ⟨bo.wZ.2 h,hz.1,by omega⟩]
 rfl
theorem al2 (h:0<=v/\v<=6) (hz:0<=z/\z<=1000):(⟨true,v+1⟩:bo).total z<=(⟨true,v⟩:bo).total z:=by
 rw[V9 ⟨by omega,by omega⟩ hz,V9 ⟨by omega,by omega⟩ hz]
 have:v=0\/v=1\/v=2\/v=3\/v=4\/v=5\/v=6:=by omega
 rcases this with rfl|rfl|rfl|rfl|rfl|rfl|rfl<;>
 ·simp only[bo.bits,xR,if_true]
  simp only[show(0:Int).toNat=0 from rfl,show((0:Int)+1).toNat=1 from rfl,show(1:Int).toNat=1 from rfl,show((1:Int)+1).toNat=2 from rfl,show(2:Int).toNat=2 from rfl,show((2:Int)+1).toNat=3 from rfl,show(3:Int).toNat=3 from rfl,show((3:Int)+1).toNat=4 from rfl,show(4:Int).toNat=4 from rfl,show((4:Int)+1).toNat=5 from rfl,show(5:Int).toNat=5 from rfl,show((5:Int)+1).toNat=6 from rfl,show(6:Int).toNat=6 from rfl,show((6:Int)+1).toNat=7 from rfl,List.getD_cons_zero,List.getD_cons_succ]
  omega
theorem NB (h:0<=v/\v<=7) (hz:0<=z/\z<=1000):0<=(⟨true,v⟩:bo).total z/\(⟨true,v⟩:bo).total z<=60000:=by
 have:=Mw (r:=⟨true,v⟩) (bo.wZ.2 h) hz
 unfold bo.total
 rw[if_neg (by omega)];omega
theorem hH.bb {M:Nat->J->Prop} (c:hH N W h w o x R) (K:∀b h1,hH N W h1 w o x ([⟨b,0,cs,some T⟩]::R)->M b h1):∀(b:Nat) (h1:J),b=h.size->h1=h.push (.cells cs.toArray T)->M b h1:=by
 obtain⟨y,g,b1,ps,us,ts,gs,ua,ul,uc,eb,dA,h6,lA,ji,gc,kc,jS,fo,iH,fP,jR,q,hp,h1,h2,h3,h4,aA,aU,bW,bJ,ct,dS,fD,fu,m⟩:=c
 refine m.bb λb h1' m1=>K b h1' ⟨y,g,b1,ps,us,ts,gs,ua,ul,uc,eb,dA,h6,lA,ji,gc,kc,jS,fo,iH,fP,jR,q,hp,h1,h2,h3,h4,aA,aU,bW,bJ,ct,dS,fD,fu,?_⟩
 exact m1.jy (Q:=aq o.a y g x++[dj w o,ae fo,ae fP,ae iH,ae jR,cA iG 8 b1 13 ps,[⟨b1,0,ints .u8 (jt 0)++(ints .u8 gP++[.int .i64 16]),none⟩]])
theorem hH.nY (c:hH N W h w o x R):∃Q,Q.length=23/\Q[16]?=some (dj w o)/\aa W h (Q++R)/\∀{W' h' fM},W.le W'->aa W' h' (Q++fM)->hH N W' h' w o x fM:=by
 obtain⟨y,g,b1,ps,us,ts,gs,ua,ul,uc,eb,dA,h6,lA,ji,gc,kc,jS,fo,iH,fP,jR,q,hp,h1,h2,h3,h4,aA,aU,bW,bJ,ct,dS,fD,fu,m⟩:=c
 exact⟨aq o.a y g x++[dj w o,ae fo,ae fP,ae iH,ae jR,cA iG 8 b1 13 ps,[⟨b1,0,ints .u8 (jt 0)++(ints .u8 gP++[(.int .i64 (16:Int):Value)]),none⟩]],rfl,rfl,m,λhle ax=>⟨y,g,b1,ps,us,ts,gs,ua,ul,uc,eb,dA,h6,lA,ji,gc,kc,jS,fo,iH,fP,jR,q.le hle,hp,h1,h2,h3,h4,aA,aU,bW,bJ,ct,dS,fD,fu,ax⟩⟩
theorem ZU {s1 s2:Nat} (hx:x=(k6 pX).oA 0 0 0) (aw:o=((((EE a 16).c6 100).e4 0 ⟨1,some ⟨s1,0,none⟩,kn,kn,false,kn⟩).c6 200).e4 1 ⟨2,some ⟨s2,0,none⟩,kn,kn,false,kn⟩)
 (q:aH W a y g (x.oA 1 0 1)) (ht:tid<8) (h4:ac<4) (m:aa W h (aq a y g (x.oA 1 0 1)++dj w o::(qM s2 (jt 1) (List.replicate 8 (false,0))++(qM s1 (jt 0) (List.replicate 8 (false,0))++R)))):
 hH 0 W h w o (bA tid ac vg 0 []) R:=by
 rw[hx,Yb,Ya ht h4]at q m
 subst aw
 refine⟨y,g,s1,List.replicate 8 (false,0),[],[],[],none,0,0,none,0,0,none,0,0,none,0,[],[],[],[],q,⟨rfl,λp hp=>by rw[List.eq_of_mem_replicate hp];decide⟩,rfl,rfl,rfl,au.nil,rfl,au.nil,rfl,au.nil,rfl,au.nil,⟨Nat.le_refl _,Nat.le_refl _,Nat.le_refl _⟩,rfl,?_⟩
 exact(OJ (OJ m)).perm (by simp only[List.flatten_append,List.flatten_cons];exact List.Perm.refl _)
end
end Go.Proofs.YtjlkfjnfnonekaaGreatDoor
set_option maxRecDepth 8000
namespace Go.Proofs.YtjlkfjnfnonekaaGreatDoor
open Go.Vc
def Ie (v z:Int) (i:Nat):List Value:=[.int .i64 (if 1<=i then(⟨true,v⟩:bo).total z else 0), .int .i64 (if 2<=i then(⟨true,v+1⟩:bo).total z else 0)]
def Bs (v z:Int) (i:Nat):Int:=(if 1<=i then(⟨true,v⟩:bo).total z else 0)+(if 2<=i then(⟨true,v+1⟩:bo).total z else 0)
section
variable{W:Wd} {h h':J} {R L:List aL} {w k j n tid ac m N b p i:Nat} {x:ab} {z v xp t:Int} {q:oc} {ws:List bR} {ads:List Addr} {o:iw} {cs:List Value} {T:Option TypeId} {q7:TypeId} {u:Value}
theorem V6 (hi:i<2):(Ie v z i).set i (.int .i64 ((⟨true,v+i⟩:bo).total z))=Ie v z (i+1):=by
 have:i=0\/i=1:=by omega
 rcases this with rfl|rfl
 ·rw[show v+((0:Nat):Int)=v by omega];rfl
 ·rfl
theorem V5 (hi:i<2):(Ie v z (i+1))[i]?=some (.int .i64 ((⟨true,v+i⟩:bo).total z)):=by
 rw[<-V6 hi,List.getElem?_set_self (by show i<2;exact hi)]
theorem alP (hi:i<2):Bs v z (i+1)=Bs v z i+(⟨true,v+i⟩:bo).total z:=by
 have:i=0\/i=1:=by omega
 rcases this with rfl|rfl
 ·rw[show v+((0:Nat):Int)=v by omega];unfold Bs;simp
 ·unfold Bs;simp
theorem hH.cell (c:hH N W h w o x R) (j:Nat) (ah:(oQ o)[j]?=some u) (hp:p=21+j:=by omega):cell h w p=some u:=by
 obtain⟨Q,hl,rn,m,-⟩:=c.nY
 exact m.cell 16 (by rw[List.getElem?_append_left (by omega)];exact rn) j ah hp
theorem hH.rf (c:hH N W h w o x ([⟨b,0,cs,T⟩]::R)) (j:Nat) (ah:cs[j]?=some u) (hp:p=0+j:=by omega):Go.Vc.cell h b p=some u:=by
 obtain⟨Q,hl,-,m,-⟩:=c.nY
 exact m.cell 23 (by rw[List.getElem?_append_right (by omega),hl];rfl) j ah hp
theorem hH.store {Q:J->Prop} (c:hH N W h w o x ([⟨b,0,cs,T⟩]::R)) (j:Nat) (ah:j<cs.length) (K:∀h1,hH N W h1 w o x ([⟨b,0,cs.set j u,T⟩]::R)->Q h1) (hp:p=0+j:=by omega):wr h b p/\∀h1,h1=b3 h b p u->Q h1:=by
 obtain⟨Q,hl,-,m,k⟩:=c.nY
 refine m.store 23 (by rw[List.getElem?_append_right (by omega),hl];rfl) j (by rw[Nat.ble_eq];omega) (λh1 m1=>K h1 (k (Wd.le.refl W) ?_)) hp
 rw[List.set_append_right _ _ (by omega),hl]at m1
 exact m1
theorem hH.made (c:hH N W h w o x ([⟨b,0,cX (List.replicate n [(.int .u8 (0:Int))]),some q7⟩]::R)):∃W',W.le W'/\cm W' (.slice (some ⟨b,0,none⟩) n n) (List.replicate n 0)/\hH N W' h w o x R:=by
 obtain⟨Q,hl,-,m,k⟩:=c.nY
 have m1:aa W h (ae [(b,cX (List.replicate n [(.int .u8 (0:Int))]),q7)]::(Q++R)):=m.gD
 obtain⟨W',hle,hE,m2⟩:=m1.give
 rw[show cX (List.replicate n [(.int .u8 (0:Int))])=ints .u8 (List.replicate n 0) by rw[wK];simp[ints]]at hE
 exact⟨W',hle,(au.wb (T:=q7) (l:=n) (sz:=1) (vs:=ints .u8 (List.replicate n 0)) (by simp[ints])).uq (by simp) hE,k hle m2⟩
theorem hH.al1 {r:bo} (c:hH N W h w o x R):aj Tryz.prog 9 #[.agg (cK r).toArray, .int .i64 z] h λu h'=>u= .int .i64 (r.total z)/\hH N W h' w o x R:=by
 obtain⟨Q,-,-,m,k⟩:=c.nY
 refine(U8 m).mono ?_
 rintro _ h1 ⟨rfl,m1⟩
 exact⟨rfl,k (Wd.le.refl W) m1⟩
theorem hH.air {aid ac:Int} (c:hH N W h w o x R) (n:eG x):aj Tryz.prog 10 #[a8 o.a, .int .i64 aid, .int .i64 ac] h λv h'=>v= .int .i64 (x.air aid ac)/\h'=h:=by
 obtain⟨y,g,b1,ps,us,ts,gs,ua,ul,uc,eb,dA,h6,lA,ji,gc,kc,jS,fo,iH,fP,jR,q,hp,h1,h2,h3,h4,aA,aU,bW,bJ,ct,dS,fD,fu,m⟩:=c
 exact XX n q m
theorem hH.abh (c:hH N W h w o x R):aa W h R:=by
 obtain⟨Q,-,-,m,-⟩:=c.nY
 exact m.sub ⟨Q.flatten,by rw[List.flatten_append];exact List.perm_append_comm⟩
def WZ (Xe:Wd) (w b tid ac n:Nat) (v:Int) (T:Option TypeId) (R:List aL) (i:Nat) (h:J):Prop:=
 ∃W o q m N,Xe.le W/\N<=2*i/\m<=i/\hH N W h w o (bA tid ac q 0 []) ([⟨b,0,Ie v (26+n) i,T⟩]::R)/\vA q tid ac n m i/\q.A=Bs v (26+n) i/\q.num=i/\q.book.length<=i/\q.now<=o.now/\0<=o.now/\o.now<=1000+100000*i
theorem Zz (ht:tid<8) (hc:fA tid=ac):([.int .i64 1, .int .i64 0, .int .i64 0, .int .i64 1, .int .i64 2, .int .i64 2, .int .i64 3, .int .i64 3]:List Value)[tid]?=some (.int .i64 (ac:Int)):=by
 rw[<-hc]
 have:tid=0\/tid=1\/tid=2\/tid=3\/tid=4\/tid=5\/tid=6\/tid=7:=by omega
 rcases this with rfl|rfl|rfl|rfl|rfl|rfl|rfl|rfl<;>rfl
theorem ZA (ht:tid<8):∃ac:Nat,fA tid=ac:=by
 have:tid=0\/tid=1\/tid=2\/tid=3\/tid=4\/tid=5\/tid=6\/tid=7:=by omega
 exact⟨(fA tid).toNat,by rcases this with rfl|rfl|rfl|rfl|rfl|rfl|rfl|rfl<;>rfl⟩
set_option maxHeartbeats 4000000 in
theorem ZP (AW size Nw:Int) (a7:Snt W ads) (m:aa W h []):aj Tryz.prog 3 #[.int .i64 AW, .int .i64 size, .int .i64 Nw] h λu h'=>u= .bool true/\∃W',W.le W'/\aa W' h' []:=by
 refine aoL _ _ _ _ _ ((abH a7 m).mono ?_)
 rintro _ h1 ⟨rfl,aQ,tz,m1⟩
 have HX:=a7.le tz
 refine⟨true,rfl,aZ rfl ((rD _ _ _ (by decide) (by decide)).ret ⟨_,rfl,(rD _ _ _ (by decide) (by decide)).ret ⟨_,rfl,(rD _ _ _ (by decide) (by decide)).ret ⟨_,rfl,?_⟩⟩⟩)⟩
 obtain⟨v,hv⟩:∃v,AW%7=v:=⟨_,rfl⟩
 obtain⟨n,hn⟩:∃n:Nat,size%200=n:=⟨(size%200).toNat,by omega⟩
 obtain⟨tid,ht⟩:∃n:Nat,Nw%8=n:=⟨(Nw%8).toNat,by omega⟩
 rw[hv,hn,ht]
 have aeb:0<=v/\v<=6:=by omega
 have wA:n<=199:=by omega
 have eY:tid<8:=by omega
 obtain⟨ac,qc⟩:=ZA eY
 have h4:=zP eY qc
 clear m
 refine m1.bb λal aA m5=>⟨⟨by omega,by omega⟩,ac,m5.cell 0 rfl tid (Zz eY qc) (by omega),(PU m5).mono ?_⟩
 rintro _ aU ⟨rfl,m6⟩
 refine⟨_,rfl,m6.bb λaP bW m7=>m7.c8 (us:=fq (xW 0)) 0 rfl rfl rfl JA λbJ m8=>m8.store 0 rfl 11 rfl λct m9=>⟨fq pX,m9.bE 0 rfl rfl,(aqy PX HX (m9.aB.aB)).mono ?_⟩⟩
 rintro _ dS ⟨w,a,y,g,rfl,q,m10⟩
 refine⟨_,rfl,aZ rfl ((Qs (k:=0) (j:=0) (b':=kn) (o:=EE a 16) (by decide) rfl rfl rfl rfl (Int.le_refl 0) (show(0:Int)<=0/\(0:Int)<=1000000000000 by decide) (Pj PX).tobl HX q (Ta rfl rfl 0 (.inl rfl)) m10).mono ?_)⟩
 rintro _ fD ⟨rfl,b0,g1,s1,q1,m11⟩
 refine⟨_,rfl,aZ rfl ((Qs (k:=1) (j:=1) (b':=kn) (o:=((EE a 16).c6 100).e4 0 ⟨1,some ⟨s1,0,none⟩,kn,kn,false,kn⟩) (by decide) rfl rfl rfl rfl (Int.le_refl 0) (show(0:Int)<=100/\(100:Int)<=1000000000000 by decide) (show bl ((k6 pX).oA 0 0 0)from Yc) HX q1 (show BI ((k6 pX).oA 0 0 0) (jt 1) 1 from afu) m11).mono ?_)⟩
 rintro _ fu ⟨rfl,b8,g2,s2,q2,m12⟩
 have cW:=ZU (a:=a) (tid:=tid) (ac:=ac) rfl rfl q2 eY h4 m12
 refine⟨_,rfl,aZ rfl (cW.bb λbx fQ aK=>⟨λi h=>∃AL:Nat,i=AL/\AL<=2/\WZ aQ w bx tid ac n v _ [] AL h,λi _=>(2 -i).toNat,⟨0,rfl,by decide,aQ,_,vg,0,0,Wd.le.refl _,by decide,by decide,aK,aju eY h4,rfl,rfl,by decide,show(0:Int)<=200 by decide,show(0:Int)<=200 by decide,show(200:Int)<=1000+100000*((0:Nat):Int) by decide⟩,λ_=>?_⟩)⟩
 clear cW aK m12 m11 m10 m1 q q1 q2
 rintro _ iA ⟨i,rfl,tv,bu,o,q,m,N,j2,iB,hm,c,i7,hA,wB,rq,hno,adF,pd⟩
 have Bm:=HX.le j2
 by_cases hi:i<2
 ·have aed:(v+(i:Int))%8=v+i:=by omega
  refine df (decide_eq_true (by omega)) ⟨by simp only[fits];omega,(ZG (b:=kn) c se ⟨adF,by omega⟩ (JC i7 eY h4 wA).tobl Bm).mono ?_⟩
  rintro _ pa ⟨rfl,o0⟩
  rw[aed,ajD ⟨by omega,by omega⟩]at o0
  have N1:vA {q with r:=⟨true,v+i⟩} tid ac n m i:=⟨i7.now,i7.bK,i7.m,i7.y,i7.v,i7.bk,i7.g,i7.t,i7.num,i7.A,bo.wZ.2 ⟨by show 0<=v+(i:Int);omega,by show v+(i:Int)<=7;omega⟩⟩
  refine⟨_,rfl,aZ rfl ⟨⟨by omega,by omega,by omega,by omega⟩,o0.bb λdO rn om=>?_⟩⟩
  rw[Int.toNat_natCast]at om⊢
  obtain⟨eJ,yn,yf,vQ⟩:=om.made
  have VJ:=Bm.le yn
  obtain⟨bP,cx,N0,WX,xc,qD,t4,YF⟩:=aia (t:=o.now+100+100) N1 eY (by omega) wA (by show q.book.length<=9;omega) ⟨by show q.now<=_;omega,by omega⟩
  refine(ZE (o:=o.c6 (o.now+100)) (b:=(some ⟨dO,0,none⟩,n,n)) vQ (by omega) se yf Is (by rw[List.length_replicate];omega) ⟨by show q.now<=o.now+100+100;omega,by show 0<=o.now+100;omega,by show o.now+100<=_;omega⟩ (by show q.book.length<_;omega) (by show q.bK.len<_;rw[i7.bK.aT];omega) (JC N1 eY h4 wA).tobl VJ).mono ?_
  rintro _ ov ⟨rfl,oh,hF,Se,Sn,Jw⟩
  have Sn:hF.now=o.now+100+100:=Sn
  have akY:=VJ.le Se
  rw[show((tid:Int)%8)=tid by omega,show(o.c6 (o.now+100)).now+100=o.now+100+100 from rfl,cx]at Jw
  obtain⟨x',u,es,ajU,⟨ei,bM,gi⟩,fin⟩:=ajV (now:=hF.now+100) N0 (.inr (by omega)) eY qc wA (by omega) ⟨by rw[t4];omega,by omega⟩ (by rw[qD];show q.num<=5;omega)
  have CM:=NB (v:=v+i) (z:=26+(n:Int)) ⟨by omega,by omega⟩ ⟨by omega,by omega⟩
  rw[xc]at gi
  replace gi:u.air=(⟨true,v+(i:Int)⟩:bo).total (26+(n:Int)):=gi
  refine⟨_,rfl,aZ rfl ((ZF (b:=kn) Jw (by omega) ⟨by omega,by omega⟩ (by show bP.num<_;rw[qD];show q.num<_;omega) (by show(0:Nat)<=900;decide) es ajU (JC N0 eY h4 wA) akY).mono ?_)⟩
  rintro _ we ⟨rfl,jr,kL,bs,KL,adC,akX,LI,zN⟩
  obtain⟨fI,m6,Sk,dP,W4,WY,MD,t6,oE,ey⟩:=fin bs
  rw[dP]at zN
  have hle:aQ.le jr:=((j2.trans yn).trans Se).trans KL
  refine⟨_,rfl,aZ rfl ⟨_,zN.cell 38 (by show some (Value.bool kL.sm)=_;rw[akX]),aZ rfl ⟨_,zN.cell 36 (by show some (Value.int .i64 kL.nw.air)=_;rw[LI,gi]),⟨by omega,by omega⟩,zN.store i (by show i<2;exact hi) (λAj xV=>?_) (by omega)⟩⟩⟩
  rw[V6 hi]at xV
  refine⟨_,xV.cell 31 (by show some (Value.int .i64 kL.nw.ac)=_;rw[LI,bM]),aZ (by simp) ⟨_,xV.cell 30 (by show some (Value.int .i64 kL.nw.tid)=_;rw[LI,ei]),aZ (by simp) ⟨⟨by omega,by omega⟩,_,xV.rf i (V5 hi) (by omega),by simp only[fits];omega,by simp only[fits];omega,(xV.al1 (r:=⟨true,v+i⟩)).mono ?_⟩⟩⟩
  rintro _ qa ⟨rfl,PN⟩
  refine⟨_,rfl,PN.rf i (V5 hi) (by omega),aZ (by simp) ⟨by simp only[fits];omega,⟨i+1,by omega,by omega,jr,kL,fI,m6,N+1+1,hle,by omega,by omega,PN,W4,?_,by rw[oE,qD];show q.num+1=_;omega,by rw[ey,YF];show q.book.length+1<=_;omega,by rw[t6,adC];omega,by omega,by omega⟩,by dsimp only;omega⟩⟩
  rw[WY,WX,alP hi,gi]
  show q.A+_=_
  rw[hA]
 ·have hi':i=2:=by omega
  subst hi'
  refine aZ (decide_eq_false (by omega)) ⟨λa h=>0<=a/\a<=4/\h=iA,λa _=>(4 -a).toNat,⟨Int.le_refl 0,by decide,rfl⟩,λ_=>?_⟩
  rintro a CA ⟨acu,uH,rfl⟩
  have fj:=NB (v:=v) (z:=26+(n:Int)) ⟨by omega,by omega⟩ ⟨by omega,by omega⟩
  have gn:=NB (v:=v+1) (z:=26+(n:Int)) ⟨by omega,by omega⟩ ⟨by omega,by omega⟩
  have N:=JE (tid:=tid) (q:=q) (z:=0) (w:=[]) h4
  by_cases ha:a<4
  ·obtain⟨af,ag⟩:=Xu (tid:=tid) (q:=q) (z:=0) (ws:=[]) h4 (a:=a) ⟨acu,ha⟩
   refine df (decide_eq_true ha) ?_
   by_cases F1:a=ac
   ·refine df (decide_eq_true F1) ⟨⟨by decide,by decide⟩,_,c.rf 0 rfl,⟨by decide,by decide⟩,_,c.rf 1 rfl,by simp only[fits];simp;omega,_,c.cell 0 rfl,(c.air N).ret ⟨_,rfl,aZ ?_ ⟨_,c.cell 0 rfl,(c.air N).ret ⟨_,rfl,aZ ?_ ⟨by simp only[fits];omega,⟨by omega,by omega,rfl⟩,by dsimp only;omega⟩⟩⟩⟩⟩
    ·rw[af,if_pos F1,hA];simp[Bs]
    ·rw[ag];rfl
   ·refine aZ (decide_eq_false F1) ⟨_,c.cell 0 rfl,(c.air N).ret ⟨_,rfl,aZ ?_ ⟨_,c.cell 0 rfl,(c.air N).ret ⟨_,rfl,aZ ?_ ⟨by simp only[fits];omega,⟨by omega,by omega,rfl⟩,by dsimp only;omega⟩⟩⟩⟩⟩
    ·rw[af,if_neg F1];rfl
    ·rw[ag];rfl
  ·refine aZ (decide_eq_false ha) (df rfl ⟨⟨by decide,by decide⟩,_,c.rf 1 rfl,⟨by decide,by decide⟩,_,c.rf 0 rfl,?_,bu,tz.trans j2,c.abh.aB⟩)
   have:=al2 (v:=v) (z:=26+(n:Int)) aeb ⟨by omega,by omega⟩
   simpa using this
end
theorem walk_ApCharges (w:World) (hE:∃ads,Snt (Wd.of w.heap) ads) (a0:Int) (w0:(Lit.int .i64 a0).wf=true) (a1:Int) (w1:(Lit.int .i64 a1).wf=true) (a2:Int) (w2:(Lit.int .i64 a2).wf=true):
 Calls Tryz.prog 3 #[.int .i64 a0, .int .i64 a1, .int .i64 a2] w λe w'=>e= .returned (.bool true)/\Go.RowKit.Below w.heap.size w w':=by
 obtain⟨ads,s⟩:=hE
 refine Zw ((ZP a0 a1 a2 s (ai.start w.heap).nY).mono ?_)
 rintro v h' ⟨rfl,W',hle,m⟩
 obtain⟨G,ax,-⟩:=m.nx
 exact⟨rfl,ax.kept hle⟩
end Go.Proofs.YtjlkfjnfnonekaaGreatDoor
namespace Go.Proofs.YtjlkfjnfnonekaaGreatDoor
open Go.Vc
theorem star_es : "*" ++ "errors.errorString" = "*errors.errorString" := by decide
theorem rowES (u : TypeId) (h : Tryz.prog.typeName? 3 u = some "*errors.errorString") : u = 439 :=
  typeName_ptr_named (nm := "errors.errorString") (by rw [star_es]; kernel_rfl) (by kernel_rfl) (by decide) u (by rw [star_es]; exact h)
noncomputable def mkE (x : String × List UInt8) : String × DataW Unit := (x.1, .iface "*errors.errorString" (.ptr (.agg [.lit (.string x.2)])))
noncomputable def errTied (l : List (String × List UInt8)) : Bool := l.all fun x => ((Tryz.prog.globalNamed x.1).bind fun g => (Tryz.prog.globals[g]?).map (·.type)) == some 59
theorem cellsOf_es : Tryz.prog.cellsOf 457 = 1 := by kernel_rfl
theorem cellsOf_str : Tryz.prog.cellsOf 9 = 1 := by kernel_rfl
set_option maxRecDepth 100000 in
theorem laid_list {W : World} : ∀ (l : List (String × List UInt8)) (ps : List MemPlace), errTied l = true → DataW.LaidVars Tryz.prog W (l.map mkE) ps → ps.Nodup →
    (∀ b off, MemPlace.cell b off ∈ ps → (∃ c t, W.heap[b]? = some (.cells c t (0, 0))) ∧ ∀ u v, W.cell? ⟨b, off, none⟩ = some (.iface u v) → Value.okWide Tryz.prog W .any 0 u v) →
    ∃ ads : List Addr, ads.length = l.length ∧ ads.Nodup ∧ (∀ (i : Nat) (x : String × List UInt8) (a : Addr) (g : Nat), l[i]? = some x → ads[i]? = some a → Tryz.prog.globalNamed x.1 = some g → cell W.heap g 0 = some (ptE a)) ∧
      ∀ a ∈ ads, (∃ c t, W.heap[a.block]? = some (.cells c t (0, 0))) ∧ MemPlace.cell a.block a.off ∈ ps
  | [], ps, _, _, _, _ => ⟨[], rfl, List.nodup_nil, fun i x a g h => by simp at h, fun a h => by cases h⟩
  | x :: l, ps, ht, hL, hnd, hrows => by
    simp only [errTied, List.all_cons, Bool.and_eq_true, beq_iff_eq] at ht
    obtain ⟨g, t, cs, f, p, q, hg, hgt, hv, hd, hq, e⟩ := hL
    have hg' : Tryz.prog.globalNamed x.1 = some g := hg
    have ht1 := ht.1
    rw [hg', Option.bind_some, hgt] at ht1
    obtain rfl := Option.some.inj ht1
    subst e
    obtain ⟨cl⟩ := cs
    have hcell : ∀ v, cl = [v] → W.cell? ⟨g, 0, none⟩ = some v := fun v e => by
      subst e
      have hv' : W.var? Tryz.prog x.1 = some (⟨[v]⟩ : Array Value) := hv
      have h0 := World.var?_cell hg' hv' 0
      exact h0
    have hgm : ∀ v, cl = [v] → MemPlace.cell g 0 ∈ MemPlace.row ⟨g, 0, none⟩ (⟨cl⟩ : Array Value).size ++ p ++ q := fun v e => by
      subst e
      simp [MemPlace.row]
    obtain ⟨a, s, rfl, hc, hs, hz, rfl⟩ := errorString_of_trod Tryz.underlying59 rowES Tryz.underlying439 Tryz.underlying457 rfl rfl Tryz.underlying9 cellsOf_es cellsOf_str hd
      (fun u v e => (hrows g 0 (hgm _ e)).2 u v (hcell _ e))
    have hc0 := hcell _ rfl
    have hnd2 : q.Nodup := (List.nodup_append.1 hnd).2.1
    obtain ⟨ads, h1, h2, h3, h4⟩ := laid_list l q (by simpa [errTied] using ht.2) hq hnd2 (fun b off hm => hrows b off (List.mem_append_right _ hm))
    have ham : MemPlace.cell a.block a.off ∈ MemPlace.row a 1 := by simp [MemPlace.row]
    have hmem : MemPlace.cell a.block a.off ∈ MemPlace.row ⟨g, 0, none⟩ (⟨[.iface 439 (.pointer (some a))]⟩ : Array Value).size ++ MemPlace.row a 1 ++ q := List.mem_append_left _ (List.mem_append_right _ ham)
    have hno : a ∉ ads := fun hc => (List.nodup_append.1 hnd).2.2 _ (List.mem_append_right _ ham) _ (h4 a hc).2 rfl
    refine ⟨a :: ads, by simp [h1], List.nodup_cons.2 ⟨hno, h2⟩, fun i y b g' hi hb hg2 => ?_, fun b hb => ?_⟩
    · cases i with
      | zero =>
        simp at hi hb
        subst hi hb
        rw [hg'] at hg2; cases hg2
        rw [← cell?_eq]; exact hc0
      | succ i => exact h3 i y b g' (by simpa using hi) (by simpa using hb) hg2
    · rcases List.mem_cons.1 hb with rfl | hb
      · exact ⟨(hrows _ _ hmem).1, hmem⟩
      · exact ⟨(h4 b hb).1, List.mem_append_right _ (h4 b hb).2⟩
theorem snt_of_laid {W : World} {laid : List (String × DataW Unit)} (l : List (String × List UInt8)) (hl : laid = l.map mkE) (hp : ∀ w, laidMetH Tryz.prog laid w = laidMet Tryz.prog laid w) (ht : errTied l = true) (hn : l.map (fun x => Tryz.prog.globalNamed x.1) = errG.map some) (h : laidMetH Tryz.prog laid W) :
    ∃ ads, Snt (Wd.of W.heap) ads := by
  rw [hp] at h
  obtain ⟨ps, h1, h2, h3⟩ := h
  rw [hl] at h1
  obtain ⟨ads, k1, k2, k3, k4⟩ := laid_list l ps ht h1 h2 h3
  have hlen : l.length = errG.length := by
    have := congrArg List.length hn
    simpa only [List.length_map] using this
  refine ⟨ads, by rw [k1, hlen]; exact Nat.le_refl _, k2, fun i a g hi hg => ?_, fun a ha => (k4 a ha).1⟩
  have hi' : i < l.length := by rw [← k1]; exact (List.getElem?_eq_some_iff.1 hi).1
  have e : (l.map (fun x => Tryz.prog.globalNamed x.1))[i]? = (errG.map some)[i]? := by rw [hn]
  rw [List.getElem?_map, List.getElem?_map, hg, List.getElem?_eq_getElem hi'] at e
  exact k3 i _ a g (List.getElem?_eq_getElem hi') hi (by simpa using e)
end Go.Proofs.YtjlkfjnfnonekaaGreatDoor
