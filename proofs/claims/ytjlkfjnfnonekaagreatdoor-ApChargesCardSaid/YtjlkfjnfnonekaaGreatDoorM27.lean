import Derived.Test.YtjlkfjnfnonekaaGreatDoorM26
import Derived.Test.YtjlkfjnfnonekaaGreatDoorM24
import Derived.Test.YtjlkfjnfnonekaaGreatDoorM25
import Derived.Test.YtjlkfjnfnonekaaGreatDoorM17
import Derived.Test.YtjlkfjnfnonekaaGreatDoorM19
import Derived.Test.YtjlkfjnfnonekaaGreatDoorM20
import Derived.Test.YtjlkfjnfnonekaaGreatDoorM12
set_option linter.all false
set_option maxRecDepth 8000
namespace Go.Proofs.YtjlkfjnfnonekaaGreatDoor
open Go.Vc
def qA (xs:List Int):Int:=dt xs 20+dt xs 21*256+dt xs 22*65536+dt xs 23*16777216+dt xs 24*4294967296+dt xs 25*1099511627776+dt xs 26*281474976710656+dt xs 27*72057594037927936
def yD (xs:List Int):Prop:=(xs[0]?=some 148/\xs.length=28)/\wd xs 16/4096<=7/\r7 (fJ xs 4) (fJ xs 10) (wd xs 16/4096) (wd xs 18/16) (qA xs)=xs
def zC (xs:List Int):List Value:=js (fJ xs 4) (fJ xs 10) (wd xs 16/4096) (wd xs 18/16) (qA xs)
def NU (W:Wd) (G:List ao) (xs:List Int) (v:Value) (h':J):Prop:=∃W',W.le W'/\ai W' h' G/\((yD xs/\v= .tuple #[.agg (zC xs).toArray, .nilIface])\/(¬yD xs/\∃(cs:List Value) (e:Addr),v= .tuple #[.agg cs.toArray,ptE e]/\cs.length=15/\∀u∈cs,u.oneCell'=true))
section
variable{W W':Wd} {h h':J} {G:List ao} {E b4:ao} {a:Option Addr} {n c k i b:Nat} {xs x y to fr:List Int} {v:Value} {aid tid sq mp:Int} {T:TypeId}
theorem XM (m:ai W h G) (hb:cm W (.slice a n c) xs) (hl:xs.length=28) (hx:∀x∈xs,0<=x/\x<256):
 aj Tryz.prog 277 #[.slice a n c] h λv h'=>v= .agg (Pt xs).toArray/\ai W h' G:=by
 obtain⟨-,hn,-⟩:=kC hb
 rw[hl]at hn
 subst hn
 match xs,hl with
 |[w0,w1,w2,kb,bj,aY,bz,bq,bU,aV,b0,b8,bO,cd,cf,cj,p0,p1,q0,q1,av,k1,k2,k3,k4,j6,lf,tD],_=>
 have r0:=hx p0 (by simp)
 have r1:=hx p1 (by simp)
 have r2:=hx q0 (by simp)
 have tS:=hx q1 (by simp)
 have t16:=pW hb (k:=16) (by omega)
 have t18:=pW hb (k:=18) (by omega)
 obtain⟨uH,-,-⟩:=kC (pW hb (k:=4) (by omega))
 obtain⟨wh,-,-⟩:=kC (pW hb (k:=10) (by omega))
 replace uH:e5 W (en a 4 c 4) 6 (ints .u8 [bj,aY,bz,bq,bU,aV]):=EG (j:=6) uH (by omega) rfl
 replace wh:e5 W (en a 10 c 10) 6 (ints .u8 [b0,b8,bO,cd,cf,cj]):=EG (j:=6) wh (by omega) rfl
 have TO:∀{h:J} {G:List ao},ai W h G->aj Tryz.prog 233 #[.slice (en a 16 c 16) (28 -16) (c -16)] h λv h'=>v= .int .i64 (p0+p1*256)/\h'=h:= λm=>Ql m t16 rfl rfl r0 r1
 have DI:∀{h:J} {G:List ao},ai W h G->aj Tryz.prog 233 #[.slice (en a 18 c 18) (28 -18) (c -18)] h λv h'=>v= .int .i64 (q0+q1*256)/\h'=h:= λm=>Ql m t18 rfl rfl r2 tS
 have f1:fits .i64 ((p0+p1*256)/4096):=by simp only[fits];omega
 have f2:fits .i64 ((q0+q1*256)/16):=by simp only[fits];omega
 refine an6 _ _ _ _ _ ?_
 intro al g1 af ag
 replace m:=m.push ag af
 refine⟨λp aA=>∃e0,p=some ⟨e0,0,none⟩/\ai W aA ([(e0,pR [0,0,0,0,0,0] [0,0,0,0,0,0] ((p0+p1*256)/4096) ((q0+q1*256)/16),236)]::[(al,NS,236)]::G),⟨⟨by decide,by decide⟩,⟨by decide,by decide⟩,?_,?_⟩,λ_=>?_⟩
 ·refine(TO m).ret ⟨_,rfl,?_⟩
  refine⟨⟨by omega,by decide,f1⟩,⟨?_,?_⟩⟩
  ·refine(DI m).ret ⟨_,rfl,?_⟩
   refine⟨⟨by omega,by decide,f2⟩,λe0 g4 aI cx=>?_⟩
   replace m:=m.push cx aI
   exact⟨⟨rfl,m.dR 0 rfl rfl,B4 [0,0,0,0,0,0] [0,0,0,0,0,0] _ _⟩,λg5 cy=>⟨e0,rfl,m.bm 0 rfl cy⟩⟩
  ·intro e0 g4 aI cx
   replace m:=m.push cx aI
   refine(DI m).ret ⟨_,rfl,?_⟩
   refine⟨⟨by omega,by decide,f2⟩,?_⟩
   exact⟨⟨rfl,m.dR 0 rfl rfl,B4 [0,0,0,0,0,0] [0,0,0,0,0,0] _ _⟩,λg5 cy=>⟨e0,rfl,m.bm 0 rfl cy⟩⟩
 ·intro e0 g4 aI cx
  replace m:=m.push cx aI
  refine(TO m).ret ⟨_,rfl,?_⟩
  refine⟨⟨by omega,by decide,f1⟩,?_⟩
  refine(DI m).ret ⟨_,rfl,?_⟩
  refine⟨⟨by omega,by decide,f2⟩,?_⟩
  exact⟨⟨rfl,m.dR 0 rfl rfl,B4 [0,0,0,0,0,0] [0,0,0,0,0,0] _ _⟩,λg5 cy=>⟨e0,rfl,m.bm 0 rfl cy⟩⟩
 rintro _ g5 ⟨e0,rfl,m⟩
 refine⟨⟨by decide,by decide⟩,_,⟨m.e5 (xd uH (by decide)),dM⟩,m.dR 0 rfl rfl,λg6 dP=>?_⟩
 replace m:=m.bm 0 rfl dP
 replace m:ai W g6 ([(e0,pR [bj,aY,bz,bq,bU,aV] [0,0,0,0,0,0] ((p0+p1*256)/4096) ((q0+q1*256)/16),236)]::[(al,NS,236)]::G):=m
 refine⟨⟨by decide,by decide⟩,_,⟨m.e5 (xd wh (by decide)),dM⟩,m.dR 0 rfl rfl,λg7 h8=>?_⟩
 replace m:=m.bm 0 rfl h8
 replace m:ai W g7 ([(e0,pR [bj,aY,bz,bq,bU,aV] [b0,b8,bO,cd,cf,cj] ((p0+p1*256)/4096) ((q0+q1*256)/16),236)]::[(al,NS,236)]::G):=m
 refine⟨pR [bj,aY,bz,bq,bU,aV] [b0,b8,bO,cd,cf,cj] ((p0+p1*256)/4096) ((q0+q1*256)/16),m.row 0 rfl rfl (Nat.le_of_ble_eq_true rfl),⟨rfl,m.dR 1 rfl rfl,B4 [bj,aY,bz,bq,bU,aV] [b0,b8,bO,cd,cf,cj] _ _⟩,λg8 gl=>?_⟩
 have m8:=m.bm 1 rfl gl
 exact⟨_,m8.row 1 rfl rfl (Nat.le_of_ble_eq_true rfl),rfl,m8.aB.aB⟩
theorem Zv (hE:ud W) (m:ai W h G) (h1:to.length=6) (h2:fr.length=6) (ht:7<tid):
 aj Tryz.prog 278 #[.agg (js to fr tid sq mp).toArray] h λv h'=>(∃e,v= .tuple #[.slice none 0 0,ptE e])/\ai W h' G:=by
 obtain⟨bj,aY,bz,bq,bU,aV,rfl⟩:=fV h1
 obtain⟨b0,b8,bO,cd,cf,cj,rfl⟩:=fV h2
 obtain⟨JW,Ky⟩:=hE 0 (by decide)
 refine Ws _ _ _ ?_
 intro al g1 af ag
 replace m:=m.push ag af
 refine⟨_,m.row 0 rfl rfl (Nat.le_of_ble_eq_true rfl),_,m.row 0 rfl rfl (Nat.le_of_ble_eq_true rfl),_,m.cell 0 rfl rfl,_,m.cell 0 rfl rfl,?_⟩
 refine Wt _ _ _ _ _ _ _ ?_
 intro aP g2 aI cx bx g3 cy dP
 replace m:=(m.push cx aI).push dP cy
 refine bF (by omega) (fB (by omega) ⟨_,m.bT Ky,_,_,_,_,rfl,false,Ll,df rfl ⟨⟨JW,rfl⟩,m.aB.aB.aB⟩⟩)
theorem agK {k:Nat} {z:Int} (I:k<8) (hl:xs.length=28) (hx:∀x∈xs,0<=x/\x<256) (hz:xs[20+k]?=some z):z=qA xs/dU (8*(k:Int))%256:=by
 have hb:∀i,i<28->0<=dt xs i/\dt xs i<256:= λi hi=>by
  unfold dt
  rw[List.getD_eq_getElem?_getD,List.getElem?_eq_getElem (by omega)]
  exact hx _ (List.getElem_mem (by omega))
 have e:z=dt xs (20+k):=by unfold dt;rw[List.getD_eq_getElem?_getD,hz];rfl
 have h0:=hb 20 (by decide)
 have h1:=hb 21 (by decide)
 have h2:=hb 22 (by decide)
 have h3:=hb 23 (by decide)
 have h4:=hb 24 (by decide)
 have aA:=hb 25 (by decide)
 have aU:=hb 26 (by decide)
 have bW:=hb 27 (by decide)
 rw[e]
 unfold qA
 have:k=0\/k=1\/k=2\/k=3\/k=4\/k=5\/k=6\/k=7:=by omega
 rcases this with rfl|rfl|rfl|rfl|rfl|rfl|rfl|rfl
 ·show dt xs 20=_/1%256;omega
 ·show dt xs 21=_/256%256;omega
 ·show dt xs 22=_/65536%256;omega
 ·show dt xs 23=_/16777216%256;omega
 ·show dt xs 24=_/4294967296%256;omega
 ·show dt xs 25=_/1099511627776%256;omega
 ·show dt xs 26=_/281474976710656%256;omega
 ·show dt xs 27=_/72057594037927936%256;omega
end
end Go.Proofs.YtjlkfjnfnonekaaGreatDoor
set_option maxRecDepth 8000
namespace Go.Proofs.YtjlkfjnfnonekaaGreatDoor
open Go.Vc
def l9 (to fr bss:List Int) (nK:Bool) (token tid size tmo sq st:Int):List Int:=
 yj (if nK then 1 else 0) to fr bss++([token]++((if nK then w2 st else[])++(w2 (2+tid*4+size*64)++(w2 tmo++(if nK then[]else w2 (sq*16))))))
def dx (ws:List Int) (N:Nat) (xs:List Int):Prop:=xs.length=N/\dt xs 0=208/\dt xs 24=3/\dt xs 25∈ws
section
variable{W W':Wd} {h h':J} {G:List ao} {E:ao} {a a2:Option Addr} {l r c aG n k:Nat} {vs us:List Value} {bs xs ys to fr bss:List Int} {token tid size tmo sq st:Int}
theorem Xr (hE:ud W) (m:ai W h G) (h1:to.length=6) (h2:fr.length=6) (h3:bss.length=6) (k1:0<=token/\token<=255) (k2:0<=tid/\tid<=15) (k3:0<=size/\size<=1023) (k4:0<=tmo/\tmo<=65535) (j6:0<=sq/\sq<=4095) (lf:0<=st/\st<=65535)
 (nK:Bool) (hs:nK=true->sq=0) (ht:nK=false->st=0):
 aj Tryz.prog 115 #[.agg (zA to fr bss nK token tid size tmo sq st).toArray] h λv h'=>∃W',W.le W'/\ai W' h' G/\
  ((tid<=7/\∃a c,v= .tuple #[.slice a (l9 to fr bss nK token tid size tmo sq st).length c, .nilIface]/\cm W' (.slice a (l9 to fr bss nK token tid size tmo sq st).length c) (l9 to fr bss nK token tid size tmo sq st))\/(7<tid/\∃e,v= .tuple #[.slice none 0 0,ptE e])):=by
 obtain⟨bj,aY,bz,bq,bU,aV,rfl⟩:=fV h1
 obtain⟨b0,b8,bO,cd,cf,cj,rfl⟩:=fV h2
 obtain⟨cN,z2,z3,z4,z5,eF,rfl⟩:=fV h3
 obtain⟨JW,Ky⟩:=hE 0 (by decide)
 refine amt _ _ _ ?_
 intro al g1 af ag
 replace m:=m.push ag af
 refine⟨λh=>h=g1/\tid<=7,?_,λ_=>?_⟩
 ·refine⟨_,m.cell 0 rfl rfl,Bt ⟨k1.1,k1.2⟩ ⟨_,rfl,aZ rfl ?_⟩⟩
  by_cases yy:7<tid
  ·exact⟨_,m.cell 0 rfl rfl,al0 k2.1 yy ⟨_,rfl,df rfl ⟨_,m.bT Ky,W,Wd.le.refl W,m.aB, .inr ⟨yy,JW,rfl⟩⟩⟩⟩
  refine⟨_,m.cell 0 rfl rfl,Bt ⟨k2.1,by omega⟩ ⟨_,rfl,aZ rfl ?_⟩⟩
  refine⟨_,m.cell 0 rfl rfl,Bt ⟨k3.1,k3.2⟩ ⟨_,rfl,aZ rfl ?_⟩⟩
  refine⟨_,m.cell 0 rfl rfl,Bt k4 ⟨_,rfl,aZ rfl ?_⟩⟩
  refine⟨_,m.cell 0 rfl rfl,Bt lf ⟨_,rfl,aZ rfl ?_⟩⟩
  refine⟨_,m.cell 0 rfl rfl,Bt ⟨j6.1,j6.2⟩ ⟨_,rfl,aZ rfl ?_⟩⟩
  refine⟨nK,m.cell 0 rfl rfl,?_⟩
  cases nK with
  |false=>
   obtain rfl:=ht rfl
   exact df rfl ⟨0,m.cell 0 rfl rfl,aZ rfl ⟨false,m.cell 0 rfl rfl,aZ rfl ⟨rfl,by omega⟩⟩⟩
  |true=>
   obtain rfl:=hs rfl
   exact aZ rfl ⟨true,m.cell 0 rfl rfl,df rfl ⟨0,m.cell 0 rfl rfl,aZ rfl ⟨rfl,by omega⟩⟩⟩
 ·rintro _ ⟨rfl,yy⟩
  refine⟨nK,m.cell 0 rfl rfl,?_⟩
  cases nK with
  |false=>
   refine aZ rfl ?_
   refine⟨λay bI c' h=>∃bn,bI=27/\ai W h (bn::[(al,zA [bj,aY,bz,bq,bU,aV] [b0,b8,bO,cd,cf,cj] [cN,z2,z3,z4,z5,eF] false token tid size tmo sq st,240)]::G)/\au ay 27 c' 1 (ints .u8 (yj 0 [bj,aY,bz,bq,bU,aV] [b0,b8,bO,cd,cf,cj] [cN,z2,z3,z4,z5,eF]++[token])) bn,?_,λ_=>?_⟩
   ·refine⟨ints .u8 [bj,aY,bz,bq,bU,aV],m.row 0 rfl rfl (Nat.le_of_ble_eq_true rfl),ints .u8 [b0,b8,bO,cd,cf,cj],m.row 0 rfl rfl (Nat.le_of_ble_eq_true rfl),ints .u8 [cN,z2,z3,z4,z5,eF],m.row 0 rfl rfl (Nat.le_of_ble_eq_true rfl),token,m.cell 0 rfl rfl,by simp only[fits];omega,?_,?_⟩
    ·refine(FP (to:=[bj,aY,bz,bq,bU,aV]) (fr:=[b0,b8,bO,cd,cf,cj]) (bss:=[cN,z2,z3,z4,z5,eF]) _ m rfl rfl rfl).mono ?_
     rintro _ g2 ⟨a2,aG,cD,rfl,m,aM⟩
     refine⟨_,_,_,rfl,m.cell 1 rfl rfl,?_⟩
     refine aM.s4 m (us:=ints .u8 [token]) rfl dM (by omega) (by decide) λa3 bd mT g3 m cb=>?_
     rw[<-kI]at cb
     exact⟨mT,rfl,m,cb⟩
    ·intro bx g22 f1 f2
     replace m:=m.push f2 f1
     refine(FP (to:=[bj,aY,bz,bq,bU,aV]) (fr:=[b0,b8,bO,cd,cf,cj]) (bss:=[cN,z2,z3,z4,z5,eF]) _ m rfl rfl rfl).mono ?_
     rintro _ g2 ⟨a2,aG,cD,rfl,m,aM⟩
     refine⟨_,_,_,rfl,ints .u8 [token],⟨m.row 1 rfl rfl (Nat.le_of_ble_eq_true rfl),dM⟩,?_⟩
     refine aM.app m 0 rfl rfl (by omega) (by decide) λa3 bd mT g3 m cb=>?_
     simp only[List.set_cons_zero]at m
     replace m:=(u3 m).aB
     rw[<-kI]at cb
     exact⟨mT,rfl,m,cb⟩
   clear m
   rintro a2 _ aG g2 ⟨cD,rfl,m,aM⟩
   refine⟨λay bI c' h=>∃bn,bI=27/\ai W h (bn::[(al,zA [bj,aY,bz,bq,bU,aV] [b0,b8,bO,cd,cf,cj] [cN,z2,z3,z4,z5,eF] false token tid size tmo sq st,240)]::G)/\au ay 27 c' 1 (ints .u8 (yj 0 [bj,aY,bz,bq,bU,aV] [b0,b8,bO,cd,cf,cj] [cN,z2,z3,z4,z5,eF]++[token])) bn,⟨false,m.cell 1 rfl rfl,aZ rfl ⟨cD,rfl,m,aM⟩⟩,λ_=>?_⟩
   clear m aM
   rintro a3 _ bd g3 ⟨mT,rfl,m,cb⟩
   refine⟨_,m.cell 1 rfl rfl,by simp only[fits];omega,by simp only[fits];omega,_,m.cell 1 rfl rfl,by simp only[fits];omega,by simp only[fits];omega,?_⟩
   refine(zG _ m).mono ?_
   rintro _ g4 ⟨dO,vE,rfl,m⟩
   refine⟨_,_,_,rfl,?_⟩
   refine Ai cb m (by omega) λa4 c7 r3 ab3 m hF=>?_
   refine⟨_,m.cell 1 rfl rfl,?_⟩
   refine(zG _ m).mono ?_
   rintro _ g5 ⟨fh,zy,rfl,m⟩
   refine⟨_,_,_,rfl,?_⟩
   refine Ai hF m (by omega) λa5 eK IC ab4 m kL=>?_
   refine⟨false,m.cell 1 rfl rfl,df rfl ?_⟩
   refine⟨_,m.cell 1 rfl rfl,by simp only[fits];omega,?_⟩
   refine(zG _ m).mono ?_
   rintro _ g6 ⟨ey,Oa,rfl,m⟩
   refine⟨_,_,_,rfl,?_⟩
   refine Ai kL m (by omega) λhJ gB i6 g7 m gv=>?_
   have e:∀(L:Nat) (l:List Int),L=33->l=l9 [bj,aY,bz,bq,bU,aV] [b0,b8,bO,cd,cf,cj] [cN,z2,z3,z4,z5,eF] false token tid size tmo sq st->l.length=33:= λL l _ hl=>by rw[hl];rfl
   have hL:(l9 [bj,aY,bz,bq,bU,aV] [b0,b8,bO,cd,cf,cj] [cN,z2,z3,z4,z5,eF] false token tid size tmo sq st).length=33:=rfl
   obtain⟨W',hle,ax,tu⟩:=w5 (l:=l9 [bj,aY,bz,bq,bU,aV] [b0,b8,bO,cd,cf,cj] [cN,z2,z3,z4,z5,eF] false token tid size tmo sq st) gv m
   exact⟨W',hle,ax.aB, .inl ⟨yy,_,_,rfl,tu⟩⟩
  |true=>
   refine df rfl ?_
   refine⟨λay bI c' h=>∃bn,bI=27/\ai W h (bn::[(al,zA [bj,aY,bz,bq,bU,aV] [b0,b8,bO,cd,cf,cj] [cN,z2,z3,z4,z5,eF] true token tid size tmo sq st,240)]::G)/\au ay 27 c' 1 (ints .u8 (yj 1 [bj,aY,bz,bq,bU,aV] [b0,b8,bO,cd,cf,cj] [cN,z2,z3,z4,z5,eF]++[token])) bn,?_,λ_=>?_⟩
   ·refine⟨ints .u8 [bj,aY,bz,bq,bU,aV],m.row 0 rfl rfl (Nat.le_of_ble_eq_true rfl),ints .u8 [b0,b8,bO,cd,cf,cj],m.row 0 rfl rfl (Nat.le_of_ble_eq_true rfl),ints .u8 [cN,z2,z3,z4,z5,eF],m.row 0 rfl rfl (Nat.le_of_ble_eq_true rfl),token,m.cell 0 rfl rfl,by simp only[fits];omega,?_,?_⟩
    ·refine(FP (to:=[bj,aY,bz,bq,bU,aV]) (fr:=[b0,b8,bO,cd,cf,cj]) (bss:=[cN,z2,z3,z4,z5,eF]) _ m rfl rfl rfl).mono ?_
     rintro _ g2 ⟨a2,aG,cD,rfl,m,aM⟩
     refine⟨_,_,_,rfl,m.cell 1 rfl rfl,?_⟩
     refine aM.s4 m (us:=ints .u8 [token]) rfl dM (by omega) (by decide) λa3 bd mT g3 m cb=>?_
     rw[<-kI]at cb
     exact⟨mT,rfl,m,cb⟩
    ·intro bx g22 f1 f2
     replace m:=m.push f2 f1
     refine(FP (to:=[bj,aY,bz,bq,bU,aV]) (fr:=[b0,b8,bO,cd,cf,cj]) (bss:=[cN,z2,z3,z4,z5,eF]) _ m rfl rfl rfl).mono ?_
     rintro _ g2 ⟨a2,aG,cD,rfl,m,aM⟩
     refine⟨_,_,_,rfl,ints .u8 [token],⟨m.row 1 rfl rfl (Nat.le_of_ble_eq_true rfl),dM⟩,?_⟩
     refine aM.app m 0 rfl rfl (by omega) (by decide) λa3 bd mT g3 m cb=>?_
     simp only[List.set_cons_zero]at m
     replace m:=(u3 m).aB
     rw[<-kI]at cb
     exact⟨mT,rfl,m,cb⟩
   clear m
   rintro a2 _ aG g2 ⟨cD,rfl,m,aM⟩
   refine⟨λay bI c' h=>∃bn,bI=29/\ai W h (bn::[(al,zA [bj,aY,bz,bq,bU,aV] [b0,b8,bO,cd,cf,cj] [cN,z2,z3,z4,z5,eF] true token tid size tmo sq st,240)]::G)/\au ay 29 c' 1 (ints .u8 (yj 1 [bj,aY,bz,bq,bU,aV] [b0,b8,bO,cd,cf,cj] [cN,z2,z3,z4,z5,eF]++[token]++w2 st)) bn,⟨true,m.cell 1 rfl rfl,df rfl ?_⟩,λ_=>?_⟩
   ·refine⟨_,m.cell 1 rfl rfl,?_⟩
    refine(zG _ m).mono ?_
    rintro _ g6 ⟨ey,Oa,rfl,m⟩
    refine⟨_,_,_,rfl,?_⟩
    exact Ai aM m (by omega) λhJ gB i6 g7 m gv=>⟨i6,rfl,m,gv⟩
   clear m aM
   rintro a3 _ bd g3 ⟨mT,rfl,m,cb⟩
   refine⟨_,m.cell 1 rfl rfl,by simp only[fits];omega,by simp only[fits];omega,_,m.cell 1 rfl rfl,by simp only[fits];omega,by simp only[fits];omega,?_⟩
   refine(zG _ m).mono ?_
   rintro _ g4 ⟨dO,vE,rfl,m⟩
   refine⟨_,_,_,rfl,?_⟩
   refine Ai cb m (by omega) λa4 c7 r3 ab3 m hF=>?_
   refine⟨_,m.cell 1 rfl rfl,?_⟩
   refine(zG _ m).mono ?_
   rintro _ g5 ⟨fh,zy,rfl,m⟩
   refine⟨_,_,_,rfl,?_⟩
   refine Ai hF m (by omega) λa5 eK IC ab4 m kL=>?_
   refine⟨true,m.cell 1 rfl rfl,aZ rfl ?_⟩
   have gv:=kL
   have e:∀(L:Nat) (l:List Int),L=33->l=l9 [bj,aY,bz,bq,bU,aV] [b0,b8,bO,cd,cf,cj] [cN,z2,z3,z4,z5,eF] true token tid size tmo sq st->l.length=33:= λL l _ hl=>by rw[hl];rfl
   have hL:(l9 [bj,aY,bz,bq,bU,aV] [b0,b8,bO,cd,cf,cj] [cN,z2,z3,z4,z5,eF] true token tid size tmo sq st).length=33:=rfl
   obtain⟨W',hle,ax,tu⟩:=w5 (l:=l9 [bj,aY,bz,bq,bU,aV] [b0,b8,bO,cd,cf,cj] [cN,z2,z3,z4,z5,eF] true token tid size tmo sq st) gv m
   exact⟨W',hle,ax.aB, .inl ⟨yy,_,_,rfl,tu⟩⟩
def zf (xs:List Int):Bool:=decide (dt xs 25=1)
def Ny (xs:List Int):Nat:=if zf xs then 29 else 27
def Nz (xs:List Int):Int:=wd xs (Ny xs)
def alY (xs:List Int):Int:=Nz xs%64/4
def asI (xs:List Int):Int:=Nz xs/64
def asK (xs:List Int):Int:=if zf xs then wd xs 27 else 0
def asJ (xs:List Int):Int:=if zf xs then 0 else wd xs 31/16
def asL (xs:List Int):List Int:=l9 (fJ xs 4) (fJ xs 10) (fJ xs 16) (zf xs) (dt xs 26) (alY xs) (asI xs) (wd xs (Ny xs+2)) (asJ xs) (asK xs)
def isAdd (xs:List Int):Prop:=dx [0,1] 33 xs/\alY xs<=7/\asL xs=xs
theorem WC {i:Nat} (hx:∀x∈xs,0<=x/\x<256) (h:i+1<xs.length):0<=wd xs i/\wd xs i<=65535:=by
 have h1:=hx _ (Fp (k:=i) (by omega))
 have h2:=hx _ (Fp (k:=i+1) h)
 unfold wd;omega
end
end Go.Proofs.YtjlkfjnfnonekaaGreatDoor
set_option maxRecDepth 8000
namespace Go.Proofs.YtjlkfjnfnonekaaGreatDoor
open Go.Vc
section
variable{W W':Wd} {h h':J} {G:List ao} {a:Option Addr} {n c:Nat} {xs:List Int}
def sX:List Value:=js [0,0,0,0,0,0] [0,0,0,0,0,0] 0 0 0
theorem Tz (mp:Int):∀x∈oD mp 8,0<=x/\x<256:=by
 intro x hx
 obtain⟨k,I⟩:=List.getElem?_of_mem hx
 have bY:=(List.getElem?_eq_some_iff.1 I).1
 rw[TA]at bY
 rw[agJ bY]at I
 cases I
 omega
set_option maxHeartbeats 2000000 in
theorem ajK (hE:ud W) (m:ai W h G) (hb:cm W (.slice a n c) xs) (hx:∀x∈xs,0<=x/\x<256):aj Tryz.prog 239 #[.slice a n c] h (NU W G xs):=by
 obtain⟨mg,Kz⟩:=hE 6 (by decide)
 refine an5 _ _ _ _ _ ?_
 intro al h1 af ag
 have m1:=m.push ag af
 refine(Z4 (N:=28) hE m1 hb (by decide)).mono ?_
 rintro _ _ ⟨⟨rfl,h0,hl⟩|⟨⟨e,rfl⟩,hno⟩,rfl⟩
 rotate_left
 ·refine⟨_,rfl,false,Ll,df rfl ⟨⟨rfl,m1.dR 0 rfl rfl,xH [0,0,0,0,0,0] [0,0,0,0,0,0] 0 0 0⟩,λh3 aI=>?_⟩⟩
  have m3:=m1.bm 0 rfl aI
  exact⟨sX,m3.row 0 rfl rfl (Nat.le_of_ble_eq_true rfl),W,Wd.le.refl W,m3.aB, .inr ⟨λhp=>hno hp.1,sX,e,rfl,rfl,xH [0,0,0,0,0,0] [0,0,0,0,0,0] 0 0 0⟩⟩
 have bad:∀{bu:Wd} {hh:J},W.le bu->ai bu hh ([(al,sX,304)]::G)->¬yD xs->
  ∃v2:Value,cell hh 6 0=some v2/\((sX.length=15/\c0 hh al 0 15/\∀u∈sX,u.oneCell'=true)/\∀aA:J,aA=bm hh al 0 sX->cell aA 6 0=some v2/\∃zW:List Value,row aA al 0 15=some zW/\NU W G xs (.tuple #[.agg zW.toArray,v2]) aA):= λ{bu hh} hle mm adD=>by
  have hg:=rR hle Kz
  refine⟨ptE mg,mm.bT hg,⟨rfl,mm.dR 0 rfl rfl,xH [0,0,0,0,0,0] [0,0,0,0,0,0] 0 0 0⟩,λaA cy=>?_⟩
  have m5:=mm.bm 0 rfl cy
  exact⟨m5.bT hg,sX,m5.row 0 rfl rfl (Nat.le_of_ble_eq_true rfl),bu,hle,m5.aB, .inr ⟨adD,sX,mg,rfl,rfl,xH [0,0,0,0,0,0] [0,0,0,0,0,0] 0 0 0⟩⟩
 refine⟨_,rfl,true,jk,aZ rfl ?_⟩
 obtain⟨-,hn,-⟩:=kC hb
 rw[hl]at hn
 subst hn
 obtain⟨ju,nB,dn,-,-,c9⟩:=s8 hb (by omega)
 refine(XM m1 hb hl hx).mono ?_
 rintro _ h4 ⟨rfl,m4⟩
 have ar1:=WC (xs:=xs) (i:=16) hx (by omega)
 have ar2:=WC (xs:=xs) (i:=18) hx (by omega)
 have KP:0<=qA xs/\qA xs<18446744073709551616:=by
  have hb:∀i,i<28->0<=dt xs i/\dt xs i<256:= λi hi=>by
   unfold dt
   rw[List.getD_eq_getElem?_getD,List.getElem?_eq_getElem (by omega)]
   exact hx _ (List.getElem_mem (by omega))
  have q0:=hb 20 (by decide)
  have q1:=hb 21 (by decide)
  have q2:=hb 22 (by decide)
  have aE:=hb 23 (by decide)
  have bP:=hb 24 (by decide)
  have eO:=hb 25 (by decide)
  have fI:=hb 26 (by decide)
  have Bb:=hb 27 (by decide)
  unfold qA;omega
 have ca:(fJ xs 4).length=6:=by unfold fJ;rw[List.length_take,List.length_drop];omega
 have aF:(fJ xs 10).length=6:=by unfold fJ;rw[List.length_take,List.length_drop];omega
 have RP:=VR hx 4
 have An:=VR hx 10
 have hg:∀{k:Nat} {z:Int},k<8->xs[20+k]?=some z->z=qA xs/dU (8*(k:Int))%256:= λI hz=>agK I hl hx hz
 have z6:yD xs↔wd xs 16/4096<=7/\r7 (fJ xs 4) (fJ xs 10) (wd xs 16/4096) (wd xs 18/16) (qA xs)=xs:=⟨λhp=>hp.2,λhp=>⟨⟨h0,hl⟩,hp⟩⟩
 have QG:zC xs=js (fJ xs 4) (fJ xs 10) (wd xs 16/4096) (wd xs 18/16) (qA xs):=rfl
 have FB:Pt xs=pR (fJ xs 4) (fJ xs 10) (wd xs 16/4096) (wd xs 18/16):=rfl
 rw[FB]
 obtain⟨gz,wF⟩:∃gz,gz=wd xs 16/4096:=⟨_,rfl⟩
 obtain⟨sq,mv⟩:∃sq,sq=wd xs 18/16:=⟨_,rfl⟩
 obtain⟨mp,qj⟩:∃mp,mp=qA xs:=⟨_,rfl⟩
 obtain⟨to,kH⟩:∃to,to=fJ xs 4:=⟨_,rfl⟩
 obtain⟨fr,eN⟩:∃fr,fr=fJ xs 10:=⟨_,rfl⟩
 rw[<-wF,<-mv,<-qj,<-kH,<-eN]at z6 QG
 rw[<-wF,<-mv,<-kH,<-eN]
 rw[<-qj]at KP
 rw[<-kH]at ca RP
 rw[<-eN]at aF An
 have ad6:0<=gz:=by omega
 have ad3:0<=sq/\sq<=4095:=by omega
 replace hg:∀{k:Nat} {z:Int},k<8->xs[20+k]?=some z->z=mp/dU (8*(k:Int))%256:= λI hz=>by rw[qj];exact hg I hz
 clear wF mv qj kH eN FB
 obtain⟨bj,aY,bz,bq,bU,aV,rfl⟩:=fV ca
 obtain⟨b0,b8,bO,cd,cf,cj,rfl⟩:=fV aF
 refine⟨_,rfl,?_⟩
 intro aP aA f1 f2
 have m5:=m4.push f2 f1
 refine⟨⟨rfl,m5.dR 0 rfl rfl,B4 _ _ _ _⟩,λaU dP=>?_⟩
 have m6:=m5.bm 0 rfl dP
 replace m6:ai W aU ([(aP,pR [bj,aY,bz,bq,bU,aV] [b0,b8,bO,cd,cf,cj] gz sq,236)]::[(al,sX,304)]::G):=m6
 refine⟨ints .u8 [bj,aY,bz,bq,bU,aV],m6.row 0 rfl rfl (Nat.le_of_ble_eq_true rfl),ints .u8 [b0,b8,bO,cd,cf,cj],m6.row 0 rfl rfl (Nat.le_of_ble_eq_true rfl),gz,m6.cell 0 rfl rfl,sq,m6.cell 0 rfl rfl,rfl,rfl,?_⟩
 intro bx bW g1 g2
 have m7:=m6.push g2 g1
 refine⟨⟨rfl,m7.dR 0 rfl rfl,xH [bj,aY,bz,bq,bU,aV] [b0,b8,bO,cd,cf,cj] gz sq 0⟩,λbJ gl=>?_⟩
 have m8:=m7.bm 0 rfl gl
 replace m8:ai W bJ ([(bx,js [bj,aY,bz,bq,bU,aV] [b0,b8,bO,cd,cf,cj] gz sq 0,304)]::[(aP,pR [bj,aY,bz,bq,bU,aV] [b0,b8,bO,cd,cf,cj] gz sq,236)]::[(al,sX,304)]::G):=m8
 have uA:mp%dU (8*((0:Nat):Int))=0:=by show mp%1=0;omega
 refine⟨λz h'=>∃k:Nat,z=(k:Int)/\k<=8/\ai W h' ([(bx,js [bj,aY,bz,bq,bU,aV] [b0,b8,bO,cd,cf,cj] gz sq (mp%dU (8*(k:Int))),304)]::[(aP,pR [bj,aY,bz,bq,bU,aV] [b0,b8,bO,cd,cf,cj] gz sq,236)]::[(al,sX,304)]::G),λz _=>(8 -z).toNat,⟨0,rfl,by omega,by rw[uA];exact m8⟩,λ_=>?_⟩
 clear m m1 m4 m5 m6 m7 m8
 rintro _ ct ⟨k,rfl,I,m9⟩
 refine aC (λq=>?_) λq=>?_
 ·have su:k<8:=by omega
  obtain⟨z,hz⟩:∃z,xs[20+k]?=some z:=⟨_,List.getElem?_eq_getElem (by omega)⟩
  have ar6:=hx z (List.mem_of_getElem? hz)
  obtain⟨eg,aM⟩:=aiq KP.1 su
  rw[<-hg su hz]at eg aM
  refine⟨_,m9.cell 0 rfl rfl,by simp only[fits];omega,⟨by omega,by omega⟩,sM dn ⟨z,?_,by simp only[fits];omega,by simp only[fits];omega,⟨by omega,by simp only[nW];omega⟩,eg,m9.NO 0 rfl rfl,λdS zZ=>?_⟩⟩
  ·rw[show((20:Int)+(k:Int)).toNat=20+k by omega]
   exact m9.bT (c9 (20+k) z hz)
  ·rw[aM]at zZ
   have m10:=m9.b3 0 rfl zZ
   exact⟨by simp only[fits];omega,⟨k+1,by omega,by omega,m10⟩,by dsimp only;omega⟩
 ·obtain rfl:k=8:=by omega
  have fO:mp%dU (8*((8:Nat):Int))=mp:=by show mp%18446744073709551616=mp;omega
  rw[fO]at m9
  refine⟨js [bj,aY,bz,bq,bU,aV] [b0,b8,bO,cd,cf,cj] gz sq mp,m9.row 0 rfl rfl (Nat.le_of_ble_eq_true rfl),?_⟩
  by_cases ht:gz<=7
  ·refine(Xj (mp:=mp) m9 rfl rfl ⟨ad6,ht⟩ ad3).mono ?_
   rintro _ fD ⟨bu,a2,aG,hle,rfl,m11,acF⟩
   refine⟨_,_,_,_,rfl,true,jk,aZ rfl ?_⟩
   refine(abp m11 acF (hb.le hle) (λu hu=>?_) hx).ret ⟨_,rfl,bH (λq2=>?_) λq2=>?_⟩
   ·rcases List.mem_append.1 hu with hu|hu
    ·exact OS RP An (by decide) u hu
    ·exact Tz mp u hu
   ·exact bad hle m11.aB.aB λhp=>by rw[(z6.1 hp).2]at q2;simp at q2
   ·have q2:r7 [bj,aY,bz,bq,bU,aV] [b0,b8,bO,cd,cf,cj] gz sq mp=xs:=by simpa using q2
    refine⟨_,m11.row 0 rfl rfl (Nat.le_of_ble_eq_true rfl),⟨rfl,m11.dR 2 rfl rfl,xH [bj,aY,bz,bq,bU,aV] [b0,b8,bO,cd,cf,cj] gz sq mp⟩,λfu z1=>?_⟩
    have m12:=m11.bm 2 rfl z1
    exact⟨js [bj,aY,bz,bq,bU,aV] [b0,b8,bO,cd,cf,cj] gz sq mp,m12.row 2 rfl rfl (Nat.le_of_ble_eq_true rfl),bu,hle,m12.aB.aB.aB, .inl ⟨z6.2 ⟨ht,q2⟩,by rw[QG]⟩⟩
  ·refine(Zv hE m9 rfl rfl (by omega)).mono ?_
   rintro _ fD ⟨⟨e,rfl⟩,m11⟩
   exact⟨_,_,_,_,rfl,false,Ll,df rfl (bad (Wd.le.refl W) m11.aB.aB λhp=>ht (z6.1 hp).1)⟩
end
end Go.Proofs.YtjlkfjnfnonekaaGreatDoor
set_option maxRecDepth 8000
namespace Go.Proofs.YtjlkfjnfnonekaaGreatDoor
open Go.Vc
structure bo where
 ht:Bool
 gf:Int
def bo.md (r:bo):Int:=if r.ht=true then 2 else 1
def cK (r:bo):List Value:=[.int .i64 r.md, .int .i64 r.gf, .int .i64 1, .int .i64 20, .int .i64 0]
def bo.ok (r:bo):Bool:=decide (0<=r.gf/\r.gf<=7)
def oK:bo:=⟨false,4⟩
def xR (l:List Int) (k:Int):Int:=l.getD k.toNat 0
def bo.bits (r:bo):Int:=if r.ht=true then xR [26,52,78,104,156,208,234,260] r.gf else xR [24,36,48,72,96,144,192,216] r.gf
def bo.pre (r:bo):Int:=if r.ht=true then 360 else 200
def bo.kp (r:bo) (n:Int):Int:=if r.ok=true/\0<=n/\n<=1048576 then r.pre+(22+8*n+r.bits -1)/r.bits*40 else 0
def bo.total (r:bo) (n:Int):Int:=if r.kp n=0 then 0 else r.kp n+480
section
variable{W W':Wd} {h h':J} {R:List aL} {r:bo} {n:Int}
theorem HM {gf:Int} (h:0<=gf/\gf<=7):gf=0\/gf=1\/gf=2\/gf=3\/gf=4\/gf=5\/gf=6\/gf=7:=by omega
theorem bo.wZ:r.ok=true↔0<=r.gf/\r.gf<=7:=by simp[bo.ok]
theorem bo.Fh (h:r.ok=true):24<=r.bits/\r.bits<=260:=by
 obtain⟨ht,gf⟩:=r
 rcases HM (bo.wZ.1 h)with h1|h1|h1|h1|h1|h1|h1|h1<;>(replace h1:gf=_:=h1;subst h1;cases ht<;>decide)
theorem aj4:∀u∈cK r,u.oneCell'=true:=by
 intro u hu;simp[cK]at hu;rcases hu with rfl|rfl|rfl|rfl|rfl<;>rfl
theorem aj8 (h:J):aj Tryz.prog 122 #[.int .i64 r.md] h λv h'=>v= .tuple #[.int .i64 7, .int .i64 (if r.ht=true then 4 else 1), .int .i64 (if r.ht=true then 1 else 0)]/\h'=h:=by
 obtain⟨ht,gf⟩:=r
 cases ht
 ·exact Wv _ _ _ (fB rfl ⟨rfl,rfl⟩)
 ·exact Wv _ _ _ (bF (by show¬(2:Int)=1;decide) (fB rfl ⟨rfl,rfl⟩))
def bo.ws (r:bo):List Int:=if r.ht=true then[20,40]else[20]
theorem U9 (m:aa W h R):aj Tryz.prog 124 #[.int .i64 r.md] h λv h'=>∃b T,v= .slice (some ⟨b,0,none⟩) r.ws.length r.ws.length/\aa W h' ([⟨b,0,ints .i64 r.ws,some T⟩]::R):=by
 obtain⟨ht,gf⟩:=r
 cases ht
 ·exact Ww _ _ _ (fB rfl (m.bb λb h1 m1=>⟨b,_,rfl,m1⟩))
 ·exact Ww _ _ _ (bF (by show¬(2:Int)=1;decide) (fB rfl (m.bb λb h1 m1=>⟨b,_,rfl,m1⟩)))
theorem vl (m:aa W h R):aj Tryz.prog 47 #[.agg (cK r).toArray] h λv h'=>v= .bool r.ok/\aa W h' R:=by
 refine aps _ _ _ (m.bb λb h1 m=>⟨_,m.cell 0 rfl 0 rfl,(aj8 _).ret ⟨_,_,_,rfl,_,m.cell 0 rfl 1 rfl,?_⟩⟩)
 have no:¬(0<=r.gf/\r.gf<=7)->Value.bool false= .bool r.ok/\aa W h1 R:= λq=>⟨by simp[bo.ok,q],m.aB⟩
 refine aC (λq1=>⟨_,m.cell 0 rfl 1 rfl,aC (λq2=>?_) λq2=>no (by omega)⟩) λq1=>no (by omega)
 refine⟨_,m.cell 0 rfl 2 rfl,fB (by decide) ⟨_,m.cell 0 rfl 2 rfl,fB (by split<;>decide) ⟨_,m.cell 0 rfl 4 rfl,fB (by decide) ⟨_,m.cell 0 rfl 4 rfl,fB (by split<;>decide) ⟨_,m.cell 0 rfl 0 rfl,_,m.cell 0 rfl 3 rfl,(U9 m).mono ?_⟩⟩⟩⟩⟩
 rintro _ h2 ⟨aP,T,rfl,m2⟩
 refine⟨_,_,_,rfl,m2.cell 1 rfl 3 rfl,m2.cell 1 rfl 4 rfl,m2.cell 1 rfl 2 rfl,m2.cell 1 rfl 2 rfl,m2.cell 1 rfl 1 rfl,m2.cell 1 rfl 1 rfl,?_⟩
 refine(Cg (xs:=r.ws) (show src h2 (some ⟨aP,0,none⟩) r.ws.length _ from m2.bE 0 rfl (by simp[ints])) rfl (by unfold bo.ws;split<;>decide)).ret ⟨_,rfl,m2.cell 1 rfl 4 rfl,m2.cell 1 rfl 2 rfl,m2.cell 1 rfl 2 rfl,m2.cell 1 rfl 1 rfl,m2.cell 1 rfl 1 rfl,?_,m2.aB.aB⟩
 have af:r.ok=true:=bo.wZ.2 ⟨q1,q2⟩
 have ag:(20:Int)∈r.ws:=by unfold bo.ws;split<;>decide
 rw[af,decide_eq_true ag]
theorem aj5 {gf:Int} (hm:0<=gf/\gf<=7) (m:aa W h R):aj Tryz.prog 174 #[.int .i64 gf] h λv h'=>
 v= .tuple #[.int .i64 (xR [1,2,2,4,4,6,6,6] gf), .int .i64 (xR [1,1,3,1,3,2,3,5] gf), .int .i64 (xR [2,2,4,2,4,3,4,6] gf)]/\aa W h' R:=by
 refine apu _ _ _ ⟨rfl,rfl,rfl,rfl,rfl,rfl,rfl,rfl,rfl,rfl,rfl,rfl,m.bb λal h1 m=>⟨⟨by omega,by omega⟩,?_⟩⟩
 rcases HM hm with rfl|rfl|rfl|rfl|rfl|rfl|rfl|rfl
 all_goals
  refine⟨_,m.row 0 rfl _ rfl (by decide) rfl,m.bb λaP h2 m2=>m2.c8 0 rfl rfl rfl (by intro u hu;simp at hu;rcases hu with rfl|rfl|rfl<;>rfl) λh3 m3=>?_⟩
  exact⟨⟨by decide,by decide⟩,_,m3.cell 0 rfl 0 rfl,⟨by decide,by decide⟩,_,m3.cell 0 rfl 1 rfl,⟨by decide,by decide⟩,_,m3.cell 0 rfl 2 rfl,rfl,m3.aB.aB⟩
theorem aj3 (m:aa W h R) (hh:r.ht=true):aj Tryz.prog 175 #[.agg (cK r).toArray] h λv h'=>v= .int .i64 52/\aa W h' R:=by
 refine apt _ _ _ (m.bb λal h1 m=>⟨_,m.cell 0 rfl 0 rfl,_,m.cell 0 rfl 3 rfl,(U9 m).mono ?_⟩)
 rintro _ h2 ⟨aP,T,rfl,m2⟩
 refine⟨_,_,_,rfl,m2.cell 1 rfl 3 rfl,?_⟩
 have hw:r.ws=[20,40]:=by unfold bo.ws;rw[if_pos hh]
 refine(Lm (xs:=r.ws) (show src h2 (some ⟨aP,0,none⟩) r.ws.length _ from m2.bE 0 rfl (by simp[ints])) rfl (by rw[hw];decide)).ret ⟨_,rfl,_,m2.cell 1 rfl 0 rfl,?_⟩
 have hi:sC 20 r.ws=0:=by rw[hw];rfl
 rw[hi]
 refine bF (by unfold bo.md;rw[if_pos hh];decide) (m2.bb λbx h3 m3=>⟨⟨by decide,by decide⟩,_,m3.cell 0 rfl 0 rfl rfl,rfl,m3.aB.aB.aB⟩)
theorem aj2 (m:aa W h R) (U:r.ok=true):aj Tryz.prog 82 #[.agg (cK r).toArray] h λv h'=>v= .int .i64 r.bits/\aa W h' R:=by
 have hm:=bo.wZ.1 U
 refine apo _ _ _ (m.bb λal h1 m=>⟨_,m.bE 0 rfl rfl,(vl m).mono ?_⟩)
 rintro _ h2 ⟨rfl,m⟩
 refine⟨_,rfl,aZ (by rw[U];rfl) ⟨_,m.cell 0 rfl 0 rfl,aC (λq=>?_) λq=>?_⟩⟩
 ·have hh:r.ht=false:=by
   cases e:r.ht with
   |false=>rfl
   |true=>unfold bo.md at q;rw[e]at q;exact absurd q (by decide)
  refine m.bb λaP h3 m2=>⟨_,m2.cell 1 rfl 1 rfl,⟨by omega,by omega⟩,?_⟩
  unfold bo.bits;rw[hh]
  rcases HM hm with e|e|e|e|e|e|e|e<;>rw[e]<;>exact⟨_,m2.cell 0 rfl _ rfl rfl,rfl,m2.aB.aB⟩
 ·have hh:r.ht=true:=by
   cases e:r.ht with
   |true=>rfl
   |false=>exfalso;apply q;unfold bo.md;rw[e];rfl
  refine⟨_,m.cell 0 rfl 1 rfl,(aj5 hm m).mono ?_⟩
  rintro _ h3 ⟨rfl,m⟩
  refine⟨_,_,_,rfl,_,m.bE 0 rfl rfl,_,m.cell 0 rfl 2 rfl,(aj3 m hh).mono ?_⟩
  rintro _ h4 ⟨rfl,m⟩
  refine⟨_,rfl,m.cell 0 rfl 2 rfl,?_⟩
  unfold bo.bits;rw[hh]
  rcases HM hm with e|e|e|e|e|e|e|e<;>rw[e]<;>exact⟨by simp only[fits];decide,by simp only[fits];decide,by simp only[fits];decide,⟨by decide,by decide,by simp only[fits];decide⟩,rfl,m.aB⟩
theorem aj7 (m:aa W h R) (U:r.ok=true):aj Tryz.prog 84 #[.agg (cK r).toArray] h λv h'=>v= .int .i64 40/\aa W h' R:=by
 refine apr _ _ _ (m.bb λal h1 m=>⟨_,m.bE 0 rfl rfl,(vl m).mono ?_⟩)
 rintro _ h2 ⟨rfl,m⟩
 exact⟨_,rfl,aZ (by rw[U];rfl) ⟨_,m.cell 0 rfl 0 rfl,bF (by unfold bo.md;split<;>decide) ⟨_,m.cell 0 rfl 4 rfl,bF (by decide) ⟨rfl,m.aB⟩⟩⟩⟩
theorem aj6 (m:aa W h R) (U:r.ok=true):aj Tryz.prog 83 #[.agg (cK r).toArray] h λv h'=>v= .int .i64 r.pre/\aa W h' R:=by
 refine apq _ _ _ (m.bb λal h1 m=>⟨_,m.bE 0 rfl rfl,(vl m).mono ?_⟩)
 rintro _ h2 ⟨rfl,m⟩
 refine⟨_,rfl,aZ (by rw[U];rfl) ⟨_,m.cell 0 rfl 2 rfl,_,m.cell 0 rfl 2 rfl,⟨by decide,by decide⟩,_,m.cell 0 rfl 2 rfl,by simp only[fits];decide,by simp only[fits];decide,by simp only[fits];decide,_,m.cell 0 rfl 0 rfl,?_⟩⟩
 unfold bo.pre
 refine aC (λq=>?_) λq=>fB ?_ ⟨by simp only[fits];decide,by simp only[fits];decide,?_⟩
 ·have hh:r.ht≠true:= λe=>by unfold bo.md at q;rw[e]at q;exact absurd q (by decide)
  rw[if_neg hh];exact⟨rfl,m.aB⟩
 ·unfold bo.md at q⊢;split<;>simp_all
 ·have hh:r.ht=true:=by
   cases e:r.ht with
   |true=>rfl
   |false=>exfalso;apply q;unfold bo.md;rw[e];rfl
  rw[if_pos hh];exact⟨rfl,m.aB⟩
theorem D5 (m:aa W h R):aj Tryz.prog 28 #[.agg (cK r).toArray, .int .i64 n] h λv h'=>v= .int .i64 (r.kp n)/\aa W h' R:=by
 refine amx _ _ _ _ (m.bb λal h1 m=>⟨_,m.bE 0 rfl rfl,(vl m).mono ?_⟩)
 rintro _ h2 ⟨rfl,m⟩
 have no:¬(r.ok=true/\0<=n/\n<=1048576)->Value.int .i64 0= .int .i64 (r.kp n)/\aa W h2 R:= λq=>⟨by unfold bo.kp;rw[if_neg q],m.aB⟩
 refine⟨_,rfl,bH (λq=>no (by simp at q;simp[q])) λq=>aC (λq1=>no (by omega)) λq1=>aC (λq2=>no (by omega)) λq2=>?_⟩
 have U:r.ok=true:=by simpa using q
 have hb:=bo.Fh U
 refine⟨_,m.bE 0 rfl rfl,(aj2 m U).mono ?_⟩
 rintro _ h3 ⟨rfl,m⟩
 obtain⟨B,Kq⟩:∃B,B=r.bits:=⟨_,rfl⟩
 have e:r.kp n=r.pre+(22+8*n+r.bits -1)/r.bits*40:=by unfold bo.kp;rw[if_pos ⟨U,by omega,by omega⟩]
 rw[e]
 rw[<-Kq]at hb⊢
 have d1:0<=(22+8*n+B -1)/B:=Int.ediv_nonneg (by omega) (by omega)
 have d2:(22+8*n+B -1)/B<=22+8*n+B -1:=Int.ediv_le_self _ (by omega)
 refine⟨_,rfl,by simp only[fits];omega,by simp only[fits];omega,by simp only[fits];omega,by simp only[fits];omega,⟨by omega,by omega,by simp only[fits];omega⟩,_,m.bE 0 rfl rfl,_,m.bE 0 rfl rfl,(aj6 m U).mono ?_⟩
 rintro _ h4 ⟨rfl,m⟩
 refine⟨_,rfl,m.bE 0 rfl rfl,(aj7 m U).mono ?_⟩
 rintro _ aA ⟨rfl,m⟩
 have hp:r.pre=360\/r.pre=200:=by unfold bo.pre;split<;>simp
 exact⟨_,rfl,by simp only[fits];omega,by simp only[fits];omega,rfl,m.aB⟩
theorem akW:oK.kp 32=320:=by decide
theorem aj1 (m:aa W h R):aj Tryz.prog 29 #[] h λv h'=>v= .int .i64 480/\aa W h' R:=by
 refine amw _ _ ((D5 (r:=oK) (n:=32) m).mono ?_)
 rintro _ h1 ⟨rfl,m⟩
 rw[akW]
 exact⟨_,rfl,by simp only[fits];decide,rfl,m⟩
theorem bo.Uw:0<=r.kp n/\r.kp n<=18000000:=by
 unfold bo.kp
 split
 ·rename_i q
  have hb:=bo.Fh q.1
  have hp:r.pre=360\/r.pre=200:=by unfold bo.pre;split<;>simp
  obtain⟨B,Kq⟩:∃B,B=r.bits:=⟨_,rfl⟩
  rw[<-Kq]at hb⊢
  have d1:0<=(22+8*n+B -1)/B:=Int.ediv_nonneg (by omega) (by omega)
  have d2:(22+8*n+B -1)/B<=400000:=by
   have:=Int.ediv_le_ediv (c:=B) (show 0<B by omega) (show 22+8*n+B -1<=400000*B by omega)
   rw[Int.mul_ediv_cancel _ (by omega)]at this;exact this
  omega
 ·omega
theorem U8 (m:aa W h R):aj Tryz.prog 9 #[.agg (cK r).toArray, .int .i64 n] h λv h'=>v= .int .i64 (r.total n)/\aa W h' R:=by
 have hb:=bo.Uw (r:=r) (n:=n)
 refine amy _ _ _ _ (m.bb λal h1 m=>⟨_,m.bE 0 rfl rfl,(D5 m).mono ?_⟩)
 rintro _ h2 ⟨rfl,m⟩
 refine⟨_,rfl,aC (λq=>⟨by unfold bo.total;rw[if_pos q],m.aB⟩) λq=>⟨_,m.bE 0 rfl rfl,(D5 m).mono ?_⟩⟩
 rintro _ h3 ⟨rfl,m⟩
 refine⟨_,rfl,(aj1 m).mono ?_⟩
 rintro _ h4 ⟨rfl,m⟩
 exact⟨_,rfl,by simp only[fits];omega,by unfold bo.total;rw[if_neg q],m.aB⟩
end
end Go.Proofs.YtjlkfjnfnonekaaGreatDoor
set_option maxRecDepth 8000
namespace Go.Proofs.YtjlkfjnfnonekaaGreatDoor
open Go.Vc
def vt (n:Int):Int:=(n+3)/4*4
def s3 (all n:Int):Int:=vt all+4+max n 0
def ky (l:List Int):Int:=l.foldl s3 0
structure lP where
 bB:Int
 e9:Int
 tick:Int
def mA (m:lP):List Value:=[.int .i64 m.bB, .int .i64 m.e9, .int .i64 m.tick]
def pJ (n:Int):Bool:=decide (n<1\/4095<n)
def ib (r:bo) (m:lP) (l:List Int):Bool:=
 r.ok&&(!decide (l.length=0)&&(!l.any pJ&&(!decide (min m.bB 64<(l.length:Int))&&(decide (ky l<=min m.e9 65535)&&decide (r.kp (ky l)<=min m.tick 54840)))))
def ri (r:bo) (m:lP) (l:List Int):Nat->Option Nat
 |0=>none
 |n+1=>if ib r m (l.take (n+1))=true then some (n+1)else ri r m l n
def iz (r:bo) (m:lP) (l:List Int):Int×Bool:=match ri r m l (min l.length 64)with
 |some n=>((n:Int),true)
 |none=>if l.length≠0/\r.ok=true/\pJ (l.headD 0)=false then(1,false)else(0,false)
def pO (W:Wd) (R:List aL) (a:Option Addr) (n:Nat) (vs:List Value):Prop:=∀(h:J) (fM:List aL),aa W h (fM++R)->src h a n vs
section
variable{W W':Wd} {h h':J} {R:List aL} {r:bo} {m:lP} {l:List Int} {a:Option Addr} {c k i:Nat} {n:Int} {vs:List Value} {E:ao}
theorem pO.own (o:au a k c 1 vs E) (hi:R[i]?=some (ae E)):pO W R a k vs:= λh fM m=>o.mJ m (fM.length+i) (by rw[List.getElem?_append_right (by omega),Nat.add_sub_cancel_left];exact hi)
theorem pO.on (d:pO W R a k vs) (X:aL):pO W (X::R) a k vs:= λh fM m=>d h (fM++[X]) (by simpa using m)
theorem ak5 {k n:Nat} (hs:src h a k vs) (hv:vs.length=k) (hn:n<=k) (h0:0<n):src h a n (vs.take n):=by
 obtain⟨b,o,rfl,U⟩:=mK (k:=0) (n:=n) hs (by omega) h0 rfl
 show row h b o n=_
 simpa using U
theorem pO.take {n:Nat} (d:pO W R a k vs) (hv:vs.length=k) (hn:n<=k) (h0:0<n):pO W R a n (vs.take n):= λh fM m=>ak5 (d h fM m) hv hn h0
theorem Wn (h:0<=n):n<=vt n/\vt n<=n+3:=by unfold vt;omega
theorem OD (h:J) (hn:0<=n/\n<=1125899906842624):aj Tryz.prog 214 #[.int .i64 n] h λv h'=>v= .int .i64 (vt n)/\h'=h:=
 amB _ _ _ ⟨by simp only[fits];omega,by simp only[fits];omega,⟨by omega,by decide,by simp only[fits];omega⟩,by simp only[fits];omega,by unfold vt;rw[show n+4 -1=n+3 by omega],rfl⟩
theorem XC {x:Int} (I:l[k]?=some x):ky (l.take (k+1))=s3 (ky (l.take k)) x:=by
 unfold ky
 rw[List.take_add_one,I,List.foldl_append];rfl
theorem OA:∀{l:List Int} {s:Int},0<=s->(∀x∈l,x<=1000000)->0<=l.foldl s3 s/\l.foldl s3 s<=s+l.length*1000010
 |[],s,h,_=>by simp;omega
 |x::l,s,h,hx=>by
  have hu:=Wn h
  have h1:=hx x (by simp)
  have h2:=OA (l:=l) (s:=s3 s x) (by unfold s3;omega) λy hy=>hx y (by simp[hy])
  have h3:s3 s x<=s+1000007:=by unfold s3;omega
  rw[List.foldl_cons,List.length_cons]
  omega
theorem I4 (hb:∀x∈l,x<=1000000):0<=ky l/\ky l<=l.length*1000010:=by
 have:=OA (s:=0) (by decide) hb
 unfold ky;omega
theorem OC (hs:src h a l.length (ints .i64 l)) (hl:l.length<=4096) (hb:∀x∈l,x<=1000000):aj Tryz.prog 259 #[.slice a l.length c] h λv h'=>v= .int .i64 (ky l)/\h'=h:=by
 refine amz _ _ _ _ _ ⟨λall z h'=>∃n:Nat,z=n/\n<=l.length/\h'=h/\all=ky (l.take n),λ_ z _=>((l.length:Int) -z).toNat,⟨0,rfl,by omega,rfl,rfl⟩,λ_=>?_⟩
 rintro all _ _ ⟨n,rfl,hn,rfl,rfl⟩
 refine aC (λq=>?_) λq=>?_
 ·have Ax:n<l.length:=by omega
  have hx:=List.getElem?_eq_getElem Ax
  have arx:=hb _ (List.getElem_mem Ax)
  obtain⟨h0,h1⟩:=I4 (l:=l.take n) λx hx=>hb x (List.mem_of_mem_take hx)
  rw[List.length_take]at h1
  obtain⟨b,o,rfl,hc⟩:=fW hs (j5 (k:= .i64) hx)
  have hu:=Wn h0
  refine⟨⟨by omega,by omega⟩,aN ⟨l[n],by simpa using hc,(OD _ ⟨h0,by omega⟩).ret ⟨_,rfl,?_⟩⟩⟩
  exact⟨by simp only[fits];omega,by simp only[fits];omega,by simp only[fits];omega,⟨n+1,by omega,by omega,rfl,(XC hx).symm⟩,by dsimp only;omega⟩
 ·obtain rfl:n=l.length:=by omega
  rw[List.take_length]
  exact⟨rfl,rfl⟩
theorem Zx {g:Nat} {args:List Value} {K:Value->J->Prop} (hb:pV Tryz.prog g=true) (k:aj Tryz.prog g args.toArray h K):er Tryz.prog (.func (.func g) #[] #[]) args h K:=by
 unfold er
 dsimp only
 rw[hb]
 simpa using k
theorem Pn (n:Int) (h:J):aj Tryz.prog 285 #[.int .i64 n] h λv h'=>v= .bool (pJ n)/\h'=h:=
 anM _ _ _ (aC (λq=>⟨by simp[pJ,q],rfl⟩) λq=>⟨by simp[pJ,q],rfl⟩)
theorem XF (hs:src h a l.length (ints .i64 l)) (hl:l.length<=4096):aj Tryz.prog 286 #[.slice a l.length c, .func (.func 285) #[] #[]] h λv h'=>v= .bool (l.any pJ)/\h'=h:=by
 refine apR _ _ _ _ _ _ ?_
 refine(aj.mono (Post:= λv h'=>h'=h/\∃z:Int,v= .int .i64 z/\decide (0<=z)=l.any pJ) ?_ ?_)
 ·refine apY _ _ _ _ _ _ ⟨λz h'=>∃n:Nat,z=n/\n<=l.length/\h'=h/\(l.take n).any pJ=false,λz _=>((l.length:Int) -z).toNat,⟨0,rfl,by omega,rfl,rfl⟩,λ_=>?_⟩
  rintro _ _ ⟨n,rfl,hn,rfl,hno⟩
  refine aC (λq=>?_) λq=>?_
  ·have Ax:n<l.length:=by omega
   have hx:=List.getElem?_eq_getElem Ax
   obtain⟨b,o,rfl,hc⟩:=fW hs (j5 (k:= .i64) hx)
   refine⟨⟨by omega,by omega⟩,aN ⟨l[n],by simpa using hc,?_⟩⟩
   refine Zx (by kernel_rfl) ?_
   refine(Pn l[n] _).ret ⟨_,rfl,bH (λq2=>⟨rfl,_,rfl,?_⟩) λq2=>?_⟩
   ·rw[decide_eq_true (by omega:(0:Int)<=n)]
    symm
    rw[List.any_eq_true]
    exact⟨_,List.getElem_mem Ax,q2⟩
   ·refine⟨by simp only[fits];omega,⟨n+1,by omega,by omega,rfl,?_⟩,by dsimp only;omega⟩
    rw[List.take_add_one,hx,List.any_append,hno]
    simp[q2]
  ·obtain rfl:n=l.length:=by omega
   rw[List.take_length]at hno
   exact⟨rfl,_,rfl,by rw[hno];decide⟩
 ·rintro _ _ ⟨rfl,z,rfl,e⟩
  exact⟨_,rfl,by rw[e],rfl⟩
theorem Pm (nY:aa W h R) (d:pO W R a l.length (ints .i64 l)) (hl:l.length<=4096):
 aj Tryz.prog 257 #[.agg (cK r).toArray, .agg (mA m).toArray, .slice a l.length c] h λv h'=>v= .bool (ib r m l)/\aa W h' R:=by
 refine anL _ _ _ _ _ _ _ (nY.bb λal h1 m1=>m1.bb λaP h2 m2=>⟨_,m2.bE 1 rfl rfl,(vl m2).mono ?_⟩)
 clear m1 m2 nY
 rintro _ h3 ⟨rfl,m3⟩
 have fin:∀{h:J} {x y:aL},aa W h (x::y::R)->ib r m l=false->(Value.bool false= .bool (ib r m l)/\aa W h R):= λm3 e=>⟨by rw[e],m3.aB.aB⟩
 refine⟨_,rfl,bH (λq=>fin m3 (by have:r.ok=false:=(by simpa using q);simp[ib,this])) λq=>?_⟩
 have q:r.ok=true:=by simpa using q
 refine aC (λq1=>fin m3 (by simp[ib,show l.length=0 by omega])) λq1=>?_
 have ajv:¬(l.length=0):=by omega
 refine(XF (d _ [_,_] m3) hl).ret ⟨_,rfl,bH (λq2=>fin m3 (by simp[ib,q2])) λq2=>?_⟩
 have hb:∀x∈l,x<=1000000:= λx hx=>by
  have:=List.any_eq_false.1 q2 x hx
  simp[pJ]at this;omega
 refine⟨m.bB,m3.cell 0 rfl 0 rfl,aC (λaE=>fin m3 (by simp[ib,aE])) λaE=>?_⟩
 refine(OC (d _ [_,_] m3) hl hb).ret ⟨_,rfl,?_⟩
 obtain⟨h0,h1⟩:=I4 hb
 refine⟨m.e9,m3.cell 0 rfl 1 rfl,aC (λbP=>?_) λbP=>fin m3 (by simp[ib,bP])⟩
 refine⟨_,m3.bE 1 rfl rfl,m.tick,m3.cell 0 rfl 2 rfl,(D5 (n:=ky l) m3).mono ?_⟩
 rintro _ h4 ⟨rfl,m4⟩
 refine⟨_,rfl,m4.cell 0 rfl 2 rfl,?_,m4.aB.aB⟩
 have ajw:¬(min m.bB 64<(l.length:Int)):=aE
 unfold ib
 rw[q,decide_eq_false ajv,q2,decide_eq_false ajw,decide_eq_true bP]
 rfl
theorem YG (nY:aa W h R) (d:pO W R a l.length (ints .i64 l)) (hl:l.length<=4096) (hc:l.length<=c):
 aj Tryz.prog 255 #[.agg (cK r).toArray, .agg (mA m).toArray, .slice a l.length c] h λv h'=>v= .tuple #[.int .i64 (iz r m l).1, .bool (iz r m l).2]/\aa W h' R:=by
 refine anK _ _ _ _ _ _ _ (nY.bb λal h1 m1=>m1.bb λaP h2 m2=>?_)
 clear m1 nY
 refine⟨λz h'=>∃n:Nat,z=n/\n<=l.length/\ri r m l (min l.length 64)=ri r m l n/\aa W h' ([⟨aP,0,mA m,some 380⟩]::[⟨al,0,cK r,some 55⟩]::R),λz _=>z.toNat,
  ⟨min l.length 64,by omega,by omega,rfl,m2⟩,λ_=>?_⟩
 clear m2
 rintro _ h3 ⟨n,rfl,hn,nj,m3⟩
 refine aC (λq=>?_) λq=>?_
 ·obtain⟨k,rfl⟩:∃k,n=k+1:=⟨n -1,by omega⟩
  have dn:en a 0 c 0=a:=by
   obtain⟨b,o,e,-⟩:=fW (d _ [_,_] m3) (j5 (k:= .i64) (List.getElem?_eq_getElem (show 0<l.length by omega)))
   unfold en;rw[if_neg (by omega),e];simp only[Option.map_some,add_eq,Nat.add_zero]
  rw[dn,Int.toNat_natCast]
  refine⟨_,m3.bE 1 rfl rfl,_,m3.bE 0 rfl rfl,⟨by decide,by omega,by omega⟩,?_⟩
  have nr:(l.take (k+1)).length=k+1:=by rw[List.length_take];omega
  have d2:pO W ([⟨aP,0,mA m,some 380⟩]::[⟨al,0,cK r,some 55⟩]::R) a (l.take (k+1)).length (ints .i64 (l.take (k+1))):=by
   have:=((d.take (n:=k+1) (dL) hn (by omega)).on [⟨al,0,cK r,some 55⟩]).on [⟨aP,0,mA m,some 380⟩]
   rw[nr,show ints .i64 (l.take (k+1))=(ints .i64 l).take (k+1) by simp[ints,List.map_take]]
   exact this
  have:=Pm (r:=r) (m:=m) (c:=c) m3 d2 (by omega)
  rw[nr]at this
  refine this.mono ?_
  rintro _ h4 ⟨rfl,m4⟩
  refine⟨_,rfl,bH (λq2=>?_) λq2=>?_⟩
  ·refine⟨?_,m4.aB.aB⟩
   unfold iz
   rw[nj]
   unfold ri
   rw[if_pos q2]
  ·refine⟨by simp only[fits];omega,⟨k,by omega,by omega,?_,m4⟩,by dsimp only;omega⟩
   rw[nj]
   show ri r m l (k+1)=_
   rw[ri,if_neg (by rw[q2];decide)]
 ·obtain rfl:n=0:=by omega
  have iB:ri r m l (min l.length 64)=none:=nj
  have nN:iz r m l=if l.length≠0/\r.ok=true/\pJ (l.headD 0)=false then(1,false)else(0,false):=by unfold iz;rw[iB]
  rw[nN]
  refine aC (λq1=>?_) λq1=>⟨by rw[if_neg (λhh=>hh.1 (by omega))],m3.aB.aB⟩
  refine⟨_,m3.bE 1 rfl rfl,(vl m3).mono ?_⟩
  rintro _ h4 ⟨rfl,m4⟩
  refine⟨_,rfl,bH (λq2=>?_) λq2=>⟨by rw[if_neg (λhh=>by rw[hh.2.1]at q2;cases q2)],m4.aB.aB⟩⟩
  have hx:=List.getElem?_eq_getElem (show 0<l.length by omega)
  have hd:l.headD 0=l[0]'(by omega):=by cases l with|nil=>simp at q1|cons x l=>rfl
  obtain⟨b,o,rfl,hc⟩:=fW (d _ [_,_] m4) (j5 (k:= .i64) hx)
  refine⟨⟨by decide,by omega⟩,aN ⟨_,by simpa using hc,(Pn _ _).ret ⟨_,rfl,bH (λaE=>?_) λaE=>?_⟩⟩⟩
  ·exact⟨by rw[if_pos ⟨by omega,q2,by rw[hd];simpa using aE⟩],m4.aB.aB⟩
  ·exact⟨by rw[if_neg (λhh=>by rw[<-hd,hh.2.2]at aE;cases aE)],m4.aB.aB⟩
end
end Go.Proofs.YtjlkfjnfnonekaaGreatDoor
