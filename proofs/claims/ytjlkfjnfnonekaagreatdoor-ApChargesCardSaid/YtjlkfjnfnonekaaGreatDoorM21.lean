import Derived.Test.YtjlkfjnfnonekaaGreatDoorM20
import Derived.Test.YtjlkfjnfnonekaaGreatDoorM13
set_option linter.all false
set_option maxRecDepth 8000
namespace Go.Proofs.YtjlkfjnfnonekaaGreatDoor
open Go.Vc
structure cq where
 p:bh
 sq:Int
 cZ:Int
 vr:Int
structure Fr where
 m:cq
 a6:Bool
structure aS where
 w:eV
 size:Int
 cY:Int
 fG:Int
 st:Int
 tok:Int
 l:List Fr
 asks:Bool
 dy:Int
def qB:cq:=⟨pv,0,0,0⟩
def pn (m:cq) (a:Option Addr) (c:Nat):List Value:=[.int .i64 m.p.id, .int .u32 m.p.ad, .int .i64 m.p.tid, .int .i64 m.p.at_, .slice a m.p.body.length c, .int .i64 m.sq, .int .i64 m.cZ, .int .i64 m.vr]
def eS (W:Wd) (m:cq) (cs:List Value):Prop:=∃a c,cs=pn m a c/\cm W (.slice a m.p.body.length c) m.p.body
def eZ (W:Wd) (f:Fr) (cs:List Value):Prop:=∃a c,cs=pn f.m a c++[.bool f.a6]/\cm W (.slice a f.m.p.body.length c) f.m.p.body
def gk (x:aS) (pw:Nat) (a:Option Addr) (c:Nat):List Value:=[.pointer (some ⟨pw,0,none⟩), .int .i64 x.size, .int .i64 x.cY, .int .i64 x.fG, .int .i64 x.st, .int .i64 x.tok, .slice a x.l.length c, .bool x.asks, .int .i64 x.dy]
def cB (W:Wd) (b:Nat) (x:aS) (L:ao):Prop:=∃pw a c vs dZ E,L=(b,gk x pw a c,195)::(dZ++E)/\iM pw x.w dZ/\au a x.l.length c 9 vs E/\bX (eZ W) x.l vs
structure kV (x:aS):Prop where
 w:s0 x.w
 n:x.l.length<=64
 f:∀f∈x.l,f.m.p.body.length<=1048576/\0<=f.m.cZ/\f.m.cZ<=1048576
 v:0<=x.dy/\x.dy<=1048576
 sz:1<=x.size/\x.size<=64
 iT:0<=x.fG/\x.fG<=1125899906842624
def jG (f:Value) (W:Wd) (B:List aL) (l:List Fr) (p:Fr->Bool):Prop:=
 ∀(aQ:Wd) (h:J) (X:List aL) (fr:Fr) (cs:List Value),W.le aQ->aa aQ h (X++B)->fr∈l->eZ aQ fr cs->er Tryz.prog f [.agg cs.toArray] h λr h'=>r= .bool (p fr)/\aa aQ h' (X++B)
section
variable{W W' aQ:Wd} {h h':J} {R B X:List aL} {L E:ao} {x:aS} {b i k:Nat} {m:cq} {fr:Fr} {cs vs:List Value} {a:Option Addr} {c n:Nat} {v f:Value} {l:List Fr} {p:Fr->Bool} {q:bh}
theorem _root_.Go.Vc.aa.beside (m:aa W h R) (k:ai (Wd.of h) h' [E]):aa W h' (ae E::R):=by
 obtain⟨G,m0,bk⟩:=m.nx
 exact bk.2 (E:=E) (m0.beside k)
theorem eS.le (hl:W.le W') (hv:eS W m cs):eS W' m cs:=by obtain⟨a,c,e,hb⟩:=hv;exact⟨a,c,e,hb.le hl⟩
theorem eZ.le (hl:W.le W') (hv:eZ W fr cs):eZ W' fr cs:=by obtain⟨a,c,e,hb⟩:=hv;exact⟨a,c,e,hb.le hl⟩
theorem eZ.len (hv:eZ W fr cs):cs.length=9:=by obtain⟨a,c,rfl,_⟩:=hv;rfl
theorem eS.len (hv:eS W m cs):cs.length=8:=by obtain⟨a,c,rfl,_⟩:=hv;rfl
theorem A2:∀u∈pn m a c,u.oneCell'=true:=by
 intro u hu;simp[pn]at hu;rcases hu with rfl|rfl|rfl|rfl|rfl|rfl|rfl|rfl<;>rfl
theorem eS.one (hv:eS W m cs):∀u∈cs,u.oneCell'=true:=by obtain⟨a,c,rfl,_⟩:=hv;exact A2
theorem eZ.one (hv:eZ W fr cs):∀u∈cs,u.oneCell'=true:=by
 obtain⟨a,c,rfl,_⟩:=hv
 intro u hu
 rcases List.mem_append.1 hu with hu|hu
 ·exact A2 u hu
 ·simp at hu;subst hu;rfl
theorem eZ.mp (hv:eZ W fr cs):eS W fr.m (cs.take 8):=by obtain⟨a,c,rfl,hb⟩:=hv;exact⟨a,c,rfl,hb⟩
theorem cB.le (hl:W.le W') (hv:cB W b x L):cB W' b x L:=by
 obtain⟨pw,a,c,vs,dZ,E,e,h1,h2,h3⟩:=hv
 exact⟨pw,a,c,vs,dZ,E,e,h1,h2,h3.mono λ_ _=>eZ.le hl⟩
theorem aqo {A C:ao}:ae (A++C)=ae A++ae C:=by simp[ae]
theorem cB.dd (hv:cB W b x L) (m:aa W h (ae L::R)):∃pw a c vs dZ E,iM pw x.w dZ/\au a x.l.length c 9 vs E/\bX (eZ W) x.l vs/\L=(b,gk x pw a c,195)::(dZ++E)/\aa W h ([⟨b,0,gk x pw a c,some 195⟩]::ae dZ::ae E::R):=by
 obtain⟨pw,a,c,vs,dZ,E,rfl,h1,h2,h3⟩:=hv
 refine⟨pw,a,c,vs,dZ,E,h1,h2,h3,rfl,?_⟩
 exact m.perm (by simp[ae])
theorem cB.shut {pw:Nat} {dZ:ao} (hw:iM pw x.w dZ) (aw:au a x.l.length c 9 vs E) (hs:bX (eZ W) x.l vs) (m:aa W h ([⟨b,0,gk x pw a c,some 195⟩]::ae dZ::ae E::R)):∃L,cB W b x L/\aa W h (ae L::R):=by
 refine⟨_,⟨pw,a,c,vs,dZ,E,rfl,hw,aw,hs⟩,m.perm ?_⟩
 show _
 simp[ae]
theorem jG.up (gI:jG f W B l p):jG f W (X++B) l p:= λaQ h Y fr cs hl m hm hv=>by
 have:=gI aQ h (Y++X) fr cs hl (by rw[List.append_assoc];exact m) hm hv
 rw[List.append_assoc]at this;exact this
theorem jG.le (hl:W.le W') (gI:jG f W B l p):jG f W' B l p:= λaQ h X fr cs h2 m hm hv=>gI aQ h X fr cs (hl.trans h2) m hm hv
theorem Z0 {xs:List Int} (hb:cm W v xs) (hl:xs.length<=140737488355328) (m:aa W h R):aj Tryz.prog 217 #[v] h λxp h'=>∃W' a c,W.le W'/\xp= .slice a xs.length c/\cm W' xp xs/\aa W' h' R:=by
 obtain⟨a,c,rfl,h1,h2⟩:=hb
 refine(Cf (m.e5 h2) (by simp[ints]) dM hl).mono ?_
 rintro _ h' ⟨ay,c',E,rfl,k,o⟩
 obtain⟨W',hle,hE,ax⟩:=(m.beside k).give
 exact⟨W',ay,c',hle,rfl,o.uq rfl hE,ax⟩
theorem GW (hv:eS W m cs) (hl:m.p.body.length<=1048576) (nY:aa W h R):aj Tryz.prog 250 #[.agg cs.toArray] h λv h'=>∃W' Ch,W.le W'/\v= .agg Ch.toArray/\eS W' m Ch/\aa W' h' R:=by
 obtain⟨a,c,rfl,hb⟩:=hv
 refine anJ _ _ _ (nY.bb λal h1 m1=>m1.bb λaP h2 m2=>⟨_,_,_,m2.cell 1 rfl 4 rfl,(Z0 hb (by omega) m2).mono ?_⟩)
 rintro _ h3 ⟨W',ay,c',hle,rfl,tu,m3⟩
 refine⟨_,_,_,rfl,m3.store 1 rfl 4 rfl λh4 m4=>⟨_,m4.bE 1 rfl rfl,m4.c8 0 rfl rfl rfl A2 λaA m5=>⟨_,m5.bE 0 rfl rfl,W',pn m ay c',hle,rfl,⟨ay,c',rfl,tu⟩,m5.aB.aB⟩⟩⟩
theorem Bo (hs:bX (eZ W) l vs) (I:l[k]?=some fr):∃cs,eZ W fr cs/\(vs.drop (k*9)).take 9=cs/\k*9+9<=vs.length:=hs.get (λ_ _=>eZ.len) I
theorem YV {pw:Nat} {dZ:ao} (ok:kV x) (hs:bX (eZ W) x.l vs) (aw:au a x.l.length c 9 vs E) (gI:jG f W ([⟨b,0,gk x pw a c,some 195⟩]::ae dZ::ae E::R) x.l p)
 (m:aa W h ([⟨b,0,gk x pw a c,some 195⟩]::ae dZ::ae E::R)):aj Tryz.prog 181 #[.pointer (some ⟨b,0,none⟩),f] h λv h'=>
 ∃W' ay c' us F,W.le W'/\v= .slice ay (x.l.filter p).length c'/\au ay (x.l.filter p).length c' 8 us F/\bX (eS W') ((x.l.filter p).map Fr.m) us/\aa W' h' (ae F::[⟨b,0,gk x pw a c,some 195⟩]::ae dZ::ae E::R):=by
 have hn:=ok.n
 refine anH _ _ _ _ ⟨_,_,_,m.cell 0 rfl 6 rfl,?_⟩
 refine⟨λay bI c' y h=>∃(k:Nat) (W':Wd) (us:List Value) (F:ao),y=k/\k<=x.l.length/\W.le W'/\bI=((x.l.take k).filter p).length/\au ay bI c' 8 us F/\bX (eS W') (((x.l.take k).filter p).map Fr.m) us/\aa W' h (ae F::[⟨b,0,gk x pw a c,some 195⟩]::ae dZ::ae E::R),
  λ_ _ _ y _=>((x.l.length:Int) -y).toNat,⟨0,W,[],[],rfl,by omega,Wd.le.refl W,rfl,au.nil,rfl,m.hU⟩,λ_=>?_⟩
 clear m
 rintro ay _ c' _ h1 ⟨k,W',us,F,rfl,I,hle,rfl,mB,pb,m⟩
 refine aC (λq1=>?_) λq1=>?_
 ·have bY:k<x.l.length:=by omega
  obtain⟨fr,eN⟩:∃fr,x.l[k]?=some fr:=⟨_,List.getElem?_eq_getElem bY⟩
  have hmem:=List.mem_of_getElem? eN
  obtain⟨cs,cz,gE,hC⟩:=Bo (hs.mono λ_ _=>eZ.le hle) eN
  obtain⟨ju,nB,e,U⟩:=mK (aw.j8 m 3 rfl) hC (by decide) gE
  have dH:(x.l.take (k+1)).filter p=(x.l.take k).filter p++(if p fr=true then[fr]else[]):=by
   rw[List.take_add_one,eN,List.filter_append];simp only[Option.toList_some,List.filter_cons,List.filter_nil]
  have gp:((x.l.take k).filter p).length<=64:=by
   have h1:=List.length_filter_le p (x.l.take k);rw[List.length_take]at h1;omega
  refine⟨⟨by omega,by omega⟩,?_⟩
  refine sM e ⟨cs,U,m.bb λbx h2 m2=>m2.c8 0 rfl cz.len rfl cz.one λh3 m3=>⟨_,m3.bE 0 rfl cz.len.symm,?_⟩⟩
  refine tb (gI W' h3 [[⟨bx,0,cs,some 314⟩],ae F] fr cs hle m3 hmem cz) ?_
  rintro _ h4 ⟨rfl,m4⟩
  refine⟨_,rfl,bH (λq2=>?_) λq2=>?_⟩
  ·rw[if_pos q2]at dH
   refine⟨_,m4.row 0 rfl 0 rfl (by rw[cz.len];decide),(GW (by rw[List.drop_zero];exact cz.mp) (ok.f fr hmem).1 m4).mono ?_⟩
   rintro _ aA ⟨bu,zW,j2,rfl,F4,m5⟩
   refine⟨_,rfl,F4.len,?_⟩
   rw[List.append_nil]
   refine mB.kA m5 1 rfl F4.len F4.one (by omega) (by decide) λhJ gB qZ bW m7 gv=>?_
   refine⟨by simp only[fits];omega,⟨k+1,bu,_,qZ,by omega,by omega,hle.trans j2,by rw[dH,List.length_append];rfl,gv,?_,m7.aB⟩,by dsimp only;omega⟩
   rw[dH,List.map_append]
   exact(pb.mono λ_ _=>eS.le j2).snoc F4
  ·rw[if_neg (by rw[q2];decide),List.append_nil]at dH
   exact⟨by simp only[fits];omega,⟨k+1,W',us,F,by omega,by omega,hle,by rw[dH],mB,by rw[dH];exact pb,m4.aB⟩,by dsimp only;omega⟩
 ·obtain rfl:k=x.l.length:=by omega
  rw[List.take_length]at mB pb⊢
  exact⟨W',ay,c',us,F,hle,rfl,mB,pb,m⟩
end
end Go.Proofs.YtjlkfjnfnonekaaGreatDoor
set_option maxRecDepth 8000
namespace Go.Proofs.YtjlkfjnfnonekaaGreatDoor
open Go.Vc
def nt {α:Type} (p:α->Bool) (l:List α):Int:=match l.findIdx? p with|some k=>(k:Int)|none=>-1
theorem SR {α:Type} {p:α->Bool} {l:List α} (h:∀x∈l,p x=false):nt p l=-1:=by
 unfold nt;rw[List.findIdx?_eq_none_iff.2 h]
theorem SS {α:Type} {p:α->Bool} {l:List α} {k:Nat} {x:α} (I:l[k]?=some x) (hx:p x=true) (hn:∀y∈l.take k,p y=false):nt p l=k:=by
 obtain⟨bY,e⟩:=List.getElem?_eq_some_iff.1 I
 unfold nt
 rw[List.findIdx?_eq_some_iff_getElem.2 ⟨bY,by rw[e];exact hx,λj ah=>by
  have fv:j<(l.take k).length:=by rw[List.length_take];omega
  have:=hn (l.take k)[j] (List.getElem_mem fv)
  rw[List.getElem_take]at this
  rw[this];decide⟩]
theorem ae4 {α:Type} (p:α->Bool) (l:List α):decide (0<=nt p l)=l.any p:=by
 unfold nt
 cases h:l.findIdx? p with
 |none=>
  have:=List.findIdx?_eq_none_iff.1 h
  rw[List.any_eq_false.2 (λx hx=>by rw[this x hx];decide)];decide
 |some k=>
  obtain⟨I,hp,_⟩:=List.findIdx?_eq_some_iff_getElem.1 h
  rw[List.any_eq_true.2 ⟨_,List.getElem_mem I,hp⟩]
  exact decide_eq_true (by show(0:Int)<=(k:Int);omega)
section
variable{W W' aQ:Wd} {h h':J} {R B X:List aL} {L E:ao} {x:aS} {b i k:Nat} {m:cq} {fr:Fr} {cs vs:List Value} {a:Option Addr} {c n:Nat} {v f:Value} {l:List Fr} {p:Fr->Bool} {q:bh}
theorem Rl (gI:jG f W B l p) (hs:bX (eZ W) l vs) (sy:∀h X,aa W h (X++B)->src h a (l.length*9) vs) (hn:l.length<=1048576) (m:aa W h B):
 aj Tryz.prog 280 #[.slice a l.length c,f] h λv h'=>v= .int .i64 (nt p l)/\aa W h' B:=by
 refine apX _ _ _ _ _ _ ⟨λy h=>∃k:Nat,y=k/\k<=l.length/\(∀z∈l.take k,p z=false)/\aa W h B,λy _=>((l.length:Int) -y).toNat,⟨0,rfl,by omega,by simp,m⟩,λ_=>?_⟩
 clear m
 rintro _ h1 ⟨k,rfl,I,hno,m⟩
 refine aC (λq1=>?_) λq1=>?_
 ·obtain⟨fr,eN⟩:∃fr,l[k]?=some fr:=⟨_,List.getElem?_eq_getElem (by omega)⟩
  obtain⟨cs,cz,gE,hC⟩:=Bo hs eN
  obtain⟨ju,nB,e,U⟩:=mK (sy h1 [] m) hC (by decide) gE
  refine⟨⟨by omega,by omega⟩,sM e ⟨cs,U,tb (gI W h1 [] fr cs (Wd.le.refl W) m (List.mem_of_getElem? eN) cz) ?_⟩⟩
  rintro _ h2 ⟨rfl,m2⟩
  refine⟨_,rfl,bH (λq2=>⟨by rw[SS eN q2 hno],m2⟩) λq2=>⟨by simp only[fits];omega,⟨k+1,by omega,by omega,λz hz=>?_,m2⟩,by dsimp only;omega⟩⟩
  rw[List.take_add_one,eN]at hz
  rcases List.mem_append.1 hz with hz|hz
  ·exact hno z hz
  ·simp at hz;subst hz;exact q2
 ·obtain rfl:k=l.length:=by omega
  rw[List.take_length]at hno
  exact⟨by rw[SR hno],m⟩
theorem Ki (gI:jG f W B l p) (hs:bX (eZ W) l vs) (sy:∀h X,aa W h (X++B)->src h a (l.length*9) vs) (hn:l.length<=1048576) (m:aa W h B):
 aj Tryz.prog 242 #[.slice a l.length c,f] h λv h'=>v= .bool (l.any p)/\aa W h' B:=by
 refine apQ _ _ _ _ _ _ ((Rl gI hs sy hn m).mono ?_)
 rintro _ h1 ⟨rfl,m⟩
 exact⟨_,rfl,by rw[ae4],m⟩
theorem x9 {α:Type} {p:α->Bool} {l:List α} {k:Nat} {x:α} (I:l[k]?=some x):(l.take (k+1)).filter p=(l.take k).filter p++(if p x=true then[x]else[]):=by
 rw[List.take_add_one,I,List.filter_append];simp only[Option.toList_some,List.filter_cons,List.filter_nil]
theorem abX (gI:jG f W B l p) (hs:bX (eZ W) l vs) (o:au a l.length c 9 vs E) (hn:l.length<=1048576) (m:aa W h (ae E::B)):
 aj Tryz.prog 247 #[.slice a l.length c,f] h λv h'=>∃ay c' us F,v= .slice ay (l.filter λy=>!p y).length c'/\au ay (l.filter λy=>!p y).length c' 9 us F/\bX (eZ W) (l.filter λy=>!p y) us/\aa W h' (ae F::B):=by
 have hle:=o.le
 refine apU _ _ _ _ _ _ ((Rl (a:=a) (B:=ae E::B) (gI.up (X:=[ae E])) hs (λh X m=>o.j8 m X.length (by rw[List.getElem?_append_right (Nat.le_refl _),Nat.sub_self];rfl)) hn m).mono ?_)
 rintro _ h1 ⟨rfl,m1⟩
 clear m
 refine⟨_,rfl,aC (λq1=>?_) λq1=>?_⟩
 ·have hno:∀z∈l,p z=false:=by
   unfold nt at q1
   cases e:l.findIdx? p with
   |none=>exact List.findIdx?_eq_none_iff.1 e
   |some k=>rw[e]at q1;dsimp only at q1;omega
  have e:(l.filter λy=>!p y)=l:=List.filter_eq_self.2 λz hz=>by rw[hno z hz];rfl
  rw[e]
  exact⟨a,c,vs,E,rfl,o,hs,m1⟩
 obtain⟨av,wx⟩:∃k,l.findIdx? p=some k:=by
  cases e:l.findIdx? p with
  |none=>exfalso;apply q1;unfold nt;rw[e]
  |some k=>exact⟨k,rfl⟩
 have yl:nt p l=av:=by unfold nt;rw[wx]
 obtain⟨C3,C4,KI⟩:=List.findIdx?_eq_some_iff_getElem.1 wx
 have wC:(l.take av).filter (λy=>!p y)=l.take av:=List.filter_eq_self.2 λz hz=>by
  obtain⟨j,ah,rfl⟩:=List.getElem_of_mem hz
  have At:j<av:=by rw[List.length_take]at ah;omega
  rw[List.getElem_take]
  have:=KI j At
  simpa using this
 rw[yl]
 refine⟨by simp only[fits];omega,?_⟩
 refine⟨λLq yE h=>∃(i j:Nat) (ys:List Fr) (us:List Value) (F:ao),Lq=i/\yE=j/\i<j/\j<=l.length/\i=((l.take j).filter λy=>!p y).length/\ys.length=l.length/\ys.take i=(l.take j).filter (λy=>!p y)/\ys.drop j=l.drop j/\bX (eZ W) ys us/\au a l.length c 9 us F/\aa W h (ae F::B),
  λ_ yE _=>((l.length:Int) -yE).toNat,⟨av,av+1,l,vs,E,rfl,by omega,by omega,by omega,?_,rfl,?_,rfl,hs,o,m1⟩,λ_=>?_⟩
 ·rw[x9 (List.getElem?_eq_getElem C3),C4,wC];simp;omega
 ·rw[x9 (List.getElem?_eq_getElem C3),C4,wC];simp
 clear m1 o hs
 rintro _ _ h2 ⟨i,j,ys,us,F,rfl,rfl,uL,ah,hi,uU,uV,yA,hs,o,m⟩
 have sA:us.length=l.length*9:=by have:=hs.len (λ_ _=>eZ.len);rw[uU]at this;exact this
 refine aC (λq2=>?_) λq2=>?_
 ·have fv:j<l.length:=by omega
  obtain⟨fr,eN⟩:∃fr,l[j]?=some fr:=⟨_,List.getElem?_eq_getElem fv⟩
  have La:ys[j]?=some fr:=by
   have h1:(ys.drop j)[0]?=(l.drop j)[0]?:=by rw[yA]
   rw[List.getElem?_drop,List.getElem?_drop,Nat.add_zero]at h1
   rw[h1];exact eN
  obtain⟨cs,cz,gE,hC⟩:=Bo hs La
  obtain⟨ju,nB,e,U⟩:=mK (o.j8 m 0 rfl) hC (by decide) gE
  have dH:=x9 (p:= λy=>!p y) eN
  refine⟨⟨by omega,by omega⟩,sM e ⟨cs,U,m.bb λbx h3 m3=>m3.c8 0 rfl cz.len rfl cz.one λh4 m4=>⟨_,m4.bE 0 rfl cz.len.symm,?_⟩⟩⟩
  refine tb (gI W h4 [[⟨bx,0,cs,some _⟩],ae F] fr cs (Wd.le.refl W) m4 (List.mem_of_getElem? eN) cz) ?_
  rintro _ aA ⟨rfl,m5⟩
  refine⟨_,rfl,bH (λaE=>?_) λaE=>?_⟩
  ·rw[if_pos aE]at dH
   refine⟨_,m5.bE 0 rfl cz.len.symm,⟨by omega,by omega⟩,?_⟩
   obtain⟨ey,nZ,dP,hw,tw⟩:=o.Bk (k:=i*9) (us:=cs) m5 1 rfl (by rw[sA,cz.len];omega) (by rw[sA];omega)
   refine sM dP ⟨⟨cz.len,cz.len▸hw,cz.one⟩,λaU h8=>?_⟩
   obtain⟨oV,m6,o'⟩:=tw aU h8
   have Gq:=hs.set (λ_ _=>eZ.len) (i:=i) (y:=fr) (by omega) cz
   rw[n3 (by rw[sA,cz.len];omega),cz.len,List.append_assoc]at o'
   refine⟨by simp only[fits];omega,by simp only[fits];omega,⟨i+1,j+1,ys.set i fr,_,oV,by omega,by omega,by omega,by omega,?_,by rw[List.length_set];exact uU,?_,?_,Gq,o',m6.aB⟩,by dsimp only;omega⟩
   ·rw[dH,List.length_append,<-hi];rfl
   ·rw[dH,<-uV,List.take_add_one,List.take_set_of_le (Nat.le_refl _),List.getElem?_set_self (by omega)];rfl
   ·rw[List.drop_set_of_lt (by omega),<-List.drop_drop,yA,List.drop_drop]
  ·rw[if_neg (by rw[aE];decide),List.append_nil]at dH
   refine⟨by simp only[fits];omega,⟨i,j+1,ys,us,F,rfl,by omega,by omega,by omega,by rw[dH];exact hi,uU,by rw[dH];exact uV,?_,hs,o,m5.aB⟩,by dsimp only;omega⟩
   rw[<-List.drop_drop,yA,List.drop_drop]
 ·obtain rfl:j=l.length:=by omega
  rw[List.take_length]at hi uV
  refine⟨⟨by omega,by omega⟩,?_⟩
  rw[show((i:Int)).toNat=i from rfl]
  refine JH (e:=314) (z:= .agg #[.int .i64 0, .int .u32 0, .int .i64 0, .int .i64 0, .slice none 0 0, .int .i64 0, .int .i64 0, .int .i64 0, .bool false]) (by kernel_rfl) (by kernel_rfl) (by intro u hu;simp[Value.cells]at hu;rcases hu with rfl|rfl|rfl|rfl|rfl|rfl|rfl|rfl|rfl<;>rfl) (by omega) ?_
  obtain⟨ck,hz⟩:∃ck,ck=cX (List.replicate (l.length -i) (Value.cells (.agg #[.int .i64 0, .int .u32 0, .int .i64 0, .int .i64 0, .slice none 0 0, .int .i64 0, .int .i64 0, .int .i64 0, .bool false])).toList):=⟨_,rfl⟩
  have j4:ck.length=(l.length -i)*9:=by rw[hz,Lr];rfl
  rw[<-hz]
  have n0:=o.tail i (by omega)
  obtain⟨ey,nZ,dP,hw,tw⟩:=o.Bk (k:=i*9) (us:=ck) m 0 rfl (by rw[sA,j4];omega) (by omega)
  refine JL (b:=ey) (o:=nZ+i*9) ?_ ⟨hw,λaU h8=>?_⟩
  ·unfold en
   rw[if_neg (by omega),dP];simp only[Option.map_some,add_eq]
  obtain⟨oV,m6,o'⟩:=tw aU h8
  refine⟨⟨by omega,by omega,by omega⟩,?_⟩
  have wX:=o'.head i (by omega)
  have uz:(bG us (i*9) ck).take (i*9)=us.take (i*9):=by
   rw[n3 (by rw[sA,j4];omega),List.append_assoc,List.take_append_of_le_length (by rw[List.length_take];omega),List.take_take,Nat.min_self]
  rw[uz]at wX
  have ih:=hs.take (λ_ _=>eZ.len) i
  rw[uV]at ih
  have dn:en a 0 c 0=a:=by
   unfold en;rw[if_neg (by omega),dP];simp only[Option.map_some,add_eq,Nat.add_zero]
  rw[dn]
  refine⟨a,c,us.take (i*9),oV,by rw[hi],by rw[<-hi];exact wX,ih,m6⟩
theorem abW (hs:src h a (l.length*9) vs) (hl:vs.length=l.length*9) (h1:∀u∈vs,u.oneCell'=true) (hn:l.length<=1048576) (m:aa W h B):aj Tryz.prog 248 #[.slice a l.length c] h λv h'=>
 ∃ay c' F,v= .slice ay l.length c'/\au ay l.length c' 9 vs F/\aa W h' (ae F::B):=by
 refine(apO _ _ _ _ _ (Fv (l:=l.length) (sz:=9) (bytes:=88) hs hl h1 (by omega) (by decide) (by decide))).mono ?_
 rintro _ h' ⟨ay,c',F,rfl,k,o⟩
 exact⟨ay,c',F,rfl,o,m.beside k⟩
end
end Go.Proofs.YtjlkfjnfnonekaaGreatDoor
set_option maxRecDepth 8000
namespace Go.Proofs.YtjlkfjnfnonekaaGreatDoor
open Go.Vc
def aS.bw (x:aS) (st:Int):aS:=⟨x.w,x.size,x.cY,x.fG,st,x.tok,x.l,x.asks,x.dy⟩
def aS.rL (x:aS) (w:eV):aS:=⟨w,x.size,x.cY,x.fG,x.st,x.tok,x.l,x.asks,x.dy⟩
def aS.bG (x:aS) (l:List Fr):aS:=⟨x.w,x.size,x.cY,x.fG,x.st,x.tok,l,x.asks,x.dy⟩
def aS.e4 (x:aS) (asks:Bool) (dy:Int):aS:=⟨x.w,x.size,x.cY,x.fG,x.st,x.tok,x.l,asks,dy⟩
def sH (f:Fr):Fr:=⟨f.m,false⟩
def aS.land (x:aS):aS:=x.bG (x.l.map sH)
def Dq (f:Fr):Bool:=!f.a6
def aS.due (x:aS):List cq:=(x.l.filter Dq).map Fr.m
def aS.out (x:aS):List cq:=x.l.map Fr.m
def aS.yb (x:aS):Bool:=x.l.any Fr.a6
def aS.ask (x:aS) (tok:Int):aS×lO:=
 if 0<=tok/\tok<256 then(if x.st=1/\x.l=[]then(⟨x.w,x.size,x.cY,x.fG,2,tok,x.l,x.asks,x.dy⟩,none)else(x,some 9))else(x,some 2)
def aS.sV (x:aS) (size:Int):Int:=if 0<size then min x.size size else x.size
def aS.answer (x:aS) (tok status size:Int):aS×lO:=
 if x.st=2/\tok=x.tok then(if status≠0 then(x.bw 1,none)else if size<0\/1024<=size then(x,some 2)else if x.w.out=[]then((x.rL (x.w.size (x.sV size))).bw 3,none)else(x,some 9))else(x,some 9)
def aS.gT (x:aS):aS×lO:=if x.st=1\/x.l≠[]then(x,some 9)else if x.w.out=[]then(((x.rL (x.w.size 1)).bw 1).e4 false 0,none)else(x,some 9)
def aS.iy (x:aS) (done:Bool):aS:=if x.asks=true then(if done=true\/x.cY<x.dy+1 then x.e4 false 0 else x.e4 true (x.dy+1))else x
def xU (size cY fG:Int):aS:=⟨⟨0,0,1,[]⟩,size,cY,fG,1,0,[],false,0⟩
section
variable{W W' aQ:Wd} {h h':J} {R B nG X:List aL} {L E:ao} {x:aS} {b i k:Nat} {m:cq} {fr:Fr} {cs vs:List Value} {a:Option Addr} {c n:Nat} {v f:Value} {l:List Fr} {p:Fr->Bool} {q:bh} {ads:List Addr}
theorem jG.perm (gI:jG f W B l p) (hp:B.flatten.Perm nG.flatten):jG f W nG l p:= λaQ h X fr cs hl m hm hv=>
 tb (gI aQ h X fr cs hl (m.perm (by simp only[List.flatten_append];exact List.Perm.append_left _ hp.symm)) hm hv) λr h' ⟨e,ax⟩=>⟨e,ax.perm (by simp only[List.flatten_append];exact List.Perm.append_left _ hp)⟩
theorem aiQ:jG (.func (.func 182) #[] #[]) W B l λ_=>true:= λaQ h X fr cs hl m hm hv=>
 sd (by kernel_rfl) (ant _ _ _ (m.bb λal h1 m1=>⟨rfl,m1.aB⟩))
theorem Cv (hv:eZ W fr cs):cs[8]?=some (.bool fr.a6):=by obtain⟨a,c,rfl,_⟩:=hv;rfl
theorem FO (hv:eZ W fr cs):cs[5]?=some (.int .i64 fr.m.sq):=by obtain⟨a,c,rfl,_⟩:=hv;rfl
theorem Rm (hv:eZ W fr cs):cs[6]?=some (.int .i64 fr.m.cZ):=by obtain⟨a,c,rfl,_⟩:=hv;rfl
theorem abY (hv:eZ W fr cs):cs[7]?=some (.int .i64 fr.m.vr):=by obtain⟨a,c,rfl,_⟩:=hv;rfl
theorem aiR:jG (.func (.func 194) #[] #[]) W B l Dq:= λaQ h X fr cs hl m hm hv=>
 sd (by kernel_rfl) (anl _ _ _ (m.bb λal h1 m1=>⟨_,m1.cell 0 rfl 8 (Cv hv),rfl,m1.aB⟩))
theorem aiS:jG (.func (.func 279) #[] #[]) W B l Fr.a6:= λaQ h X fr cs hl m hm hv=>
 sd (by kernel_rfl) (anF _ _ _ (m.bb λal h1 m1=>⟨_,m1.cell 0 rfl 8 (Cv hv),rfl,m1.aB⟩))
theorem Po {pw:Nat} {dZ:ao}:(ae ((b,gk x pw a c,195)::(dZ++E))::R:List aL).flatten.Perm ([⟨b,0,gk x pw a c,some 195⟩]::ae dZ::ae E::R:List aL).flatten:=by simp[ae]
theorem Jn (ok:kV x) (hv:cB W b x L) (gI:jG f W (ae L::R) x.l p) (m:aa W h (ae L::R)):aj Tryz.prog 181 #[.pointer (some ⟨b,0,none⟩),f] h λv h'=>
 ∃W' ay c' us F,W.le W'/\v= .slice ay (x.l.filter p).length c'/\au ay (x.l.filter p).length c' 8 us F/\bX (eS W') ((x.l.filter p).map Fr.m) us/\aa W' h' (ae F::ae L::R):=by
 obtain⟨pw,a,c,vs,dZ,E,hw,aw,hs,rfl,m1⟩:=hv.dd m
 refine(YV ok hs aw (gI.perm Po) m1).mono ?_
 rintro _ h' ⟨W',ay,c',us,F,hle,rfl,o,hq,ax⟩
 exact⟨W',ay,c',us,F,hle,rfl,o,hq,ax.perm (by simp[ae])⟩
theorem filter_all {l:List Fr}:(l.filter λ_=>true)=l:=List.filter_eq_self.2 λ_ _=>rfl
theorem YX (ok:kV x) (hv:cB W b x L) (m:aa W h (ae L::R)):aj Tryz.prog 91 #[.pointer (some ⟨b,0,none⟩)] h λv h'=>
 ∃W' ay c' us F,W.le W'/\v= .slice ay x.out.length c'/\au ay x.out.length c' 8 us F/\bX (eS W') x.out us/\aa W' h' (ae F::ae L::R):=by
 refine ans _ _ _ ((Jn ok hv aiQ m).mono ?_)
 rintro _ h' ⟨W',ay,c',us,F,hle,rfl,o,hq,ax⟩
 rw[filter_all]at o hq⊢
 refine⟨_,_,_,rfl,W',ay,c',us,F,hle,?_,?_,hq,ax⟩
 ·unfold aS.out;rw[List.length_map]
 ·unfold aS.out;rw[List.length_map];exact o
theorem YR (ok:kV x) (hv:cB W b x L) (m:aa W h (ae L::R)):aj Tryz.prog 113 #[.pointer (some ⟨b,0,none⟩)] h λv h'=>
 ∃W' ay c' us F,W.le W'/\v= .slice ay x.due.length c'/\au ay x.due.length c' 8 us F/\bX (eS W') x.due us/\aa W' h' (ae F::ae L::R):=by
 refine ank _ _ _ ((Jn ok hv aiR m).mono ?_)
 rintro _ h' ⟨W',ay,c',us,F,hle,rfl,o,hq,ax⟩
 refine⟨_,_,_,rfl,W',ay,c',us,F,hle,?_,?_,hq,ax⟩
 ·unfold aS.due;rw[List.length_map]
 ·unfold aS.due;rw[List.length_map];exact o
theorem YQ {j:Nat} (hv:cB W b x L) (m:aa W h (ae L::R)):∃pw a c,∀v,(gk x pw a c)[j]?=some v->cell h b j=some v:=by
 obtain⟨pw,a,c,vs,dZ,E,hw,aw,hs,rfl,m1⟩:=hv.dd m
 exact⟨pw,a,c,λv ah=>m1.cell 0 rfl j ah⟩
theorem Pr (hv:cB W b x L) (m:aa W h (ae L::R)):aj Tryz.prog 110 #[.pointer (some ⟨b,0,none⟩)] h λv h'=>v= .int .i64 x.st/\h'=h:=by
 obtain⟨pw,a,c,hc⟩:=YQ (j:=4) hv m
 exact anx _ _ _ ⟨_,hc _ rfl,rfl,rfl⟩
theorem Y0 (hv:cB W b x L) (m:aa W h (ae L::R)):aj Tryz.prog 108 #[.pointer (some ⟨b,0,none⟩)] h λv h'=>v= .int .i64 x.w.st/\h'=h:=by
 obtain⟨pw,a,c,vs,dZ,E,hw,aw,hs,rfl,m1⟩:=hv.dd m
 exact anw _ _ _ ⟨_,m1.cell 0 rfl 0 rfl,(WH hw m1.swap).ret ⟨_,rfl,rfl,rfl⟩⟩
theorem YZ (hv:cB W b x L) (m:aa W h (ae L::R)):aj Tryz.prog 109 #[.pointer (some ⟨b,0,none⟩)] h λv h'=>v= .int .i64 x.w.sz/\h'=h:=by
 obtain⟨pw,a,c,vs,dZ,E,hw,aw,hs,rfl,m1⟩:=hv.dd m
 exact anv _ _ _ ⟨_,m1.cell 0 rfl 0 rfl,(aqu hw m1.swap).ret ⟨_,rfl,rfl,rfl⟩⟩
theorem YY (ok:kV x) (hv:cB W b x L) (m:aa W h (ae L::R)):aj Tryz.prog 189 #[.pointer (some ⟨b,0,none⟩)] h λv h'=>v= .int .i64 x.w.room/\h'=h:=by
 obtain⟨pw,a,c,vs,dZ,E,hw,aw,hs,rfl,m1⟩:=hv.dd m
 exact anu _ _ _ ⟨_,m1.cell 0 rfl 0 rfl,(WG hw ok.w m1.swap).ret ⟨_,rfl,rfl,rfl⟩⟩
theorem YO (hv:cB W b x L) (m:aa W h (ae L::R)):aj Tryz.prog 111 #[.pointer (some ⟨b,0,none⟩)] h λv h'=>v=(if x.asks=true then .tuple #[.int .i64 x.w.st, .bool true]else .tuple #[.int .i64 0, .bool false])/\h'=h:=by
 obtain⟨pw,a,c,vs,dZ,E,hw,aw,hs,rfl,m1⟩:=hv.dd m
 refine ani _ _ _ ⟨_,m1.cell 0 rfl 7 rfl,bH (λq=>⟨by rw[if_neg (by simpa using q)],rfl⟩) λq=>⟨_,m1.cell 0 rfl 0 rfl,(WH hw m1.swap).ret ⟨_,rfl,by rw[if_pos (by simpa using q)],rfl⟩⟩⟩
theorem Pq {size cY fG:Int} (h1:1<=size/\size<=64) (h2:0<=cY/\cY<=15) (h3:1<=fG/\fG<=1099511627776) (m:aa W h R):aj Tryz.prog 32 #[.int .i64 size, .int .i64 cY, .int .i64 fG] h λv h'=>
 ∃b L,v= .tuple #[.pointer (some ⟨b,0,none⟩), .nilIface]/\cB W b (xU size cY fG) L/\aa W h' (ae L::R):=by
 refine anf _ _ _ _ _ (bF (by omega) (bF (by omega) (bF (by omega) (bF (by omega) (bF (by omega) (bF (by omega) ?_))))))
 refine(aqs (by decide) (by decide) m).mono ?_
 rintro _ g1 ⟨PF,dZ,rfl,hw,m1⟩
 refine⟨_,_,rfl,_,jk,aZ rfl (m1.bb λb g2 m2=>?_)⟩
 obtain⟨L,hv,m3⟩:=cB.shut (x:=xU size cY fG) (W:=W) (b:=b) (a:=none) (c:=0) (E:=[]) (vs:=[]) (pw:=PF) hw au.nil rfl (m2.perm (L':=[⟨b,0,gk (xU size cY fG) PF none 0,some 195⟩]::ae dZ::ae []::R) (List.Perm.refl _))
 exact⟨b,L,rfl,hv,m3⟩
theorem Jm (ok:kV x) (hv:cB W b x L) (m:aa W h (ae L::R)):aj Tryz.prog 241 #[.pointer (some ⟨b,0,none⟩)] h λv h'=>v= .bool x.yb/\aa W h' (ae L::R):=by
 obtain⟨pw,a,c,vs,dZ,E,hw,aw,hs,rfl,m1⟩:=hv.dd m
 have:=ok.n
 refine anE _ _ _ ⟨_,_,_,m1.cell 0 rfl 6 rfl,?_⟩
 refine(Ki (p:=Fr.a6) aiS hs (λh X m=>aw.j8 m (X.length+2) (by rw[List.getElem?_append_right (by omega),Nat.add_sub_cancel_left];rfl)) (by omega) m1).mono ?_
 rintro _ g1 ⟨rfl,m2⟩
 exact⟨_,rfl,rfl,m2.perm (by simp[ae])⟩
theorem akM {n j:Nat} {vs cs:List Value} {v:Value} (I:k*n+n<=vs.length) (ah:j<n) (hc:(vs.drop (k*n)).take n=cs):vs.set (k*n+j) v=vs.take (k*n)++(cs.set j v++vs.drop (k*n+n)):=by
 have e:vs=vs.take (k*n)++((vs.drop (k*n)).take n++vs.drop (k*n+n)):=by
  rw[<-List.drop_drop,List.take_append_drop,List.take_append_drop]
 have c9:cs.length=n:=by rw[<-hc,List.length_take,List.length_drop];omega
 have nr:(vs.take (k*n)).length=k*n:=by rw[List.length_take];omega
 rw[hc]at e
 conv=>lhs;rw[e]
 rw[List.set_append_right _ _ (by omega),nr,Nat.add_sub_cancel_left,List.set_append_left _ _ (by omega)]
theorem M8 {j:Nat} (hs:bX (eZ W) l vs) (I:l[k]?=some fr) (ah:j<9) {g:Fr} (hg:∀cs,eZ W fr cs->eZ W g (cs.set j v)):bX (eZ W) (l.set k g) (vs.set (k*9+j) v):=by
 obtain⟨cs,cz,gE,hC⟩:=Bo hs I
 rw[akM hC ah gE]
 exact hs.set (λ_ _=>eZ.len) (List.getElem?_eq_some_iff.1 I).1 (hg cs cz)
theorem MX {α:Type} {g:α->α} {l:List α} {k:Nat} {x:α} (I:l[k]?=some x):((l.take k).map g++l.drop k).set k (g x)=(l.take (k+1)).map g++l.drop (k+1):=by
 obtain⟨bY,e⟩:=List.getElem?_eq_some_iff.1 I
 have nr:((l.take k).map g).length=k:=by rw[List.length_map,List.length_take];omega
 rw[List.set_append_right _ _ (by omega),nr,Nat.sub_self,List.drop_eq_getElem_cons bY,List.take_add_one,I,List.map_append]
 simp only[List.set_cons_zero,Option.toList_some,List.map_cons,List.map_nil,List.append_assoc,List.cons_append,List.nil_append]
theorem Ru {α:Type} {g:α->α} {l:List α} {k:Nat} {x:α} (I:l[k]?=some x):((l.take k).map g++l.drop k)[k]?=some x:=by
 obtain⟨bY,e⟩:=List.getElem?_eq_some_iff.1 I
 have nr:((l.take k).map g).length=k:=by rw[List.length_map,List.length_take];omega
 rw[List.getElem?_append_right (by omega),nr,Nat.sub_self,List.getElem?_drop,Nat.add_zero];exact I
theorem Pp (ok:kV x) (hv:cB W b x L) (m:aa W h (ae L::R)):aj Tryz.prog 244 #[.pointer (some ⟨b,0,none⟩)] h λv h'=>∃L',cB W b x.land L'/\aa W h' (ae L'::R):=by
 obtain⟨pw,a,c,vs,dZ,E,hw,aw,hs,rfl,m0⟩:=hv.dd m
 have hn:=ok.n
 refine anG _ _ _ ⟨_,_,_,m0.cell 0 rfl 6 rfl,?_⟩
 refine⟨λy h=>∃(k:Nat) (us:List Value) (F:ao),y=k/\k<=x.l.length/\au a x.l.length c 9 us F/\bX (eZ W) ((x.l.take k).map sH++x.l.drop k) us/\aa W h ([⟨b,0,gk x pw a c,some 195⟩]::ae dZ::ae F::R),
  λy _=>((x.l.length:Int) -y).toNat,⟨0,vs,E,rfl,by omega,aw,hs,m0⟩,λ_=>?_⟩
 clear m m0 hs aw hv
 rintro _ h1 ⟨k,us,F,rfl,I,aw,hs,m⟩
 refine aC (λq1=>?_) λq1=>?_
 ·obtain⟨fr,eN⟩:∃fr,x.l[k]?=some fr:=⟨_,List.getElem?_eq_getElem (by omega)⟩
  obtain⟨ey,nZ,dP,aeg,tw⟩:=aw.MR (k:=k*9+8) (v:= .bool false) m 2 rfl (by rw[aw.len];omega)
  refine⟨_,_,_,m.cell 0 rfl 6 rfl,⟨by omega,by omega⟩,sM dP ?_⟩
  rw[show((k:Int)).toNat=k from rfl,Nat.add_assoc]
  refine⟨aeg,λh2 h8=>?_⟩
  obtain⟨oV,m2,aM⟩:=tw h2 h8
  refine⟨by simp only[fits];omega,⟨k+1,_,oV,by omega,by omega,aM,?_,m2⟩,by dsimp only;omega⟩
  rw[<-MX eN]
  exact M8 hs (Ru eN) (by decide) λcs hc=>by obtain⟨a,c,rfl,hb⟩:=hc;exact⟨a,c,rfl,hb⟩
 ·obtain rfl:k=x.l.length:=by omega
  rw[List.take_length,List.drop_length,List.append_nil]at hs
  exact cB.shut (x:=x.land) (by exact hw) (by show au a (x.l.map sH).length c 9 us F;rw[List.length_map];exact aw) hs (by
   have e:gk x.land pw a c=gk x pw a c:=by unfold gk aS.land aS.bG;simp
   rw[e];exact m)
theorem YW (ok:kV x) (s:Snt W ads) (hv:cB W b x L) (m:aa W h (ae L::R)):aj Tryz.prog 171 #[.pointer (some ⟨b,0,none⟩)] h λv h'=>∃L',cB W b x.land L'/\aa W h' (ae L'::R):=by
 refine anr _ _ _ ((Jm ok hv m).mono ?_)
 rintro _ h1 ⟨rfl,m1⟩
 refine⟨_,rfl,bH (λq=>⟨_,s.var m1 9 rfl,L,?_,m1⟩) λq=>?_⟩
 ·have e:x.land=x:=by
   have hf:∀f∈x.l,f.a6=false:=by
    have q':x.yb=false:=by simpa using q
    unfold aS.yb at q'
    intro f hf
    have:=List.any_eq_false.1 q' f hf
    simpa using this
   unfold aS.land aS.bG
   have:x.l.map sH=x.l:=by
    rw[List.map_congr_left (g:=id) (λf hm=>by show sH f=f;unfold sH;rw[<-hf f hm]),List.map_id]
   rw[this]
  rw[e];exact hv
 ·refine(Pp ok hv m1).mono ?_
  rintro _ h2 ⟨L',hv',m2⟩
  exact⟨L',hv',m2⟩
theorem YN {tok:Int} (s:Snt W ads) (hv:cB W b x L) (m:aa W h (ae L::R)):aj Tryz.prog 114 #[.pointer (some ⟨b,0,none⟩), .int .i64 tok] h λv h'=>
 ∃L',v= .tuple #[.int .i64 (if(x.ask tok).2=none then x.w.dD else 0),gC ads (x.ask tok).2]/\cB W b (x.ask tok).1 L'/\aa W h' (ae L'::R):=by
 have no:∀e,x.ask tok=(x,some e)->∃L',Value.tuple #[.int .i64 0,gC ads (some e)]= .tuple #[.int .i64 (if(x.ask tok).2=none then x.w.dD else 0),gC ads (x.ask tok).2]/\cB W b (x.ask tok).1 L'/\aa W h (ae L'::R):= λe he=>by
  rw[he];exact⟨L,rfl,hv,m⟩
 have qp:=hv
 obtain⟨pw,a,c,vs,dZ,E,hw,aw,hs,hL,m1⟩:=qp.dd m
 refine anh _ _ _ _ (aC (λq=>⟨_,s.var m 2 rfl,no 2 (by unfold aS.ask;rw[if_neg (by omega)])⟩) λq=>aC (λq2=>⟨_,s.var m 2 rfl,no 2 (by unfold aS.ask;rw[if_neg (by omega)])⟩) λq2=>⟨_,m1.cell 0 rfl 4 rfl,bH (λaE=>⟨_,s.var m 9 rfl,no 9 ?_⟩) λaE=>⟨_,_,_,m1.cell 0 rfl 6 rfl,aC (λbP=>⟨_,s.var m 9 rfl,no 9 ?_⟩) λbP=>?_⟩⟩)
 ·unfold aS.ask;rw[if_pos (by omega),if_neg (by simp at aE;simp[aE])]
 ·unfold aS.ask;rw[if_pos (by omega),if_neg (λhc=>by rw[hc.2]at bP;simp at bP)]
 have wy:x.l=[]:=List.eq_nil_of_length_eq_zero (by omega)
 have e:x.ask tok=(⟨x.w,x.size,x.cY,x.fG,2,tok,x.l,x.asks,x.dy⟩,none):=by
  unfold aS.ask;rw[if_pos (by omega),if_pos ⟨by simpa using aE,wy⟩]
 rw[e]
 refine m1.store 0 rfl 4 rfl λh2 m2=>m2.store 0 rfl 5 rfl λh3 m3=>⟨_,m3.cell 0 rfl 0 rfl,(aqq hw m3.swap).ret ⟨_,rfl,?_⟩⟩
 obtain⟨L',hv',m4⟩:=cB.shut (x:=⟨x.w,x.size,x.cY,x.fG,2,tok,x.l,x.asks,x.dy⟩) hw aw hs m3
 exact⟨L',rfl,hv',m4⟩
theorem YM {tok status size:Int} (ok:kV x) (s:Snt W ads) (hv:cB W b x L) (m:aa W h (ae L::R)):aj Tryz.prog 163 #[.pointer (some ⟨b,0,none⟩), .int .i64 tok, .int .i64 status, .int .i64 size] h λv h'=>
 ∃L',v=gC ads (x.answer tok status size).2/\cB W b (x.answer tok status size).1 L'/\aa W h' (ae L'::R):=by
 have no:∀e,x.answer tok status size=(x,some e)->∃L',gC ads (some e)=gC ads (x.answer tok status size).2/\cB W b (x.answer tok status size).1 L'/\aa W h (ae L'::R):= λe he=>by
  rw[he];exact⟨L,rfl,hv,m⟩
 have qp:=hv
 have qo:=ok.sz
 obtain⟨pw,a,c,vs,dZ,E,hw,aw,hs,hL,m1⟩:=qp.dd m
 refine ang _ _ _ _ _ _ ⟨_,m1.cell 0 rfl 4 rfl,bH (λq=>⟨_,s.var m 9 rfl,no 9 ?_⟩) λq=>⟨_,m1.cell 0 rfl 5 rfl,bH (λq2=>⟨_,s.var m 9 rfl,no 9 ?_⟩) λq2=>bH (λaE=>?_) λaE=>?_⟩⟩
 ·unfold aS.answer;rw[if_neg (by simp at q;simp[q])]
 ·unfold aS.answer;rw[if_neg (by simp at q2;simp[q2])]
 ·have e:x.answer tok status size=(x.bw 1,none):=by unfold aS.answer;rw[if_pos (by simp at q q2;exact⟨q,q2⟩),if_pos (by simpa using aE)]
  rw[e]
  refine m1.store 0 rfl 4 rfl λh2 m2=>?_
  obtain⟨L',hv',m4⟩:=cB.shut (x:=x.bw 1) hw aw hs m2
  exact⟨L',rfl,hv',m4⟩
 have dW:x.answer tok status size=if size<0\/1024<=size then(x,some 2)else if x.w.out=[]then((x.rL (x.w.size (x.sV size))).bw 3,none)else(x,some 9):=by
  unfold aS.answer;rw[if_pos (by simp at q q2;exact⟨q,q2⟩),if_neg (by simpa using aE)]
 refine aC (λbP=>⟨_,s.var m 2 rfl,no 2 (by rw[dW,if_pos (by omega)])⟩) λbP=>aC (λeO=>⟨_,s.var m 2 rfl,no 2 (by rw[dW,if_pos (by omega)])⟩) λeO=>?_
 rw[if_neg (by omega)]at dW
 have go:∀n,n=x.sV size->aj Tryz.prog 183 #[.pointer (some ⟨pw,0,none⟩), .int .i64 n] h λr1 h2=>∃v5:Value,r1=v5/\∃t1:Bool,qt Tryz.prog h2 true v5 .nilIface=some t1/\
  ec (!t1) (∃L',v5=gC ads (x.answer tok status size).2/\cB W b (x.answer tok status size).1 L'/\aa W h2 (ae L'::R)) (wr h2 b 4/\∀h3:J,h3=b3 h2 b 4 (.int .i64 3)->∃L',Value.nilIface=gC ads (x.answer tok status size).2/\cB W b (x.answer tok status size).1 L'/\aa W h3 (ae L'::R)):= λn hn=>by
  have ady:1<=n/\n<=64:=by rw[hn];unfold aS.sV;split<;>omega
  by_cases ql:x.w.out=[]
  ·refine(WE hw ady ql m1.swap).mono ?_
   rintro _ h2 ⟨mV,rfl,kj,m2⟩
   refine⟨_,rfl,_,jk,aZ rfl (m2.swap.store 0 rfl 4 rfl λh3 m3=>?_)⟩
   rw[if_pos ql]at dW
   rw[dW]
   obtain⟨L',hv',m4⟩:=cB.shut (x:=(x.rL (x.w.size (x.sV size))).bw 3) (hn▸kj) aw hs m3
   exact⟨L',rfl,hv',m4⟩
  ·rw[if_neg ql]at dW
   obtain⟨XP,p3,W2,sN,DH⟩:=hw.dd m1.swap
   refine NN _ _ _ _ (bF (by omega) (bF (by omega) ⟨_,_,_,DH.cell 0 rfl 3 rfl,fB (by have:=List.length_pos_iff.2 ql;omega) ⟨_,s.var m 9 rfl,?_⟩⟩))
   refine⟨_,rfl,_,s.A4 (by intro i hi;cases hi;decide),df rfl ?_⟩
   rw[dW];exact⟨L,rfl,hv,m⟩
 refine⟨_,m1.cell 0 rfl 1 rfl,aC (λfI=>⟨_,m1.cell 0 rfl 0 rfl,go _ (by unfold aS.sV;rw[if_pos fI])⟩) λfI=>⟨_,m1.cell 0 rfl 0 rfl,go _ (by unfold aS.sV;rw[if_neg fI])⟩⟩
theorem YS (s:Snt W ads) (hv:cB W b x L) (m:aa W h (ae L::R)):aj Tryz.prog 92 #[.pointer (some ⟨b,0,none⟩)] h λv h'=>
 ∃L',v=gC ads x.gT.2/\cB W b x.gT.1 L'/\aa W h' (ae L'::R):=by
 have no:x.gT=(x,some 9)->∃L',gC ads (some 9)=gC ads x.gT.2/\cB W b x.gT.1 L'/\aa W h (ae L'::R):= λhe=>by
  rw[he];exact⟨L,rfl,hv,m⟩
 have qp:=hv
 obtain⟨pw,a,c,vs,dZ,E,hw,aw,hs,hL,m1⟩:=qp.dd m
 refine anm _ _ _ ⟨_,m1.cell 0 rfl 4 rfl,aC (λq=>⟨_,s.var m 9 rfl,no (by unfold aS.gT;rw[if_pos (.inl q)])⟩) λq=>⟨_,_,_,m1.cell 0 rfl 6 rfl,aC (λq2=>⟨_,s.var m 9 rfl,no ?_⟩) λq2=>⟨_,m1.cell 0 rfl 0 rfl,?_⟩⟩⟩
 ·unfold aS.gT;rw[if_pos (.inr (λhc=>by rw[hc]at q2;simp at q2))]
 have wy:x.l=[]:=List.eq_nil_of_length_eq_zero (by omega)
 by_cases ql:x.w.out=[]
 ·have e:x.gT=(((x.rL (x.w.size 1)).bw 1).e4 false 0,none):=by unfold aS.gT;rw[if_neg (by rintro(h|h);exact q h;exact h wy),if_pos ql]
  rw[e]
  refine(WE hw (by decide) ql m1.swap).mono ?_
  rintro _ h2 ⟨mV,rfl,kj,m2⟩
  refine⟨_,rfl,_,jk,aZ rfl (m2.swap.store 0 rfl 4 rfl λh3 m3=>m3.store 0 rfl 7 rfl λh4 m4=>m4.store 0 rfl 8 rfl λaA m5=>?_)⟩
  obtain⟨L',hv',m6⟩:=cB.shut (x:=((x.rL (x.w.size 1)).bw 1).e4 false 0) kj aw hs m5
  exact⟨L',rfl,hv',m6⟩
 ·obtain⟨XP,p3,W2,sN,DH⟩:=hw.dd m1.swap
  refine NN _ _ _ _ (bF (by decide) (bF (by decide) ⟨_,_,_,DH.cell 0 rfl 3 rfl,fB (by have:=List.length_pos_iff.2 ql;omega) ⟨_,s.var m 9 rfl,?_⟩⟩))
  exact⟨_,rfl,_,s.A4 (by intro i hi;cases hi;decide),df rfl (no (by unfold aS.gT;rw[if_neg (by rintro(h|h);exact q h;exact h wy),if_neg ql]))⟩
theorem YP {done:Bool} (ok:kV x) (hv:cB W b x L) (m:aa W h (ae L::R)):aj Tryz.prog 172 #[.pointer (some ⟨b,0,none⟩), .bool done] h λv h'=>
 ∃L',cB W b (x.iy done) L'/\aa W h' (ae L'::R):=by
 have qp:=hv
 have SC:=ok.v
 obtain⟨pw,a,c,vs,dZ,E,hw,aw,hs,hL,m1⟩:=qp.dd m
 refine anj _ _ _ _ ⟨_,m1.cell 0 rfl 7 rfl,bH (λq=>⟨L,?_,m⟩) λq=>⟨_,m1.cell 0 rfl 8 rfl,by simp only[fits];omega,m1.store 0 rfl 8 rfl λh2 m2=>bH (λq2=>m2.store 0 rfl 7 rfl λh3 m3=>m3.store 0 rfl 8 rfl λh4 m4=>?_) λq2=>⟨_,m2.cell 0 rfl 8 rfl,_,m2.cell 0 rfl 2 rfl,aC (λaE=>m2.store 0 rfl 7 rfl λh3 m3=>m3.store 0 rfl 8 rfl λh4 m4=>?_) λaE=>?_⟩⟩⟩
 ·unfold aS.iy;rw[if_neg (by simpa using q)];exact hv
 ·unfold aS.iy;rw[if_pos (by simpa using q),if_pos (.inl q2)]
  exact cB.shut (x:=x.e4 false 0) hw aw hs m4
 ·unfold aS.iy;rw[if_pos (by simpa using q),if_pos (.inr aE)]
  exact cB.shut (x:=x.e4 false 0) hw aw hs m4
 ·unfold aS.iy;rw[if_pos (by simpa using q),if_neg (by rintro(h|h);(rw[h]at q2;cases q2);exact aE h)]
  have hq:x.asks=true:=by simpa using q
  exact cB.shut (x:=x.e4 true (x.dy+1)) hw aw hs (by rw[<-hq];exact m2)
end
end Go.Proofs.YtjlkfjnfnonekaaGreatDoor
