import Derived.Test.YtjlkfjnfnonekaaGreatDoorM21
import Derived.Test.YtjlkfjnfnonekaaGreatDoorM20
import Derived.Test.YtjlkfjnfnonekaaGreatDoorM16
set_option linter.all false
set_option maxRecDepth 8000
namespace Go.Proofs.YtjlkfjnfnonekaaGreatDoor
open Go.Vc
def nM (w:eV):List cq->eV
 |[]=>w
 |m::r=>nM (w.done m.sq) r
def aS.take (x:aS) (p:Fr->Bool):aS:=(x.rL (nM x.w ((x.l.filter p).map Fr.m))).bG (x.l.filter λf=>!p f)
def aS.gone (x:aS) (p:Fr->Bool):List cq:=(x.l.filter p).map Fr.m
def aS.o9 (x:aS) (p:bh) (now:Int):cq:=⟨p,x.w.dD,0,now+x.fG⟩
def aS.fresh (x:aS) (p:bh) (now:Int):aS:=(x.rL x.w.next).bG (x.l++[⟨x.o9 p now,false⟩])
def pH (iW:List Int) (f:Fr):Fr:=if f.m.sq∈iW then⟨⟨f.m.p,f.m.sq,f.m.cZ+1,f.m.vr⟩,true⟩else f
def aS.hG (x:aS) (iW:List Int):aS:=x.bG (x.l.map (pH iW))
def yN (sq:Int) (f:Fr):Bool:=f.a6&&decide (cC sq f.m.sq<64)
def wu (sq mp:Int) (f:Fr):Bool:=yN sq f&&decide (0<bits .and .u64 (mp/dU (cC sq f.m.sq)) 1)
def aS.nn (x:aS) (sq:Int):Bool:=x.yb&&(decide (0<=sq/\sq<4096)&&x.l.any (yN sq))
def aS.heard (x:aS) (sq mp:Int):List cq×aS:=if x.nn sq=true then(x.gone (wu sq mp),(x.take (wu sq mp)).land)else([],x)
def qQ (cY now:Int) (f:Fr):Int:=if f.a6=true then 0 else if cY<f.m.cZ then 3 else if f.m.vr<now then 4 else 0
def kJ (cY now:Int) (f:Fr):Bool:=!decide (qQ cY now f=0)
def aS.jE (x:aS) (now:Int):List cq:=x.gone (kJ x.cY now)
def aS.oa (x:aS) (now:Int):List Int:=(x.l.filter (kJ x.cY now)).map (qQ x.cY now)
def aS.de (x:aS) (now:Int):aS:=
 if x.jE now≠[]/\x.st=3/\x.asks=false then(x.take (kJ x.cY now)).e4 true 0 else x.take (kJ x.cY now)
section
variable{W W' aQ:Wd} {h h':J} {R B nG X:List aL} {L E:ao} {x:aS} {b i k:Nat} {m:cq} {fr:Fr} {cs vs:List Value} {a:Option Addr} {c n:Nat} {v f:Value} {l:List Fr} {p:Fr->Bool} {q:bh} {ads:List Addr} {w:eV}
theorem aau {s:Int} (ok:s0 w):s0 (w.done s):=by
 unfold eV.done
 split
 ·exact⟨ok.rK,ok.s1,Nat.le_trans (List.length_erase_le) ok.n⟩
 ·exact ok
theorem JO:∀{l:List cq} {w:eV},s0 w->s0 (nM w l)
 |[],_,ok=>ok
 |m::r,_,ok=>JO (l:=r) (aau ok)
theorem Qt:∀{l:List cq} {w:eV} {m:cq},nM w (l++[m])=(nM w l).done m.sq
 |[],_,_=>rfl
 |a::r,w,m=>Qt (l:=r) (w:=w.done a.sq)
theorem eS.ak2 (hv:eS W m cs):cs[5]?=some (.int .i64 m.sq):=by obtain⟨a,c,rfl,_⟩:=hv;rfl
theorem Ps (ok:kV x) (s:Snt W ads) (hv:cB W b x L) (gI:jG f W (ae L::R) x.l p) (m:aa W h (ae L::R)):aj Tryz.prog 178 #[.pointer (some ⟨b,0,none⟩),f] h λv h'=>
 ∃W' ay c' us F L',W.le W'/\v= .slice ay (x.gone p).length c'/\au ay (x.gone p).length c' 8 us F/\bX (eS W') (x.gone p) us/\cB W' b (x.take p) L'/\aa W' h' (ae F::ae L'::R):=by
 have hn:=ok.n
 refine anI _ _ _ _ ((Jn ok hv gI m).mono ?_)
 rintro _ h1 ⟨aQ,a1,aK,us,F,hle,rfl,mB,pb,m1⟩
 obtain⟨pw,a,c,vs,dZ,E,hw,aw,hs,hL,m2⟩:=(hv.le hle).dd m1.swap
 have Ap:((x.l.filter p).map Fr.m).length=(x.l.filter p).length:=List.length_map _
 have KD:(x.l.filter p).length<=64:=Nat.le_trans (List.length_filter_le ..) hn
 have zh:=hs.len (λ_ _=>eZ.len)
 refine⟨_,_,_,rfl,_,_,_,m2.cell 0 rfl 6 rfl,(abW (l:=x.l) (aw.j8 m2 2 rfl) zh (hs.all λ_ _=>eZ.one) (by omega) m2).mono ?_⟩
 rintro _ h2 ⟨a2,aG,C,rfl,ah1,m3⟩
 refine⟨_,_,_,rfl,?_⟩
 have aiP:jG f aQ ([⟨b,0,gk x pw a c,some 195⟩]::ae dZ::ae E::ae F::R) x.l p:=by
  have h1:=jG.up (X:=[ae F]) (gI.le hle)
  refine h1.perm ?_
  have h2:=List.perm_append_comm_assoc (ae F) (ae L) R.flatten
  rw[hL]at h2⊢
  simpa[ae]using h2
 refine(abX aiP hs ah1 (by omega) m3).mono ?_
 rintro _ h3 ⟨a3,bd,amn,zp,rfl,ah2,ack,m4⟩
 refine⟨_,_,_,rfl,m4.store 1 rfl 6 rfl λh4 m5=>?_⟩
 have dW:(x.l.filter p).length=(x.gone p).length:=Ap.symm
 refine⟨λy h=>∃(k:Nat) (mV:ao),y=k/\k<=(x.gone p).length/\iM pw (nM x.w ((x.gone p).take k)) mV/\aa aQ h ([⟨b,0,(gk x pw a c).set 6 (.slice a3 (x.l.filter λy=>!p y).length bd),some 195⟩]::ae mV::ae zp::ae F::R),
  λy _=>(((x.gone p).length:Int) -y).toNat,⟨0,dZ,rfl,by omega,hw,((m5.free 3 rfl).focus 2 rfl).focus 2 rfl⟩,λ_=>?_⟩
 clear m m1 m2 m3 m4 m5 hw
 rintro _ aA ⟨k,mV,rfl,I,hw,m⟩
 refine aC (λq1=>?_) λq1=>?_
 ·have bY:k<(x.gone p).length:=by omega
  obtain⟨mm,wz⟩:∃mm,(x.gone p)[k]?=some mm:=⟨_,List.getElem?_eq_getElem bY⟩
  obtain⟨cs,cz,gE,hC⟩:=bX.get (n:=8) (λ_ _=>eS.len) pb wz
  obtain⟨ju,nB,e,U⟩:=mK (mB.j8 m 3 rfl) hC (by decide) gE
  refine⟨⟨by omega,by omega⟩,sM e ⟨cs,U,m.bb λaP aU m6=>m6.c8 0 rfl cz.len rfl cz.one λbW m7=>⟨_,m7.cell 1 rfl 0 rfl,_,m7.cell 0 rfl 5 cz.ak2,?_⟩⟩⟩
  have A7:s0 (nM x.w ((x.gone p).take k)):=JO ok.w
  have DH:aa aQ bW (ae mV::[⟨aP,0,cs,some 215⟩]::[⟨b,0,(gk x pw a c).set 6 (.slice a3 (x.l.filter λy=>!p y).length bd),some 195⟩]::ae zp::ae F::R):=m7.focus 2 rfl
  refine(aqr hw A7 ⟨_,(s.le hle).vy (i:=6) (by decide) rfl⟩ DH).mono ?_
  rintro EB bJ ⟨ES,adI,aeh,m8⟩
  have adz:iM pw (nM x.w ((x.gone p).take (k+1))) ES:=by
   rw[List.take_add_one,wz]
   show iM pw (nM x.w ((x.gone p).take k++[mm])) ES
   rw[Qt];exact aeh
  have m9:aa aQ bJ ([⟨b,0,(gk x pw a c).set 6 (.slice a3 (x.l.filter λy=>!p y).length bd),some 195⟩]::ae ES::ae zp::ae F::R):=(m8.free 1 rfl).swap
  have fin:∀t1,pg true EB .nilIface=some t1->∃v1:Value,EB=v1/\∃t1:Bool,pg true v1 .nilIface=some t1/\ec (!t1)
   (fits .i64 ((k:Int)+1)/\(∃(sE:Nat) (mV:ao),(k:Int)+1=sE/\sE<=(x.gone p).length/\iM pw (nM x.w ((x.gone p).take sE)) mV/\aa aQ bJ ([⟨b,0,(gk x pw a c).set 6 (.slice a3 (x.l.filter λy=>!p y).length bd),some 195⟩]::ae mV::ae zp::ae F::R))/\(((x.gone p).length:Int) -((k:Int)+1)).toNat<(((x.gone p).length:Int) -(k:Int)).toNat)
   (fits .i64 ((k:Int)+1)/\(∃(sE:Nat) (mV:ao),(k:Int)+1=sE/\sE<=(x.gone p).length/\iM pw (nM x.w ((x.gone p).take sE)) mV/\aa aQ bJ ([⟨b,0,(gk x pw a c).set 6 (.slice a3 (x.l.filter λy=>!p y).length bd),some 195⟩]::ae mV::ae zp::ae F::R))/\(((x.gone p).length:Int) -((k:Int)+1)).toNat<(((x.gone p).length:Int) -(k:Int)).toNat):= λt1 ht=>by
   have KE:fits .i64 ((k:Int)+1)/\(∃(sE:Nat) (mV:ao),(k:Int)+1=sE/\sE<=(x.gone p).length/\iM pw (nM x.w ((x.gone p).take sE)) mV/\aa aQ bJ ([⟨b,0,(gk x pw a c).set 6 (.slice a3 (x.l.filter λy=>!p y).length bd),some 195⟩]::ae mV::ae zp::ae F::R))/\(((x.gone p).length:Int) -((k:Int)+1)).toNat<(((x.gone p).length:Int) -(k:Int)).toNat:=
    ⟨by simp only[fits];omega,⟨k+1,ES,by omega,by omega,adz,m9⟩,by omega⟩
   exact⟨_,rfl,t1,ht,by cases t1<;>exact KE⟩
  rcases adI with⟨_,rfl⟩|⟨_,aec⟩
  ·exact fin true rfl
  ·have aU:=(s.le hle).vy (i:=6) (g:=2) (by decide) rfl
   rw[aec]at aU
   obtain⟨aq2,_,acz⟩:=(s.le hle).get (i:=6) (by decide)
   rw[acz]at aU
   cases aU
   exact fin false rfl
 ·obtain rfl:k=(x.gone p).length:=by omega
  rw[List.take_length]at hw
  obtain⟨L',hv',m9⟩:=cB.shut (x:=x.take p) (pw:=pw) (a:=a3) (c:=bd) hw ah2 ack m
  exact⟨aQ,a1,aK,us,F,L',hle,by rw[dW],by rw[<-dW];exact mB,pb,hv',m9.swap⟩
theorem YT {now:Int} (ok:kV x) (hv:cB W b x L) (h2:x.st≠2) (hq:x.asks=false) (mu:x.w.room≠0) (hN:0<=now/\now<=1125899906842624) (hp:dF W q cs) (eA:q.body.length<=1048576) (m:aa W h (ae L::R)):
 aj Tryz.prog 284 #[.pointer (some ⟨b,0,none⟩), .agg cs.toArray, .int .i64 now] h λv h'=>∃W' us L',W.le W'/\v= .tuple #[.agg us.toArray, .nilIface]/\eS W' (x.o9 q now) us/\cB W' b (x.fresh q now) L'/\aa W' h' (ae L'::R):=by
 obtain⟨fT,fH,rfl,yt⟩:=hp
 have arH:=ok.iT
 have hn:=ok.n
 refine ann _ _ _ _ _ (m.bb λal h1 m1=>m1.bb λaP Rw m2=>?_)
 obtain⟨pw,a,c,vs,dZ,E,hw,aw,hs,hL,m3⟩:=hv.dd (R:=[⟨aP,0,_,some _⟩]::[⟨al,0,_,some _⟩]::R) (m2.focus 2 rfl)
 refine⟨_,m3.cell 0 rfl 4 rfl,bF h2 ⟨_,m3.cell 0 rfl 7 rfl,aZ hq ⟨_,m3.cell 0 rfl 0 rfl,(aqt hw ok.w m3.swap).mono ?_⟩⟩⟩
 rintro _ aA ⟨mV,rfl,kj,m5⟩
 rw[if_neg mu]at kj⊢
 refine⟨_,_,rfl,aZ rfl ⟨_,m5.row 4 rfl 0 rfl (Nat.le_of_ble_eq_true rfl),_,m5.cell 1 rfl 3 rfl,by simp only[fits];omega,rfl,?_⟩⟩
 have nS:∀{aQ:Wd},W.le aQ->eS aQ (x.o9 q now) ([.int .i64 q.id, .int .u32 q.ad, .int .i64 q.tid, .int .i64 q.at_, .slice fT q.body.length fH]++[.int .i64 x.w.dD, .int .i64 0, .int .i64 (now+x.fG)]):= λhl=>⟨fT,fH,rfl,yt.le hl⟩
 have go:∀(fN:Wd) (ct:J) (pQ:Nat) (us:List Value) (Y:List aL),W.le fN->eS fN (x.o9 q now) us->aa fN ct ([⟨pQ,0,us,some 215⟩]::ae mV::[⟨b,0,gk x pw a c,some 195⟩]::ae E::[⟨aP,0,[.int .i64 0, .int .u32 0, .int .i64 0, .int .i64 0, .slice none 0 0, .int .i64 0, .int .i64 0, .int .i64 0],some 215⟩]::R)->
  ∃(s1:Option Addr) (y4 D7:Nat),cell ct b 6=some (.slice s1 y4 D7)/\∃Fx:List Value,row ct pQ 0 8=some Fx/\Fx.length=8/\(Fx++([.bool false]:List Value)).length=9/\
  ∀(vN:Nat) (dS:J),vN=ct.size->dS=ct.push (.cells ((Fx++([.bool false]:List Value))++[]).toArray 314)->∃oF:List Value,(row dS vN 0 9=some oF/\∀u∈oF,u.oneCell'=true)/\
  e8 dS s1 y4 D7 1 9 314 88 oF λ(a1:Option Addr) (ur:Nat) (fD:J)=>
  wr fD b 6/\∀fu:J,fu=b3 fD b 6 (.slice a1 (y4+1) ur)->
  ∃Qn:List Value,row fu pQ 0 8=some Qn/\aj Tryz.prog 250 #[.agg Qn.toArray] fu λtS fQ=>∃x0:List Value,tS= .agg x0.toArray/\
  (x0.length=8/\c0 fQ aP 0 8/\∀u∈(x0:List Value),u.oneCell'=true)/\∀iA:J,iA=bm fQ aP 0 x0->∃Qo:List Value,row iA aP 0 8=some Qo/\
  ∃W' us L',W.le W'/\Value.tuple #[.agg Qo.toArray, .nilIface]= .tuple #[.agg us.toArray, .nilIface]/\eS W' (x.o9 q now) us/\cB W' b (x.fresh q now) L'/\aa W' iA (ae L'::R):= λfN ct pQ us Y hle hD m9=>by
  refine⟨_,_,_,m9.cell 2 rfl 6 rfl,us,m9.bE 0 rfl hD.len.symm,hD.len,by rw[List.length_append,hD.len];rfl,?_⟩
  rw[List.append_nil]
  refine aw.kA m9 3 rfl (by rw[List.length_append,hD.len];rfl) (by intro u hu;rcases List.mem_append.1 hu with hu|hu;exact hD.one u hu;(simp at hu;subst hu;rfl)) (by omega) (by decide) λhJ gB qZ bW m7 gv=>?_
  refine m7.store 2 rfl 6 rfl λbJ m8=>⟨_,m8.bE 0 rfl hD.len.symm,(GW hD eA m8).mono ?_⟩
  rintro _ fQ ⟨BR,amo,Av,rfl,Gv,m13⟩
  refine⟨_,rfl,m13.c8 4 rfl Gv.len rfl Gv.one λiA m14=>⟨_,m14.bE 4 rfl Gv.len.symm,?_⟩⟩
  have eN:eZ BR ⟨x.o9 q now,false⟩ (us++[.bool false]):=by
   obtain⟨a9,om,rfl,CO⟩:=hD.le Av
   exact⟨a9,om,rfl,CO⟩
  obtain⟨L',hv',agz⟩:=cB.shut (x:=x.fresh q now) (W:=BR) (b:=b) (pw:=pw) (a:=hJ) (c:=gB) (vs:=vs++(us++[.bool false])) (E:=qZ) (R:=R) kj (by show au hJ (x.l++[_]).length gB 9 _ qZ;rw[List.length_append];exact gv) ((hs.mono λ_ _=>eZ.le (hle.trans Av)).snoc eN) (by
   have e:gk (x.fresh q now) pw hJ gB=(gk x pw a c).set 6 (.slice hJ (x.l.length+1) gB):=by unfold gk aS.fresh aS.bG aS.rL;rw[List.length_append];rfl
   rw[e]
   exact(((m14.free 4 rfl).free 0 rfl).focus 1 rfl))
  exact⟨BR,amo,L',hle.trans Av,rfl,Gv,hv',agz⟩
 refine⟨?_,?_⟩
 ·refine(GW (nS (Wd.le.refl W)) eA m5).mono ?_
  rintro _ bW ⟨BQ,us,KM,rfl,hD,m7⟩
  refine⟨_,rfl,m7.bb λpQ bJ m8=>m8.c8 0 rfl hD.len rfl hD.one λct m9=>?_⟩
  exact go BQ ct pQ us [] KM hD (m9.free 5 rfl)
 ·refine m5.bb λpQ bJ m8=>(GW (nS (Wd.le.refl W)) eA m8).mono ?_
  rintro _ ct ⟨BQ,us,KM,rfl,hD,m9⟩
  refine⟨_,rfl,m9.c8 0 rfl hD.len rfl hD.one λct m9=>?_⟩
  exact go BQ ct pQ us [] KM hD (m9.free 5 rfl)
end
end Go.Proofs.YtjlkfjnfnonekaaGreatDoor
set_option maxRecDepth 8000
namespace Go.Proofs.YtjlkfjnfnonekaaGreatDoor
open Go.Vc
section
variable{W W' aQ:Wd} {h h':J} {R B nG X:List aL} {L E:ao} {x:aS} {b i k:Nat} {fr:Fr} {cs vs r8:List Value} {a:Option Addr} {c n al aP:Nat} {v f:Value} {l:List Fr} {p:Fr->Bool} {q:bh} {ads:List Addr} {w:eV} {sq mp s:Int} {t t2:Option TypeId} {iW:List Int}
theorem akI {α:Type} {l:List α} {k:Nat} {x:α} (h:l[k]?=some x):l.set k x=l:=by
 obtain⟨h1,h2⟩:=List.getElem?_eq_some_iff.1 h
 rw[<-h2,List.set_getElem_self]
theorem pU {b:Bool} (h:(!b)=true):b=false:=by cases b<;>first|rfl|cases h
theorem sb {b:Bool} (h:(!b)=false):b=true:=by cases b<;>first|rfl|cases h
theorem uo {A:aL} (hi:B[i]?=some A) {Y X:List aL}:(Y++(X++B))[Y.length+X.length+i]?=some A:=by
 rw[List.getElem?_append_right (by omega),List.getElem?_append_right (by omega),show Y.length+X.length+i -Y.length -X.length=i by omega];exact hi
theorem aiV (hi:B[i]?=some [⟨al,0,[.int .i64 s],t⟩]):jG (.func (.func 261) #[] #[.pointer (some ⟨al,0,none⟩)]) W B l λf=>!f.a6&&decide (f.m.sq=s):= λaQ h X fr cs hl m hm hv=>by
 refine sd (by kernel_rfl) (anD _ _ _ _ (m.bb λbx h1 m1=>⟨_,m1.cell 0 rfl 8 (Cv hv),bH (λq=>?_) λq=>?_⟩))
 ·have q':fr.a6=false:=by simpa using q
  refine⟨_,m1.cell 0 rfl 5 (FO hv),aN ⟨_,m1.cell (1+X.length+i) (uo (Y:=[_]) hi) 0 rfl,?_,m1.aB⟩⟩
  dsimp only;rw[q'];rfl
 ·have q':fr.a6=true:=by simpa using q
  exact⟨by dsimp only;rw[q'];rfl,m1.aB⟩
theorem Ul (hi:B[i]?=some [⟨al,0,r8,t⟩]) (fQ:r8[13]?=some (.int .i64 sq)):jG (.func (.func 240) #[] #[.pointer (some ⟨al,0,none⟩)]) W B l (yN sq):= λaQ h X fr cs hl m hm hv=>by
 refine sd (by kernel_rfl) (anp _ _ _ _ (m.bb λbx h1 m1=>⟨_,m1.cell 0 rfl 8 (Cv hv),bH (λq=>?_) λq=>?_⟩))
 ·refine aN ⟨_,m1.cell (1+X.length+i) (uo (Y:=[_]) hi) 13 fQ,_,m1.cell 0 rfl 5 (FO hv),(Fz _ _ _).ret ⟨_,rfl,?_,m1.aB⟩⟩
  unfold yN;rw[q];rfl
 ·exact⟨by unfold yN;rw[q];rfl,m1.aB⟩
theorem aiT {j:Nat} (hi:B[i]?=some [⟨al,0,r8,t⟩]) (fQ:r8[13]?=some (.int .i64 sq)) (iA:r8[14]?=some (.int .u64 mp)) (ah:B[j]?=some [⟨aP,0,[.func (.func 240) #[] #[.pointer (some ⟨al,0,none⟩)]],t2⟩]):
 jG (.func (.func 243) #[] #[.pointer (some ⟨aP,0,none⟩), .pointer (some ⟨al,0,none⟩)]) W B l (wu sq mp):= λaQ h X fr cs hl m hm hv=>by
 refine sd (by kernel_rfl) (anq _ _ _ _ _ (m.bb λbx h1 m1=>aN ⟨_,m1.cell (1+X.length+j) (uo (Y:=[_]) ah) 0 rfl,_,m1.bE 0 rfl hv.len.symm,?_⟩))
 refine tb (Ul (W:=W) (B:=B) (l:=l) hi fQ aQ h1 ([⟨bx,0,cs,some 314⟩]::X) fr cs hl m1 hm hv) ?_
 rintro _ h2 ⟨rfl,m2⟩
 refine⟨_,rfl,bH (λq=>?_) λq=>⟨by unfold wu;rw[q];rfl,m2.aB⟩⟩
 have hd:=vW sq fr.m.sq
 have rr:cC sq fr.m.sq<64:=by unfold yN at q;simp at q;exact q.2
 refine aN ⟨_,m2.cell (1+X.length+i) (uo (Y:=[_]) hi) 14 iA,aN ⟨_,m2.cell (1+X.length+i) (uo (Y:=[_]) hi) 13 fQ,_,m2.cell 0 rfl 5 (FO hv),(Fz _ _ _).ret ⟨_,rfl,m2.cell (1+X.length+i) (uo (Y:=[_]) hi) 14 iA,⟨hd.1,?_⟩,?_,m2.aB⟩⟩⟩
 ·have:nW .u64=64:=rfl
  omega
 ·unfold wu;rw[q];rfl
theorem alC (ok:kV x):kV (x.take p):=
 ⟨JO ok.w,Nat.le_trans (List.length_filter_le ..) ok.n,λf hf=>ok.f f (List.mem_filter.1 hf).1,ok.v,ok.sz,ok.iT⟩
theorem YU (ok:kV x) (s:Snt W ads) (hv:cB W b x L) (ml:r8.length=15) (fQ:r8[13]?=some (.int .i64 sq)) (iA:r8[14]?=some (.int .u64 mp)) (m:aa W h (ae L::R)):
 aj Tryz.prog 169 #[.pointer (some ⟨b,0,none⟩), .agg r8.toArray] h λv h'=>
 ∃W' ay c' us F L' e,W.le W'/\v= .tuple #[.slice ay (x.heard sq mp).1.length c',gC ads e]/\(e=none↔x.nn sq=true)/\(∀i,e=some i->i<p6)/\au ay (x.heard sq mp).1.length c' 8 us F/\bX (eS W') (x.heard sq mp).1 us/\cB W' b (x.heard sq mp).2 L'/\aa W' h' (ae F::ae L'::R):=by
 have hn:=ok.n
 have no:∀(i:Nat) (h':J),i<p6->x.nn sq=false->aa W h' (ae L::R)->∃W' ay c' us F L' e,W.le W'/\Value.tuple #[.slice none 0 0,gC ads (some i)]= .tuple #[.slice ay (x.heard sq mp).1.length c',gC ads e]/\(e=none↔x.nn sq=true)/\(∀i,e=some i->i<p6)/\au ay (x.heard sq mp).1.length c' 8 us F/\bX (eS W') (x.heard sq mp).1 us/\cB W' b (x.heard sq mp).2 L'/\aa W' h' (ae F::ae L'::R):= λi h' hi hh ax=>by
  have e:x.heard sq mp=([],x):=by unfold aS.heard;rw[if_neg (by rw[hh];decide)]
  rw[e]
  exact⟨W,none,0,[],[],L,some i,Wd.le.refl W,rfl,by rw[hh];simp,λj ah=>by cases ah;exact hi,au.nil,rfl,hv,ax.hU⟩
 refine ano _ _ _ _ (m.bb λal h1 m1=>m1.bb λaP h2 m2=>m2.store 0 rfl 0 rfl λh3 m3=>(Jm ok hv (m3.focus 2 rfl)).mono ?_)
 rintro _ h4 ⟨rfl,m4⟩
 refine⟨_,rfl,bH (λq=>⟨_,s.var m4 9 rfl,no 9 _ (by decide) (by unfold aS.nn;rw[pU q];rfl) ((m4.free 1 rfl).free 1 rfl)⟩) λq=>⟨_,m4.cell 2 rfl 13 fQ,aC (λq2=>⟨_,s.var m4 10 rfl,no 10 _ (by decide) (by unfold aS.nn;rw[decide_eq_false (by omega)];simp) ((m4.free 1 rfl).free 1 rfl)⟩) λq2=>⟨_,m4.cell 2 rfl 13 fQ,aC (λaE=>⟨_,s.var m4 10 rfl,no 10 _ (by decide) (by unfold aS.nn;rw[decide_eq_false (by omega)];simp) ((m4.free 1 rfl).free 1 rfl)⟩) λaE=>?_⟩⟩⟩
 obtain⟨pw,a,c,vs,dZ,E,hw,aw,hs,hL,m5⟩:=hv.dd m4
 refine⟨_,_,_,m5.cell 0 rfl 6 rfl,_,m5.cell 3 rfl 0 rfl,?_⟩
 refine(Ki (p:=yN sq) (Ul (i:=4) rfl fQ) hs (λh X m=>aw.j8 m (X.length+2) (by rw[List.getElem?_append_right (by omega),Nat.add_sub_cancel_left];rfl)) (by omega) m5).mono ?_
 rintro _ aA ⟨rfl,m6⟩
 have m7:aa W aA (ae L::[⟨aP,0,[.func (.func 240) #[] #[.pointer (some ⟨al,0,none⟩)]],some _⟩]::[⟨al,0,r8,some _⟩]::R):=m6.perm (by rw[hL];exact Po.symm)
 have hf:x.yb=true:=sb q
 refine⟨_,rfl,bH (λbP=>⟨_,s.var m7 10 rfl,no 10 _ (by decide) (by unfold aS.nn;rw[pU bP];simp) ((m7.free 1 rfl).free 1 rfl)⟩) λbP=>?_⟩
 have hh:x.nn sq=true:=by
  unfold aS.nn;rw[hf,decide_eq_true ⟨by omega,by omega⟩,sb bP];rfl
 have e:x.heard sq mp=(x.gone (wu sq mp),(x.take (wu sq mp)).land):=by unfold aS.heard;rw[if_pos hh]
 rw[e]
 refine(Ps ok s hv (aiT (i:=2) (j:=1) rfl fQ iA rfl) m7).mono ?_
 rintro _ aU ⟨W',ay,c',us,F,L',hle,rfl,mB,pb,hv',m8⟩
 refine⟨_,_,_,rfl,(Pp (alC ok) hv' m8.swap).mono ?_⟩
 rintro _ bW ⟨e7,dc,m9⟩
 exact⟨W',ay,c',us,F,e7,none,hle,rfl,by rw[hh];simp,(λi hi=>by cases hi),mB,pb,dc,((m9.free 2 rfl).free 2 rfl).swap⟩
theorem Y2 {cg:Option Addr} {bZ:Nat} {Y:ao} (ok:kV x) (hv:cB W b x L) (yS:au cg iW.length bZ 1 (ints .i64 iW) Y) (K0:iW.length<=1048576) (hnd:iW.Nodup) (ss:∀z∈iW,∃f∈x.l,f.a6=false/\f.m.sq=z) (gp:∀f∈x.l,f.a6=false) (m:aa W h (ae L::ae Y::R)):
 aj Tryz.prog 202 #[.pointer (some ⟨b,0,none⟩), .slice cg iW.length bZ] h λv h'=>∃L',cB W b (x.hG iW) L'/\aa W h' (ae L'::ae Y::R):=by
 have hn:=ok.n
 have K3:=yS.le
 refine anC _ _ _ _ _ _ ⟨λy h=>∃k:Nat,y=k/\k<=iW.length/\aa W h (ae L::ae Y::R),λy _=>((iW.length:Int) -y).toNat,⟨0,rfl,by omega,m⟩,λ_=>?_⟩
 clear m
 rintro _ h1 ⟨k,rfl,I,m⟩
 refine aC (λq1=>?_) λq1=>?_
 ·have bY:k<iW.length:=by omega
  obtain⟨z,hz⟩:∃z,iW[k]?=some z:=⟨_,List.getElem?_eq_getElem bY⟩
  obtain⟨ju,nB,e⟩:=yS.some (by omega)
  refine⟨⟨by omega,by omega⟩,sM e ⟨z,yS.rf m 1 rfl e (j5 hz) rfl,m.bb λaP h2 m2=>m2.store 0 rfl 0 rfl λh3 m3=>⟨⟨by omega,by omega,by omega⟩,_,m3.cell 0 rfl 0 rfl,?_⟩⟩⟩
  have dn:en cg 0 bZ 0=cg:=by unfold en;rw[if_neg (by omega),e];simp only[Option.map_some,add_eq,Nat.add_zero]
  rw[dn,show((k:Nat):Int).toNat=k from rfl]
  have wX:=yS.head k (by omega)
  rw[Nat.mul_one,S2]at wX
  refine(Cg (xs:=iW.take k) (wX.mJ m3 2 rfl) (by rw[List.length_take];omega) (by omega)).ret ⟨_,rfl,?_⟩
  have adE:z∉iW.take k:= λhc=>by
   obtain⟨j,ah⟩:=List.mem_iff_getElem?.1 hc
   have ym:j<k:=by have:=(List.getElem?_eq_some_iff.1 ah).1;rw[List.length_take]at this;omega
   rw[List.getElem?_take_of_lt ym]at ah
   have:=(List.getElem?_inj (by omega) hnd).1 (ah.trans hz.symm)
   omega
  refine aZ (decide_eq_false adE) ?_
  obtain⟨pw,a,c,vs,dZ,E,hw,aw,hs,hL,m5⟩:=hv.dd (m3.focus 1 rfl)
  refine⟨_,_,_,m5.cell 0 rfl 6 rfl,?_⟩
  refine(Ki (aiV (i:=3) (s:=z) rfl) hs (λh X m=>aw.j8 m (X.length+2) (by rw[List.getElem?_append_right (by omega),Nat.add_sub_cancel_left];rfl)) (by omega) m5).mono ?_
  rintro _ aA ⟨rfl,m6⟩
  obtain⟨f,hf,ac6,ac7⟩:=ss z (List.mem_of_getElem? hz)
  have acB:(x.l.any λf=>!f.a6&&decide (f.m.sq=z))=true:=List.any_eq_true.2 ⟨f,hf,by rw[ac6,ac7];simp⟩
  refine⟨_,rfl,aZ (by rw[acB];rfl) ⟨by simp only[fits];omega,⟨k+1,by omega,by omega,?_⟩,by dsimp only;omega⟩⟩
  exact(m6.free 3 rfl).perm (by rw[hL];simp[ae])
 ·refine(Jm ok hv m).mono ?_
  rintro _ h2 ⟨rfl,m2⟩
  have adA:x.yb=false:=by
   unfold aS.yb
   exact List.any_eq_false.2 λf hf=>by rw[gp f hf];decide
  refine⟨_,rfl,aZ adA ?_⟩
  obtain⟨pw,a,c,vs,dZ,E,hw,aw,hs,hL,m0⟩:=hv.dd m2
  refine⟨_,_,_,m0.cell 0 rfl 6 rfl,?_⟩
  refine⟨λy h=>∃(k:Nat) (us:List Value) (F:ao),y=k/\k<=x.l.length/\au a x.l.length c 9 us F/\bX (eZ W) ((x.l.take k).map (pH iW)++x.l.drop k) us/\aa W h ([⟨b,0,gk x pw a c,some 195⟩]::ae dZ::ae F::ae Y::R),
   λy _=>((x.l.length:Int) -y).toNat,⟨0,vs,E,rfl,by omega,aw,hs,m0⟩,λ_=>?_⟩
  clear m0 hs aw hv m2 m
  rintro _ h3 ⟨k,us,F,rfl,I,aw,hs,m⟩
  refine aC (λq2=>?_) λq2=>?_
  ·obtain⟨fr,eN⟩:∃fr,x.l[k]?=some fr:=⟨_,List.getElem?_eq_getElem (by omega)⟩
   have hg:=Ru (g:=pH iW) eN
   obtain⟨cs,cz,gE,hC⟩:=Bo hs hg
   have hcell:∀j v,j<9->cs[j]?=some v->us[k*9+j]?=some v:= λj v ah hv=>by
    rw[<-gE,List.getElem?_take_of_lt ah,List.getElem?_drop]at hv;exact hv
   have sA:us.length=x.l.length*9:=aw.len
   obtain⟨ju,nB,e⟩:=aw.some (by omega)
   refine⟨_,_,_,m.cell (p:=6) 0 rfl 6 rfl,⟨by omega,by omega⟩,sM e ⟨_,aw.rf (k:=k*9+5) m 2 rfl e (hcell 5 _ (by decide) (FO cz)) (by rw[show((k:Nat):Int).toNat=k from rfl];omega),?_⟩⟩
   rw[show((k:Nat):Int).toNat=k from rfl]
   refine(Cg (xs:=iW) (yS.mJ m 3 rfl) rfl (by omega)).ret ⟨_,rfl,aC (λaE=>?_) λaE=>?_⟩
   ·have kk:pH iW fr=⟨⟨fr.m.p,fr.m.sq,fr.m.cZ+1,fr.m.vr⟩,true⟩:=by unfold pH;rw[if_pos aE]
    have arX:=(ok.f fr (List.mem_of_getElem? eN)).2
    refine aw.MY (k:=k*9+8) (v:= .bool true) m 2 rfl e (by omega) (λh4 aqU m4 hF=>?_) (by omega)
    have yh:(us.set (k*9+8) (.bool true))[k*9+6]?=some (.int .i64 fr.m.cZ):=by
     rw[List.getElem?_set_ne (by omega)];exact hcell 6 _ (by decide) (Rm cz)
    refine⟨_,hF.rf (k:=k*9+6) m4 2 rfl e yh (by omega),by simp only[fits];omega,?_⟩
    refine hF.MY (k:=k*9+6) (v:= .int .i64 (fr.m.cZ+1)) m4 2 rfl e (by rw[List.length_set];omega) (λaA W3 m5 kL=>?_) (by omega)
    refine⟨by simp only[fits];omega,⟨k+1,_,W3,by omega,by omega,kL,?_,m5⟩,by dsimp only;omega⟩
    rw[<-MX eN,kk]
    have s1:=M8 (j:=8) (v:= .bool true) (g:=⟨fr.m,true⟩) hs hg (by decide) λcs hc=>by obtain⟨a,c,rfl,hb⟩:=hc;exact⟨a,c,rfl,hb⟩
    have pc:(((x.l.take k).map (pH iW)++x.l.drop k).set k ⟨fr.m,true⟩)[k]?=some ⟨fr.m,true⟩:=List.getElem?_set_self (List.getElem?_eq_some_iff.1 hg).1
    have s2:=M8 (j:=6) (v:= .int .i64 (fr.m.cZ+1)) (g:=⟨⟨fr.m.p,fr.m.sq,fr.m.cZ+1,fr.m.vr⟩,true⟩) s1 pc (by decide) λcs hc=>by obtain⟨a,c,rfl,hb⟩:=hc;exact⟨a,c,rfl,hb⟩
    rw[List.set_set]at s2
    exact s2
   ·have kk:pH iW fr=fr:=by unfold pH;rw[if_neg aE]
    refine⟨by simp only[fits];omega,⟨k+1,us,F,by omega,by omega,aw,?_,m⟩,by dsimp only;omega⟩
    rw[<-MX eN,kk,akI hg];exact hs
  ·obtain rfl:k=x.l.length:=by omega
   rw[List.take_length,List.drop_length,List.append_nil]at hs
   exact cB.shut (x:=x.hG iW) (by exact hw) (by show au a (x.l.map (pH iW)).length c 9 us F;rw[List.length_map];exact aw) hs (by
    have e:gk (x.hG iW) pw a c=gk x pw a c:=by unfold gk aS.hG aS.bG;simp
    rw[e];exact m)
end
end Go.Proofs.YtjlkfjnfnonekaaGreatDoor
set_option maxRecDepth 8000
namespace Go.Proofs.YtjlkfjnfnonekaaGreatDoor
open Go.Vc
def xD (f:Value) (W:Wd) (B:List aL) (l:List Fr) (g:Fr->Int):Prop:=
 ∀(aQ:Wd) (h:J) (X:List aL) (fr:Fr) (cs:List Value),W.le aQ->aa aQ h (X++B)->fr∈l->eZ aQ fr cs->er Tryz.prog f [.agg cs.toArray] h λr h'=>r= .int .i64 (g fr)/\aa aQ h' (X++B)
section
variable{W W' aQ:Wd} {h h':J} {R B nG X:List aL} {L E:ao} {x:aS} {b i j k:Nat} {fr:Fr} {cs vs r8:List Value} {a:Option Addr} {c n al aP bx:Nat} {v f:Value} {l:List Fr} {p:Fr->Bool} {g:Fr->Int} {ads:List Addr} {cY now:Int} {t t2:Option TypeId}
theorem xD.perm (gI:xD f W B l g) (hp:B.flatten.Perm nG.flatten):xD f W nG l g:= λaQ h X fr cs hl m hm hv=>
 tb (gI aQ h X fr cs hl (m.perm (by simp only[List.flatten_append];exact List.Perm.append_left _ hp.symm)) hm hv) λr h' ⟨e,ax⟩=>⟨e,ax.perm (by simp only[List.flatten_append];exact List.Perm.append_left _ hp)⟩
theorem Um (hi:B[i]?=some [⟨al,0,[.pointer (some ⟨b,0,none⟩)],t⟩]) (ah:B[j]?=some [⟨aP,0,[.int .i64 now],t2⟩]) (U:∀(aQ:Wd) (h:J) (X:List aL),aa aQ h (X++B)->cell h b 2=some (.int .i64 cY)):
 xD (.func (.func 177) #[] #[.pointer (some ⟨al,0,none⟩), .pointer (some ⟨aP,0,none⟩)]) W B l (qQ cY now):= λaQ h X fr cs hl m hm hv=>by
 refine sd (by kernel_rfl) (anA _ _ _ _ _ (m.bb λvN h1 m1=>⟨_,m1.cell 0 rfl 8 (Cv hv),bH (λq=>⟨by unfold qQ;rw[if_pos q],m1.aB⟩) λq=>?_⟩))
 have hf:¬fr.a6=true:=by rw[q];decide
 refine⟨_,m1.cell 0 rfl 6 (Rm hv),aN ⟨_,m1.cell (1+X.length+i) (uo (Y:=[_]) hi) 0 rfl,aN ⟨_,U aQ h1 ([⟨vN,0,cs,some 314⟩]::X) m1,aC (λq2=>⟨by unfold qQ;rw[if_neg hf,if_pos q2],m1.aB⟩) λq2=>⟨_,m1.cell 0 rfl 7 (abY hv),aN ⟨_,m1.cell (1+X.length+j) (uo (Y:=[_]) ah) 0 rfl,aC (λaE=>⟨by unfold qQ;rw[if_neg hf,if_neg q2,if_pos aE],m1.aB⟩) λaE=>⟨by unfold qQ;rw[if_neg hf,if_neg q2,if_neg aE],m1.aB⟩⟩⟩⟩⟩⟩
theorem aiU (hi:B[i]?=some [⟨bx,0,[f],t⟩]) (pi:xD f W B l g):jG (.func (.func 179) #[] #[.pointer (some ⟨bx,0,none⟩)]) W B l λy=>!decide (g y=0):= λaQ h X fr cs hl m hm hv=>by
 refine sd (by kernel_rfl) (anB _ _ _ _ (m.bb λvN h1 m1=>aN ⟨_,m1.cell (1+X.length+i) (uo (Y:=[_]) hi) 0 rfl,_,m1.bE 0 rfl hv.len.symm,?_⟩))
 refine tb (pi aQ h1 ([⟨vN,0,cs,some 314⟩]::X) fr cs hl m1 hm hv) ?_
 rintro _ h2 ⟨rfl,m2⟩
 exact⟨_,rfl,rfl,m2.aB⟩
theorem Y1 (ok:kV x) (s:Snt W ads) (hv:cB W b x L) (m:aa W h (ae L::R)):aj Tryz.prog 89 #[.pointer (some ⟨b,0,none⟩), .int .i64 now] h λv h'=>
 ∃W' a1 aK us F a2 aG kt L',W.le W'/\v= .tuple #[.slice a1 (x.jE now).length aK, .slice a2 (x.oa now).length aG]/\au a1 (x.jE now).length aK 8 us F/\bX (eS W') (x.jE now) us/\au a2 (x.oa now).length aG 1 (ints .i64 (x.oa now)) kt/\cB W' b (x.de now) L'/\aa W' h' (ae F::ae kt::ae L'::R):=by
 have hn:=ok.n
 refine anz _ _ _ _ (m.bb λal h1 m1=>m1.bb λaP h2 m2=>m2.bb λbx h3 m3=>m3.store 0 rfl 0 rfl λh4 m4=>⟨_,m4.cell 2 rfl 0 rfl,aN ?_⟩)
 obtain⟨pw,a,c,vs,dZ,E,hw,aw,hs,hL,m5⟩:=hv.dd (m4.focus 3 rfl)
 have aiW:xD (.func (.func 177) #[] #[.pointer (some ⟨al,0,none⟩), .pointer (some ⟨aP,0,none⟩)]) W ([⟨b,0,gk x pw a c,some 195⟩]::ae dZ::ae E::[⟨bx,0,[.func (.func 177) #[] #[.pointer (some ⟨al,0,none⟩), .pointer (some ⟨aP,0,none⟩)]],some 315⟩]::[⟨aP,0,[.int .i64 now],some 2⟩]::[⟨al,0,[.pointer (some ⟨b,0,none⟩)],some 86⟩]::R) x.l (qQ x.cY now):=
  Um (i:=5) (j:=4) rfl rfl λaQ h X mm=>mm.cell X.length (by rw[List.getElem?_append_right (Nat.le_refl _),Nat.sub_self];rfl) 2 rfl
 refine⟨_,_,_,m5.cell 0 rfl 6 rfl,?_⟩
 refine⟨λay bI c' y h=>∃(k:Nat) (rs:List Int) (F:ao),y=k/\k<=x.l.length/\rs=((x.l.take k).filter (kJ x.cY now)).map (qQ x.cY now)/\rs.length<=64/\bI=rs.length/\au ay rs.length c' 1 (ints .i64 rs) F/\aa W h (ae F::[⟨b,0,gk x pw a c,some 195⟩]::ae dZ::ae E::[⟨bx,0,[.func (.func 177) #[] #[.pointer (some ⟨al,0,none⟩), .pointer (some ⟨aP,0,none⟩)]],some 315⟩]::[⟨aP,0,[.int .i64 now],some 2⟩]::[⟨al,0,[.pointer (some ⟨b,0,none⟩)],some 86⟩]::R),
  λ_ _ _ y _=>((x.l.length:Int) -y).toNat,⟨0,[],[],rfl,by omega,rfl,by decide,rfl,au.nil,m5.hU⟩,λ_=>?_⟩
 clear m m1 m2 m3 m4 m5
 rintro ay _ c' _ aA ⟨k,rs,F,rfl,I,Dc,adS,rfl,mB,m⟩
 refine aC (λq1=>?_) λq1=>?_
 ·obtain⟨fr,eN⟩:∃fr,x.l[k]?=some fr:=⟨_,List.getElem?_eq_getElem (by omega)⟩
  have hmem:=List.mem_of_getElem? eN
  obtain⟨cs,cz,gE,hC⟩:=Bo hs eN
  obtain⟨ju,nB,e,U⟩:=mK (aw.j8 m 3 rfl) hC (by decide) gE
  have dH:=x9 (p:=kJ x.cY now) eN
  have hlen:((x.l.take (k+1)).filter (kJ x.cY now)).length<=64:=Nat.le_trans (List.length_filter_le ..) (by rw[List.length_take];omega)
  refine⟨⟨by omega,by omega⟩,sM e ⟨cs,U,m.bb λey aU m6=>m6.c8 0 rfl cz.len rfl cz.one λbW m7=>⟨_,m7.cell 5 rfl 0 rfl,_,m7.bE 0 rfl cz.len.symm,?_⟩⟩⟩
  refine tb (aiW W bW [[⟨ey,0,cs,some 314⟩],ae F] fr cs (Wd.le.refl W) m7 hmem cz) ?_
  rintro _ bJ ⟨rfl,m8⟩
  refine⟨_,rfl,bH (λq2=>?_) λq2=>?_⟩
  ·rw[if_pos (show kJ x.cY now fr=true from q2)]at dH
   refine mB.kA m8 1 rfl rfl (by intro u hu;simp at hu;subst hu;rfl) (by omega) (by decide) λhJ gB qZ ct m9 nz=>?_
   refine⟨by simp only[fits];omega,⟨k+1,rs++[qQ x.cY now fr],qZ,by omega,by omega,by rw[dH,List.map_append,<-Dc];rfl,?_,by simp,?_,m9.aB⟩,by dsimp only;omega⟩
   ·rw[dH,List.length_append]at hlen
    rw[Dc,List.length_append,List.length_map];exact hlen
   ·rw[kI,List.length_append];exact nz
  ·rw[if_neg (show¬kJ x.cY now fr=true by unfold kJ;rw[q2];decide),List.append_nil]at dH
   exact⟨by simp only[fits];omega,⟨k+1,rs,F,by omega,by omega,by rw[dH];exact Dc,adS,rfl,mB,m8.aB⟩,by dsimp only;omega⟩
 ·obtain rfl:k=x.l.length:=by omega
  rw[List.take_length]at Dc
  have aei:rs=x.oa now:=Dc
  subst aei
  have m6:aa W aA (ae L::ae F::[⟨bx,0,[.func (.func 177) #[] #[.pointer (some ⟨al,0,none⟩), .pointer (some ⟨aP,0,none⟩)]],some 315⟩]::[⟨aP,0,[.int .i64 now],some 2⟩]::[⟨al,0,[.pointer (some ⟨b,0,none⟩)],some 86⟩]::R):=by
   have h1:aa W aA (ae F::ae L::[⟨bx,0,[.func (.func 177) #[] #[.pointer (some ⟨al,0,none⟩), .pointer (some ⟨aP,0,none⟩)]],some 315⟩]::[⟨aP,0,[.int .i64 now],some 2⟩]::[⟨al,0,[.pointer (some ⟨b,0,none⟩)],some 86⟩]::R):=
    m.perm (by rw[hL];simp[ae])
   exact h1.swap
  have gI:jG (.func (.func 179) #[] #[.pointer (some ⟨bx,0,none⟩)]) W (ae L::ae F::[⟨bx,0,[.func (.func 177) #[] #[.pointer (some ⟨al,0,none⟩), .pointer (some ⟨aP,0,none⟩)]],some 315⟩]::[⟨aP,0,[.int .i64 now],some 2⟩]::[⟨al,0,[.pointer (some ⟨b,0,none⟩)],some 86⟩]::R) x.l (kJ x.cY now):=by
   have h1:xD (.func (.func 177) #[] #[.pointer (some ⟨al,0,none⟩), .pointer (some ⟨aP,0,none⟩)]) W (ae L::ae F::[⟨bx,0,[.func (.func 177) #[] #[.pointer (some ⟨al,0,none⟩), .pointer (some ⟨aP,0,none⟩)]],some 315⟩]::[⟨aP,0,[.int .i64 now],some 2⟩]::[⟨al,0,[.pointer (some ⟨b,0,none⟩)],some 86⟩]::R) x.l (qQ x.cY now):=
    Um (i:=4) (j:=3) rfl rfl λaQ h X mm=>by
     rw[hL]at mm
     have m2:aa aQ h ((ae ((b,gk x pw a c,195)::(dZ++E)))::_):=mm.focus X.length (by rw[List.getElem?_append_right (Nat.le_refl _),Nat.sub_self];rfl)
     exact(aa.split (A:=[⟨b,0,gk x pw a c,some 195⟩]) (B:=ae (dZ++E)) m2).cell 0 rfl 2 rfl
   exact aiU (i:=2) rfl h1
  refine⟨_,m6.cell 4 rfl 0 rfl,(Ps ok s hv gI m6).mono ?_⟩
  rintro _ aU ⟨W',a1,aK,us,tZ,L',hle,rfl,TU,RD,hv',m7⟩
  have yx:x.gone (kJ x.cY now)=x.jE now:=rfl
  rw[yx]at TU RD⊢
  have fin:∀(ct:J) (y:aS) (cR:ao),y=x.de now->cB W' b y cR->aa W' ct (ae cR::ae tZ::ae F::[⟨bx,0,[.func (.func 177) #[] #[.pointer (some ⟨al,0,none⟩), .pointer (some ⟨aP,0,none⟩)]],some 315⟩]::[⟨aP,0,[.int .i64 now],some 2⟩]::[⟨al,0,[.pointer (some ⟨b,0,none⟩)],some 86⟩]::R)->
   ∃W' Oe PM ka oV a2 aG kt L',W.le W'/\Value.tuple #[.slice a1 (x.jE now).length aK, .slice ay (x.oa now).length c']= .tuple #[.slice Oe (x.jE now).length PM, .slice a2 (x.oa now).length aG]/\au Oe (x.jE now).length PM 8 ka oV/\bX (eS W') (x.jE now) ka/\au a2 (x.oa now).length aG 1 (ints .i64 (x.oa now)) kt/\cB W' b (x.de now) L'/\aa W' ct (ae oV::ae kt::ae L'::R):= λct y cR hy aee m9=>by
   subst hy
   exact⟨W',a1,aK,us,tZ,ay,c',F,cR,hle,rfl,TU,RD,mB,aee,((((m9.free 5 rfl).free 4 rfl).free 3 rfl).focus 2 rfl|> λt=>(t.focus 2 rfl))⟩
  have dW:(x.take (kJ x.cY now)).st=x.st:=rfl
  have af:(x.take (kJ x.cY now)).asks=x.asks:=rfl
  obtain⟨asf,a2,aG,vs2,aqY,cD,uQ,lC,iS,arl,m8⟩:=hv'.dd m7.swap
  refine⟨_,_,_,rfl,aC (λq2=>?_) λq2=>?_⟩
  ·have b6:x.jE now≠[]:= λhc=>by rw[hc]at q2;exact absurd q2 (by decide)
   refine⟨_,m8.cell 7 rfl 0 rfl,aN ⟨_,m8.cell 0 rfl 4 rfl,aC (λaE=>?_) λaE=>?_⟩⟩
   ·refine⟨_,m8.cell 7 rfl 0 rfl,aN ⟨_,m8.cell 0 rfl 7 rfl,bH (λbP=>?_) λbP=>?_⟩⟩
    ·refine⟨_,m8.cell 7 rfl 0 rfl,_,m8.cell 7 rfl 0 rfl,aN (m8.store 0 rfl 7 rfl λct m9=>⟨m9.cell 7 rfl 0 rfl,aN (m9.store 0 rfl 8 rfl λdS m10=>?_)⟩)⟩
     obtain⟨ja,fE,m11⟩:=cB.shut (x:=(x.take (kJ x.cY now)).e4 true 0) uQ lC iS m10
     exact fin _ _ ja (by unfold aS.de;rw[if_pos ⟨b6,aE,pU bP⟩]) fE m11
    ·exact fin _ _ L' (by unfold aS.de;rw[if_neg (λhc=>by rw[af]at bP;rw[hc.2.2]at bP;cases bP)]) hv' m7.swap
   ·exact fin _ _ L' (by unfold aS.de;rw[if_neg (λhc=>aE hc.2.1)]) hv' m7.swap
  ·exact fin _ _ L' (by unfold aS.de;rw[if_neg (λhc=>hc.1 (List.eq_nil_of_length_eq_zero (by omega)))]) hv' m7.swap
end
end Go.Proofs.YtjlkfjnfnonekaaGreatDoor
set_option maxRecDepth 8000
namespace Go.Proofs.YtjlkfjnfnonekaaGreatDoor
open Go.Vc
def aD (a:Int):Nat:=(a -1).toNat
structure hr where
 oM:Bool
 iX:Bool
 dY:Bool
 op:Bool
 i1:Bool
 ei:Bool
 bM:Bool
 gi:Bool
 most:Int
 left:Int
def pB:hr:=⟨false,false,false,false,false,false,false,false,0,0⟩
def hr.ua (x:hr) (ac:Int):Bool:=if ac=0 then x.i1 else if ac=1 then x.ei else if ac=2 then x.bM else if ac=3 then x.gi else false
def vf (x:hr):List Value:=[.bool x.oM, .bool x.iX, .bool x.dY, .bool x.op, .bool x.i1, .bool x.ei, .bool x.bM, .bool x.gi, .int .i64 x.most, .int .i64 x.left]
def iV (ac:Int):Bool:=decide (0<=ac/\ac<4)
def qH (l:List hr) (a:Int):Option hr:=if 1<=a/\a<=16 then(match l[aD a]?with|some x=>if x.oM=true then some x else none|none=>none)else none
def sK (x:hr) (ac:Int):Bool:=!x.iX||x.dY||x.op&&x.ua ac
def px (l:List hr) (a ac:Int):Bool:=match qH l a with
 |none=>false
 |some x=>iV ac&&sK x ac
def oI (x:hr) (more:Bool):hr×Bool:=
 if x.most>0 then(if x.left -1=0\/more=false then({x with op:=false,left:=0},true)else({x with left:=x.left -1},false))
 else(if more=false then({x with op:=false,left:=0},true)else(x,false))
def pz (l:List hr) (a ac:Int) (more:Bool):List hr×Bool:=match qH l a with
 |none=>(l,false)
 |some x=>if iV ac=true/\sK x ac=true then(if x.iX=false then(l,false)else if x.dY=true then(l.set (aD a) {x with dY:=false},false)else(l.set (aD a) (oI x more).1,(oI x more).2))else(l,false)
def tR (l:List hr) (a:Int):Bool:=match qH l a with|none=>false|some x=>x.dY
def w8 (l:List hr) (a:Int) (x:hr):List hr:=l.set (aD a) x
abbrev q5 (b o:Nat) (l:List hr):aL:=cA vf 10 b o l
structure xE (l:List hr):Prop where
 n:l.length=16
 m:∀x∈l,0<=x.most/\x.most<=8/\-8<=x.left/\x.left<=8
section
variable{W W':Wd} {h h':J} {R:List aL} {l:List hr} {b o k:Nat} {a ac:Int} {ads:List Addr} {x:hr} {j:Nat} {v:Value}
theorem UB (ac:Int) (h:J):aj Tryz.prog 165 #[.int .i64 ac] h λv h'=>v= .bool (iV ac)/\h'=h:=by
 refine apk _ _ _ (aC (λq=>⟨?_,rfl⟩) λq=>⟨?_,rfl⟩)
 ·by_cases q2:ac<4<;>simp[iV,q,q2]
 ·simp[iV,q]
theorem u9:iV ac=true↔0<=ac/\ac<4:=by simp[iV]
theorem qI (m:aa W h (q5 b o l::R)) (I:l[k]?=some x) (ah:(vf x)[j]?=some v):cell h b (o+k*10+j)=some v:=(cA.one m I).cell 0 rfl j ah
theorem Hz (ok:xE l) (m:aa W h (q5 b o l::R)):aj Tryz.prog 129 #[.pointer (some ⟨b,o,none⟩), .int .i64 a] h λv h'=>h'=h/\
 ((qH l a=none/\v= .pointer none)\/∃(k:Nat) (x:hr),a=(k:Int)+1/\k<16/\aD a=k/\l[k]?=some x/\qH l a=some x/\v= .pointer (some ⟨b,o+k*10,none⟩)):=by
 refine apj _ _ _ _ (aC (λq=>⟨rfl, .inl ⟨by unfold qH;rw[if_neg (by omega)],rfl⟩⟩) λq=>aC (λq2=>⟨rfl, .inl ⟨by unfold qH;rw[if_neg (by omega)],rfl⟩⟩) λq2=>?_)
 obtain⟨k,rfl⟩:∃k:Nat,a=(k:Int)+1:=⟨(a -1).toNat,by omega⟩
 have I:k<l.length:=by rw[ok.n];omega
 obtain⟨x,hx⟩:∃x,l[k]?=some x:=⟨_,List.getElem?_eq_getElem I⟩
 have qh:aD ((k:Int)+1)=k:=by unfold aD;omega
 have e:((k:Int)+1 -1).toNat=k:=by omega
 refine⟨by simp only[fits];omega,⟨by omega,by omega⟩,x.oM,?_,bH (λaE=>?_) λaE=>?_⟩
 ·rw[e];exact qI (j:=0) m hx rfl
 ·refine⟨rfl, .inl ⟨?_,rfl⟩⟩
  unfold qH;rw[if_pos ⟨by omega,by omega⟩,qh,hx];dsimp only;rw[if_neg (by simpa using aE)]
 ·refine⟨by simp only[fits];omega,⟨by omega,by omega⟩,rfl, .inr ⟨k,x,rfl,by omega,qh,hx,?_,by rw[e]⟩⟩
  unfold qH;rw[if_pos ⟨by omega,by omega⟩,qh,hx];dsimp only;rw[if_pos (by simpa using aE)]
theorem ajh (ok:xE l) (m:aa W h (q5 b o l::R)):aj Tryz.prog 117 #[.pointer (some ⟨b,o,none⟩), .int .i64 a] h λv h'=>v= .bool (tR l a)/\h'=h:=by
 refine apg _ _ _ _ ((Hz ok m).mono ?_)
 rintro _ h1 ⟨rfl,⟨hn,rfl⟩|⟨k,x,rfl,I,hi,hx,ha,rfl⟩⟩
 ·exact⟨_,rfl,aZ rfl ⟨by unfold tR;rw[hn],rfl⟩⟩
 ·exact⟨_,rfl,df rfl (aN ⟨_,qI (j:=2) m hx rfl,by unfold tR;rw[ha],rfl⟩)⟩
theorem amc (m:aa W h (q5 b o l::R)) (I:l[k]?=some x) (h0:iV ac=true):cell h b (o+k*10+4+ac.toNat)=some (.bool (x.ua ac)):=by
 have h4:=u9.1 h0
 have:ac=0\/ac=1\/ac=2\/ac=3:=by omega
 rcases this with rfl|rfl|rfl|rfl
 ·exact qI (j:=4) m I rfl
 ·exact qI (j:=5) m I rfl
 ·exact qI (j:=6) m I rfl
 ·exact qI (j:=7) m I rfl
theorem UA (ok:xE l) (m:aa W h (q5 b o l::R)):aj Tryz.prog 96 #[.pointer (some ⟨b,o,none⟩), .int .i64 a, .int .i64 ac] h λv h'=>v= .bool (px l a ac)/\h'=h:=by
 refine apf _ _ _ _ _ ((Hz ok m).mono ?_)
 rintro _ h1 ⟨rfl,⟨hn,rfl⟩|⟨k,x,rfl,I,hi,hx,ha,rfl⟩⟩
 ·exact⟨_,rfl,aZ rfl ⟨by unfold px;rw[hn],rfl⟩⟩
 have e:px l ((k:Int)+1) ac=(iV ac&&sK x ac):=by unfold px;rw[ha]
 rw[e]
 refine⟨_,rfl,df rfl ((UB ac _).ret ⟨_,rfl,bH (λq=>?_) λq=>⟨by rw[q];rfl,rfl⟩⟩)⟩
 rw[q]
 refine aN ⟨_,qI (j:=1) m hx rfl,bH (λq1=>⟨by simp[sK]at q1⊢;simp[q1],rfl⟩) λq1=>aN ⟨_,qI (j:=2) m hx rfl,bH (λq2=>⟨by simp[sK,q2],rfl⟩) λq2=>aN ⟨_,qI (j:=3) m hx rfl,bH (λaE=>?_) λaE=>⟨?_,rfl⟩⟩⟩⟩
 ·have h4:=u9.1 q
  refine aN ⟨⟨by omega,by omega⟩,_,amc m hx q,?_,rfl⟩
  simp at q1;simp[sK,q1,q2,aE]
 ·simp at q1;simp[sK,q1,q2,aE]
theorem aji {more:Bool} (ok:xE l) (s:Snt W ads) (m:aa W h (q5 b o l::R)):aj Tryz.prog 118 #[.pointer (some ⟨b,o,none⟩), .int .i64 a, .int .i64 ac, .bool more] h λv h'=>(∃e,v= .tuple #[.bool (pz l a ac more).2,e])/\aa W h' (q5 b o (pz l a ac more).1::R):=by
 refine aph _ _ _ _ _ _ ((Hz ok m).mono ?_)
 rintro _ h1 ⟨rfl,⟨hn,rfl⟩|⟨k,x,rfl,I,hi,hx,ha,rfl⟩⟩
 ·have e:pz l a ac more=(l,false):=by unfold pz;rw[hn]
  rw[e]
  exact⟨_,rfl,df rfl ⟨_,s.var m 6 rfl,⟨_,rfl⟩,m⟩⟩
 have hm:=ok.m x (List.mem_of_getElem? hx)
 have bY:=(List.getElem?_eq_some_iff.1 hx).1
 have e:pz l ((k:Int)+1) ac more=if iV ac=true/\sK x ac=true then(if x.iX=false then(l,false)else if x.dY=true then(l.set k {x with dY:=false},false)else(l.set k (oI x more).1,(oI x more).2))else(l,false):=by unfold pz;rw[ha,hi]
 rw[e]
 refine⟨_,rfl,aZ rfl ((UB ac _).ret ⟨_,rfl,bH (λq0=>⟨_,s.var m 2 rfl,?_⟩) λq0=>(UA ok m).ret ⟨_,rfl,bH (λq1=>⟨_,s.var m 9 rfl,?_⟩) λq1=>?_⟩⟩)⟩
 ·rw[if_neg (by simp at q0;simp[q0])];exact⟨⟨_,rfl⟩,m⟩
 ·have ag:px l ((k:Int)+1) ac=(iV ac&&sK x ac):=by unfold px;rw[ha]
  rw[ag]at q1
  rw[if_neg (by simp at q0 q1;simp[q0]at q1;simp[q1])];exact⟨⟨_,rfl⟩,m⟩
 have ag:px l ((k:Int)+1) ac=(iV ac&&sK x ac):=by unfold px;rw[ha]
 rw[ag]at q1
 rw[if_pos (by simp at q0 q1;exact q1)]
 refine aN ⟨_,qI (j:=1) m hx rfl,bH (λq2=>?_) λq2=>?_⟩
 ·rw[if_pos (by simpa using q2)];exact⟨⟨_,rfl⟩,m⟩
 rw[if_neg (by simpa using q2)]
 refine aN ⟨_,qI (j:=2) m hx rfl,bH (λaE=>?_) λaE=>?_⟩
 ·rw[if_pos aE]
  refine aN ((cA.one m hx).store 0 rfl 2 rfl λh2 m2=>?_)
  exact⟨⟨_,rfl⟩,cA.back (f:=vf) (y:={x with dY:=false}) bY m2⟩
 rw[if_neg (by rw[aE];decide)]
 refine aN ⟨_,qI (j:=8) m hx rfl,aC (λbP=>?_) λbP=>?_⟩
 ·refine aN ⟨_,qI (j:=9) m hx rfl,by simp only[fits];omega,aN ((cA.one m hx).store 0 rfl 9 rfl λh2 m2=>aN ⟨_,m2.cell 0 rfl 9 rfl,?_⟩)⟩
  have fin:(x.left -1=0\/more=false)->wr h2 b (o+k*10+3)/\∀bJ:J,bJ=b3 h2 b (o+k*10+3) (.bool false)->eu (some ⟨b,o+k*10,none⟩) λPk G5=>wr bJ Pk (G5+9)/\∀ct:J,ct=b3 bJ Pk (G5+9) (.int .i64 0)->(∃e,Value.tuple #[.bool true, .nilIface]= .tuple #[.bool (oI x more).2,e])/\aa W ct (q5 b o (l.set k (oI x more).1)::R):= λq=>by
   have es:oI x more=({x with op:=false,left:=0},true):=by unfold oI;rw[if_pos bP,if_pos q]
   rw[es]
   refine m2.store 0 rfl 3 rfl λh3 m3=>aN (m3.store 0 rfl 9 rfl λh4 m4=>?_)
   exact⟨⟨_,rfl⟩,cA.back (f:=vf) (y:={x with op:=false,left:=0}) bY m4⟩
  refine aC (λeO=>aN (fin (.inl eO))) λeO=>bH (λfI=>aN (fin (.inr (by simpa using fI)))) λfI=>?_
  have es:oI x more=({x with left:=x.left -1},false):=by unfold oI;rw[if_pos bP,if_neg (by simp at fI;simp[eO,fI])]
  rw[es]
  exact⟨⟨_,rfl⟩,cA.back (f:=vf) (y:={x with left:=x.left -1}) bY m2⟩
 ·refine bH (λfI=>?_) λfI=>?_
  ·have es:oI x more=({x with op:=false,left:=0},true):=by unfold oI;rw[if_neg bP,if_pos (by simpa using fI)]
   rw[es]
   refine aN ((cA.one m hx).store 0 rfl 3 rfl λh3 m3=>aN (m3.store 0 rfl 9 rfl λh4 m4=>?_))
   exact⟨⟨_,rfl⟩,cA.back (f:=vf) (y:={x with op:=false,left:=0}) bY m4⟩
  ·have es:oI x more=(x,false):=by unfold oI;rw[if_neg bP,if_neg (by simpa using fI)]
   rw[es]
   refine⟨⟨_,rfl⟩,?_⟩
   rw[<-(List.getElem?_eq_some_iff.1 hx).2,List.set_getElem_self];exact m
end
end Go.Proofs.YtjlkfjnfnonekaaGreatDoor
