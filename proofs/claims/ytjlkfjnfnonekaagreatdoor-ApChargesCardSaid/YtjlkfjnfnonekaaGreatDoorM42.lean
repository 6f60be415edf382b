import Derived.Test.YtjlkfjnfnonekaaGreatDoorM41
import Derived.Test.YtjlkfjnfnonekaaGreatDoorM35
import Derived.Test.YtjlkfjnfnonekaaGreatDoorM21
import Derived.Test.YtjlkfjnfnonekaaGreatDoorM13
set_option linter.all false
set_option maxRecDepth 8000
namespace Go.Proofs.YtjlkfjnfnonekaaGreatDoor
open Go.Vc
section
variable{W W' aQ:Wd} {h h':J} {R:List aL} {a:Nat} {y:cR} {g:cQ} {x:ab} {i j k t n:Nat} {v:Value} {A B:aL} {s s':ba} {b:Nat} {aid tid ac now air num slots:Int} {ads:List Addr} {u:bR} {vs:List Value} {cg:Option Addr} {bZ:Nat} {E:ao} {dr:List Int} {rd:List Bool} {ed:List h7}
def IM (W:Wd) (a:Nat) (y:cR) (R:List aL) (aJ:ab×Option bR) (v:Value) (h:J):Prop:=
 ∃W' fy g',W.le W'/\aH W' a fy g' aJ.1/\bl aJ.1/\aa W' h (aq a fy g' aJ.1++R)/\((aJ.2=none/\fy=y/\v= .tuple #[.agg (hk EA none 0).toArray, .bool false])\/
  ∃u bp nL dz,aJ.2=some u/\fy=y.oi bp/\v= .tuple #[.agg (hk u nL dz).toArray, .bool true]/\cm W' (.slice nL u.cO.length dz) u.cO)
set_option maxHeartbeats 4000000 in
theorem Pd (i:vz x) (a7:Snt W ads) (q:aH W a y g x) (hN:0<=now/\now<=1125899906842624) (Ao:dr.length=4) (hd:∀z∈dr,0<=z/\z<4294967296) (hn:x.num<1000000) (hw:x.ways.length<=1000000) (m:aa W h (aq a y g x++R)):
 aj Tryz.prog 12 #[a8 a, .int .i64 now, .agg (ints .u32 dr).toArray] h (IM W a y R (x.send now dr)):=by
 refine amH _ _ _ _ _ (m.bb λal h1 m1=>(c4 m1).bb λaP h2 m2=>?_)
 replace m2:=c4 m2
 obtain⟨l7,tr⟩:∃l7:List aL,l7=[⟨aP,0,hk EA none 0,some 50⟩]::[⟨al,0,ints .u32 dr,some 64⟩]::R:=⟨_,rfl⟩
 replace m2:aa W h2 (aq a y g x++l7):=by rw[tr];exact m2
 have LZ:∀{W':Wd} {g':cQ} {x':ab} {h:J},W.le W'->aH W' a y g' x'->bl x'->aa W' h (aq a y g' x'++l7)->(([.int .i64 0, .int .i64 0, .int .i64 0, .int .i64 0, .int .i64 0, .int .i64 0, .bool false, .slice none 0 0, .int .i64 0, .int .i64 0]:List Value).length=10/\c0 h aP 0 10/\∀u∈([.int .i64 0, .int .i64 0, .int .i64 0, .int .i64 0, .int .i64 0, .int .i64 0, .bool false, .slice none 0 0, .int .i64 0, .int .i64 0]:List Value),u.oneCell'=true)/\
  ∀h3:J,h3=bm h aP 0 ([.int .i64 0, .int .i64 0, .int .i64 0, .int .i64 0, .int .i64 0, .int .i64 0, .bool false, .slice none 0 0, .int .i64 0, .int .i64 0]:List Value)->∃uu:List Value,row h3 aP 0 10=some uu/\IM W a y R (x',none) (.tuple #[.agg uu.toArray, .bool false]) h3:= λhl q' A7 m=>by
  rw[tr]at m
  exact m.c8 16 rfl rfl rfl (λu hu=>tW (u:=EA) (ua:=none) (uc:=0) u hu) λh3 m3=>⟨hk EA none 0,m3.bE 16 rfl rfl,_,y,_,hl,q',A7,cI (cI m3), .inl ⟨rfl,rfl,rfl⟩⟩
 refine⟨_,zE m2,aC (λaK=>?_) λaK=>?_⟩
 ·have e:x.send now dr=(x,none):=by unfold ab.send;rw[if_pos aK]
  rw[e]
  exact LZ (Wd.le.refl W) q i.tobl m2
 have es:x.send now dr=(x.looks now).y8 dr:=by unfold ab.send;rw[if_neg aK]
 rw[es]
 refine m2.store 1 rfl 0 rfl λh4 m4=>?_
 replace m4:aa W h4 (aq a y g (x.c6 now)++l7):=m4
 have bP:aH W a y g (x.c6 now):=q.c6
 have pq:=i.tobl.c6 hN
 clear m m1 m2 q
 refine(OX pq m4).mono ?_
 rintro _ aA ⟨cg,bZ,E,rfl,A6,m5⟩
 clear m4
 obtain⟨aO,ml⟩:∃aO,aO=cc x.dh 0:=⟨_,rfl⟩
 have acA:cc (x.c6 now).dh 0=aO:=ml.symm
 rw[acA]at A6⊢
 have uR:∀b∈aO,∃s,(x.c6 now).of b=some s:=by rw[ml];exact i.wants
 have arp:aO.length<=16:=by rw[ml,<-i.eb.n];exact uj
 have acj:fL (iL (x.c6 now).c) (x.c6 now):=i.aO
 refine⟨_,_,_,rfl,?_⟩
 refine⟨λz h=>∃(k:Nat) (aQ:Wd) (g1:cQ),z=k/\k<=aO.length/\W.le aQ/\aH aQ a y g1 ((x.c6 now).lL (aO.take k))/\aa aQ h (aq a y g1 ((x.c6 now).lL (aO.take k))++ae E::l7),λz _=>((aO.length:Int) -z).toNat,
  ⟨0,W,g,rfl,by omega,Wd.le.refl W,bP,m5⟩,λ_=>?_⟩
 clear m5 bP
 rintro _ aU ⟨k,aQ,g1,rfl,I,jj,q,m⟩
 obtain⟨u7,BT,Bp,-⟩:=Nl pq acj uR k I
 refine aC (λaG=>?_) λaG=>?_
 ·have bY:k<aO.length:=by omega
  have hz:=List.getElem?_eq_getElem bY
  obtain⟨ju,nB,rfl,hcell⟩:=fW (A6.mJ m 16 rfl) (j5 hz)
  refine⟨⟨by omega,by omega⟩,aN ⟨aO[k],by rw[Int.toNat_natCast];exact hcell,?_⟩⟩
  obtain⟨aV,iE⟩:∃aV,aV=(x.c6 now).lL (aO.take k):=⟨_,rfl⟩
  rw[<-iE]at q m u7 BT Bp
  have Xv:fL (iL aV.c) aV:=by rw[Bp.c];exact BT
  have Dd:∃s,aV.of aO[k]=some s:=wW Bp.some (uR _ (List.getElem_mem bY))
  refine⟨λz h=>∃(j:Nat) (bu:Wd) (g2:cQ),z=j/\j<=8/\W.le bu/\aH bu a y g2 (aV.kQ aO[k] j)/\aa bu h (aq a y g2 (aV.kQ aO[k] j)++ae E::l7),λz _=>(8 -z).toNat,⟨0,aQ,g1,rfl,by omega,jj,q,m⟩,λ_=>?_⟩
  clear q m hcell
  rintro _ bW ⟨j,bu,g2,rfl,ah,dv,q,m⟩
  obtain⟨wY,Xw,alp,-,-⟩:=Np u7 Xv Dd j ah
  refine aC (λbd=>?_) λbd=>?_
  ·have C2:j<8:=by omega
   obtain⟨asu,oz⟩:=wW alp.some Dd
   obtain⟨pQ,yg,-⟩:=q.da oz
   have Sg:=Xw.at oz C2
   have h8:aV.kQ aO[k] (j+1)=(aV.kQ aO[k] j).l4 aO[k] j:=rfl
   refine(s5 q oz yg m).ret ⟨_,rfl,aN ⟨⟨by omega,by omega⟩,_,lh wY.toeG oz yg C2 m (j:=4) rfl _ (by rw[Int.toNat_natCast]),bH (λc7=>?_) λc7=>?_⟩⟩
   ·rw[Int.toNat_natCast,show 0+6+j*5=6+j*5 by omega]
    have yx:=Sg.de (now:=(aV.kQ aO[k] j).now)
    refine(Pe wY (a7.le dv) q oz yg C2 yx.toiL.ok (Sg.b.de).ok m).mono ?_
    rintro v bJ ⟨eJ,g3,fa,aE,m3⟩
    have gl:(aV.kQ aO[k] j).l4 aO[k] j=(aV.kQ aO[k] j).de aO[k] j:=by
     unfold ab.l4;rw[ab.hj oz,if_neg (by rw[pU c7];decide)]
    refine⟨by simp only[fits];omega,⟨j+1,eJ,g3,by omega,by omega,dv.trans fa,by rw[h8,gl];exact aE,by rw[h8,gl];exact m3⟩,by dsimp only;omega⟩
   ·have gl:(aV.kQ aO[k] j).l4 aO[k] j=aV.kQ aO[k] j:=Nk oz (sb c7)
    refine⟨by simp only[fits];omega,⟨j+1,bu,g2,by omega,by omega,dv,by rw[h8,gl];exact q,by rw[h8,gl];exact m⟩,by dsimp only;omega⟩
  ·obtain rfl:j=8:=by omega
   have o5:(x.c6 now).lL (aO.take (k+1))=aV.kQ aO[k] 8:=by rw[Ib bY,VZ,<-iE]
   refine⟨by simp only[fits];omega,⟨k+1,bu,g2,by omega,by omega,dv,by rw[o5];exact q,by rw[o5];exact m⟩,by dsimp only;omega⟩
 ·obtain rfl:k=aO.length:=by omega
  rw[List.take_length]at q m u7 BT Bp
  replace m:=cI m
  clear A6
  obtain⟨fx,Dg⟩:∃fx,fx=x.looks now:=⟨_,rfl⟩
  have Q2:(x.c6 now).lL aO=fx:=by rw[Dg,ml];rfl
  rw[Q2]at q m u7 BT Bp
  obtain⟨yO,Nq,vo⟩:=agn i hN
  rw[<-Dg]at yO Nq vo⊢
  have AJ:∀b∈cc fx.dh 0,∃s,fx.of b=some s:= λb hb=>by
   rw[vo.dh]at hb
   exact wW vo.some (i.wants b hb)
  have gn:row aU al 0 4=some (ints .u32 dr):=by rw[tr]at m;exact m.bE 17 rfl (by rw[dL,Ao])
  refine⟨_,gn,(XR yO (a7.le jj) q AJ m).mono ?_⟩
  clear gn q m
  rintro _ dS ⟨rfl,bu,g2,dv,q,m⟩
  have gn:row dS al 0 4=some (ints .u32 dr):=by rw[tr]at m;exact m.bE 17 rfl (by rw[dL,Ao])
  have L8:=Xq yO
  refine⟨_,rfl,gn,(X4 L8 q rfl Ao hd m).mono ?_⟩
  clear gn m
  rintro _ fD ⟨rfl,m⟩
  rw[show fx.oY.ed=fx.ed from rfl]at m⊢
  replace q:=q.l2 (ed:=(gd fx.outs dr fx.ed).1)
  have L9:bl (fx.oY.l2 (gd fx.outs dr fx.ed).1):=L8.l2 (aa3 yO.ed λz hz=>(hd z hz).1)
  have Sb:=jj.trans dv
  refine⟨_,_,_,rfl,bH (λbd=>?_) λbd=>?_⟩
  ·have e:fx.y8 dr=(fx.oY.l2 (gd fx.outs dr fx.ed).1,none):=by unfold ab.y8;rw[if_neg (by rw[pU bd];decide)]
   rw[e]
   exact LZ Sb q L9 m
  have bd:=sb bd
  have AH:=aa4 yO.ed (λz hz=>(hd z hz).1) bd
  have e:fx.y8 dr=ab.n6 (gd fx.outs dr fx.ed).2.1 (gd fx.outs dr fx.ed).2.2.1 (rJ (fx.oY.tV (gd fx.outs dr fx.ed).2.1)) (fx.oY.l2 (gd fx.outs dr fx.ed).1):=by unfold ab.y8;rw[if_pos bd]
  rw[e]
  obtain⟨oS,wJ⟩:∃oS,oS=fx.oY.l2 (gd fx.outs dr fx.ed).1:=⟨_,rfl⟩
  obtain⟨ac,qc⟩:∃ac,ac=(gd fx.outs dr fx.ed).2.1:=⟨_,rfl⟩
  obtain⟨slots,qn⟩:∃iX,iX=(gd fx.outs dr fx.ed).2.2.1:=⟨_,rfl⟩
  rw[<-wJ]at q m L9⊢
  rw[<-qc]at AH⊢
  rw[<-qn]
  obtain⟨mz,rfl⟩:∃mz:Nat,ac=mz:=⟨ac.toNat,by omega⟩
  have Gb:mz<4:=by omega
  have TR:oS.num=x.num/\oS.ways=x.ways:=by rw[wJ];exact⟨vo.num,vo.ways⟩
  have alq:fL (kx oS.c) oS:=by
   have:oS.c=x.c:=by rw[wJ];exact vo.c
   rw[this]
   exact Nq.ah8 (by rw[wJ];rfl)
  refine⟨⟨by omega,by omega⟩,some ⟨y.dp mz,0,none⟩,by rw[Int.toNat_natCast];exact ON m Gb,(Ym q Gb m).mono ?_⟩
  clear m
  rintro _ fQ ⟨b1,asx,cD,rfl,aM,m⟩
  have kH:fx.oY.tV (mz:Int)=oS.bc.getD mz c3:=by rw[wJ];unfold ab.tV;rw[Int.toNat_natCast];rfl
  rw[kH]
  obtain⟨ol,pe⟩:∃ol,ol=rJ (oS.bc.getD mz c3):=⟨_,rfl⟩
  rw[<-pe]at aM⊢
  have ad5:∀b∈ol,∃s,oS.of b=some s:= λb hb=>by
   rw[pe]at hb
   obtain⟨h1,h2⟩:=aiu hb
   have h3:((oS.bc.getD mz c3).getD (aD b) none).isSome=(fx.st.getD (aD b) none).isSome:=by
    rw[wJ]
    show(((fx.fe 4).getD mz c3).getD (aD b) none).isSome=_
    rw[EX yO.bc 4 mz Gb]
    have af:fx.bc=x.bc:=vo.bc
    rw[af,i.al9 mz Gb _ (my h1)]
    exact(vo.some _).symm
   rw[h3]at h2
   have:oS.of b=fx.st.getD (aD b) none:=by rw[wJ];unfold ab.of;rw[if_pos h1];rfl
   rw[this]
   exact Option.isSome_iff_exists.1 h2
  have arM:ol.length<=16:=by rw[pe];exact ait
  obtain⟨res,gX⟩:∃res,res=ab.n6 mz slots ol oS:=⟨_,rfl⟩
  rw[<-gX]
  clear wJ kH pe AH Bp BT u7 Q2 AJ L8 bd e qn qc Nq vo yO
  refine⟨_,_,_,rfl,?_⟩
  refine⟨λz h=>∃(j:Nat) (eJ:Wd) (g3:cQ) (ob:ab),z=j/\j<=ol.length/\W.le eJ/\ab.n6 mz slots (ol.drop j) ob=res/\Ob oS ob/\aH eJ a y g3 ob/\aa eJ h (aq a y g3 ob++ae cD::l7),λz _=>((ol.length:Int) -z).toNat,
   ⟨0,bu,g2,oS,rfl,by omega,Sb,gX.symm,⟨L9,alq,⟨rfl,rfl,rfl,rfl,rfl,rfl,rfl,rfl⟩,jV.mF⟩,q,m⟩,λ_=>?_⟩
  clear q m gX
  rintro _ iA ⟨j,eJ,g3,ob,rfl,ah,fa,gX,gz,q,m⟩
  refine aC (λc7=>?_) λc7=>?_
  ·have fv:j<ol.length:=by omega
   have hz:=List.getElem?_eq_getElem fv
   have acX:ol.drop j=ol[j]::ol.drop (j+1):=List.drop_eq_getElem_cons fv
   rw[acX]at gX
   obtain⟨ju,nB,rfl,hcell⟩:=fW (aM.mJ m 16 rfl) (j5 hz)
   obtain⟨VF,Gr⟩:=wW gz.st.some (ad5 _ (List.getElem_mem fv))
   refine⟨⟨by omega,by omega⟩,aN ⟨ol[j],by rw[Int.toNat_natCast];exact hcell,_,E4 m,(O5 gz.ok m).ret ⟨_,rfl,bH (λeK=>?_) λeK=>?_⟩⟩⟩
   ·rw[al4 (pU eK)]at gX
    exact⟨by simp only[fits];omega,⟨j+1,eJ,g3,ob,by omega,by omega,fa,gX,gz,q,m⟩,by dsimp only;omega⟩
   ·have eK:=sb eK
    refine(Pa gz.ok q Gr m).mono ?_
    clear m q hcell
    rintro _ rn ⟨oh,g4,eb,h6,r3,mq,rfl,hF,q,m⟩
    obtain⟨dA,nr⟩:∃dA,dA=ob.readies ol[j] mz:=⟨_,rfl⟩
    obtain⟨Iw,Dk⟩:∃Iw,Iw=ab.oO ol[j] slots dA ob:=⟨_,rfl⟩
    have arZ:dA.length<=8:=by rw[nr];exact List.length_filter_le _ _
    rw[<-nr]at hF⊢
    have ad9:∀z∈dA,(0<=z/\z<8)/\∀s,ob.of ol[j]=some s->(s.l.getD z.toNat ak).under=false:= λz hz=>ajM (by rw[<-nr];exact hz)
    refine⟨_,_,_,rfl,?_⟩
    refine⟨λz h=>∃(k:Nat) (jr:Wd) (g5:cQ) (mR:ab),z=k/\k<=dA.length/\W.le jr/\ab.oO ol[j] slots (dA.drop k) mR=Iw/\Ob ob mR/\aH jr a y g5 mR/\aa jr h (aq a y g5 mR++ae r3::ae cD::l7),λz _=>((dA.length:Int) -z).toNat,
     ⟨0,oh,g4,ob,rfl,by omega,fa.trans mq,Dk.symm,⟨gz.ok,gz.aO,⟨rfl,rfl,rfl,rfl,rfl,rfl,rfl,rfl⟩,jV.mF⟩,q,m⟩,λ_=>?_⟩
    clear q m
    rintro _ ov ⟨k,jr,g5,mR,rfl,I,qi,uW,iZ,q,m⟩
    refine aC (λnc=>?_) λnc=>?_
    ·have bY:k<dA.length:=by omega
     have aep:=List.getElem?_eq_getElem bY
     have Kw:dA.drop k=dA[k]::dA.drop (k+1):=List.drop_eq_getElem_cons bY
     rw[Kw]at uW
     obtain⟨ju,nB,rfl,hcell⟩:=fW (hF.mJ m 16 rfl) (j5 aep)
     obtain⟨arY,yz⟩:=ad9 _ (List.getElem_mem bY)
     obtain⟨t,ht⟩:∃t:Nat,dA[k]=t:=⟨dA[k].toNat,by omega⟩
     have eY:t<8:=by omega
     obtain⟨VG,K4⟩:=wW iZ.st.some ⟨VF,Gr⟩
     have aea:(VG.l.getD t ak).under=false:=by
      have h1:=iZ.st.un ol[j] (t:Int)
      rw[ab.hj K4,ab.hj Gr]at h1
      rw[h1]
      have:=yz VF Gr
      rwa[ht,Int.toNat_natCast]at this
     have KO:=kx.agk iZ.ok iZ.aO K4 eY aea
     rw[ht]at uW
     refine⟨⟨by omega,by omega⟩,aN ⟨dA[k],by rw[Int.toNat_natCast];exact hcell,?_⟩⟩
     rw[ht]
     refine(Yh KO (a7.le qi) q eY m).mono ?_
     clear m q hcell
     rintro _ we ⟨bp,fN,g6,j1,q,u7,⟨KS,rfl,m⟩|⟨u,ua,uc,Sx,rfl,dK,m⟩⟩
     ·obtain⟨f1,f2,f3⟩:=agH KO iZ.aO eY KS
      rw[al7 KS]at uW
      have cP:(mR.make ol[j] t).1.c=mR.c:=f2.c
      exact⟨_,rfl,aZ rfl ⟨by simp only[fits];omega,⟨k+1,fN,g6,_,by omega,by omega,qi.trans j1,uW,⟨u7,by rw[cP];exact f1,iZ.same.trans f2.m,iZ.st.trans f3⟩,q,m⟩,by dsimp only;omega⟩⟩
     ·have md:=agI KO iZ.aO eY Sx
      rw[Wa Sx]at uW
      refine⟨_,rfl,df rfl ?_⟩
      obtain⟨Vp,Dd⟩:=wW md.st.some ⟨VG,K4⟩
      have acy:=IZ (aid:=ol[j]) iZ.ok
      have CR:=PR eY
      have wB:(mR.make ol[j] t).1.num=x.num:=by
       rw[md.same.num,iZ.same.num,gz.same.num];exact TR.1
      have aej:(mR.make ol[j] t).1.ways=x.ways:=by
       rw[md.same.ways,iZ.same.ways,gz.same.ways];exact TR.2
      refine(Yf (s:=Vp) (t:=t) u7 ((a7.le qi).le j1) q (by rw[md.Ou];exact Dd) ⟨by rw[md.bs];exact iZ.ok.bss,by rw[md.alX];exact acy.1⟩ md.gz eY (by rw[md.Oi];exact CR) (by rw[wB];exact hn) (by rw[aej];exact hw) (by have:=md.len;omega) dK m).mono ?_
      clear m q
      rintro _ Aj ⟨BQ,g7,nL,dz,adr,rfl,yg,q,m⟩
      have aif:bl ((mR.make ol[j] t).1.nv u slots).1:=by
       have SA:=NC (r:=u.r) (n:=u.cO.length)
       refine afZ (t:=t) (u:=u.fin ((mR.make ol[j] t).1.num+1) slots) (s:=Vp) u7 (by rw[show(u.fin ((mR.make ol[j] t).1.num+1) slots).aid=u.aid from rfl,md.Ou];exact Dd) (by rw[wB];exact hn) rfl ⟨SA.1,by show u.r.total u.cO.length<=20000000;omega⟩ (by rw[show(u.fin ((mR.make ol[j] t).1.num+1) slots).ac=u.ac from rfl,md.Oi];exact CR) md.gz eY
      have adU:res=(((mR.make ol[j] t).1.nv u slots).1,some ((mR.make ol[j] t).1.nv u slots).2):=by
       have h1:(ab.oO ol[j] slots (ob.readies ol[j] mz) ob).2=some ((mR.make ol[j] t).1.nv u slots).2:=by rw[<-nr,<-Dk,<-uW]
       rw[<-gX,al6 eK h1,<-nr,<-Dk,<-uW]
      rw[adU]
      rw[tr]at m
      refine⟨_,rfl,m.c8 18 rfl rfl rfl tW λqa m20=>⟨_,m20.bE 18 rfl rfl,BQ,_,g7,(qi.trans j1).trans adr,q,aif,cI (cI (cI (cI m20))), .inr ⟨_,bp,nL,dz,rfl,rfl,rfl,yg⟩⟩⟩
    ·obtain rfl:k=dA.length:=by omega
     rw[List.drop_length]at uW
     have SP:Iw=(mR,none):=uW.symm
     have h1:(ab.oO ol[j] slots (ob.readies ol[j] mz) ob).2=none:=by rw[<-nr,<-Dk,SP]
     rw[al5 eK h1,<-nr,<-Dk,SP]at gX
     exact⟨by simp only[fits];omega,⟨j+1,jr,g5,mR,by omega,by omega,qi,gX,⟨iZ.ok,iZ.aO,gz.same.trans iZ.same,gz.st.trans iZ.st⟩,q,cI m⟩,by dsimp only;omega⟩
  ·obtain rfl:j=ol.length:=by omega
   rw[List.drop_length]at gX
   have:res=(ob,none):=gX.symm
   rw[this]
   exact LZ fa q gz.ok (cI m)
end
end Go.Proofs.YtjlkfjnfnonekaaGreatDoor
set_option maxRecDepth 8000
namespace Go.Proofs.YtjlkfjnfnonekaaGreatDoor
open Go.Vc
def PP {α:Type} (f:Value) (W:Wd) (B:List aL) (ck:List (Nat×α)) (p:Nat×α->Bool):Prop:=
 ∀(h:J) (X:List aL) (z:Nat×α),aa W h (X++B)->z∈ck->er Tryz.prog f [.pointer (some ⟨z.1,0,none⟩)] h λr h'=>r= .bool (p z)/\aa W h' (X++B)
def kN {α:Type} (ck:List (Nat×α)):List Value:=ck.map λz=> .pointer (some ⟨z.1,0,none⟩)
section
variable{α:Type} {W W':Wd} {h h':J} {R B X:List aL} {E:ao} {a:Option Addr} {c i j k n:Nat} {f:Value} {ck ys:List (Nat×α)} {p:Nat×α->Bool} {z:Nat×α}
theorem UE:(kN ck).length=ck.length:=by unfold kN;simp
theorem HA (I:ck[k]?=some z):(kN ck)[k]?=some (.pointer (some ⟨z.1,0,none⟩)):=by unfold kN;rw[List.getElem?_map,I];rfl
theorem S9 (gI:PP f W B ck p) (sy:∀h X,aa W h (X++B)->src h a ck.length (kN ck)) (hn:ck.length<=1000000) (m:aa W h B):
 aj Tryz.prog 166 #[.slice a ck.length c,f] h λv h'=>v= .int .i64 (nt p ck)/\aa W h' B:=by
 refine ap0 _ _ _ _ _ _ ⟨λy h=>∃k:Nat,y=k/\k<=ck.length/\(∀z∈ck.take k,p z=false)/\aa W h B,λy _=>((ck.length:Int) -y).toNat,⟨0,rfl,by omega,by simp,m⟩,λ_=>?_⟩
 clear m
 rintro _ h1 ⟨k,rfl,I,hno,m⟩
 refine aC (λq1=>?_) λq1=>?_
 ·have bY:k<ck.length:=by omega
  have hz:=List.getElem?_eq_getElem bY
  obtain⟨ju,nB,rfl,U⟩:=fW (sy h1 [] m) (HA hz)
  refine⟨⟨by omega,by omega⟩,aN ⟨_,by rw[Int.toNat_natCast];exact U,tb (gI h1 [] _ m (List.getElem_mem bY)) ?_⟩⟩
  rintro _ h2 ⟨rfl,m2⟩
  refine⟨_,rfl,bH (λq2=>⟨by rw[SS hz q2 hno],m2⟩) λq2=>⟨by simp only[fits];omega,⟨k+1,by omega,by omega,λz rz=>?_,m2⟩,by dsimp only;omega⟩⟩
  rw[List.take_add_one,hz]at rz
  rcases List.mem_append.1 rz with rz|rz
  ·exact hno z rz
  ·simp at rz;subst rz;exact q2
 ·obtain rfl:k=ck.length:=by omega
  rw[List.take_length]at hno
  exact⟨by rw[SR hno],m⟩
theorem PP.up (gI:PP f W B ck p):PP f W (X++B) ck p:= λh Y z m hz=>by
 have:=gI h (Y++X) z (by rw[List.append_assoc];exact m) hz
 rw[List.append_assoc]at this;exact this
theorem aaq (gI:PP f W B ck p) (o:au a ck.length c 1 (kN ck) E) (hn:ck.length<=1000000) (m:aa W h (ae E::B)):
 aj Tryz.prog 74 #[.slice a ck.length c,f] h λv h'=>∃ay c' F,v= .slice ay (ck.filter λy=>!p y).length c'/\au ay (ck.filter λy=>!p y).length c' 1 (kN (ck.filter λy=>!p y)) F/\aa W h' (ae F::B):=by
 refine apV _ _ _ _ _ _ ((S9 (a:=a) (c:=c) (B:=ae E::B) (gI.up (X:=[ae E])) (λh X m=>o.mJ m X.length (by rw[List.getElem?_append_right (Nat.le_refl _),Nat.sub_self];rfl)) hn m).mono ?_)
 rintro _ h1 ⟨rfl,m1⟩
 clear m
 refine⟨_,rfl,aC (λq1=>?_) λq1=>?_⟩
 ·have hno:∀z∈ck,p z=false:=by
   unfold nt at q1
   cases e:ck.findIdx? p with
   |none=>exact List.findIdx?_eq_none_iff.1 e
   |some k=>rw[e]at q1;dsimp only at q1;omega
  have e:(ck.filter λy=>!p y)=ck:=List.filter_eq_self.2 λz hz=>by rw[hno z hz];rfl
  rw[e]
  exact⟨a,c,E,rfl,o,m1⟩
 obtain⟨av,wx⟩:∃k,ck.findIdx? p=some k:=by
  cases e:ck.findIdx? p with
  |none=>exfalso;apply q1;unfold nt;rw[e]
  |some k=>exact⟨k,rfl⟩
 have yl:nt p ck=av:=by unfold nt;rw[wx]
 obtain⟨C3,C4,KI⟩:=List.findIdx?_eq_some_iff_getElem.1 wx
 have wC:(ck.take av).filter (λy=>!p y)=ck.take av:=List.filter_eq_self.2 λz hz=>by
  obtain⟨j,ah,rfl⟩:=List.getElem_of_mem hz
  have At:j<av:=by rw[List.length_take]at ah;omega
  rw[List.getElem_take]
  have:=KI j At
  simpa using this
 rw[yl]
 refine⟨by simp only[fits];omega,?_⟩
 refine⟨λLq yE h=>∃(i j:Nat) (ys:List (Nat×α)) (F:ao),Lq=i/\yE=j/\i<j/\j<=ck.length/\i=((ck.take j).filter λy=>!p y).length/\ys.length=ck.length/\ys.take i=(ck.take j).filter (λy=>!p y)/\ys.drop j=ck.drop j/\au a ck.length c 1 (kN ys) F/\aa W h (ae F::B),
  λ_ yE _=>((ck.length:Int) -yE).toNat,⟨av,av+1,ck,E,rfl,by omega,by omega,by omega,?_,rfl,?_,rfl,o,m1⟩,λ_=>?_⟩
 ·rw[x9 (List.getElem?_eq_getElem C3),C4,wC];simp;omega
 ·rw[x9 (List.getElem?_eq_getElem C3),C4,wC];simp
 clear m1 o
 rintro _ _ h2 ⟨i,j,ys,F,rfl,rfl,uL,ah,hi,uU,uV,yA,o,m⟩
 refine aC (λq2=>?_) λq2=>?_
 ·have fv:j<ck.length:=by omega
  have hz:=List.getElem?_eq_getElem fv
  have La:ys[j]?=some ck[j]:=by
   have h1:(ys.drop j)[0]?=(ck.drop j)[0]?:=by rw[yA]
   rw[List.getElem?_drop,List.getElem?_drop,Nat.add_zero]at h1
   rw[h1];exact hz
  obtain⟨ju,nB,rfl,U⟩:=fW (o.mJ m 0 rfl) (HA La)
  have dH:=x9 (p:= λy=>!p y) hz
  refine⟨⟨by omega,by omega⟩,aN ⟨_,by rw[Int.toNat_natCast];exact U,tb (gI h2 [ae F] _ m (List.getElem_mem fv)) ?_⟩⟩
  rintro _ aA ⟨rfl,m5⟩
  refine⟨_,rfl,bH (λaE=>?_) λaE=>?_⟩
  ·rw[if_pos aE]at dH
   refine⟨⟨by omega,by omega⟩,aN ?_⟩
   refine o.MY (k:=i) m5 0 rfl rfl (by rw[UE];omega) (λaU oV m6 o'=>?_) (by rw[Int.toNat_natCast])
   have dP:(kN ys).set i (.pointer (some ⟨ck[j].1,0,none⟩))=kN (ys.set i ck[j]):=by unfold kN;rw[List.map_set]
   rw[dP]at o'
   refine⟨by simp only[fits];omega,by simp only[fits];omega,⟨i+1,j+1,ys.set i ck[j],oV,by omega,by omega,by omega,by omega,?_,by rw[List.length_set];exact uU,?_,?_,o',m6⟩,by dsimp only;omega⟩
   ·rw[dH,List.length_append,<-hi];rfl
   ·rw[dH,<-uV,List.take_add_one,List.take_set_of_le (Nat.le_refl _),List.getElem?_set_self (by omega)];rfl
   ·rw[List.drop_set_of_lt (by omega),<-List.drop_drop,yA,List.drop_drop]
  ·rw[if_neg (by rw[aE];decide),List.append_nil]at dH
   refine⟨by simp only[fits];omega,⟨i,j+1,ys,F,rfl,by omega,by omega,by omega,by rw[dH];exact hi,uU,by rw[dH];exact uV,?_,o,m5⟩,by dsimp only;omega⟩
   rw[<-List.drop_drop,yA,List.drop_drop]
 ·obtain rfl:j=ck.length:=by omega
  rw[List.take_length]at hi uV
  refine⟨⟨by omega,by omega⟩,?_⟩
  rw[show((i:Int)).toNat=i from rfl]
  refine JH (e:=136) (z:= .pointer none) (by kernel_rfl) (by kernel_rfl) (by intro u hu;simp[Value.cells]at hu;subst hu;rfl) (by omega) ?_
  obtain⟨us,hz⟩:∃us,us=cX (List.replicate (ck.length -i) (Value.cells (.pointer none)).toList):=⟨_,rfl⟩
  have j4:us.length=ck.length -i:=by rw[hz,Lr];show(ck.length -i)*1=_;omega
  rw[<-hz]
  have sA:(kN ys).length=ck.length:=by rw[UE,uU]
  obtain⟨ey,nZ,dP,hw,tw⟩:=o.Bk (k:=i) (us:=us) m 0 rfl (by rw[sA,j4];omega) (by omega)
  refine JL (b:=ey) (o:=nZ+i) ?_ ⟨hw,λaU h8=>?_⟩
  ·unfold en
   rw[if_neg (by have:=o.le;omega),dP,Nat.mul_one];simp only[Option.map_some,add_eq]
  obtain⟨oV,m6,o'⟩:=tw aU h8
  refine⟨⟨by omega,by omega,by have:=o.le;omega⟩,?_⟩
  have wX:=o'.head i (by omega)
  have uz:(bG (kN ys) i us).take (i*1)=kN (ck.filter λy=>!p y):=by
   rw[Nat.mul_one,n3 (by rw[sA,j4];omega),List.append_assoc,List.take_append_of_le_length (by rw[List.length_take];omega),List.take_take,Nat.min_self,<-uV]
   unfold kN;rw[List.map_take]
  rw[uz]at wX
  have dn:en a 0 c 0=a:=by
   unfold en;rw[if_neg (by have:=o.le;omega),dP];simp only[Option.map_some,add_eq,Nat.add_zero]
  rw[dn]
  refine⟨a,c,oV,by rw[hi],by rw[<-hi];exact wX,m6⟩
end
end Go.Proofs.YtjlkfjnfnonekaaGreatDoor
set_option maxRecDepth 8000
namespace Go.Proofs.YtjlkfjnfnonekaaGreatDoor
open Go.Vc
abbrev ra:=Nat×((Option Addr×Nat)×bR)
def sW:List Nat->List (Option Addr×Nat)->List bR->List ra
 |b::bs,u::us,w::ws=>(b,(u,w))::sW bs us ws
 |_,_,_=>[]
def BB (z:ra):EK:=(z.1,fX z.2.2 z.2.1.1 z.2.1.2,180)
def ab.rQ (x:ab) (num:Int):Option Nat:=x.ways.findIdx? λw=>decide (w.num=num)
section
variable{W W' aQ:Wd} {h h':J} {R:List aL} {a:Nat} {y:cR} {g:cQ} {x:ab} {i j k t n:Nat} {v:Value} {A B:aL} {s s':ba} {b:Nat} {aid tid ac now air num slots:Int} {ads:List Addr} {u:bR} {vs:List Value} {cg:Option Addr} {bZ:Nat} {E:ao}
theorem NQ:∀{bs:List Nat} {us:List (Option Addr×Nat)} {ws:List bR},bs.length=ws.length->us.length=ws.length->(sW bs us ws).map (·.1)=bs/\(sW bs us ws).map (·.2.1)=us/\(sW bs us ws).map (·.2.2)=ws/\jP bs us ws=(sW bs us ws).map BB
 |[],us,[],h1,h2=>by
  have ag:=List.length_eq_zero_iff.1 h2
  subst ag;exact⟨rfl,rfl,rfl,rfl⟩
 |[],us,_::_,h1,h2=>by simp at h1
 |gO::bs,i1::us,w0::ws,h1,h2=>by
  obtain⟨k1,k2,k3,k4⟩:=NQ (bs:=bs) (us:=us) (ws:=ws) (by simpa using h1) (by simpa using h2)
  simp only[sW,List.map_cons,k1,k2,k3,jP,k4]
  exact⟨trivial,trivial,trivial,rfl⟩
 |gO::bs,us,[],h1,h2=>by simp at h1
 |gO::bs,[],w0::ws,h1,h2=>by simp at h2
def gA (y:cR) (g:cQ) (x:ab):List ra:=sW y.fb g.us x.ways
theorem aH.z (q:aH W a y g x):(gA y g x).map (·.1)=y.fb/\(gA y g x).map (·.2.1)=g.us/\(gA y g x).map (·.2.2)=x.ways/\jP y.fb g.us x.ways=(gA y g x).map BB:=NQ q.wl q.ul
theorem aH.zm (q:aH W a y g x):(gA y g x).length=x.ways.length:=by rw[<-q.z.2.2.1,List.length_map]
theorem aH.Iu (q:aH W a y g x):kN (gA y g x)=pA y.fb:=by
 rw[<-q.z.1];unfold kN pA;rw[List.map_map];rfl
theorem aH.aqP (q:aH W a y g x) {z:ra} (hz:z∈gA y g x):(⟨z.1,0,fX z.2.2 z.2.1.1 z.2.1.2,some 180⟩:ke)∈(aq a y g x).flatten:=by
 refine List.mem_flatten.2 ⟨ae (jP y.fb g.us x.ways),List.mem_of_getElem? (i:=15) rfl,?_⟩
 rw[q.z.2.2.2]
 exact DG (x:=BB z) (List.mem_map.2 ⟨z,hz,rfl⟩)
theorem findIdx_map {α β:Type} {f:α->β} {p:β->Bool}:∀{l:List α},(l.map f).findIdx? p=l.findIdx? (λx=>p (f x))
 |[]=>rfl
 |x::l=>by simp only[List.map_cons,List.findIdx?_cons,findIdx_map (l:=l)]
theorem Ph (q:aH W a y g x) (hw:x.ways.length<=1000000) (m:aa W h (aq a y g x++R)):aj Tryz.prog 73 #[a8 a, .int .i64 num] h λv h'=>
 ((x.rQ num=none/\v= .pointer none)\/∃i z,x.rQ num=some i/\(gA y g x)[i]?=some z/\v=a8 z.1)/\aa W h' (aq a y g x++R):=by
 have j4:=q.zm
 refine amZ _ _ _ _ (m.bb λal h1 m1=>⟨_,_,_,B0 (c4 m1),?_⟩)
 have gI:PP (.func (.func 167) #[] #[.pointer (some ⟨al,0,none⟩)]) W ([⟨al,0,[.int .i64 num],some 3⟩]::(aq a y g x++R)) (gA y g x) (λz=>decide (z.2.2.num=num)):= λh X z m hz=>by
  have hb:cT h z.1 (fX z.2.2 z.2.1.1 z.2.1.2) 180:=m.lT (by
   simp only[List.flatten_append,List.flatten_cons]
   exact List.mem_append_right _ (List.mem_append_right _ (List.mem_append_left _ (q.aqP hz))))
  have hc:cell h al 0=some (.int .i64 num):=m.cell X.length (by rw[List.getElem?_append_right (Nat.le_refl _),Nat.sub_self];rfl) 0 rfl
  exact sd (by kernel_rfl) (am0 _ _ _ _ (aN ⟨_,hb.vR (o:=0) rfl,aN ⟨_,hc,rfl,m⟩⟩))
 rw[<-j4]
 refine(S9 (c:=g.vv) gI (λh X m=>?_) (by omega) m1).mono ?_
 ·rw[q.Iu,j4]
  exact q.lM.mJ m (X.length+15) (by rw[List.getElem?_append_right (by omega),Nat.add_sub_cancel_left];rfl)
 rintro _ h2 ⟨rfl,m2⟩
 replace m2:=m2.aB
 have J3:(gA y g x).findIdx? (λz=>decide (z.2.2.num=num))=x.rQ num:=by
  unfold ab.rQ
  rw[<-q.z.2.2.1,findIdx_map]
 unfold nt
 rw[J3]
 cases hi:x.rQ num with
 |none=>exact⟨_,rfl,fB (by decide) ⟨.inl ⟨rfl,rfl⟩,m2⟩⟩
 |some i=>
  rw[hi]at J3
  obtain⟨gq,-,-⟩:=List.findIdx?_eq_some_iff_getElem.1 J3
  have hz:=List.getElem?_eq_getElem gq
  have hs:src h2 g.tX x.ways.length (pA y.fb):=q.lM.mJ m2 14 rfl
  have hp:(pA y.fb)[i]?=some (a8 (gA y g x)[i].1):=by rw[<-q.Iu];exact HA hz
  obtain⟨ju,nB,e,hcell⟩:=fW hs hp
  have uQ:=B0 m2
  rw[e]at uQ
  refine⟨_,rfl,bF (by show¬(i:Int)<0;omega) ⟨_,_,_,uQ,⟨by show 0<=(i:Int);omega,by show(i:Int)<_;omega⟩,aN ⟨_,by show cell h2 ju (nB+(i:Int).toNat)=_;rw[Int.toNat_natCast];exact hcell, .inr ⟨i,_,rfl,hz,rfl⟩,m2⟩⟩⟩
theorem Q8 {α:Type} {f:α->Nat}:∀{l:List α} {i:Nat} {z:α},(l.map f).Nodup->l[i]?=some z->(l.filter λw=>!decide (f w=f z))=l.eraseIdx i
 |[],_,_,_,h=>by simp at h
 |w::l,0,z,hn,h=>by
  simp at h;subst h
  obtain⟨h1,h2⟩:=List.nodup_cons.1 (show(f w::l.map f).Nodup from hn)
  rw[List.filter_cons,if_neg (by simp),List.eraseIdx_cons_zero]
  refine List.filter_eq_self.2 λv hv=>?_
  have:f v≠f w:= λe=>h1 (by rw[<-e];exact List.mem_map_of_mem hv)
  simp[this]
 |w::l,i+1,z,hn,h=>by
  obtain⟨h1,h2⟩:=List.nodup_cons.1 (show(f w::l.map f).Nodup from hn)
  have hz:l[i]?=some z:=by simpa using h
  have b6:f w≠f z:= λe=>h1 (by rw[e];exact List.mem_map_of_mem (List.mem_of_getElem? hz))
  rw[List.filter_cons,if_pos (by simp[b6]),List.eraseIdx_cons_succ,Q8 h2 hz]
theorem TC {α β:Type} {f:α->β}:∀{l:List α} {i:Nat},(l.eraseIdx i).map f=(l.map f).eraseIdx i
 |[],_=>rfl
 |_::_,0=>rfl
 |w::l,i+1=>by simp only[List.eraseIdx_cons_succ,List.map_cons,TC (l:=l)]
theorem aH.aqQ (q:aH W a y g x) (m:aa W h (aq a y g x++R)):((gA y g x).map (·.1)).Nodup:=by
 have m1:aa W h (ae (jP y.fb g.us x.ways)::(aq a y g x++R).eraseIdx 15):=kz 15 rfl m
 have hd:=m1.vX
 rw[q.z.2.2.2,List.flatten_cons]at hd
 have:=WD (List.pairwise_append.1 hd).1
 rw[List.map_map]at this
 exact this
end
end Go.Proofs.YtjlkfjnfnonekaaGreatDoor
set_option maxRecDepth 8000
namespace Go.Proofs.YtjlkfjnfnonekaaGreatDoor
open Go.Vc
instance ar8 (bs:List Int):Decidable (yD bs):=by unfold yD;infer_instance
def lB (x:ab) (u:bR) (bs:List Int):Option (Int×Int):=if yD bs/\fJ bs 10=u.to/\fJ bs 4=x.c.bss/\wd bs 16/4096=u.tid then some (wd bs 18/16,qA bs)else none
def u4 (c:Int) (b:fZ) (l:List cq):fZ:=l.foldl (λb m=>ma b m.p.id c) b
def ab.tF (x:ab) (u:bR):ab:=x.aW u.aid u.tid ((x.aT u.aid u.tid).dE (x.aT u.aid u.tid).s.land)
def ab.nf (x:ab) (u:bR) (bs:List Int):ab×Bool:=match lB x u bs with
 |some p=>if(x.aT u.aid u.tid).s.nn p.1=true
  then((x.aW u.aid u.tid ((x.aT u.aid u.tid).dE ((x.aT u.aid u.tid).s.heard p.1 p.2).2)).dX (u4 3 x.book ((x.aT u.aid u.tid).s.heard p.1 p.2).1),true)
  else(x.tF u,false)
 |none=>(x.tF u,false)
def ab.vO (x:ab) (u:bR) (bs:List Int):ab×Bool:=(x.aW u.aid u.tid ((x.aT u.aid u.tid).dE ((x.aT u.aid u.tid).s.iy (lB x u bs).isSome)),(lB x u bs).isSome)
def dk.EC (y:dk) (s:aS):dk:=⟨s,y.dy+1,y.refused,y.ends,y.under⟩
def ab.vH (x:ab) (u:bR):ab×Bool:=
 if(x.aT u.aid u.tid).s.st=2 then(x.aW u.aid u.tid ((x.aT u.aid u.tid).EC ((x.aT u.aid u.tid).s.answer u.tok 1 0).1),false)else(x,true)
section
variable{W W' aQ:Wd} {h h':J} {R:List aL} {a:Nat} {y:cR} {g:cQ} {x:ab} {i j k t n:Nat} {v:Value} {A B:aL} {s s':ba} {b:Nat} {aid tid ac now air num slots:Int} {ads:List Addr} {u:bR} {vs:List Value} {cg:Option Addr} {bZ:Nat} {E:ao} {bs:List Int}
theorem Xk {to fr:List Int} {tid sq mp:Int} (h1:to.length=6) (h2:fr.length=6):(js to fr tid sq mp)[12]?=some (.int .i64 tid)/\(js to fr tid sq mp)[13]?=some (.int .i64 sq)/\(js to fr tid sq mp)[14]?=some (.int .u64 mp)/\
 ((js to fr tid sq mp).drop 6).take 6=ints .u8 fr/\((js to fr tid sq mp).drop 0).take 6=ints .u8 to:=by
 obtain⟨a1,a2,a3,a4,a5,vG,rfl⟩:=fV h1
 obtain⟨al,aP,bx,dO,fh,ey,rfl⟩:=fV h2
 exact⟨rfl,rfl,rfl,rfl,rfl⟩
theorem O3 {bp l8 mY:Nat} {ua kg:Option Addr} {uc:Nat} (ok:bl x) (a7:Snt W ads) (q:aH W a y g x) (un:jq u) (hb:cm W (.slice kg l8 mY) bs) (hx:∀z∈bs,0<=z/\z<256) (m:aa W h (aq a y g x++cG bp u ua uc::R)):
 aj Tryz.prog 168 #[a8 a,a8 bp, .slice kg l8 mY] h λv h'=>∃(W':Wd) (cs:List Value),W.le W'/\v= .tuple #[.agg cs.toArray, .bool (lB x u bs).isSome]/\cs.length=15/\(∀z∈cs,z.oneCell'=true)/\
  (∀p,lB x u bs=some p->cs[13]?=some (.int .i64 p.1)/\cs[14]?=some (.int .u64 p.2))/\aa W' h' (aq a y g x++cG bp u ua uc::R):=by
 refine amS _ _ _ _ _ _ _ (m.bb λal h1 m1=>?_)
 obtain⟨G,me,bk⟩:=(c4 m1).nx
 refine(ajK a7.Rc me hb hx).mono ?_
 clear m m1
 rintro v h2 ⟨bu,hl,l0,gX⟩
 have m2:aa bu h2 (aq a y g x++[⟨al,0,js [0,0,0,0,0,0] [0,0,0,0,0,0] 0 0 0,some 304⟩]::cG bp u ua uc::R):=(bk).1 l0
 clear me l0 bk
 rcases gX with⟨hi,rfl⟩|⟨hi,cs,e,rfl,c9,lV⟩
 ·have hlen:=hi.1.2
  have KZ:(fJ bs 4).length=6:=VS (by omega)
  have dS:(fJ bs 10).length=6:=VS (by omega)
  have c9:(zC bs).length=15:=Xl KZ dS
  have lV:∀z∈zC bs,z.oneCell'=true:=xH _ _ _ _ _
  obtain⟨z1,Cj,Ck,dP,dW⟩:=Xk (tid:=wd bs 16/4096) (sq:=wd bs 18/16) (mp:=qA bs) KZ dS
  refine⟨_,_,rfl,m2.bb λaP h3 m3=>m3.c8 0 rfl c9 rfl lV λh4 m4=>⟨_,m4.bE 0 rfl c9.symm,true,ae7,df rfl ?_⟩⟩
  replace m4:=c4 m4
  have kH:=m4.row 18 rfl 17 (Ik un) (by rw[xo un];decide) (p:=0+11+6)
  have eN:=m4.row 16 rfl 6 dP (by rw[c9];decide) (p:=6)
  have no:∀(hno:lB x u bs=none) aU,aa bu aU (aq a y g x++[⟨aP,0,zC bs,some 304⟩]::[⟨al,0,zC bs,some 304⟩]::cG bp u ua uc::R)->
   row aU bp (0+11+6) 6=some (ints .u8 u.to)/\row aU aP 6 6=some (ints .u8 (fJ bs 10))/\∃x0:List Value,row aU al 0 15=some x0/\∃(W':Wd) (cs:List Value),W.le W'/\Value.tuple #[.agg x0.toArray, .bool false]= .tuple #[.agg cs.toArray, .bool (lB x u bs).isSome]/\cs.length=15/\(∀z∈cs,z.oneCell'=true)/\
   (∀p,lB x u bs=some p->cs[13]?=some (.int .i64 p.1)/\cs[14]?=some (.int .u64 p.2))/\aa W' aU (aq a y g x++cG bp u ua uc::R):= λhno aU m6=>by
   refine⟨m6.row 18 rfl 17 (Ik un) (by rw[xo un];decide),m6.row 16 rfl 6 dP (by rw[c9];decide),_,m6.bE 17 rfl c9.symm,bu,_,hl,by rw[hno];rfl,c9,lV,λp hp=>(by rw[hno]at hp;cases hp),cI (cI m6)⟩
  refine⟨_,eN,aN ⟨_,kH,_,_,rfl,rfl,⟨dS,un.to⟩,aC (λaK=>?_) λaK=>m4.c8 17 rfl c9 rfl lV λaA m5=>no (by unfold lB;rw[if_neg (λhc=>aK hc.2.1)]) aA m5⟩⟩
  have qe:row _ a 0 6=some (ints .u8 x.c.bss):=xO ok.toeG m4
  have K5:=m4.row 16 rfl 0 dW (by rw[c9];decide) (p:=0)
  refine⟨_,K5,_,qe,_,_,rfl,rfl,⟨KZ,ok.bss⟩,aC (λaG=>?_) λaG=>m4.c8 17 rfl c9 rfl lV λaA m5=>no (by unfold lB;rw[if_neg (λhc=>aG hc.2.2.1)]) aA m5⟩
  refine⟨_,m4.cell 16 rfl 12 z1,aN ⟨_,m4.cell 18 rfl 2 rfl,m4.c8 17 rfl c9 rfl lV λaA m5=>?_⟩⟩
  refine⟨m5.cell 18 rfl 2 rfl,m5.cell 16 rfl 12 z1,m5.row 18 rfl 17 (Ik un) (by rw[xo un];decide),m5.row 16 rfl 6 dP (by rw[c9];decide),_,m5.bE 17 rfl c9.symm,bu,_,hl,?_,c9,lV,λp hp=>?_,cI (cI m5)⟩
  ·unfold lB
   by_cases bd:wd bs 16/4096=u.tid
   ·rw[decide_eq_true bd,if_pos ⟨hi,aK,aG,bd⟩];rfl
   ·rw[decide_eq_false bd,if_neg (λhc=>bd hc.2.2.2)];rfl
  ·unfold lB at hp
   split at hp
   ·cases hp;exact⟨Cj,Ck⟩
   ·cases hp
 ·have hno:lB x u bs=none:=by unfold lB;rw[if_neg (λhc=>hi hc.1)]
  refine⟨_,_,rfl,m2.bb λaP h3 m3=>m3.c8 0 rfl c9 rfl lV λh4 m4=>⟨_,m4.bE 0 rfl c9.symm,false,ae8,aZ rfl ((c4 m4).c8 17 rfl c9 rfl lV λaA m5=>⟨_,m5.bE 17 rfl c9.symm,bu,_,hl,by rw[hno];rfl,c9,lV,λp hp=>(by rw[hno]at hp;cases hp),cI (cI m5)⟩)⟩⟩
theorem Yg (ok:bl x) (a7:Snt W ads) (q:aH W a y g x) (hs:x.of aid=some s) (hb:y.b1 (aD aid)=some b) (ht:t<8) (m:aa W h (aq a y g x++R)):
 aj Tryz.prog 171 #[a8 (y.sp (aD aid) t)] h λv h'=>∃g',aH W a y g' (x.aW aid t ((x.aT aid t).dE (x.aT aid t).s.land))/\aa W h' (aq a y g' (x.aW aid t ((x.aT aid t).dE (x.aT aid t).s.land))++R):=by
 rw[ab.lJ hs,ab.hj hs]
 refine(YW (ok.jz hs ht).s a7 (q.mG hs ht) (lS ok.toeG hs hb ht m)).mono ?_
 rintro v h' ⟨L',hv,ax⟩
 exact xS ok.toeG hs hb ht q rfl hv ax
theorem GV {c:Int}:∀{l:List cq} {bk:fZ},(u4 c bk l).length=bk.length
 |[],_=>rfl
 |p::l,bk=>(GV (l:=l)).trans Jp
theorem agW {c:Int} {l:List cq} {k:Nat} {bk:fZ} {p:cq} (hp:l[k]?=some p):u4 c bk (l.take (k+1))=ma (u4 c bk (l.take k)) p.p.id c:=by
 rw[List.take_add_one,hp];unfold u4;rw[List.foldl_append];rfl
theorem X5 {bp l8 mY:Nat} {ua kg:Option Addr} {uc:Nat} (ok:bl x) (i:dB (x.aT u.aid u.tid).s) (a7:Snt W ads) (q:aH W a y g x) (hs:x.of u.aid=some s) (hb:y.b1 (aD u.aid)=some b) (eB:u.tid=t) (ht:t<8) (un:jq u) (iD:cm W (.slice kg l8 mY) bs) (hx:∀z∈bs,0<=z/\z<256) (m:aa W h (aq a y g x++cG bp u ua uc::R)):
 aj Tryz.prog 77 #[a8 a,a8 bp, .pointer (some ⟨b,6+t*5,none⟩), .slice kg l8 mY] h λv h'=>∃W' g',W.le W'/\v= .bool (x.nf u bs).2/\aH W' a y g' (x.nf u bs).1/\aa W' h' (aq a y g' (x.nf u bs).1++cG bp u ua uc::R):=by
 refine amO _ _ _ _ _ _ _ _ ((O3 ok a7 q un iD hx m).mono ?_)
 rintro _ h1 ⟨aQ,cs,jj,rfl,c9,lV,RR,m1⟩
 clear m
 replace q:=q.le jj
 replace a7:=a7.le jj
 have h9:x.aT u.aid u.tid=s.l.getD t ak:=by rw[eB];exact ab.hj hs
 have i2:=i
 rw[h9]at i2
 refine⟨_,_,rfl,m1.bb λal h2 m2=>m2.c8 0 rfl c9 rfl lV λh3 m3=>?_⟩
 replace m3:=c4 m3
 clear m1 m2
 have lost:∀{h4:J} {bu:Wd} {g2:cQ},aQ.le bu->aH bu a y g2 x->aa bu h4 (aq a y g2 x++[⟨al,0,cs,some 304⟩]::cG bp u ua uc::R)->x.nf u bs=(x.tF u,false)->eu (some ⟨b,6+t*5,none⟩) λey hF=>
  ∃vd:Option Addr,cell h4 ey hF=some (.pointer vd)/\aj Tryz.prog 171 #[.pointer vd] h4 λyZ dS=>∃v4:Value,yZ=v4/\
  ∃(W':Wd) (g':cQ),W.le W'/\Value.bool false= .bool (x.nf u bs).2/\aH W' a y g' (x.nf u bs).1/\aa W' dS (aq a y g' (x.nf u bs).1++cG bp u ua uc::R):= λ{h4 bu g2} dv q2 m4 e=>by
  rw[e]
  unfold ab.tF
  rw[eB]
  refine aN ⟨_,lh ok.toeG hs hb ht m4 (j:=0) rfl _,(Yg ok (a7.le dv) q2 hs hb ht m4).mono ?_⟩
  rintro v4 aA ⟨g5,eO,m5⟩
  exact⟨_,rfl,bu,g5,jj.trans dv,rfl,eO,cI m5⟩
 cases hh:lB x u bs with
 |none=>
  have e:x.nf u bs=(x.tF u,false):=by unfold ab.nf;rw[hh]
  exact aZ rfl (df rfl (lost (Wd.le.refl _) q m3 e))
 |some p=>
  obtain⟨Cj,Ck⟩:=RR p hh
  refine df rfl (aN ⟨_,lh ok.toeG hs hb ht m3 (j:=0) rfl _,_,m3.bE 16 rfl c9.symm,(YU (sq:=p.1) (mp:=p.2) (ok.jz hs ht).s a7 (q.mG hs ht) c9 Cj Ck (lS ok.toeG hs hb ht m3)).mono ?_⟩)
  rintro _ h4 ⟨bu,a2,aG,us,F,e7,ag,dv,rfl,RY,ac4,aM,KY,dc,m4⟩
  have kM:=i2.heard (sq:=p.1) (mp:=p.2)
  obtain⟨g4,bP,m4⟩:=Jj (z:=(s.l.getD t ak).dE ((s.l.getD t ak).s.heard p.1 p.2).2) ok.toeG hs hb ht (q.le dv) rfl dc m4
  replace a7:=a7.le dv
  refine⟨_,_,_,_,rfl,_,a7.A4 ac4,?_⟩
  have hlen:((s.l.getD t ak).s.heard p.1 p.2).1.length<=1048576:=by
   have:=(ok.jz hs ht).s.n
   unfold aS.heard
   split
   ·unfold aS.gone;rw[List.length_map];exact Nat.le_trans (List.length_filter_le _ _) (by omega)
   ·exact Nat.zero_le _
  obtain⟨aY,tC⟩:∃aY,aY=x.bw u.aid (some (s.aW t ((s.l.getD t ak).dE ((s.l.getD t ak).s.heard p.1 p.2).2))):=⟨_,rfl⟩
  rw[<-tC]at bP m4
  have aij:bl aY:=by rw[tC];exact ok.aW hs ht ⟨kM.ok,(ok.jz hs ht).v⟩
  obtain⟨sL,KR⟩:∃sL,sL=((s.l.getD t ak).s.heard p.1 p.2).1:=⟨_,rfl⟩
  rw[<-KR]at hlen aM KY⊢
  have rq:aY.book=x.book:=by rw[tC];rfl
  refine⟨λi h2=>∃(k:Nat) (g2:cQ),i=k/\k<=sL.length/\aH bu a y g2 (aY.dX (u4 3 x.book (sL.take k)))/\
   aa bu h2 (aq a y g2 (aY.dX (u4 3 x.book (sL.take k)))++ae F::[⟨al,0,cs,some 304⟩]::cG bp u ua uc::R),
   λi _=>((sL.length:Int) -i).toNat,⟨0,g4,rfl,Nat.zero_le _,by rw[<-rq];exact bP,by rw[<-rq];exact m4⟩,λ_=>?_⟩
  clear bP m4 m3 q
  rintro _ aA ⟨k,g5,rfl,I,q,m⟩
  refine aC (λd1=>?_) λd1=>?_
  ·have bY:k<sL.length:=by omega
   have hp:=List.getElem?_eq_getElem bY
   obtain⟨ms,Gf,gE,hC⟩:=KY.get (λ_ _ h=>h.len) hp
   obtain⟨bx,cb,rfl,U⟩:=mK (aM.j8 m 16 rfl) hC (by decide) gE
   refine⟨⟨by omega,by omega⟩,aN ⟨ms,by rw[Int.toNat_natCast];exact U,m.bb λfh aU m6=>m6.c8 0 rfl Gf.len rfl Gf.one λbW m7=>?_⟩⟩
   have adh:ms[0]?=some (.int .i64 (sL[k]).p.id):=by obtain⟨fT,fH,rfl,dK⟩:=Gf;rfl
   refine⟨_,m7.cell 0 rfl 0 adh,(OZ (aij.dX (by rw[GV];exact ok.bk)) a7 q (c4 m7)).mono ?_⟩
   rintro EB bJ ⟨g8,vh,m8⟩
   have e:=agW (c:=3) (bk:=x.book) hp
   exact⟨_,rfl,by simp only[fits];omega,⟨k+1,g8,by omega,by omega,by rw[e];exact vh,by rw[e];exact cI m8⟩,by dsimp only;omega⟩
  ·obtain rfl:k=sL.length:=by omega
   rw[List.take_length]at q m
   replace m:=cI m
   cases Ar:(s.l.getD t ak).s.nn p.1 with
   |true=>
    have e:x.nf u bs=(aY.dX (u4 3 x.book sL),true):=by
     unfold ab.nf
     rw[hh];dsimp only
     rw[h9,if_pos Ar,tC,KR,eB,ab.lJ hs]
    have acZ:ag=none:=RY.2 Ar
    rw[acZ,e]
    exact aZ rfl ⟨bu,g5,jj.trans dv,rfl,q,cI m⟩
   |false=>
    have b6:ag≠none:= λhc=>by rw[RY.1 hc]at Ar;cases Ar
    have e:x.nf u bs=(x.tF u,false):=by
     unfold ab.nf
     rw[hh];dsimp only
     rw[h9,if_neg (by rw[Ar];decide)]
    have QP:(s.l.getD t ak).s.heard p.1 p.2=([],(s.l.getD t ak).s):=by unfold aS.heard;rw[if_neg (by rw[Ar];decide)]
    have abw:aY=x:=by rw[tC,QP];exact(congrArg (λz=>x.bw u.aid (some z)) (ba.vm (by rw[(ok.lens hs).1];exact ht))).trans (ab.vm ok.st hs)
    have abf:sL=[]:=by rw[KR,QP]
    rw[abf,abw]at q m
    cases ag with
    |none=>exact absurd rfl b6
    |some ag=>exact df rfl (lost dv q m e)
theorem X0 {bp l8 mY:Nat} {ua kg:Option Addr} {uc:Nat} (ok:bl x) (a7:Snt W ads) (q:aH W a y g x) (hs:x.of u.aid=some s) (hb:y.b1 (aD u.aid)=some b) (eB:u.tid=t) (ht:t<8) (un:jq u) (iD:cm W (.slice kg l8 mY) bs) (hx:∀z∈bs,0<=z/\z<256) (m:aa W h (aq a y g x++cG bp u ua uc::R)):
 aj Tryz.prog 78 #[a8 a,a8 bp, .pointer (some ⟨b,6+t*5,none⟩), .slice kg l8 mY] h λv h'=>∃W' g',W.le W'/\v= .bool (x.vO u bs).2/\aH W' a y g' (x.vO u bs).1/\aa W' h' (aq a y g' (x.vO u bs).1++cG bp u ua uc::R):=by
 refine amL _ _ _ _ _ _ _ _ ((O3 ok a7 q un iD hx m).mono ?_)
 rintro _ h1 ⟨aQ,cs,jj,rfl,c9,lV,RR,m1⟩
 clear m
 replace q:=q.le jj
 replace a7:=a7.le jj
 have e:(x.vO u bs).1=x.bw u.aid (some (s.aW t ((s.l.getD t ak).dE ((s.l.getD t ak).s.iy (lB x u bs).isSome)))):=by
  unfold ab.vO;rw[eB,ab.lJ hs,ab.hj hs]
 refine⟨_,_,rfl,m1.bb λal h2 m2=>m2.c8 0 rfl c9 rfl lV λh3 m3=>?_⟩
 replace m3:=c4 m3
 refine aN ⟨_,lh ok.toeG hs hb ht m3 (j:=0) rfl _,(YP (ok.jz hs ht).s (q.mG hs ht) (lS ok.toeG hs hb ht m3)).mono ?_⟩
 rintro _ h4 ⟨e7,dc,m4⟩
 obtain⟨g4,bP,m4⟩:=xS ok.toeG hs hb ht (z:=(s.l.getD t ak).dE ((s.l.getD t ak).s.iy (lB x u bs).isSome)) q rfl dc m4
 rw[e]
 exact⟨aQ,g4,jj,rfl,bP,cI m4⟩
theorem XT {bp l8 mY:Nat} {ua kg:Option Addr} {uc:Nat} (ok:bl x) (SC:(x.aT u.aid u.tid).dy<=1000000) (a7:Snt W ads) (q:aH W a y g x) (hs:x.of u.aid=some s) (hb:y.b1 (aD u.aid)=some b) (eB:u.tid=t) (ht:t<8) (m:aa W h (aq a y g x++cG bp u ua uc::R)):
 aj Tryz.prog 79 #[a8 a,a8 bp, .pointer (some ⟨b,6+t*5,none⟩), .slice kg l8 mY] h λv h'=>∃W' g',W.le W'/\v= .bool (x.vH u).2/\aH W' a y g' (x.vH u).1/\aa W' h' (aq a y g' (x.vH u).1++cG bp u ua uc::R):=by
 have h9:x.aT u.aid u.tid=s.l.getD t ak:=by rw[eB];exact ab.hj hs
 rw[h9]at SC
 have qp:=(ok.jz hs ht).v
 refine amK _ _ _ _ _ _ _ _ (aN ⟨_,lh ok.toeG hs hb ht m (j:=0) rfl _,(Pr (q.mG hs ht) (lS ok.toeG hs hb ht m)).ret ⟨_,rfl,bH (λd1=>?_) λd1=>?_⟩⟩)
 ·replace d1:¬(s.l.getD t ak).s.st=2:=by simpa using d1
  unfold ab.vH
  rw[h9,if_neg d1]
  exact⟨W,g,Wd.le.refl _,rfl,q,m⟩
 ·replace d1:(s.l.getD t ak).s.st=2:=by simpa using d1
  unfold ab.vH
  rw[h9,if_pos d1]
  obtain⟨z,hz⟩:∃z:dk,z=⟨(s.l.getD t ak).s,(s.l.getD t ak).dy+1,(s.l.getD t ak).refused,(s.l.getD t ak).ends,(s.l.getD t ak).under⟩:=⟨_,rfl⟩
  refine aN ⟨_,lh ok.toeG hs hb ht m (j:=1) rfl _,by simp only[fits];omega,aN (Fe ok.toeG q hs hb ht m (z:=z) 1 (by decide) (by rw[hz];rfl) (by rw[hz]) (λh2 g2 q2 m2=>?_) rfl)⟩
  have iS:(x.bw u.aid (some (s.aW t z))).of u.aid=some (s.aW t z):=ab.rE ok.st hs
  have eE:=ok.toeG.bw (s':=s.aW t z) (ba.tH (ok.lens hs)) hs
  have j4:(s.aW t z).l.getD t ak=z:=by rw[ba.qz (ok.lens hs).1 ht,if_pos rfl]
  have yB:z.s=(s.l.getD t ak).s:=by rw[hz]
  refine aN ⟨_,lh eE iS hb ht m2 (j:=0) (by rw[j4];rfl) _,aN ⟨_,m2.cell 16 rfl 10 rfl,(YM (by rw[j4,yB];exact(ok.jz hs ht).s) a7 (q2.mG iS ht) (lS eE iS hb ht m2)).mono ?_⟩⟩
  rintro _ h3 ⟨ja,rfl,fE,m3⟩
  rw[j4,yB]at fE
  obtain⟨g4,bP,m4⟩:=xS (z:=(s.l.getD t ak).EC ((s.l.getD t ak).s.answer u.tok 1 0).1) eE iS hb ht q2 (by rw[j4,hz];rfl) fE m3
  refine⟨_,rfl,W,g4,Wd.le.refl _,rfl,?_⟩
  have dP:((x.bw u.aid (some (s.aW t z))).bw u.aid (some ((s.aW t z).aW t ((s.l.getD t ak).EC ((s.l.getD t ak).s.answer u.tok 1 0).1))))=x.aW u.aid u.tid ((s.l.getD t ak).EC ((s.l.getD t ak).s.answer u.tok 1 0).1):=by
   rw[eB,ab.lJ hs]
   unfold ab.bw ba.aW
   simp only[List.set_set]
  rw[dP]at bP m4
  exact⟨bP,m4⟩
end
end Go.Proofs.YtjlkfjnfnonekaaGreatDoor
