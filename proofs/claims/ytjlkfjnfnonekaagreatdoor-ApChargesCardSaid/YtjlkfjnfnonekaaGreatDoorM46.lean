import Derived.Test.YtjlkfjnfnonekaaGreatDoorM45
import Derived.Test.YtjlkfjnfnonekaaGreatDoorM33
import Derived.Test.YtjlkfjnfnonekaaGreatDoorM30
set_option linter.all false
set_option maxRecDepth 8000
namespace Go.Proofs.YtjlkfjnfnonekaaGreatDoor
open Go.Vc
def k0.gx (q:k0) (u:nJ):k0:={q with u:=u}
def k0.Ee (q:k0) (t:nJ):k0:={q with t:=t}
section
variable{W:Wd} {h h':J} {R L:List aL} {a w k j p i jS lc ul uc dA h6:Nat} {y:cR} {g:cQ} {x:ab} {o:iw} {c:jT} {gG fY tid n ad kK aid:Int} {kD:Bool} {b:nJ} {ads:List Addr} {v:Value} {q':k0} {s:ba} {kc dQ ua eb:Option Addr} {jR E fo iH:ao} {bs me:List Int} {u:bR} {l:List bQ} {vs us ts:List Value} {ps:List (Bool×Int)}
theorem akH {q1 q2:k0}:(o.e4 k q1).e4 k q2=o.e4 k q2:=by
 unfold iw.e4
 congr 1
 funext j
 show aX (aX o.q k q1) k q2 j=aX o.q k q2 j
 by_cases e:j=k
 ·subst e;rw[jC,jC]
 ·rw[jm e,jm e,jm e]
theorem zd {q1:k0}:(o.e4 k q1).q k=q1:=if_pos rfl
theorem akG:o.e4 k (o.q k)=o:=by
 unfold iw.e4
 rw[zb]
set_option maxHeartbeats 1000000 in
theorem amm (I:k<4) (hu:(o.q k).u=(ua,ul,uc)) (Mg:au ua ul uc 2 us fo) (sA:ul+l.length<=1000000) (ol:au dQ l.length lc 24 vs E) (hs:bX (ir W) l vs) (hf:∀f∈l,gK f) (pj mx jx:Nat) (R7:mx≠pj) (gq:jx≠pj) (adv:jx≠mx) (hw:L[pj]?=some (dj w o)) (hi:L[mx]?=some (ae fo)) (he:L[jx]?=some (ae E)) (m:aa W h L):
 aj Tryz.prog 52 #[.pointer (some ⟨w,22+k*6,none⟩), .slice dQ l.length lc] h λv h'=>∃n7 n8 ka rN,au n7 (ul+l.length) n8 2 ka rN/\aa W h' ((L.set mx (ae rN)).set pj (dj w (o.e4 k ((o.q k).gx (n7,ul+l.length,n8))))):=by
 refine aoG _ _ _ _ _ _ ⟨λz h'=>∃(r:Nat) (n7:Option Addr) (n8:Nat) (ka:List Value) (rN:ao),z=r/\r<=l.length/\au n7 (ul+r) n8 2 ka rN/\aa W h' ((L.set mx (ae rN)).set pj (dj w (o.e4 k ((o.q k).gx (n7,ul+r,n8))))),λz _=>((l.length:Int) -z).toNat,⟨0,ua,uc,us,fo,rfl,by omega,Mg,?_⟩,λ_=>?_⟩
 ·have af:(o.q k).gx (ua,ul+0,uc)=o.q k:=by unfold k0.gx;rw[Nat.add_zero,<-hu]
  have ag:(L.set mx (ae fo)).set pj (dj w o)=L:=by rw[Bj hi,Bj hw]
  rw[af,akG,ag];exact m
 clear m
 rintro _ h1 ⟨r,n7,n8,ka,rN,rfl,U,o',m⟩
 have lw:=(List.getElem?_eq_some_iff.1 hw).1
 have nw:=(List.getElem?_eq_some_iff.1 hi).1
 have kj:∀{A B:aL},((L.set mx A).set pj B)[pj]?=some B:= λ{A B}=>by rw[List.getElem?_set_self (by rw[List.length_set];exact lw)]
 have gY:∀{A B:aL},((L.set mx A).set pj B)[mx]?=some A:= λ{A B}=>by rw[List.getElem?_set_ne (Ne.symm R7),List.getElem?_set_self nw]
 have C6:∀{A B:aL},((L.set mx A).set pj B)[jx]?=some (ae E):= λ{A B}=>by rw[List.getElem?_set_ne (Ne.symm gq),List.getElem?_set_ne (Ne.symm adv)];exact he
 refine aC (λaK=>?_) λaK=>?_
 ·have wD:r<l.length:=by omega
  have hz:=List.getElem?_eq_getElem wD
  obtain⟨b',ahZ,rfl,Zr,cg,bZ,Zt⟩:=ak0 ol m jx C6 hs hf hz
  refine aN ⟨_,_,_,qN m pj kj I 2 (by rw[zd];rfl) (by omega),⟨by omega,by omega⟩,aN ⟨_,by rw[Int.toNat_natCast];exact Zr,⟨by omega,by omega⟩,aN ⟨_,_,_,by rw[Int.toNat_natCast];exact Zt,rfl,?_⟩⟩⟩
  refine o'.kA m mx gY rfl (by intro u hu;simp at hu;rcases hu with rfl|rfl<;>rfl) (by omega) (by decide) λa2 aG cD h3 m3 cb=>aN ?_
  have aI:((L.set mx (ae rN)).set pj (dj w (o.e4 k ((o.q k).gx (n7,ul+r,n8))))).set mx (ae cD)=(L.set mx (ae cD)).set pj (dj w (o.e4 k ((o.q k).gx (n7,ul+r,n8)))):=by
   rw[List.set_comm _ _ (Ne.symm R7),List.set_set]
  rw[aI]at m3
  refine MP (q':=(o.q k).gx (a2,ul+r+1,aG)) m3 pj kj I 2 (by decide) (by rw[zd];rfl) (λh4 m4=>?_) (by omega)
  rw[List.set_set,akH]at m4
  exact⟨by simp only[fits];omega,⟨r+1,a2,aG,_,cD,by omega,by omega,cb,m4⟩,by dsimp only;omega⟩
 ·obtain rfl:r=l.length:=by omega
  exact⟨n7,n8,ka,rN,o',m⟩
def Xf (W:Wd) (h':J) (a w:Nat) (o:iw) (k:Nat) (x:ab) (s:Nat) (me:List Int) (R:List aL) (fP:ao) (K:iw->Prop):Prop:=
 ∃fy g' o' fU us ts ua ul uc eb dA h6 fo iH jR kc jS,aH W a fy g' x/\(fU.length=8/\∀p∈fU,0<=p.2/\p.2<=4095)/\(o'.q k).u=(ua,ul,uc)/\au ua ul uc 2 us fo/\(o'.q k).t=(eb,dA,h6)/\au eb dA h6 1 ts iH/\o'.di=(kc,0,jS)/\au kc 0 jS 10 [] jR/\K o'/\
  aa W h' (aq a fy g' x++dj w o'::ae fo::ae fP::ae iH::ae jR::(qM s me fU++R))
set_option maxHeartbeats 4000000 in
theorem aqh {fP:ao} {b1:Nat} (I:k<4) (ha:o.a=a) (wG:o.di=(kc,1,jS)) (tO:au kc 1 jS 10 (hk u dQ lc) jR) (ei:IJ u) (dK:cm W (.slice dQ u.cO.length lc) u.cO) (uJ:∀z∈u.cO,0<=z/\z<256) (qd:u.cO.length<=1000000)
 (hq:(o.q k).aid=u.aid/\0<u.aid/\∀j,j<k->(o.q j).aid≠u.aid) (nU:(o.q k).s=some ⟨b1,0,none⟩) (hu:(o.q k).u=(ua,ul,uc)) (Mg:au ua ul uc 2 us fo) (ht:(o.q k).t=(eb,dA,h6)) (n0:au eb dA h6 1 ts iH) (sA:ul<=1000/\dA<=1000) (adL:ps.length=8) (yw:∀p∈ps,0<=p.2/\p.2<=4095) (Sk:me.length=6) (yp:∀z∈me,0<=z/\z<256)
 (hN:0<=o.now/\o.now<=1000000000000) (acC:u.air<=20000000) (hw:x.ways.length<=1000) (K7:∀z∈x.ways,IU x z) (ac8:∀bs:List Int,(x.done (o.now+u.air) u.num bs).2=none)
 (ok:bl x) (a7:Snt W ads) (q:aH W a y g x) (m:aa W h (aq a y g x++dj w o::ae fo::ae fP::ae iH::ae jR::(qM b1 me ps++R))):
 aj Tryz.prog 20 #[a8 w, .int .i64 0, .agg (hK gG fY tid n ad 0 false b).toArray] h λv h'=>v= .bool true/\∃W' bs,W.le W'/\Xf W' h' a w o k (x.done (o.now+u.air) u.num bs).1 b1 me R fP λo'=>o'.now=o.now+u.air/\o'.a=a/\o'.size=o.size/\o'.nw=o.nw/\o'.sm=o.sm/\(∀j,(o'.q j).aid=(o.q j).aid)/\(o'.q k).s=(o.q k).s/\(o'.q k).u.2.1<=ul+1/\(o'.q k).t.2.1<=dA+1/\(o'.q k).g=(o.q k).g:=by
 subst ha
 obtain⟨s9,ajt,rfl⟩:=tO.some (by decide)
 refine aoH _ _ _ _ _ (m.bb λal h1 m1=>?_)
 replace m1:=c4 m1
 have th:∀{h':J} {L:List aL} (m:aa W h' L) (i:Nat) (hi:L[i]?=some (dj w o)),cell h' w 46=some (.slice (some ⟨s9,ajt,none⟩) 1 jS):= λm i hi=>by
  have:=m.cell i hi 25 rfl (p:=46)
  rw[wG]at this;exact this
 refine⟨_,_,_,th m1 17 rfl,⟨by decide,by decide⟩,aN ⟨_,tO.ajZ m1 21 rfl rfl (k:=0) (us:=hk u dQ lc) rfl (Nat.le_of_ble_eq_true rfl) (by decide) (by simp),m1.bb λbx h2 m2=>?_⟩⟩
 refine(c4 m2).c8 16 rfl rfl rfl tW λh3 m3=>⟨_,m3.cell 16 rfl 1 rfl,(VE m3 18 rfl).mono ?_⟩
 clear m m1 m2
 rintro _ _ ⟨rfl,⟨k',ig,rfl,af,ag,aI⟩|⟨-,af⟩⟩
 rotate_left
 ·exact absurd (af k I hq.1) (by have:=hq.2.1;omega)
 obtain rfl:k'=k:=by
  rcases Nat.lt_trichotomy k' k with h|h|h
  ·exact absurd af (hq.2.2 k' h)
  ·exact h
  ·exact absurd hq.1 (aI k h)
 refine⟨_,rfl,m3.bb λdO aA m5=>⟨_,_,_,th m5 19 rfl,⟨by decide,by decide,by omega⟩,[],⟨?_,by simp⟩,?_⟩⟩
 ·rw[akQ];exact(tO.head 0 (by decide)).j8 m5 23 rfl
 refine(au.wb (b:=dO) (l:=0) (sz:=10) (vs:=[]) (T:=50) rfl).Fa m5 0 rfl rfl (by decide) (by decide) λa1 aK mS aU m6 nZ=>⟨_,_,_,th m6 19 rfl,by simp only[fits];decide,⟨by decide,by decide⟩,[],⟨(tO.tail 1 (by decide)).j8 m6 23 rfl,by simp⟩,?_⟩
 refine nZ.Fa m6 0 rfl rfl (by decide) (by decide) λa2 Fy cD bW m7 gv=>?_
 obtain⟨eg,pd⟩:∃eg,eg=o.Ef (a2,0,Fy):=⟨_,rfl⟩
 refine xr (o':=eg) m7 19 rfl 25 rfl (by rw[pd];rfl) λbJ m8=>⟨_,m8.cell 19 rfl 26 rfl,_,m8.cell 17 rfl 8 rfl,?_⟩
 have QR:eg.now=o.now:=by rw[pd];rfl
 have arq:=ei.Jd
 obtain⟨aM,lC⟩:∃aM,aM=eg.c6 (o.now+u.air):=⟨_,rfl⟩
 rw[QR]
 refine⟨by simp only[fits];omega,xr (o':=aM) m8 19 rfl 26 rfl (by rw[lC];rfl) λct m9=>bF (by omega) ⟨⟨by omega,by omega⟩,?_⟩⟩
 have GR:aa W ct (aq o.a y g x++[⟨bx,0,hk u dQ lc,some 50⟩]::[⟨al,0,hK gG fY tid n ad 0 false b,some 38⟩]::dj w aM::ae fo::ae fP::ae iH::ae cD::(qM b1 me ps++R)):=
  ((aa.gD (Q:=ae cD::(aq o.a y g x++[[⟨bx,0,hk u dQ lc,some 50⟩],[⟨al,0,hK gG fY tid n ad 0 false b,some 38⟩],dj w aM,ae fo,ae fP,ae iH])) m9).aB).jy (Q:=aq o.a y g x++[[⟨bx,0,hk u dQ lc,some 50⟩],[⟨al,0,hK gG fY tid n ad 0 false b,some 38⟩],dj w aM,ae fo,ae fP,ae iH])
 clear m3 m5 m6 m7 m8 m9 th tO nZ
 have kt:aM.now=o.now+u.air/\aM.a=o.a/\aM.size=o.size/\aM.nw=o.nw/\aM.sm=o.sm/\aM.q=o.q/\aM.di=(a2,0,Fy):=by rw[lC,pd];exact⟨rfl,rfl,rfl,rfl,rfl,rfl,rfl⟩
 clear lC pd QR eg
 refine⟨λaO an ac h'=>∃W' bs o' fU us ts ua Ez uc eb Ev h6 fo iH,W.le W'/\cm W' (.slice aO an ac) bs/\(∀z∈bs,0<=z/\z<256)/\(fU.length=8/\∀p∈fU,0<=p.2/\p.2<=4095)/\(o'.q k').u=(ua,Ez,uc)/\au ua Ez uc 2 us fo/\(o'.q k').t=(eb,Ev,h6)/\au eb Ev h6 1 ts iH/\o'.di=(a2,0,Fy)/\
  (o'.now=o.now+u.air/\o'.a=o.a/\o'.size=o.size/\o'.nw=o.nw/\o'.sm=o.sm/\(∀j,(o'.q j).aid=(o.q j).aid)/\(o'.q k').s=(o.q k').s/\Ez<=ul+1/\Ev<=dA+1/\(o'.q k').g=(o.q k').g)/\
  aa W' h' (aq o.a y g x++[⟨bx,0,hk u dQ lc,some 50⟩]::[⟨al,0,hK gG fY tid n ad 0 false b,some 38⟩]::dj w o'::ae fo::ae fP::ae iH::ae cD::(qM b1 me fU++R)),?_,λ_=>?_⟩
 ·refine⟨_,GR.cell 16 rfl 4 rfl,fB ei.k ⟨_,_,_,GR.cell 16 rfl 7 rfl,GR.bb λfh dS m10=>?_⟩⟩
  replace m10:=c4 m10
  refine⟨λfT pl fH h'=>fT=some ⟨fh,0,none⟩/\pl=1/\fH=1/\h'=dS,⟨_,m10.cell 17 rfl 6 rfl,aZ (by rw[ei.ix]) ⟨rfl,rfl,rfl,rfl⟩⟩,λ_=>?_⟩
  rintro _ _ _ dS ⟨rfl,rfl,rfl,rfl⟩
  have hO:(aM.q k').u=(ua,ul,uc):=by rw[kt.2.2.2.2.2.1];exact hu
  have nq:(aM.q k').t=(eb,dA,h6):=by rw[kt.2.2.2.2.2.1];exact ht
  refine⟨λnL cl dz z h=>(z=0/\nL=none/\cl=0/\dz=0/\h=dS)\/(z=1/\cl=1/\∃n4 n5 vq mM ta,au nL 1 dz 1 [.slice dQ u.cO.length lc] ta/\au n4 (dA+1) n5 1 vq mM/\aa W h (ae ta::(aq o.a y g x++[⟨fh,0,[.slice dQ u.cO.length lc],some 36⟩]::[⟨bx,0,hk u dQ lc,some 50⟩]::[⟨al,0,hK gG fY tid n ad 0 false b,some 38⟩]::dj w (aM.e4 k' ((aM.q k').Ee (n4,dA+1,n5)))::ae fo::ae fP::ae mM::ae cD::(qM b1 me ps++R)))),λ_ _ _ z _=>(1 -z).toNat, .inl ⟨rfl,rfl,rfl,rfl,rfl⟩,λ_=>?_⟩
  rintro nL cl dz z fQ (⟨rfl,rfl,rfl,rfl,rfl⟩|⟨rfl,rfl,n4,n5,vq,mM,ta,cJ,yT,m13⟩)
  ·refine fB (by decide) ⟨λnL cl dz h=>cl=1/\∃n4 n5 vq mM ta,au nL 1 dz 1 [.slice dQ u.cO.length lc] ta/\au n4 (dA+1) n5 1 vq mM/\aa W h (ae ta::(aq o.a y g x++[⟨fh,0,[.slice dQ u.cO.length lc],some 36⟩]::[⟨bx,0,hk u dQ lc,some 50⟩]::[⟨al,0,hK gG fY tid n ad 0 false b,some 38⟩]::dj w (aM.e4 k' ((aM.q k').Ee (n4,dA+1,n5)))::ae fo::ae fP::ae mM::ae cD::(qM b1 me ps++R))),
    ⟨λt h=>t=true/\h=fQ,bF (by decide) ⟨_,m10.cell 18 rfl 5 rfl,by simp only[fits];decide,⟨by decide,by simp only[nW];decide⟩,by decide,rfl⟩,λ_=>?_⟩,λ_=>?_⟩
   ·rintro _ _ ⟨rfl,rfl⟩
    refine df rfl ⟨⟨by decide,by decide⟩,aN ⟨_,_,_,m10.cell 16 rfl 0 rfl,au.nil.kA m10.hU 0 rfl rfl (DQ rfl) (by decide) (by decide) λnL dz ta rn m16 cJ=>?_⟩⟩
    refine⟨_,_,_,(by rw[<-show sS (aM.q k').t= .slice eb dA h6 by rw[nq];rfl];exact qN m16 20 rfl I 5 rfl),⟨by decide,by decide⟩,aN ⟨_,_,_,m16.cell 17 rfl 0 rfl,n0.kA m16 23 rfl rfl (DQ rfl) (by omega) (by decide) λn4 n5 mM we m18 yT=>?_⟩⟩
    exact MP (q':=(aM.q k').Ee (n4,dA+1,n5)) m18 20 rfl I 5 (by decide) rfl λAj m19=>⟨rfl,n4,n5,_,mM,ta,cJ,yT,m19⟩
   ·rintro nL cl dz qa ⟨rfl,n4,n5,vq,mM,ta,cJ,yT,m20⟩
    exact⟨by simp only[fits];decide, .inr ⟨rfl,rfl,n4,n5,vq,mM,ta,cJ,yT,m20⟩,by dsimp only;decide⟩
  obtain⟨ep,fH,rfl⟩:=cJ.some (by decide)
  obtain⟨cb,sv⟩:∃cb,cb=aM.e4 k' ((aM.q k').Ee (n4,dA+1,n5)):=⟨_,rfl⟩
  have zv:cb.now=aM.now/\cb.a=aM.a/\cb.size=aM.size/\cb.nw=aM.nw/\cb.sm=aM.sm/\cb.di=aM.di:=by rw[sv];exact⟨rfl,rfl,rfl,rfl,rfl,rfl⟩
  have BJ:cb.q k'=(aM.q k').Ee (n4,dA+1,n5):=by rw[sv];exact zd
  have WW:∀j,(cb.q j).aid=(aM.q j).aid:= λj=>by
   rw[sv]
   show(aX aM.q k' _ j).aid=_
   by_cases e:j=k'
   ·subst e;rw[jC];rfl
   ·rw[jm e]
  rw[<-sv]at m13
  have ad2:(cb.q k').s=some ⟨b1,0,none⟩:=by rw[BJ];show(aM.q k').s=_;rw[kt.2.2.2.2.2.1];exact nU
  have K6:(cb.q k').u=(ua,ul,uc):=by rw[BJ];exact hO
  have cz:cell fQ w (22+(k':Int).toNat*6+1)=some (.pointer (some ⟨b1,0,none⟩)):=by rw[<-ad2];exact qN m13 20 rfl I 1 rfl
  refine bF (by decide) (fB (by decide) ⟨⟨by decide,by decide⟩,aN ⟨_,_,_,cJ.rf (k:=0) m13 0 rfl rfl rfl rfl,_,m13.cell 18 rfl 6 rfl,aZ (by rw[ei.ix]) ⟨_,cz,_,m13.cell 18 rfl 6 rfl,?_⟩⟩⟩)
  rw[ei.ix]
  have m14:=(cI m13.aB)
  have m15:=(m14.gD (Q:=aq o.a y g x++[[⟨bx,0,hk u dQ lc,some 50⟩],[⟨al,0,hK gG fY tid n ad 0 false b,some 38⟩],dj w cb,ae fo,ae fP,ae mM,ae cD,cA iG 8 b1 13 ps])).gD (Q:=_::(aq o.a y g x++[[⟨bx,0,hk u dQ lc,some 50⟩],[⟨al,0,hK gG fY tid n ad 0 false b,some 38⟩],dj w cb,ae fo,ae fP,ae mM,ae cD]))
  refine(aki adL yw Sk yp dK uJ qd m15).mono ?_
  clear m13 m14 m15
  rintro _ CB ⟨bu,fU,zg,kS,vs,b4,l,cg,bZ,an,j2,Gi,C9,rfl,yo,gp,mv,ah3,Al,An,m24⟩
  have LJ:aa bu CB (ae b4::(aq o.a y g x++[⟨bx,0,hk u dQ lc,some 50⟩]::[⟨al,0,hK gG fY tid n ad 0 false b,some 38⟩]::dj w cb::ae fo::ae fP::ae mM::ae cD::(qM b1 me fU++R))):=
   (m24.swap.jy (Q:=cA iG 8 b1 13 fU::ae b4::(aq o.a y g x++[[⟨bx,0,hk u dQ lc,some 50⟩],[⟨al,0,hK gG fY tid n ad 0 false b,some 38⟩],dj w cb,ae fo,ae fP,ae mM,ae cD]))).jy (Q:=ae b4::(aq o.a y g x++[[⟨bx,0,hk u dQ lc,some 50⟩],[⟨al,0,hK gG fY tid n ad 0 false b,some 38⟩],dj w cb,ae fo,ae fP,ae mM,ae cD]))
  refine⟨_,_,_,_,_,_,rfl,(amm I K6 Mg (by omega) ah3 mv gp 19 20 0 (by decide) (by decide) (by decide) rfl rfl rfl LJ).mono ?_⟩
  rintro _ Rx ⟨n7,n8,ka,rN,Mh,LK⟩
  refine⟨bu,an,cb.e4 k' ((cb.q k').gx (n7,ul+l.length,n8)),fU,ka,vq,n7,ul+l.length,n8,n4,dA+1,n5,rN,mM,j2,Al,An,⟨Gi,C9⟩,by rw[zd];rfl,Mh,by rw[zd,BJ];rfl,yT,zv.2.2.2.2.2.trans kt.2.2.2.2.2.2,⟨zv.1.trans kt.1,zv.2.1.trans kt.2.1,zv.2.2.1.trans kt.2.2.1,zv.2.2.2.1.trans kt.2.2.2.1,zv.2.2.2.2.1.trans kt.2.2.2.2.1,λj=>?_,?_,by omega,Nat.le_refl _,?_⟩,LK.aB⟩
  ·refine Eq.trans ?_ ((WW j).trans (by rw[kt.2.2.2.2.2.1]))
   show(aX cb.q k' _ j).aid=_
   by_cases e:j=k'
   ·subst e;rw[jC];rfl
   ·rw[jm e]
  ·rw[zd,BJ];show(aM.q k').s=_;rw[kt.2.2.2.2.2.1]
  ·rw[zd,BJ];show(aM.q k').g=_;rw[kt.2.2.2.2.2.1]
 ·clear GR
  rintro aO an ac CC ⟨bu,bs,o',fU,ka,vq,n7,Ez,n8,n4,Ev,n5,rN,mM,hle,Al,An,hp,gY,Mh,gu,yT,ad7,⟨aK,aG,bd,c7,eK,nc,gB,o0,om,vQ⟩,wQ⟩
  have Am:=kC Al
  refine⟨λa1 bC aK h=>a1=aO/\bC=an/\aK=ac/\h=CC,⟨_,wQ.cell 17 rfl 6 rfl,aZ rfl ⟨rfl,rfl,rfl,rfl⟩⟩,λ_=>?_⟩
  rintro aO an ac CC ⟨rfl,rfl,rfl,rfl⟩
  refine⟨λa1 bC aK h=>a1=aO/\bC=an/\aK=ac/\h=CC,⟨_,wQ.cell 16 rfl 4 rfl,bF (by rw[ei.k];decide) ⟨rfl,rfl,rfl,rfl⟩⟩,λ_=>?_⟩
  rintro aO an ac CC ⟨rfl,rfl,rfl,rfl⟩
  refine⟨_,wQ.cell 18 rfl 0 rfl,_,wQ.cell 18 rfl 26 rfl,_,wQ.cell 16 rfl 0 rfl,?_⟩
  rw[aK,aG]
  refine(X8 ok K7 (a7.le hle) (q.le hle) ⟨by omega,by omega⟩ (by omega) Al An wQ).mono ?_
  rintro _ acf ⟨eJ,g3,bO,yn,rfl,aE,m32⟩
  rw[ac8]
  exact⟨_,rfl,true,rfl,rfl,eJ,bs,hle.trans yn,bO,g3,o',fU,ka,vq,n7,Ez,n8,n4,Ev,n5,rN,mM,cD,a2,Fy,aE,hp,gY,Mh,gu,yT,ad7,gv,⟨aK,aG,bd,c7,eK,nc,gB,by rw[gY];exact o0,by rw[gu];exact om,vQ⟩,cI (cI m32)⟩
end
end Go.Proofs.YtjlkfjnfnonekaaGreatDoor
set_option maxRecDepth 8000
namespace Go.Proofs.YtjlkfjnfnonekaaGreatDoor
open Go.Vc
def hH (N:Nat) (W:Wd) (h:J) (w:Nat) (o:iw) (x:ab) (R:List aL):Prop:=
 ∃y g b1 ps us ts gs ua ul uc eb dA h6 lA ji gc kc jS fo iH fP jR,aH W o.a y g x/\(ps.length=8/\∀p∈ps,(0:Int)<=p.2/\p.2<=4095)/\(o.q 0).aid=1/\(o.q 0).s=some ⟨b1,0,none⟩/\(o.q 0).u=(ua,ul,uc)/\au ua ul uc 2 us fo/\(o.q 0).t=(eb,dA,h6)/\au eb dA h6 1 ts iH/\(o.q 0).g=(lA,ji,gc)/\au lA ji gc 4 gs fP/\
  o.di=(kc,0,jS)/\au kc 0 jS 10 [] jR/\(ul<=N/\dA<=N/\ji<=N)/\o.size=16/\aa W h (aq o.a y g x++dj w o::ae fo::ae fP::ae iH::ae jR::(qM b1 (jt 0) ps++R))
section
variable{W:Wd} {h h':J} {R L:List aL} {a w k j p i N:Nat} {y:cR} {g:cQ} {x:ab} {o:iw} {n fY tid ad kK:Int} {kD:Bool} {b:nJ} {ads:List Addr} {v:Value} {s:ba} {bs:List Int} {u:bR}
theorem ZG (c:hH N W h w o x R) (hs:x.of 1=some s) (hN:0<=o.now/\o.now<=1000000000000) (ok:bl x) (a7:Snt W ads):
 aj Tryz.prog 8 #[a8 w, .agg (hK 8 0 tid n ad kK kD b).toArray] h λv h'=>v= .bool true/\hH N W h' w (o.c6 (o.now+100)) (x.y0 1 ⟨true,n%8⟩).1 R:=by
 obtain⟨y,g,b1,ps,us,ts,gs,ua,ul,uc,eb,dA,h6,lA,ji,gc,kc,jS,fo,iH,fP,jR,q,hp,h1,h2,h3,h4,aA,aU,bW,bJ,ct,dS,fD,fu,m⟩:=c
 refine Il _ _ _ _ (m.bb λal _ m1=>?_)
 replace m1:=c4 m1
 refine⟨_,m1.cell 16 rfl 1 rfl,(rD _ _ _ (by decide) (by decide)).ret ⟨_,rfl,⟨by decide,by decide⟩,_,m1.cell 17 rfl 26 rfl,by simp only[fits];omega,xr (o':=o.c6 (o.now+100)) m1 17 rfl 26 rfl rfl λ_ m3=>⟨_,m3.cell 16 rfl 0 rfl,bF (by decide) (bF (by decide) (bF (by decide) (bF (by decide) (bF (by decide) (bF (by decide) (bF (by decide) (fB rfl ?_)))))))⟩⟩⟩
 have dn:(o.c6 (o.now+100)).a=o.a:=rfl
 obtain⟨aM,lC⟩:∃aM,aM=o.c6 (o.now+100):=⟨_,rfl⟩
 have F:aM.a=o.a/\aM.q=o.q/\aM.di=o.di/\aM.size=o.size:=by rw[lC];exact⟨rfl,rfl,rfl,rfl⟩
 rw[<-lC]at m3⊢
 have aK:∀{h':J} {L:List aL} (m:aa W h' L) (i:Nat) (hi:L[i]?=some (dj w aM)),cell h' w (22+((0:Int)%4).toNat*6)=some (.int .i64 1):= λm i hi=>by
  have:=qN m i hi (k:=0) (by decide) 0 rfl (p:=22)
  rw[F.2.1,h1]at this;exact this
 refine⟨_,aK m3 17 rfl,fB (by decide) ⟨_,m3.cell 17 rfl 0 rfl,_,aK m3 17 rfl,_,m3.cell 16 rfl 3 rfl,(rD _ _ _ (by decide) (by decide)).ret ⟨_,rfl,aK m3 17 rfl,m3.cell 17 rfl 0 rfl,?_⟩⟩⟩
 rw[F.1]
 refine(Yr (r:=⟨true,n%8⟩) ok a7 q m3).mono ?_
 rintro _ arj ⟨rfl,eO,m5⟩
 refine⟨_,rfl,rfl,y,g,b1,ps,us,ts,gs,ua,ul,uc,eb,dA,h6,lA,ji,gc,kc,jS,fo,iH,fP,jR,by rw[F.1];exact eO,hp,?_⟩
 rw[F.2.1,F.2.2.1,F.2.2.2,F.1]
 exact⟨h1,h2,h3,h4,aA,aU,bW,bJ,ct,dS,fD,fu,cI m5⟩
theorem ZE (c:hH N W h w o x R) (iB:N<=1000) (hs:x.of 1=some s) (iD:cm W (sS b) bs) (hx:∀z∈bs,0<=z/\z<256) (hlen:bs.length<=1500) (hN:x.now<=o.now+100/\0<=o.now/\o.now<=1000000000000) (rq:x.book.length<1000000) (eA:x.bK.len<1000000) (ok:bl x) (a7:Snt W ads):
 aj Tryz.prog 8 #[a8 w, .agg (hK 3 0 tid n ad kK kD b).toArray] h λv h'=>v= .bool true/\∃W' o',W.le W'/\o'.now=o.now+100/\hH (N+1) W' h' w o' (x.offer (o.now+100) 1 (tid%8) ad bs).1 R:=by
 obtain⟨y,g,b1,ps,us,ts,gs,ua,ul,uc,eb,dA,h6,lA,ji,gc,kc,jS,fo,iH,fP,jR,q,hp,h1,h2,h3,h4,aA,aU,bW,bJ,ct,dS,fD,fu,m⟩:=c
 refine Il _ _ _ _ (m.bb λal _ m1=>?_)
 replace m1:=c4 m1
 refine⟨_,m1.cell 16 rfl 1 rfl,(rD _ _ _ (by decide) (by decide)).ret ⟨_,rfl,⟨by decide,by decide⟩,_,m1.cell 17 rfl 26 rfl,by simp only[fits];omega,xr (o':=o.c6 (o.now+100)) m1 17 rfl 26 rfl rfl λ_ m3=>⟨_,m3.cell 16 rfl 0 rfl,bF (by decide) (bF (by decide) (fB rfl ⟨_,m3.bE 16 rfl rfl,?_⟩))⟩⟩⟩
 have m4:=cI m3
 refine(aqi (k:=0) (o:=o.c6 (o.now+100)) (i:=1) (by decide) rfl h1 hs bW bJ rfl (by omega) iD hx hlen ⟨hN.1,by show 0<=o.now+100;omega,by show o.now+100<=_;omega⟩ rq eA ok a7 q m4).mono ?_
 rintro _ arf ⟨rfl,aQ,g1,Cx,Cy,Km,FQ,hle,q1,L5,m5⟩
 refine⟨_,rfl,rfl,aQ,(o.c6 (o.now+100)).e4 0 (((o.c6 (o.now+100)).q 0).MT (Cx,ji+1,Cy)),hle,rfl,y,g1,b1,ps,us,ts,Km,ua,ul,uc,eb,dA,h6,Cx,ji+1,Cy,kc,jS,fo,iH,FQ,jR,q1,hp,h1,h2,h3,h4,aA,aU,rfl,L5,ct,dS,⟨by omega,by omega,by omega⟩,fu,m5⟩
structure N9 (x x':ab) (u:bR) (t:Int):Prop extends IJ u where
 aid:u.aid=1
 Zo:(∀z∈u.cO,0<=z/\z<256)/\u.cO.length<=1000000
 air:u.air<=20000000
 w1:x'.ways.length=x.ways.length+1
 w2:∃i,x'.rQ u.num=some i/\x'.ways[i]?=some u
 kb:∀z∈x'.ways,IU x' z
 fin:∀bs:List Int,(x'.done (t+u.air) u.num bs).2=none
theorem ZF {x':ab} (c:hH N W h w o x R) (iB:N<=999) (hN:0<=o.now/\o.now<=900000000000) (hn:x.num<1000000) (AJ:x.ways.length<=900) (he:x.send (o.now+100) [0,0,0,0]=(x',some u)) (r:N9 x x' u (o.now+100)) (i0:vz x) (a7:Snt W ads):
 aj Tryz.prog 8 #[a8 w, .agg (hK 4 0 tid 0 ad 0 false b).toArray] h λv h'=>v= .bool true/\∃W' o' bs,W.le W'/\o'.now=o.now+100+u.air/\o'.sm=true/\o'.nw=u/\hH (N+1) W' h' w o' (x'.done (o.now+100+u.air) u.num bs).1 R:=by
 obtain⟨y,g,b1,ps,us,ts,gs,ua,ul,uc,eb,dA,h6,lA,ji,gc,kc,jS,fo,iH,fP,jR,q,hp,h1,h2,h3,h4,aA,aU,bW,bJ,ct,dS,fD,fu,m⟩:=c
 obtain⟨mx,w2,aqg⟩:=r.w2
 have kb:=r.kb
 have SB:=r.Zo
 have acv:=r.air
 have acC:=r.Jd
 refine Il _ _ _ _ (m.bb λal _ m1=>?_)
 replace m1:=c4 m1
 refine⟨_,m1.cell 16 rfl 1 rfl,(rD _ _ _ (by decide) (by decide)).ret ⟨_,rfl,⟨by decide,by decide⟩,_,m1.cell 17 rfl 26 rfl,by simp only[fits];omega,xr (o':=o.c6 (o.now+100)) m1 17 rfl 26 rfl rfl λ_ m3=>⟨_,m3.cell 16 rfl 0 rfl,bF (by decide) (bF (by decide) (bF (by decide) (fB rfl ⟨_,m3.bE 16 rfl rfl,?_⟩)))⟩⟩⟩
 clear m m1
 obtain⟨aM,lC⟩:∃aM,aM=o.c6 (o.now+100):=⟨_,rfl⟩
 have F:aM.a=o.a/\aM.q=o.q/\aM.di=o.di/\aM.size=o.size/\aM.now=o.now+100:=by rw[lC];exact⟨rfl,rfl,rfl,rfl,rfl⟩
 rw[<-lC]at m3
 clear lC
 obtain⟨ek,m4⟩:∃ek,aa W _ (aq o.a y g x++dj w aM::ae fo::ae fP::ae iH::ae jR::(cA iG 8 b1 13 ps::[⟨b1,0,ints .u8 (jt 0)++(ints .u8 gP++[.int .i64 16]),none⟩]::[⟨al,0,hK 4 0 tid 0 ad 0 false b,some ek⟩]::R)):=⟨_,(xP m3).jy (Q:=aq o.a y g x++[dj w aM,ae fo,ae fP,ae iH,ae jR,cA iG 8 b1 13 ps,[⟨b1,0,ints .u8 (jt 0)++(ints .u8 gP++[.int .i64 16]),none⟩]])⟩
 clear m3
 refine(aqj (k:=0) (i:=3) (by decide) F.1 rfl dS (F.2.2.1.trans ct) (by rw[F.2.2.2.2];exact he) r.toIJ ⟨by rw[F.2.1,h1,r.aid],by rw[r.aid];decide,λj ah=>by omega⟩ ⟨by rw[F.2.2.2.2];omega,by rw[F.2.2.2.2];omega⟩ hn (by omega) ⟨r.w1,w2,aqg,λz hz=>(kb z hz).n⟩ i0 a7 q m4).mono ?_
 clear m4
 rintro _ CD ⟨rfl,aQ,b0,g1,dQ,lc,Iq,Ir,aqI,tz,q1,rG,aiG,dK,m5⟩
 have m6:aa aQ CD (aq o.a b0 g1 x'++dj w ((aM.cZ u dQ lc).Ef (Iq,1,Ir))::ae fo::ae fP::ae iH::ae aqI::(qM b1 (jt 0) ps++[⟨al,0,hK 4 0 tid 0 ad 0 false b,some ek⟩]::R)):=m5
 clear m5
 obtain⟨cb,sv⟩:∃cb,cb=(aM.cZ u dQ lc).Ef (Iq,1,Ir):=⟨_,rfl⟩
 have G:cb.a=o.a/\cb.q=o.q/\cb.di=(Iq,1,Ir)/\cb.size=16/\cb.now=o.now+100/\cb.sm=true/\cb.nw=u:=by rw[sv];exact⟨F.1,F.2.1,rfl,F.2.2.2.1.trans fu,F.2.2.2.2,rfl,rfl⟩
 rw[<-sv]at m6
 have th:cell CD w 46=some (.slice Iq 1 Ir):=by
  have:=m6.cell 16 rfl 25 rfl (p:=46)
  rw[G.2.2.1]at this;exact this
 have cs:cell CD w 59=some (.bool true):=by
  have:=m6.cell 16 rfl 38 rfl (p:=59)
  rw[G.2.2.2.2.2.1]at this;exact this
 refine⟨_,rfl,aZ rfl ⟨_,cs,aZ rfl ⟨_,_,_,th,by simp only[fits];decide,_,m6.bE 23 rfl rfl,?_⟩⟩⟩
 rw[show(((1:Nat):Int) -1)=0 by decide]
 have:=r.w1
 refine(aqh (k:=0) (me:=jt 0) (by decide) G.1 G.2.2.1 aiG r.toIJ dK SB.1 SB.2 ⟨by rw[G.2.1,h1,r.aid],by rw[r.aid];decide,λj ah=>by omega⟩ (by rw[G.2.1];exact h2) (by rw[G.2.1];exact h3) h4 (by rw[G.2.1];exact aA) aU ⟨by omega,by omega⟩ hp.1 hp.2 rfl (by decide) ⟨by rw[G.2.2.2.2.1];omega,by rw[G.2.2.2.2.1];omega⟩ acv (by omega) kb (by rw[G.2.2.2.2.1];exact r.fin) rG (a7.le tz) q1 m6).mono ?_
 clear m6
 rintro _ Ry ⟨rfl,bu,bs,j2,b8,g2,hF,Hy,NL,al8,amb,ame,amd,alB,alQ,alM,Wf,V1,WR,aqJ,aqK,q2,C9,k3,k4,j6,lf,Dw,Dv,⟨aK,aG,bd,c7,eK,nc,gB,o0,om,vQ⟩,m7⟩
 rw[G.2.2.2.2.1]at q2 m7 aK
 rw[k3]at o0
 rw[j6]at om
 rw[G.2.1]at gB vQ
 have d1:=nc 0
 rw[G.2.1]at d1
 refine⟨_,rfl,rfl,bu,hF,bs,tz.trans j2,aK,eK.trans G.2.2.2.2.2.1,c7.trans G.2.2.2.2.2.2,b8,g2,b1,Hy,NL,al8,gs,amb,ame,amd,alB,alQ,alM,lA,ji,gc,aqJ,aqK,Wf,V1,fP,WR,by rw[aG];exact q2,C9,d1.trans h1,gB.trans h2,k3,k4,j6,lf,vQ.trans bW,bJ,Dw,Dv,⟨by dsimp only at o0;omega,by dsimp only at om;omega,by omega⟩,bd.trans G.2.2.2.1,?_⟩
 rw[aG]
 exact((m7.gD (Q:=aq o.a b8 g2 _++[dj w hF,ae Wf,ae fP,ae V1,ae WR,cA iG 8 b1 13 Hy,[⟨b1,0,ints .u8 (jt 0)++(ints .u8 gP++[.int .i64 16]),none⟩]])).aB)
end
end Go.Proofs.YtjlkfjnfnonekaaGreatDoor
namespace Go.Proofs.YtjlkfjnfnonekaaGreatDoor.Pl
open Go.Vc
structure zu (f:cU):Prop where
 c:f.c=o2
 b:c5 f.l<=1514
structure jo (q:az):Prop where
 ok:c1 q
 f:∀f∈q.a6,zu f
section
variable{q:az} {f g:cU} {p:bh} {k tg iv now:Int} {r:List bh} {P:bL} {n m fl j:Nat}
theorem aka (hf:zu f):(ea tg iv now f).1.rest=o2/\(ea tg iv now f).1.pos=0/\(ea tg iv now f).2=decide (f.l≠[]):=by
 unfold ea
 rw[hf.c]
 cases hl:f.l with
 |nil=>simp[n2,eD,nu,o2,e6.rest]
 |cons p r=>
  have hb:=hf.b
  rw[hl]at hb
  have e:eD now (pY tg) (pY iv) (nu (p::r)) {o2 with bytes:=c5 (p::r),pos:=0}=({o2 with bytes:=c5 (p::r) -max (p.body.length:Int) 0,pos:=0},true,false):=by
   unfold eD
   exact if_pos (.inr (by show c5 (p::r) -max (p.body.length:Int) 0<=1514;omega))
  unfold n2
  rw[e]
  simp[o2,e6.rest]
theorem UG (hf:zu f):dN tg iv now f=f/\kE tg iv now f=[]/\qv tg iv now f=decide (f.l≠[]):=by
 obtain⟨h1,h2,h3⟩:=aka (tg:=tg) (iv:=iv) (now:=now) hf
 refine⟨?_,?_,h3⟩
 ·unfold dN
  rw[h1,h2]
  obtain⟨l,d,c⟩:=f
  have:c=o2:=hf.c
  subst this
  rfl
 ·unfold kE;rw[h2];rfl
theorem jo.ad (hq:jo q) (av:0<=k) (k1:k<16):zu (q.ad k):=hq.f _ (List.mem_of_getElem? (hq.ok.ad av k1).1)
theorem jo.aX (hq:jo q) (av:0<=k) (k1:k<16) (hg:zu g) (aw:pM g) (hl:g.l.length<=(q.ad k).l.length):jo (q.aX k g):=
 ⟨hq.ok.aX av k1 aw hl,λf hf=>by
  rcases List.mem_or_eq_of_mem_set hf with hf|rfl
  ·exact hq.f f hf
  ·exact hg⟩
theorem jo.lists {q':az} (hq:jo q) (aw:c1 q') (gp:q'.a6=q.a6):jo q':=⟨aw,by rw[gp];exact hq.f⟩
theorem jo.over (hq:jo q) (ht:q.turn=some k) (hd:(q.ad k).cE<=0):jo (q.over k)/\(q.over k).hQ<q.hQ:=by
 obtain⟨av,k1⟩:=hq.ok.b k (rM ht)
 have cS:=(hq.ok.ad av k1).2
 have fk:=hq.ad av k1
 have nk:=cS.d0
 have h1:=hq.aX av k1 (g:=(q.ad k).e3 ((q.ad k).cE+300)) ⟨fk.c,fk.b⟩ (Ea cS (by omega) (by omega)) (by simp)
 refine⟨?_,DF hq.ok ht hd⟩
 exact h1.lists ((h1.ok.cr).gN (sO h1.ok (k:=k) ht) av k1) (by unfold az.over az.gN az.cr;split<;>rfl)
theorem jo.xn (hq:jo q) (av:0<=k) (k1:k<16) (hd:0<(q.ad k).cE) (hp:(q.ad k).l=p::r):jo (q.xn k p r):=by
 have cS:=(hq.ok.ad av k1).2
 have fk:=hq.ad av k1
 have h1:=cS.p p (by rw[hp];simp)
 have qf:=cS.d1
 have hb:=fk.b
 rw[hp]at hb
 have nQ:c5 (p::r)=p.body.length+c5 r:=rfl
 refine hq.aX av k1 ⟨fk.c,by show c5 r<=1514;omega⟩ ⟨cS.c,λx hx=>cS.p x (by rw[hp];simp at hx;simp[hx]),?_,?_⟩ (by rw[hp];simp)
 ·simp;omega
 ·simp;omega
theorem alG {n:Nat} {d:List bh} (hq:jo q) (ht:q.turn=some k) (hd:0<(q.ad k).cE) (hp:(q.ad k).l=p::r):takeN now (n+1) q d=(q.xn k p r,d,some p):=by
 obtain⟨av,k1⟩:=hq.ok.b k (rM ht)
 obtain⟨h1,h2,h3⟩:=UG (tg:=q.tg) (iv:=q.iv) (now:=now) (hq.ad av k1)
 rw[Er ht (by omega) (by rw[h3,hp];simp) (by rw[h1];exact hp),h1,h2,List.append_nil]
 rfl
theorem Ia:∀(n:Nat) {q:az} {d:List bh},q.hQ<n->jo q->(takeN now n q d).2.1=d/\jo (takeN now n q d).1
 |0,q,d,hm,_=>by omega
 |n+1,q,d,hm,hc=>by
  have hq:=hc.ok
  cases ht:q.turn with
  |none=>rw[H9 ht];exact⟨rfl,hc⟩
  |some k=>
   obtain⟨av,k1⟩:=hq.b k (rM ht)
   by_cases hd:(q.ad k).cE<=0
   ·obtain⟨h1,h2⟩:=hc.over ht hd
    rw[Et ht hd]
    exact Ia n (by unfold az.over at h2;omega) h1
   ·obtain⟨h1,h2,h3⟩:=UG (tg:=q.tg) (iv:=q.iv) (now:=now) (hc.ad av k1)
    cases hl:(q.ad k).l with
    |cons p r=>
     rw[alG hc ht (by omega) hl]
     exact⟨rfl,hc.xn av k1 (by omega) hl⟩
    |nil=>
     have ez:qv q.tg q.iv now (q.ad k)=false:=by rw[h3,hl];simp
     have nS:=DE (g:=q.ad k) hq ht hd rfl
     have mn:jo (q.aX k (q.ad k)):=hc.aX av k1 (hc.ad av k1) (hq.ad av k1).2 (Nat.le_refl _)
     by_cases ow:q.fresh≠[]/\q.b2≠[]
     ·rw[H8 ht hd ez ow,h1,h2,List.append_nil]
      exact Ia n (by have:=nS.2 ow.1;omega) (mn.lists ((mn.ok.cr).gN (sO mn.ok (k:=k) ht) av k1) (by unfold az.gN az.cr;split<;>rfl))
     ·rw[Ep ht hd ez ow,h1,h2,List.append_nil]
      exact Ia n (by have:=nS.1;omega) (mn.lists mn.ok.cr (by unfold az.cr;split<;>rfl))
theorem jo.take (hc:jo q) (w:jW q) (cp:0<=now) (bC:now<=1125899906842624) (hn:0<q.bB):∃q' p,q.take now=(q',[],some p)/\jo q'/\jW q'/\q'.bB+1=q.bB/\p∈cc q.a6/\∀x∈cc q'.a6,x∈cc q.a6:=by
 have h1:=Bq (now:=now) cp bC w
 obtain⟨h2,h3⟩:=Ia (now:=now) (q.hQ+1) (d:=[]) (Nat.lt_succ_self _) hc
 have h4:=h1.bB w.ok
 obtain⟨aA,aU⟩:=h1.sub w.ok
 have bW:=h1.none
 have bJ:=h1.w
 unfold az.take at*
 generalize takeN now (q.hQ+1) q []=aJ at*
 obtain⟨q',d,r⟩:=aJ
 dsimp only at*
 subst h2
 cases r with
 |none=>
  have:q'.bB=0:=by
   rw[Fw bJ.ok]
   have:lK (λj=>(q'.ad (j:Int)).l.length) 16=lK (λ_=>0) 16:=En λj ah=>by rw[bW rfl (j:Int) (by omega) (by omega)];rfl
   rw[this];decide
  simp at h4;omega
 |some p=>exact⟨q',p,rfl,h3,bJ,by simp at h4;omega,aU p (by simp),aA⟩
theorem abO {f:cU} (hf:f∈q.a6):∀p∈f.l,p∈cc q.a6:= λp hp=>List.mem_flatten.2 ⟨f.l,List.mem_map.2 ⟨f,hf,rfl⟩,hp⟩
theorem jo.put (hq:jo q) (h0:0<=p.at_) (h1:p.at_<=1125899906842624) (hl:p.body.length<=200) (hb:∀x∈cc q.a6,x.body.length<=200) (hc:q.bB<=4):jo (q.put p):=by
 obtain⟨av,k1⟩:=zJ p.ad q.bf
 refine⟨(hq.ok.put h0 h1 (by omega) (by omega)).1,λf hf=>?_⟩
 have fk:=hq.ad av k1
 have gp:=hq.ok.ad av k1
 have c9:=te gp.1
 have uJ:=zM (N:=200) (l:=(q.ad (db p.ad q.bf)).l) λx hx=>hb x (abO (List.mem_of_getElem? gp.1) x hx)
 have key:zu ((q.ad (db p.ad q.bf)).bG ((q.ad (db p.ad q.bf)).l++[p])):=⟨fk.c,by
  show c5 ((q.ad (db p.ad q.bf)).l++[p])<=1514
  have:c5 [p]=p.body.length:=by simp[c5]
  have:q.bB=et q.a6:=rfl
  rw[B6];omega⟩
 unfold az.put at hf
 dsimp only at hf
 split at hf
 ·rcases List.mem_or_eq_of_mem_set hf with hf|rfl
  ·exact hq.f f hf
  ·exact key
 ·rcases List.mem_or_eq_of_mem_set hf with hf|rfl
  ·exact hq.f f hf
  ·exact⟨key.c,key.b⟩
structure ho (P:bL) (fl n m:Nat):Prop where
 ok:eT P
 mp:P.mp=40/\P.cF=8000
 sh:jo (P.b7 fl)
 rj:(P.b7 fl).bB=m
 n0:∀j,j<128->j≠fl->(P.b7 j).bB=0
 aT:P.len=m
 kB:∀p∈P.all,p.body=List.replicate n 0
theorem ho.new (bf tg iv:Int) (I:fl<128):ho (ln bf tg iv 40 8000) fl n 0:=by
 refine⟨Mq _ _ _ (by decide) (by decide) (by decide) (by decide),⟨rfl,rfl⟩,?_,by rw[Mp];rfl,λj _ _=>by rw[Mp];rfl,AU ..,λp hp=>?_⟩
 ·rw[Mp]
  exact⟨US _ _ _,λf hf=>by simp[pC]at hf;subst hf;exact⟨rfl,by simp[v7,c5]⟩⟩
 ·have h:=AU bf tg iv 40 8000
  rw[bL.rA]at h
  rw[List.length_eq_zero_iff.1 h]at hp;cases hp
theorem Xy {l:List az} {q:az} (hq:q∈l):∀p∈cc q.a6,p∈r9 l:= λp hp=>List.mem_flatten.2 ⟨cc q.a6,List.mem_map.2 ⟨q,hq,rfl⟩,hp⟩
theorem ho.HE (c:ho P fl n m) (I:fl<128):∀p∈cc (P.b7 fl).a6,p∈P.all:=Xy (List.mem_of_getElem? (c.ok.b7 I).1)
theorem ho.set {q':az} {ax:Nat} (c:ho P fl n m) (I:fl<128) (w:jW q') (s:jo q') (hc:q'.bB=ax) (ok:eT (P.set fl q')) (hb:∀p∈cc q'.a6,p.body=List.replicate n 0):ho (P.set fl q') fl n ax:=by
 have h1:=tH (q:=q') c.ok I
 refine⟨ok,c.mp,by rw[UW c.ok I];exact s,by rw[UW c.ok I];exact hc,λj ah b6=>by rw[ajA b6];exact c.n0 j ah b6,by rw[c.rj,c.aT,hc]at h1;omega,λp hp=>?_⟩
 have:=(BX (q:=q') c.ok I).mem_iff.1 (List.mem_append_left _ hp)
 rcases List.mem_append.1 this with h|h
 ·exact c.kB p h
 ·exact hb p h
theorem ho.put (c:ho P fl n m) (I:fl<128) (hm:m<=3) (hn:n<=199) (h0:0<=p.at_) (h1:p.at_<=1125899906842624) (hl:p.body=List.replicate n 0):P.put fl p=(P.set fl ((P.b7 fl).put p),[])/\ho (P.set fl ((P.b7 fl).put p)) fl n (m+1):=by
 have hq:=c.ok.b7 I
 have gr:p.body.length=n:=by rw[hl,List.length_replicate]
 have qd:∀x∈P.all,x.body.length=n:= λx hx=>by rw[c.kB x hx,List.length_replicate]
 obtain⟨-,uK⟩:=hq.2.ok.put h0 h1 (by omega) (by have:=c.rj;omega)
 have hall:=UL (p:=p) hq.2.ok
 have s:=c.sh.put h0 h1 (by omega) (λx hx=>by have:=qd x (c.HE I x hx);omega) (by have:=c.rj;omega)
 have w:=(hq.2.put h0 h1 (by omega) (by have:=c.rj;omega)).1
 have aG:ho (P.set fl ((P.b7 fl).put p)) fl n (m+1):=c.set I w s (by rw[uK,c.rj]) (c.ok.set w) λx hx=>by
  rcases List.mem_cons.1 (hall.mem_iff.1 hx)with rfl|hx
  ·exact hl
  ·exact c.kB x (c.HE I x hx)
 refine⟨?_,aG⟩
 unfold bL.put bL.qJ
 refine VC ?_
 have uJ:(P.set fl ((P.b7 fl).put p)).e9<=n*(m+1:Nat):=by
  rw[bL.Fq,<-aG.aT,bL.rA];exact zM λx hx=>by rw[aG.kB x hx,List.length_replicate];exact Nat.le_refl _
 have qj:=aG.mp
 have gr:=aG.aT
 have:((n:Int)*((m+1:Nat):Int))<=199*4:=Int.mul_le_mul (by omega) (by omega) (by omega) (by omega)
 rw[qj.1,qj.2,gr];omega
theorem ho.take (c:ho P fl n (m+1)) (I:fl<128) (cp:0<=now) (bC:now<=1125899906842624):∃kX p,P.take fl now=(kX,[],some p)/\ho kX fl n m/\p.body=List.replicate n 0:=by
 have hq:=c.ok.b7 I
 obtain⟨q',p,e,s,w,hc,hp,hs⟩:=c.sh.take hq.2 cp bC (by rw[c.rj];omega)
 have mn:q'.bB=m:=by have:=c.rj;omega
 refine⟨P.set fl q',p,by unfold bL.take;rw[e],c.set I w s mn (c.ok.set w) λx hx=>c.kB x (c.HE I x (hs x hx)),c.kB p (c.HE I p hp)⟩
end
end Go.Proofs.YtjlkfjnfnonekaaGreatDoor.Pl
