import Derived.Test.YtjlkfjnfnonekaaGreatDoorM38
set_option linter.all false
set_option maxRecDepth 8000
namespace Go.Proofs.YtjlkfjnfnonekaaGreatDoor
open Go.Vc
section
variable{W W' aQ:Wd} {h h':J} {R:List aL} {a:Nat} {y:cR} {g:cQ} {x:ab} {i j k t n:Nat} {v:Value} {A B:aL} {s s':ba} {b:Nat} {aid tid ac now:Int} {ads:List Addr} {P:Pl.bL} {u:bR} {p:bh} {l all:List cq} {vs:List Value} {cg:Option Addr} {bZ:Nat} {E:ao} {r:bo} {mm:lP} {f:cq} {alone:Bool}
theorem zS (hn:¬(0<(x.aT aid tid).s.w.room/\ib r mm (c2 all++[1526])=true)):∀n,ab.k8 r mm aid tid n x all=(x,all)
 |0=>rfl
 |n+1=>by rw[ab.k8,if_neg hn]
theorem Ca (hn:0<(x.aT aid tid).s.w.room/\ib r mm (c2 all++[1526])=true) (hf:(x.fresh aid tid).2=none):ab.k8 r mm aid tid (n+1) x all=((x.fresh aid tid).1,all):=by
 rw[ab.k8,if_pos hn]
 split
 ·rename_i e;rw[e]
 ·rename_i e;rw[e]at hf;cases hf
theorem Cb (hn:0<(x.aT aid tid).s.w.room/\ib r mm (c2 all++[1526])=true) (hf:(x.fresh aid tid).2=some f):ab.k8 r mm aid tid (n+1) x all=ab.k8 r mm aid tid n (x.fresh aid tid).1 (all++[f]):=by
 rw[ab.k8,if_pos hn]
 split
 ·rename_i e;rw[e]at hf;cases hf
 ·rename_i e;rw[e]at hf;cases hf;rw[e]
theorem ej.len (c:ej x aid t s l):l.length<=64:=by rw[c.l,List.length_map];exact c.i.ok.n
theorem ej.Fl (c:ej x aid t s l):∀m∈l,q4 m.p:=by
 intro m hm
 rw[c.l]at hm
 obtain⟨f,hf,rfl⟩:=List.mem_map.1 hm
 exact(c.i.f f hf).1
theorem ej.due (c:ej x aid t s l):(s.l.getD t ak).s.due=l:=by
 rw[c.l]
 unfold aS.due
 rw[List.filter_eq_self.2 λf hf=>by unfold Dq;rw[c.a6 f hf];rfl]
theorem ej.xf (c:ej x aid t s []):(s.l.getD t ak).s.w.room≠0:=by
 have hl:(s.l.getD t ak).s.l=[]:=by have:=c.l;exact(List.map_eq_nil_iff.1 this.symm)
 have aw:(s.l.getD t ak).s.w.out=[]:=by rw[c.i.l,hl];rfl
 have:=c.i.w.e aw
 have hz:=c.i.w.z
 unfold eV.room
 rw[this]
 unfold cC
 omega
theorem ej.MJ (c:ej x aid t s l):(x.aT aid t).s.w.room=(s.l.getD t ak).s.w.room:=by rw[ab.hj c.hs]
theorem ej.ajT (c:ej x aid t s l):(s.l.getD t ak).s.w.room<=64:=by
 have:=c.i.w.z
 have:=(vW (s.l.getD t ak).s.w.st (s.l.getD t ak).s.w.dD).1
 unfold eV.room;omega
def Iy (W:Wd) (a:Nat) (y:cR) (aid:Int) (t:Nat) (R:List aL) (aJ:ab×List cq×Bool) (v:Value) (h:J):Prop:=
 ∃W' g' ar cJ vs F,W.le W'/\v= .tuple #[.slice ar aJ.2.1.length cJ, .bool aJ.2.2]/\au ar aJ.2.1.length cJ 8 vs F/\bX (eS W') aJ.2.1 vs/\aH W' a y g' aJ.1/\aa W' h (aq a y g' aJ.1++ae F::R)/\bl aJ.1/\(aJ.2.1≠[]->∃s' all n,ej aJ.1 aid t s' all/\aJ.2.1=all.take n)
theorem ej.L2 (c:ej x aid t s l) (U:(s.l.getD t ak).s.w.room≠0) (ht:t<8) (hf:(x.fresh aid t).2=none):ej (x.fresh aid t).1 aid t s l:=by
 cases e:(x.bK.gy aid t x.now).2.2 with
 |none=>rw[Ag e];exact⟨c.ok.take,c.hs,c.i,c.st,c.q,c.a6,c.l,c.e⟩
 |some p=>rw[yd e]at hf;cases hf
structure jq (u:bR):Prop where
 bss:u.bss.length=6
 to:u.to.length=6
theorem amp {uc:Nat} {ua:Option Addr} (n:jq u) (j:Nat):(fX u ua uc)[28+j]?=([.int .i64 u.start, .int .i64 u.size, .int .i64 u.most, .int .i64 u.ticks, .bool u.HQ]:List Value)[j]?:=by
 obtain⟨al,aP,bx,dO,fh,ey,p5⟩:=fV n.bss
 obtain⟨aK,aG,bd,c7,eK,nc,cP⟩:=fV n.to
 unfold fX
 rw[p5,cP]
 rw[Nat.add_comm];rfl
theorem T9 {c n sz:Nat} (o:au cg n c sz vs E):en cg 0 c 0=cg:=by
 rcases o with⟨rfl,_⟩|⟨b,o,j,rest,t,T,rfl,_⟩
 ·unfold en;split<;>rfl
 ·unfold en;split
  ·rfl
  ·rfl
theorem P5:0<=(iz r mm (c2 all)).1/\((iz r mm (c2 all)).1<=all.length):=by
 have key:∀n k,ri r mm (c2 all) n=some k->k<=n:=by
  intro n
  induction n with
  |zero=>intro k h;cases h
  |succ n b9=>
   intro k h
   rw[ri]at h
   split at h
   ·cases h;exact Nat.le_refl _
   ·have:=b9 k h;omega
 have ou:(c2 all).length=all.length:=by unfold c2;simp
 unfold iz
 split
 ·rename_i n hn
  have:=key _ _ hn
  exact⟨by show(0:Int)<=(n:Int);omega,by show(n:Int)<=_;omega⟩
 ·split
  ·rename_i h;exact⟨by decide,by show(1:Int)<=_;omega⟩
  ·exact⟨Int.le_refl _,by show(0:Int)<=_;omega⟩
theorem Cc (h0:(x.aT aid tid).s.due.length≠0) {ticks:Int}:x.choose r aid tid ticks alone=x.jZ r ⟨(x.aT aid tid).s.w.sz,x.c.ix,ticks⟩ aid tid alone (x.aT aid tid).s.due:=by
 unfold ab.choose;rw[if_neg h0]
theorem Cd (h0:(x.aT aid tid).s.due.length=0) {ticks:Int} (hf:(x.fresh aid tid).2=none):x.choose r aid tid ticks alone=((x.fresh aid tid).1,[],false):=by
 unfold ab.choose;rw[if_pos h0]
 split
 ·rename_i e;rw[e]
 ·rename_i e;rw[e]at hf;cases hf
theorem Ce (h0:(x.aT aid tid).s.due.length=0) {ticks:Int} (hf:(x.fresh aid tid).2=some f):x.choose r aid tid ticks alone=(x.fresh aid tid).1.jZ r ⟨(x.aT aid tid).s.w.sz,x.c.ix,ticks⟩ aid tid alone [f]:=by
 unfold ab.choose;rw[if_pos h0]
 split
 ·rename_i e;rw[e]at hf;cases hf
 ·rename_i e;rw[e]at hf;cases hf;rw[e]
set_option maxHeartbeats 4000000 in
theorem X3 {bp:Nat} {ua:Option Addr} {uc:Nat} {g:cQ} (c:ej x u.aid t s all) (a7:Snt W ads) (q:aH W a y g x) (un:jq u) (hb:y.b1 (aD u.aid)=some b) (eB:u.tid=t) (ht:t<8) (m:aa W h (aq a y g x++cG bp u ua uc::R)):
 aj Tryz.prog 199 #[a8 a,a8 bp, .pointer (some ⟨b,6+t*5,none⟩), .agg (cK r).toArray, .bool alone] h (Iy W a y u.aid t (cG bp u ua uc::R) (x.choose r u.aid u.tid u.ticks alone)):=by
 rw[eB]
 obtain⟨mm,wz⟩:∃mm:lP,mm=⟨(s.l.getD t ak).s.w.sz,x.c.ix,u.ticks⟩:=⟨_,rfl⟩
 have h9:=ab.hj (t:=t) c.hs
 refine amM _ _ _ _ _ _ _ (m.bb λqK h1 m1=>?_)
 replace m1:=c4 m1
 refine⟨λmp h=>∃cF,mp=some ⟨cF,0,none⟩/\aa W h (aq a y g x++[⟨cF,0,mA mm,some 380⟩]::[⟨qK,0,cK r,some 55⟩]::cG bp u ua uc::R),?_,λ_=>?_⟩
 ·have Kv:∀{h:J} {R:List aL},aa W h (aq a y g x++R)->cell h a 14=some (.int .i64 x.c.ix):= λm=>uk c.ok.toeG m 8 rfl
  have dH:(fX u ua uc)[31]?=some (.int .i64 u.ticks):=amp un 3
  refine aN ⟨_,lh c.ok.toeG c.hs hb ht m1 (j:=0) rfl _,_,Kv m1,aN ⟨_,m1.cell 17 rfl 31 dH,?_,λfh aA af ag=>?_⟩⟩
  ·refine(Jk c.ok q c.hs hb ht m1).ret ⟨_,rfl,m1.cell 17 rfl 31 dH,Kv m1,m1.bb λdO h3 m3=>m3.c8 0 rfl rfl rfl (by intro u hu;simp at hu;rcases hu with rfl|rfl|rfl<;>rfl) λh4 m4=>⟨dO,rfl,?_⟩⟩
   rw[wz];exact c4 m4
  ·have m5:=c4 (m1.push af ag)
   refine(Jk c.ok q c.hs hb ht m5).ret ⟨_,rfl,m5.cell 18 rfl 31 dH,Kv m5,m5.c8 16 rfl rfl rfl (by intro u hu;simp at hu;rcases hu with rfl|rfl|rfl<;>rfl) λh4 m4=>⟨fh,rfl,?_⟩⟩
   rw[wz];exact m4
 clear m m1
 rintro _ bJ ⟨cF,rfl,m⟩
 refine aN ⟨_,lh c.ok.toeG c.hs hb ht m (j:=0) rfl _,(Jf c.ok q c.hs hb ht m).mono ?_⟩
 rintro _ ct ⟨aQ,a1,aK,vs,F,jj,rfl,o,hq,q1,m1⟩
 clear m q
 have sT:=a7
 replace a7:=a7.le jj
 have ss:=c.due
 rw[ss]at o hq⊢
 refine⟨_,_,_,rfl,?_⟩
 refine⟨λkg aO ac h=>∃(bu:Wd) (aY:ab) (s2:ba) (aF vs:List _) (F:ao) (g2:cQ),W.le bu/\aO=aF.length/\aF≠[]/\x.choose r u.aid t u.ticks alone=aY.jZ r mm u.aid t alone aF/\ej aY u.aid t s2 aF/\au kg aF.length ac 8 vs F/\bX (eS bu) aF vs/\aH bu a y g2 aY/\
  aa bu h (aq a y g2 aY++ae F::[⟨cF,0,mA mm,some 380⟩]::[⟨qK,0,cK r,some 55⟩]::cG bp u ua uc::R),?_,λ_=>?_⟩
 ·refine aC (λaK=>?_) λaK=>?_
  ·have ld:all=[]:=List.length_eq_zero_iff.1 (by omega)
   subst ld
   have nk:(x.aT u.aid t).s.due.length=0:=by rw[h9,ss];rfl
   replace m1:aa aQ ct (aq a y g x++cG bp u ua uc::ae F::[⟨cF,0,mA mm,some 380⟩]::[⟨qK,0,cK r,some 55⟩]::R):=
    aa.jy (Q:=aq a y g x) ((aa.gD (Q:=aq a y g x++ae F::[⟨cF,0,mA mm,some 380⟩]::[[⟨qK,0,cK r,some 55⟩]]) (R:=R) (A:=cG bp u ua uc) m1))
   refine(O1 c.ok a7 q1 c.hs hb eB ht c.st c.q c.xf (λp hp=>(c.i.fresh c.xf hp).ok) m1).mono ?_
   rw[eB]
   rintro _ dS ⟨eJ,g3,cs,fa,rfl,dT,aE,m3⟩
   replace m3:aa eJ dS (aq a y g3 (x.fresh u.aid t).1++ae F::[⟨cF,0,mA mm,some 380⟩]::[⟨qK,0,cK r,some 55⟩]::cG bp u ua uc::R):=
    aa.jy (Q:=aq a y g3 (x.fresh u.aid t).1++ae F::[⟨cF,0,mA mm,some 380⟩]::[[⟨qK,0,cK r,some 55⟩]]) (R:=R) (A:=cG bp u ua uc) (aa.gD (Q:=aq a y g3 (x.fresh u.aid t).1) m3)
   obtain⟨sR,f3,eN⟩:=c.fresh ht c.xf
   refine⟨_,_,rfl,m3.bb λey fD m4=>m4.c8 0 rfl dT.len rfl dT.one λfu m5=>bH (λaG=>?_) λaG=>?_⟩
   ·obtain⟨af,ag⟩:=Kj (d:=qB) (pU aG)
    rw[Cd nk ag]
    exact⟨eJ,g3,none,0,[],[],jj.trans fa,rfl,au.nil,rfl,aE,c4 (cI (cI (cI (m5.aB)))).hU,(c.L2 c.xf ht ag).ok,λh=>absurd rfl h⟩
   ·have ag:=Kk (d:=qB) (sb aG)
    rcases eN with⟨hno,-⟩|⟨RZ,acN,-⟩
    ·rw[hno]at ag;cases ag
    rw[RZ]at dT
    replace dT:eS eJ f3 cs:=dT
    refine⟨cs,m5.bE 0 rfl dT.len.symm,dT.len,?_⟩
    refine o.kA m5 17 rfl (us:=cs++[]) (by rw[List.append_nil];exact dT.len) (by rw[List.append_nil];exact dT.one) (by decide) (by decide) λhJ gB qZ bW m7 gv=>?_
    refine⟨eJ,(x.fresh u.aid t).1,sR,[f3],vs++(cs++[]),qZ,g3,jj.trans fa,rfl,by simp,?_,acN,gv,?_,aE,m7.aB⟩
    ·rw[Ce nk RZ,h9,wz]
    ·rw[List.append_nil]
     exact(hq.mono λ_ _=>eS.le fa).snoc dT
  ·have b6:all≠[]:= λe=>aK (by rw[e];rfl)
   exact⟨aQ,x,s,all,vs,F,g,jj,rfl,b6,by rw[Cc (by rw[h9,ss];exactλe=>b6 (List.length_eq_zero_iff.1 e)),h9,ss,wz],c,o,hq,q1,m1⟩
 clear m1 q1 o hq c ss h9 wz
 rintro kg _ ac pa ⟨bu,aY,s2,aF,vs,F,g2,dv,rfl,b6,nj,c,o,hq,q,m⟩
 rw[nj]
 clear nj
 have Bm:=a7
 have hlen:=c.len
 have pe:=o.le
 have sw:0<aF.length:=List.length_pos_iff.2 b6
 have F2:∀m∈aF,m.p.body.length<=1000000:= λm hm=>by have:=(c.Fl m hm).1;omega
 refine bH (λaK=>?_) λaK=>?_
 ·refine⟨⟨by omega,by omega,by omega⟩,?_⟩
  rw[T9 o]
  have Aa:aY.jZ r mm u.aid t alone aF=(aY,aF.take 1,false):=by unfold ab.jZ;rw[if_pos aK]
  rw[Aa]
  have af:(aF.take 1).length=1:=by rw[List.length_take];omega
  refine⟨bu,g2,kg,ac,vs.take (1*8),F,dv,?_,?_,?_,q,?_,c.ok,λ_=>⟨s2,aF,1,c,rfl⟩⟩
  ·rw[af]
  ·rw[af];exact o.head 1 (by omega)
  ·exact hq.take (λ_ _ h=>h.len) 1
  ·exact(m.free 17 rfl).free 17 rfl
 have mq:aF.length<=4096:=by omega
 refine⟨_,m.bE 18 rfl rfl,aN ⟨_,m.bE 17 rfl rfl,(O6 o hq mq F2 (xP m)).mono ?_⟩⟩
 rintro _ rn ⟨ar,cJ,kt,rfl,aM,m2⟩
 have yo:(c2 aF).length=aF.length:=by unfold c2;simp
 refine⟨_,_,_,rfl,m2.bE 18 rfl rfl,m2.bE 19 rfl rfl,(YG m2 (pO.own aM (i:=0) rfl) (by omega) aM.le).mono ?_⟩
 rintro _ ov ⟨rfl,m3⟩
 replace m3:=c4 m3.aB
 obtain⟨av,k1⟩:=P5 (r:=r) (mm:=mm) (all:=aF)
 have short:(iz r mm (c2 aF)).1<aF.length\/(iz r mm (c2 aF)).2=false->(0<=(0:Int)/\(0:Int)<=(iz r mm (c2 aF)).1/\(iz r mm (c2 aF)).1<=((ac:Nat):Int))/\
  Iy W a y u.aid t (cG bp u ua uc::R) (aY.jZ r mm u.aid t alone aF) (.tuple #[.slice (en kg 0 ac 0) (iz r mm (c2 aF)).1.toNat ac, .bool (iz r mm (c2 aF)).2]) ov:= λhs=>by
  refine⟨⟨by omega,av,by omega⟩,?_⟩
  rw[T9 o]
  have Aa:aY.jZ r mm u.aid t alone aF=(aY,aF.take (iz r mm (c2 aF)).1.toNat,(iz r mm (c2 aF)).2):=by unfold ab.jZ;rw[if_neg (by rw[aK];decide),if_pos hs]
  rw[Aa]
  have af:(aF.take (iz r mm (c2 aF)).1.toNat).length=(iz r mm (c2 aF)).1.toNat:=by rw[List.length_take];omega
  refine⟨bu,g2,kg,ac,vs.take ((iz r mm (c2 aF)).1.toNat*8),F,dv,?_,?_,?_,q,?_,c.ok,λ_=>⟨s2,aF,_,c,rfl⟩⟩
  ·rw[af]
  ·rw[af];exact o.head _ (by omega)
  ·exact hq.take (λ_ _ h=>h.len) _
  ·exact(m3.free 17 rfl).free 17 rfl
 refine⟨_,_,rfl,aC (λaG=>short (.inl aG)) λaG=>bH (λbd=>short (.inr (pU bd))) λbd=>?_⟩
 have Aa:aY.jZ r mm u.aid t alone aF=((ab.k8 r mm u.aid t 64 aY aF).1,(ab.k8 r mm u.aid t 64 aY aF).2,true):=by
  unfold ab.jZ;rw[if_neg (by rw[aK];decide),if_neg (λhc=>hc.elim aG (λh=>by rw[sb bd]at h;cases h))]
 rw[Aa]
 obtain⟨res,gX⟩:∃res,res=ab.k8 r mm u.aid t 64 aY aF:=⟨_,rfl⟩
 rw[<-gX]
 clear Aa short
 refine⟨λiN aO ac h=>∃(n:Nat) (eJ:Wd) (bz:ab) (sR:ba) (dw vs:List _) (F:ao) (g3:cQ),W.le eJ/\aO=dw.length/\dw≠[]/\ab.k8 r mm u.aid t n bz dw=res/\(sR.l.getD t ak).s.w.room<=n/\ej bz u.aid t sR dw/\au iN dw.length ac 8 vs F/\bX (eS eJ) dw vs/\aH eJ a y g3 bz/\
  aa eJ h (aq a y g3 bz++ae F::[⟨cF,0,mA mm,some 380⟩]::[⟨qK,0,cK r,some 55⟩]::cG bp u ua uc::R),λ_ aO _ _=>65 -aO,
  ⟨64,bu,aY,s2,aF,vs,F,g2,dv,rfl,b6,gX.symm,c.ajT,c,o,hq,q,m3⟩,λ_=>?_⟩
 clear m m2 m3 q hq o aM c hlen pe sw F2 av k1 gX mq yo aG bd dv
 rintro iN _ ac we ⟨n,eJ,bz,sR,dw,vs,F,g3,fa,rfl,arK,gX,mu,c,o,hq,q,m⟩
 have hlen:=c.len
 have F2:∀m∈dw,m.p.body.length<=1000000:= λm hm=>by have:=(c.Fl m hm).1;omega
 have fin:∀{oh:Wd} {bq:ab} {Bg:ba} {g4:cQ} {h:J},eJ.le oh->(bq,dw)=res->ej bq u.aid t Bg dw->aH oh a y g4 bq->aa oh h (aq a y g4 bq++ae F::[⟨cF,0,mA mm,some 380⟩]::[⟨qK,0,cK r,some 55⟩]::cG bp u ua uc::R)->
  Iy W a y u.aid t (cG bp u ua uc::R) (res.1,res.2,true) (.tuple #[.slice iN dw.length ac, .bool true]) h:= λmq uy c7 bP m4=>by
  rw[<-uy]
  exact⟨_,_,iN,ac,vs,F,fa.trans mq,rfl,o,hq.mono λ_ _=>eS.le mq,bP,(m4.free 17 rfl).free 17 rfl,c7.ok,λ_=>⟨_,dw,dw.length,c7,by rw[List.take_length]⟩⟩
 refine aN ⟨_,lh c.ok.toeG c.hs hb ht m (j:=0) rfl _,(Pb c.ok q c.hs hb ht m).ret ⟨_,rfl,aC (λaG=>?_) λaG=>?_⟩⟩
 ·refine⟨_,m.bE 18 rfl rfl,aN ⟨_,m.bE 17 rfl rfl,(O6 o hq (by omega) F2 (xP m)).mono ?_⟩⟩
  rintro _ qa ⟨ar,cJ,kt,rfl,aM,m2⟩
  have yo:(c2 dw).length=dw.length:=by unfold c2;simp
  refine⟨_,_,_,rfl,m2.bE 18 rfl rfl,m2.bE 19 rfl rfl,(UU _ (by decide)).ret ⟨_,rfl,m2.bE 18 rfl rfl,m2.bE 19 rfl rfl,?_⟩⟩
  refine aM.kA m2 0 rfl (us:=[.int .i64 (26+max (1500:Int) 0)]) rfl (by intro u hu;simp at hu;subst hu;rfl) (by omega) (by decide) λhJ gB qZ bW m7 gv=>?_
  replace m7:aa eJ bW (ae qZ::ae F::(aq a y g3 bz++[⟨cF,0,mA mm,some 380⟩]::[⟨qK,0,cK r,some 55⟩]::cG bp u ua uc::R)):=m7
  have h8:ints .i64 (c2 dw)++[.int .i64 (26+max (1500:Int) 0)]=ints .i64 (c2 dw++[1526]):=by rw[kI];rfl
  have GM:(c2 dw).length+1=(c2 dw++[1526]).length:=by rw[List.length_append];rfl
  rw[h8,GM]at gv
  rw[GM]
  refine⟨m7.bE 18 rfl rfl,m7.bE 19 rfl rfl,(Pm m7 (pO.own gv (i:=0) rfl) (by omega)).mono ?_⟩
  rintro _ CB ⟨rfl,m8⟩
  replace m8:=c4 m8.aB
  refine⟨_,rfl,bH (λbd=>?_) λbd=>?_⟩
  ·have Az:(sR.l.getD t ak).s.w.room≠0:=by omega
   have Sv:0<(bz.aT u.aid t).s.w.room/\ib r mm (c2 dw++[1526])=true:=⟨by rw[c.MJ];exact aG,bd⟩
   obtain⟨wS,rfl⟩:∃wS,n=wS+1:=⟨n -1,by omega⟩
   replace m8:aa eJ CB (aq a y g3 bz++cG bp u ua uc::ae F::[⟨cF,0,mA mm,some 380⟩]::[⟨qK,0,cK r,some 55⟩]::R):=
    aa.jy (Q:=aq a y g3 bz) ((aa.gD (Q:=aq a y g3 bz++ae F::[⟨cF,0,mA mm,some 380⟩]::[[⟨qK,0,cK r,some 55⟩]]) (R:=R) (A:=cG bp u ua uc) m8))
   refine(O1 c.ok (sT.le fa) q c.hs hb eB ht c.st c.q Az (λp hp=>(c.i.fresh Az hp).ok) m8).mono ?_
   rw[eB]
   rintro _ dS ⟨oh,g4,cs,mq,rfl,dT,bP,m4⟩
   replace m4:aa oh dS (aq a y g4 (bz.fresh u.aid t).1++ae F::[⟨cF,0,mA mm,some 380⟩]::[⟨qK,0,cK r,some 55⟩]::cG bp u ua uc::R):=
    aa.jy (Q:=aq a y g4 (bz.fresh u.aid t).1++ae F::[⟨cF,0,mA mm,some 380⟩]::[[⟨qK,0,cK r,some 55⟩]]) (R:=R) (A:=cG bp u ua uc) (aa.gD (Q:=aq a y g4 (bz.fresh u.aid t).1) m4)
   obtain⟨akm,f5,eN⟩:=c.fresh ht Az
   refine⟨_,_,rfl,m4.bb λey fD m5=>m5.c8 0 rfl dT.len rfl dT.one λfu m6=>bH (λc7=>?_) λc7=>?_⟩
   ·obtain⟨af,ag⟩:=Kj (d:=qB) (pU c7)
    exact fin mq (by rw[<-gX,Ca Sv ag]) (c.L2 Az ht ag) bP m6.aB
   ·have ag:=Kk (d:=qB) (sb c7)
    rcases eN with⟨hno,-⟩|⟨R0,RQ,arW⟩
    ·rw[hno]at ag;cases ag
    rw[R0]at dT
    replace dT:eS oh f5 cs:=dT
    refine⟨cs,m6.bE 0 rfl dT.len.symm,dT.len,?_⟩
    refine o.kA m6 17 rfl (us:=cs++[]) (by rw[List.append_nil];exact dT.len) (by rw[List.append_nil];exact dT.one) (by omega) (by decide) λhJ gB qZ bW m7 gv=>?_
    have Sf:=RQ.len
    have cy:dw.length+1=(dw++[f5]).length:=by rw[List.length_append];rfl
    rw[cy]at gv
    refine⟨⟨wS,oh,(bz.fresh u.aid t).1,akm,dw++[f5],vs++(cs++[]),qZ,g4,fa.trans mq,cy,by simp,by rw[<-gX,Cb Sv R0],by omega,RQ,gv,?_,bP,m7.aB⟩,by rw[List.length_append]at Sf;simp at Sf;dsimp only;omega⟩
    rw[List.append_nil]
    exact(hq.mono λ_ _=>eS.le mq).snoc dT
  ·exact fin (Wd.le.refl eJ) (by rw[<-gX,zS (λhc=>by rw[bd]at hc;cases hc.2)]) c q m8
 ·exact fin (Wd.le.refl eJ) (by rw[<-gX,zS (λhc=>aG (by have:=hc.1;rw[c.MJ]at this;exact this))]) c q m
end
end Go.Proofs.YtjlkfjnfnonekaaGreatDoor
namespace Go.Proofs.YtjlkfjnfnonekaaGreatDoor
open Go.Vc
section
variable{x:ab} {aid tid ticks:Int} {t n:Nat} {s:ba} {l all:List cq} {r:bo} {mm:lP} {f:cq} {alone:Bool} {a b:Int} {ls:List Int}
theorem OB:ky (ls++[a])=s3 (ky ls) a:=by unfold ky;rw[List.foldl_append];rfl
theorem XA (h:a<=b):ky (ls++[a])<=ky (ls++[b]):=by rw[OB,OB];unfold s3;omega
theorem bo.aje (U:r.ok=true) (h0:0<=a) (h:a<=b) (hb:b<=1048576):r.kp a<=r.kp b:=by
 unfold bo.kp
 rw[if_pos ⟨U,h0,by omega⟩,if_pos ⟨U,by omega,hb⟩]
 have arv:=bo.Fh U
 have:(22+8*a+r.bits -1)/r.bits<=(22+8*b+r.bits -1)/r.bits:=Int.ediv_le_ediv (by omega) (by omega)
 omega
theorem Kb:ib r mm ls=true↔r.ok=true/\ls.length≠0/\(∀z∈ls,pJ z=false)/\(ls.length:Int)<=min mm.bB 64/\ky ls<=min mm.e9 65535/\r.kp (ky ls)<=min mm.tick 54840:=by
 unfold ib
 simp[List.any_eq_false]
theorem XB (hb:∀z∈ls,z<=1000000):0<=ky ls:=(I4 hb).1
theorem abI (h:ib r mm (ls++[b])=true) (h1:1<=a) (h2:a<=b):ib r mm (ls++[a])=true:=by
 obtain⟨q1,q2,aE,bP,eO,fI⟩:=Kb.1 h
 have hw:∀z∈ls++[a],pJ z=false:= λz hz=>by
  rcases List.mem_append.1 hz with hz|hz
  ·exact aE z (List.mem_append_left _ hz)
  ·simp at hz;subst hz
   have:=aE b (List.mem_append_right _ (by simp))
   unfold pJ at this⊢
   simp at this⊢
   omega
 have rv:0<=ky (ls++[a]):=XB λz hz=>by
  have:=hw z hz
  unfold pJ at this
  simp at this;omega
 have hm:=XA (ls:=ls) h2
 have hp:=bo.aje q1 rv hm (by omega)
 refine Kb.2 ⟨q1,by simp,hw,by simpa using bP,by omega,by omega⟩
theorem P7:∀n k,ri r mm ls n=some k->ib r mm (ls.take k)=true
 |0,k,h=>by cases h
 |n+1,k,h=>by
  rw[ri]at h
  split at h
  ·cases h;assumption
  ·exact P7 n k h
theorem P6 (h:(iz r mm ls).2=true):ib r mm (ls.take (iz r mm ls).1.toNat)=true:=by
 unfold iz at h⊢
 split at h
 ·rename_i n hn;exact P7 _ _ hn
 ·split at h<;>cases h
theorem af3:c2 (l.take n)=(c2 l).take n:=by unfold c2;rw[List.map_take]
theorem af2 (h:q4 f.p):1<=u1 f/\u1 f<=1526:=by have:=h.1;unfold u1;omega
theorem ab0 (c:ej x aid t s l) (hf:(x.fresh aid t).2=some f):q4 f.p:=by
 obtain⟨CH,tq,wg,-⟩:=Eu (aid:=aid) (tid:=t) c.ok.dY c.ok.now
 cases e:(x.bK.gy aid t x.now).2.2 with
 |none=>rw[Ag e]at hf;cases hf
 |some p=>rw[yd e]at hf;cases hf;exact c.ok.eh p (wg p (List.mem_append_right _ (by rw[e];simp)))
theorem MK (c:ej x aid t s l) (h:0<(x.aT aid t).s.w.room):(s.l.getD t ak).s.w.room≠0:=by rw[c.MJ]at h;omega
theorem PZ (ht:t<8):∀n (x:ab) (s:ba) (l:List cq),ej x aid t s l->ib r mm (c2 l)=true->ib r mm (c2 (ab.k8 r mm aid t n x l).2)=true
 |0,x,s,l,c,h=>h
 |n+1,x,s,l,c,h=>by
  by_cases hn:0<(x.aT aid t).s.w.room/\ib r mm (c2 l++[1526])=true
  ·obtain⟨s',f,h1|⟨h2,h3,-⟩⟩:=c.fresh ht (MK c hn.1)
   ·rw[Ca hn h1.1];exact h
   ·rw[Cb hn h2]
    refine PZ ht n _ s' _ h3 ?_
    have:=af2 (ab0 c h2)
    have e:c2 (l++[f])=c2 l++[u1 f]:=by unfold c2;simp
    rw[e];exact abI hn.2 this.1 this.2
  ·rw[zS hn];exact h
theorem P2 (ht:t<8) (c:ej x aid t s l) (h:(x.jZ r mm aid t alone l).2.2=true):ib r mm (c2 (x.jZ r mm aid t alone l).2.1)=true:=by
 unfold ab.jZ at h⊢
 split
 ·rename_i e;rw[if_pos e]at h;cases h
 ·rename_i e
  rw[if_neg e]at h
  split
  ·rename_i ag
   rw[if_pos ag]at h
   show ib r mm (c2 (l.take _))=true
   rw[af3];exact P6 h
  ·rename_i ag
   refine PZ ht 64 x s l c ?_
   have hb:=P5 (r:=r) (mm:=mm) (all:=l)
   have h1:¬(iz r mm (c2 l)).1<l.length:= λh=>ag (.inl h)
   have h2:(iz r mm (c2 l)).2=true:=by
    cases hq:(iz r mm (c2 l)).2
    ·exact absurd (.inr hq) ag
    ·rfl
   have:=P6 h2
   rwa[List.take_of_length_le (by rw[show(c2 l).length=l.length by unfold c2;simp];omega)]at this
theorem ZT (ht:t<8) (c:ej x aid t s all) (h:(x.choose r aid t ticks alone).2.2=true):ib r ⟨(s.l.getD t ak).s.w.sz,x.c.ix,ticks⟩ (c2 (x.choose r aid t ticks alone).2.1)=true:=by
 have h9:=ab.hj (t:=t) c.hs
 by_cases hd:(x.aT aid t).s.due.length=0
 ·have ld:all=[]:=by rw[h9,c.due]at hd;exact List.length_eq_zero_iff.1 hd
  subst ld
  obtain⟨s',f,h1|⟨h2,h3,-⟩⟩:=c.fresh ht c.xf
  ·rw[Cd hd h1.1]at h;cases h
  ·rw[Ce hd h2,h9]at h⊢
   exact P2 ht h3 h
 ·rw[Cc hd,h9,c.due]at h⊢
  exact P2 ht c h
def ba.key (s:ba):bo×Int×List Int:=(s.r,s.tok,s.air)
structure jn (x y:ab):Prop where
 c:y.c=x.c
 now:y.now=x.now
 dh:y.dh=x.dh
 pow:y.pow=x.pow
 cM:y.cM=x.cM
 bc:y.bc=x.bc
 ed:y.ed=x.ed
 num:y.num=x.num
 ways:y.ways=x.ways
 Lx:∀k,(y.st.getD k none).map ba.key=(x.st.getD k none).map ba.key
theorem jn.mF:jn x x:=⟨rfl,rfl,rfl,rfl,rfl,rfl,rfl,rfl,rfl,λ_=>rfl⟩
theorem jn.trans {x y z:ab} (h:jn x y) (k:jn y z):jn x z:=⟨k.c.trans h.c,k.now.trans h.now,k.dh.trans h.dh,k.pow.trans h.pow,k.cM.trans h.cM,k.bc.trans h.bc,k.ed.trans h.ed,k.num.trans h.num,k.ways.trans h.ways,λi=>(k.Lx i).trans (h.Lx i)⟩
theorem akE {z:dk}:jn x (x.aW aid tid z):=by
 unfold ab.aW
 split
 ·exact jn.mF
 ·rename_i s hs
  refine⟨rfl,rfl,rfl,rfl,rfl,rfl,rfl,rfl,rfl,λk=>?_⟩
  obtain⟨h1,h2⟩:=ab.iU hs
  have I:aD aid<x.st.length:=by
   rw[List.getD_eq_getElem?_getD]at h2
   rcases Nat.lt_or_ge (aD aid) x.st.length with h|h
   ·exact h
   ·rw[List.getElem?_eq_none h]at h2;cases h2
  show((x.st.set (aD aid) (some (s.aW tid z))).getD k none).map ba.key=_
  rw[fg I]
  split
  ·rename_i e;subst e;rw[h2];rfl
  ·rfl
theorem jn.key {y:ab} {s':ba} (h:jn x y) (hs:x.of aid=some s) (uO:y.of aid=some s'):s'.r=s.r/\s'.tok=s.tok/\s'.air=s.air:=by
 have:=h.Lx (aD aid)
 rw[(ab.iU hs).2,(ab.iU uO).2]at this
 simp only[Option.map_some,Option.some.injEq,ba.key,Prod.mk.injEq]at this
 exact⟨this.1,this.2.1,this.2.2⟩
theorem Ah:jn x (x.fresh aid tid).1:=by
 cases e:(x.bK.gy aid tid x.now).2.2 with
 |none=>rw[Ag e];exact⟨rfl,rfl,rfl,rfl,rfl,rfl,rfl,rfl,rfl,λ_=>rfl⟩
 |some p=>
  rw[yd e]
  have h1:jn x (x.take aid tid):=⟨rfl,rfl,rfl,rfl,rfl,rfl,rfl,rfl,rfl,λ_=>rfl⟩
  have h2:jn ((x.take aid tid).aW aid tid (((x.take aid tid).aT aid tid).dE (((x.take aid tid).aT aid tid).s.fresh p (x.take aid tid).now))) ((x.take aid tid).sk aid tid p):=⟨rfl,rfl,rfl,rfl,rfl,rfl,rfl,rfl,rfl,λ_=>rfl⟩
  exact(h1.trans akE).trans h2
theorem P0:∀n (x:ab) (l:List cq),jn x (ab.k8 r mm aid tid n x l).1
 |0,x,l=>jn.mF
 |n+1,x,l=>by
  by_cases hn:0<(x.aT aid tid).s.w.room/\ib r mm (c2 l++[1526])=true
  ·cases hf:(x.fresh aid tid).2 with
   |none=>rw[Ca hn hf];exact Ah
   |some f=>rw[Cb hn hf];exact Ah.trans (P0 n _ _)
  ·rw[zS hn];exact jn.mF
theorem P3:jn x (x.jZ r mm aid tid alone l).1:=by
 unfold ab.jZ
 split
 ·exact jn.mF
 ·split
  ·exact jn.mF
  ·exact P0 64 x l
theorem JG:jn x (x.choose r aid tid ticks alone).1:=by
 by_cases hd:(x.aT aid tid).s.due.length=0
 ·cases hf:(x.fresh aid tid).2 with
  |none=>rw[Cd hd hf];exact Ah
  |some f=>rw[Ce hd hf];exact Ah.trans P3
 ·rw[Cc hd];exact P3
end
end Go.Proofs.YtjlkfjnfnonekaaGreatDoor
set_option maxRecDepth 8000
namespace Go.Proofs.YtjlkfjnfnonekaaGreatDoor
open Go.Vc
section
variable{W W' aQ:Wd} {h h':J} {R:List aL} {a:Nat} {y:cR} {g:cQ} {x:ab} {i j k t n:Nat} {v:Value} {A B:aL} {s s':ba} {b:Nat} {aid tid ac now:Int} {ads:List Addr} {u:bR} {l all:List cq} {vs:List Value} {cg:Option Addr} {bZ:Nat} {E:ao} {r:bo} {mm:lP} {f:cq} {alone more eosp:Bool} {mI:List Int}
theorem aH.cZ {m:Bool} (q:aH W a y g x):aH W a y g (x.cZ aid ac m):=⟨q.bk,q.dY,q.bc,q.st,q.lo,q.lM,q.wl,q.ul,q.us⟩
theorem bl.cZ {m:Bool} (ok:bl x):bl (x.cZ aid ac m):=⟨⟨ok.st,ok.bc,ok.l,ok.bss,ok.di⟩,ok.aT,ok.dY,ok.pl,ok.eh,ok.eb,ok.pw.cZ,ok.lm,ok.mH,ok.ed,ok.bk,ok.now,ok.pF,ok.nm,ok.li,ok.nd,ok.iN⟩
theorem Ji {ax:Bool} (ok:bl x) (a7:Snt W ads) (q:aH W a y g x) (m:aa W h (aq a y g x++R)):aj Tryz.prog 118 #[.pointer (some ⟨a,150,none⟩), .int .i64 aid, .int .i64 ac, .bool ax] h λv h'=>
 (∃e,v= .tuple #[.bool (pz x.pow aid ac ax).2,e])/\aa W h' (aq a y g (x.cZ aid ac ax)++R):=by
 refine(aji ok.pw.toxE a7 (kz 3 rfl m)).mono ?_
 rintro v h' ⟨he,ax⟩
 exact⟨he,na (y:=y) (x:=x) (g:=g) 3 rfl ax⟩
theorem OM (n:eG x) (hs:x.of aid=some s) (hb:y.b1 (aD aid)=some b) (m:aa W h (aq a y g x++R)):row h b 0 5=some (cK s.r):=by
 have m1:=(xQ n hs hb m).pick 0 (A:=[⟨b,0,cK s.r++[.int .i64 s.tok],none⟩]) rfl
 exact m1.row 0 rfl 0 rfl (by simp[cK])
theorem OO (n:eG x) (hs:x.of aid=some s) (hb:y.b1 (aD aid)=some b) (m:aa W h (aq a y g x++R)):cell h b 5=some (.int .i64 s.tok):=by
 have m1:=(xQ n hs hb m).pick 0 (A:=[⟨b,0,cK s.r++[.int .i64 s.tok],none⟩]) rfl
 exact m1.cell 0 rfl 5 rfl
theorem Yz {Y:ao} (ok:bl x) (q:aH W a y g x) (hs:x.of aid=some s) (hb:y.b1 (aD aid)=some b) (ht:t<8) (yS:au cg mI.length bZ 1 (ints .i64 mI) Y) (K0:mI.length<=1048576) (hnd:mI.Nodup)
 (ss:∀z∈mI,∃f∈(s.l.getD t ak).s.l,f.a6=false/\f.m.sq=z) (gp:∀f∈(s.l.getD t ak).s.l,f.a6=false) (m:aa W h (aq a y g x++ae Y::R)):
 aj Tryz.prog 202 #[a8 (y.sp (aD aid) t), .slice cg mI.length bZ] h λv h'=>∃g',aH W a y g' (x.hG aid t mI)/\aa W h' (aq a y g' (x.hG aid t mI)++ae Y::R):=by
 have m1:=lS ok.toeG hs hb ht m
 have m2:aa W h (ae (g.cL (aD aid) t)::ae Y::[⟨b,6+t*5,fS (y.sp (aD aid) t) (s.l.getD t ak),none⟩]::vI a y g x R b (aD aid) s t):=
  (aa.gD (Q:=ae (g.cL (aD aid) t)::[⟨b,6+t*5,fS (y.sp (aD aid) t) (s.l.getD t ak),none⟩]::El b (y.sp (aD aid)) (g.cL (aD aid)) s t::(((List.range 16).map (lp y g x.st)).eraseIdx (aD aid)).flatten::(aq a y g x).eraseIdx 13) (R:=R) m1).swap
 refine(Y2 (ok.jz hs ht).s (q.mG hs ht) yS K0 hnd ss gp m2).mono ?_
 rintro v h' ⟨L',hv,m3⟩
 have e:x.hG aid t mI=x.bw aid (some (s.aW t ((s.l.getD t ak).dE ((s.l.getD t ak).s.hG mI)))):=by
  unfold ab.hG;rw[ab.lJ hs,ab.hj hs]
 rw[e]
 exact Jj ok.toeG hs hb ht q rfl hv m3.swap
theorem Ik {uc:Nat} {ua:Option Addr} (n:jq u):((fX u ua uc).drop 17).take 6=ints .u8 u.to:=by
 obtain⟨al,aP,bx,dO,fh,ey,p5⟩:=fV n.bss
 obtain⟨aK,aG,bd,c7,eK,nc,cP⟩:=fV n.to
 unfold fX
 rw[p5,cP];rfl
theorem xo {uc:Nat} {ua:Option Addr} (n:jq u):(fX u ua uc).length=33:=by
 unfold fX
 simp[ints,n.bss,n.to,cK]
theorem amq {uc:Nat} {ua:Option Addr} {r:bo} (n:jq u):bG (fX u ua uc) 23 (cK r)=fX {u with r:=r} ua uc:=by
 obtain⟨al,aP,bx,dO,fh,ey,p5⟩:=fV n.bss
 obtain⟨aK,aG,bd,c7,eK,nc,cP⟩:=fV n.to
 unfold fX
 rw[p5,cP];rfl
theorem aiN {m:cq}:ko u more eosp (l++[m])=ko u more eosp l++[gg (rm u more eosp m)]:=by unfold ko;rw[List.map_append];rfl
theorem Uf:(ko u more eosp l).length=l.length:=by unfold ko;simp
theorem D1 {f:bQ} (h:gK f):(gg f).length=26+f.body.length:=by
 unfold gg
 simp[h.ca,h.aF,h.dw];omega
theorem af5 (hu:jq u) (hp:∀m∈l,gK (rm u more eosp m)):rB (ko u more eosp l)=c2 l:=by
 unfold rB ko c2
 rw[List.map_map]
 refine List.map_congr_left λm hm=>?_
 show((gg (rm u more eosp m)).length:Int)=u1 m
 rw[D1 (hp m hm)]
 unfold u1
 show((26+m.p.body.length:Nat):Int)=_
 omega
theorem UT {f:bQ} (h:gK f) (h1:∀z∈f.to,0<=z/\z<256) (h2:∀z∈f.bss,0<=z/\z<256) (h3:∀z∈f.fr,0<=z/\z<256) (h4:∀z∈f.body,0<=z/\z<256):∀z∈gg f,0<=z/\z<256:=by
 intro z hz
 unfold gg at hz
 have t0:=h.t0
 have t7:=h.t7
 rcases List.mem_append.1 hz with hz|hz
 ·simp at hz
  rcases hz with rfl|rfl|rfl
  ·omega
  ·cases f.rt<;>cases f.hR<;>simp
  ·omega
 rcases List.mem_append.1 hz with hz|hz
 ·exact h1 z hz
 rcases List.mem_append.1 hz with hz|hz
 ·exact h2 z hz
 rcases List.mem_append.1 hz with hz|hz
 ·exact h3 z hz
 rcases List.mem_append.1 hz with hz|hz
 ·simp at hz
  rcases hz with rfl|rfl|rfl|rfl
  ·omega
  ·omega
  ·cases f.fC<;>simp<;>omega
  ·omega
 ·exact h4 z hz
theorem Yq {Cs:bQ} {cs:List Value} (hv:ir W Cs cs) (hf:gK Cs) (m:aa W h R):aj Tryz.prog 200 #[.agg cs.toArray] h λv h'=>∃W' ff ep,W.le W'/\v= .tuple #[.slice ff (gg Cs).length ep, .nilIface]/\cm W' (.slice ff (gg Cs).length ep) (gg Cs)/\aa W' h' R:=by
 obtain⟨G,me,bk⟩:=m.nx
 refine(ajx me hv hf).mono ?_
 rintro _ h' ⟨ff,ep,E,rfl,ax,o⟩
 obtain⟨W',hl,hE,m2⟩:=((bk).2 ax).give
 exact⟨W',ff,ep,hl,rfl,o.uq rfl hE,m2⟩
theorem Yn {l:List (List Int)} (o:au cg l.length bZ 1 vs E) (hb:kd W vs l) (hx:∀p∈l,(∀x∈p,0<=x/\x<256)/\1<=p.length/\p.length<=4095) (h0:l.length≠0) (hl:l.length<=64) (hA:ky (rB l)<=65535) (m:aa W h (ae E::R)):
 aj Tryz.prog 201 #[.slice cg l.length bZ] h λv h'=>∃W' ff ep,W.le W'/\v= .tuple #[.slice ff (nC l).length ep, .nilIface]/\cm W' (.slice ff (nC l).length ep) (nC l)/\aa W' h' (ae E::R):=by
 obtain⟨G,me,bk⟩:=m.ny
 have ou:vs.length=l.length:=hb.len
 rw[<-ou]at o⊢
 refine(XD me o (i:=0) rfl hb hx h0 hl hA).mono ?_
 rintro _ h' ⟨aQ,jj,ff,ep,F,rfl,ax,o'⟩
 obtain⟨W',dv,hE,m2⟩:=(bk.2.2 ax).give
 exact⟨W',ff,ep,jj.trans dv,rfl,o'.uq rfl hE,m2⟩
def EM (W:Wd) (a:Nat) (y:cR) (bp:Nat) (R:List aL) (aJ:ab×Option bR) (v:Value) (h:J):Prop:=
 ∃W' g',W.le W'/\aH W' a y g' aJ.1/\bl aJ.1/\((aJ.2=none/\v= .pointer none/\aa W' h (aq a y g' aJ.1++R))\/∃Bv ua uc,aJ.2=some Bv/\v=a8 bp/\cm W' (.slice ua Bv.cO.length uc) Bv.cO/\aa W' h (aq a y g' aJ.1++cG bp Bv ua uc::R))
end
end Go.Proofs.YtjlkfjnfnonekaaGreatDoor
set_option maxRecDepth 8000
namespace Go.Proofs.YtjlkfjnfnonekaaGreatDoor
open Go.Vc
section
variable{W W' aQ:Wd} {h h':J} {R:List aL} {a:Nat} {y:cR} {g:cQ} {x:ab} {i j k t n:Nat} {v:Value} {A B:aL} {s s':ba} {b:Nat} {aid tid ac now:Int} {ads:List Addr} {u:bR} {l all:List cq} {vs:List Value} {cg:Option Addr} {bZ:Nat} {E:ao} {r:bo} {mm:lP} {f:cq} {alone more eosp:Bool} {mI:List Int}
structure zz (x:ab) (u:bR):Prop extends jq u where
 eq:u.bss=x.c.bss
 al:∀z∈u.bss,0<=z/\z<256
 aP:∀z∈u.to,0<=z/\z<256
theorem ak3 {m:cq}:l3 (l++[m])=l3 l++[m.sq]:=by unfold l3;rw[List.map_append];rfl
theorem Ib {α:Type} {l:List α} {k:Nat} (I:k<l.length):l.take (k+1)=l.take k++[l[k]]:=by rw[List.take_add_one,List.getElem?_eq_getElem I];rfl
theorem ej.Ro (c:ej x aid t s all) (hu:zz x u) (ht:t<8) (eB:u.tid=t):∀m∈all,gK (rm u more eosp m):=by
 intro m hm
 have hb:=c.Fl m hm
 rw[c.l]at hm
 obtain⟨f,hf,rfl⟩:=List.mem_map.1 hm
 have hw:=(c.i.w.b f.m.sq (by rw[c.i.l];exact List.mem_map.2 ⟨f,hf,rfl⟩)).1
 exact⟨hu.to,hu.bss,hu.bss,by show 0<=u.tid;omega,by show u.tid<=7;omega,hw.1,by show f.m.sq<=4095;omega,hb.1⟩
theorem ej.fm (c:ej x aid t s all) {k:Nat}:(l3 (all.take k)).Nodup:=by
 have:=c.i.w.fm
 rw[c.i.l]at this
 have e:l3 all=(s.l.getD t ak).s.l.map λf=>f.m.sq:=by rw[c.l];unfold l3;rw[List.map_map];rfl
 rw[<-e]at this
 unfold l3 at this⊢
 rw[List.map_take]
 exact this.sublist (List.take_sublist _ _)
theorem ej.aaE (c:ej x aid t s all) {k:Nat}:∀z∈l3 (all.take k),∃f∈(s.l.getD t ak).s.l,f.a6=false/\f.m.sq=z:=by
 intro z hz
 obtain⟨m,hm,rfl⟩:=List.mem_map.1 hz
 have hm:=List.mem_of_mem_take hm
 rw[c.l]at hm
 obtain⟨f,hf,rfl⟩:=List.mem_map.1 hm
 exact⟨f,hf,c.a6 f hf,rfl⟩
theorem aqm (c:ej x aid t s all) (ht:t<8):bl (x.hG aid t mI):=by
 have e:x.hG aid t mI=x.bw aid (some (s.aW t ((s.l.getD t ak).dE ((s.l.getD t ak).s.hG mI)))):=by
  unfold ab.hG;rw[ab.lJ c.hs,ab.hj c.hs]
 rw[e]
 exact c.ok.aW c.hs ht ⟨(c.i.hG c.e).ok,(c.ok.jz c.hs ht).v⟩
set_option maxHeartbeats 4000000 in
theorem X6 {bp:Nat} {ua:Option Addr} {uc:Nat} (c:ej x u.aid t s all) (a7:Snt W ads) (q:aH W a y g x) (un:zz x u) (uI:x.c.ix<=65535) (hb:y.b1 (aD u.aid)=some b) (eB:u.tid=t) (ht:t<8) (m:aa W h (aq a y g x++cG bp u ua uc::R)):
 aj Tryz.prog 116 #[a8 a,a8 bp, .pointer (some ⟨b,6+t*5,none⟩), .bool alone] h (EM W a y bp R (x.data s.r u alone)):=by
 have gX:x.data s.r u alone=if(x.choose s.r u.aid u.tid u.ticks alone).2.1.length=0 then((x.choose s.r u.aid u.tid u.ticks alone).1,none)
  else(((x.choose s.r u.aid u.tid u.ticks alone).1.mf s.r u (x.choose s.r u.aid u.tid u.ticks alone).2.1 (x.choose s.r u.aid u.tid u.ticks alone).2.2).1,
   some ((x.choose s.r u.aid u.tid u.ticks alone).1.mf s.r u (x.choose s.r u.aid u.tid u.ticks alone).2.1 (x.choose s.r u.aid u.tid u.ticks alone).2.2).2):=rfl
 rw[gX]
 have mo:=ZT (r:=s.r) (ticks:=u.ticks) (alone:=alone) ht c
 have uP:jn x (x.choose s.r u.aid u.tid u.ticks alone).1:=JG
 rw[eB]at uP⊢
 refine amN _ _ _ _ _ _ (aN ⟨_,m.cell 16 rfl 1 rfl,(s5 q c.hs hb m).ret ⟨_,rfl,aN ⟨_,OM c.ok.toeG c.hs hb m,(X3 c a7 q un.tojq hb eB ht m).mono ?_⟩⟩⟩)
 rw[eB]
 obtain⟨aJ,sB⟩:∃aJ,aJ=x.choose s.r u.aid t u.ticks alone:=⟨_,rfl⟩
 rw[<-sB]at uP mo⊢
 clear m q
 rintro _ h2 ⟨bu,g2,cg,bZ,vs,F,dv,rfl,o,hq,q,m,kM,nj⟩
 refine⟨_,_,_,_,rfl,aC (λaK=>?_) λaK=>?_⟩
 ·have dW:aJ.2.1.length=0:=by omega
  rw[if_pos dW]
  exact⟨bu,g2,dv,q,kM, .inl ⟨rfl,rfl,(m.free 16 rfl).free 16 rfl⟩⟩
 have dW:¬aJ.2.1.length=0:=by omega
 rw[if_neg dW]
 obtain⟨s2,I1,n,aG,nq⟩:=nj (λe=>dW (by rw[e];rfl))
 obtain⟨aY,tC⟩:∃aY,aY=aJ.1:=⟨_,rfl⟩
 obtain⟨aF,adq⟩:∃aF,aF=aJ.2.1:=⟨_,rfl⟩
 rw[<-tC]at q m kM aG uP⊢
 rw[<-adq]at o hq dW aK nq mo⊢
 have arF:aF.length<=64:=by have:=aG.len;rw[nq,List.length_take];omega
 replace a7:=a7.le dv
 have Ii:zz aY u:=⟨un.tojq,by rw[uP.c];exact un.eq,un.al,un.aP⟩
 refine aN ⟨_,m.cell 17 rfl 1 rfl,aN ⟨_,m.cell 17 rfl 2 rfl,(Jg kM q aG.hs (by omega) m).mono ?_⟩⟩
 rintro _ h3 ⟨rfl,eJ,g3,fa,aE,m3⟩
 obtain⟨more,yq⟩:∃more,more=aY.has u.aid u.tid aF.length:=⟨_,rfl⟩
 rw[<-yq]
 refine⟨_,rfl,aN ⟨_,m3.cell 17 rfl 1 rfl,aN ⟨_,m3.cell 17 rfl 3 rfl,(Ji kM (a7.le fa) aE m3).mono ?_⟩⟩⟩
 rintro _ h4 ⟨⟨jh,rfl⟩,m4⟩
 obtain⟨eosp,KB⟩:∃e,e=(pz aY.pow u.aid u.ac more).2:=⟨_,rfl⟩
 rw[<-KB]
 have bP:aH eJ a y g3 (aY.cZ u.aid u.ac more):=aE.cZ
 have pq:bl (aY.cZ u.aid u.ac more):=kM.cZ
 have c7:ej (aY.cZ u.aid u.ac more) u.aid t s2 I1:=⟨pq,aG.hs,aG.i,aG.st,aG.q,aG.a6,aG.l,aG.e⟩
 have Wg:zz (aY.cZ u.aid u.ac more) u:=⟨un.tojq,Ii.eq,un.al,un.aP⟩
 clear m m3 q aE nj
 have ru:∀m∈aF,gK (rm u more eosp m):= λm hm=>aG.Ro Ii ht eB m (by rw[nq]at hm;exact List.mem_of_mem_take hm)
 have uN:∀m∈aF,q4 m.p:= λm hm=>aG.Fl m (by rw[nq]at hm;exact List.mem_of_mem_take hm)
 obtain⟨bq,wI⟩:∃bq,bq=aY.cZ u.aid u.ac more:=⟨_,rfl⟩
 rw[<-wI]at bP pq c7 Wg m4
 refine⟨_,_,rfl,?_⟩
 refine⟨λUQ HD UR fT pl fH z h=>∃(k:Nat) (jr:Wd) (mS:ao) (HB:List Value) (cD:ao),z=k/\k<=aF.length/\HD=k/\pl=k/\eJ.le jr/\au UQ HD UR 1 (ints .i64 (l3 (aF.take k))) mS/\au fT pl fH 1 HB cD/\kd jr HB (ko u more eosp (aF.take k))/\aH jr a y g3 bq/\
  aa jr h (aq a y g3 bq++ae mS::ae cD::ae F::cG bp u ua uc::R),λ_ _ _ _ _ _ z _=>((aF.length:Int) -z).toNat,
  ⟨0,eJ,[],[],[],rfl,by omega,rfl,rfl,Wd.le.refl eJ,au.nil,au.nil,trivial,bP,c4 (c4 m4.hU).hU⟩,λ_=>?_⟩
 clear m4 bP
 rintro UQ HD UR fT pl fH _ aA ⟨k,jr,mS,HB,cD,rfl,I,eql,QS,qi,eg,aM,nQ,q,m⟩
 rw[eql]at eg⊢
 rw[QS]at aM⊢
 clear eql QS HD pl
 refine aC (λbd=>?_) λbd=>?_
 ·have bY:k<aF.length:=by omega
  have hp:=List.getElem?_eq_getElem bY
  have adQ:=hq.mono (λ_ _=>eS.le (fa.trans qi))
  obtain⟨cs,cz,gE,hC⟩:=adQ.get (λ_ _ h=>h.len) hp
  obtain⟨al,asd,rfl,U⟩:=mK (o.j8 m 18 rfl) hC (by decide) gE
  obtain⟨G9,Ha,rfl,dK⟩:=cz
  refine⟨⟨by omega,by omega⟩,aN ⟨_,by rw[Int.toNat_natCast];exact U,m.bb λvM aU m6=>m6.c8 0 rfl rfl rfl A2 λbW m7=>?_⟩⟩
  replace m7:=c4 m7
  refine⟨λff kB ep h=>∃fN,jr.le fN/\kB=(gg (rm u more eosp aF[k])).length/\cm fN (.slice ff kB ep) (gg (rm u more eosp aF[k]))/\aa fN h (aq a y g3 bq++[⟨vM,0,pn aF[k] G9 Ha,some 215⟩]::ae mS::ae cD::ae F::cG bp u ua uc::R),?_,λ_=>?_⟩
  ·have kH:=m7.row 20 rfl 17 (Ik un.tojq) (by rw[xo un.tojq];decide) (p:=0+11+6)
   have qe:=xO pq.toeG m7
   refine aN ⟨_,kH,_,qe,_,qe,aN ⟨_,m7.cell 20 rfl 2 rfl,_,m7.cell 16 rfl 5 rfl,_,m7.cell 16 rfl 6 rfl,_,_,_,m7.cell 16 rfl 4 rfl,by rw[dL];exact un.to,by rw[dL];exact pq.bss,by rw[dL];exact pq.bss,?_⟩⟩
   have hv:ir jr (rm u more eosp aF[k]) (ints .u8 u.to++(ints .u8 bq.c.bss++(ints .u8 bq.c.bss++[.int .i64 u.tid, .int .i64 aF[k].sq, .bool (decide (0<aF[k].cZ)), .bool more, .bool eosp, .slice G9 aF[k].p.body.length Ha]))):=
    ⟨_,by rw[<-Wg.eq];rfl,dK⟩
   refine(Yq hv (ru _ (List.getElem_mem bY)) m7).mono ?_
   rintro _ bJ ⟨fN,ff,ep,j1,rfl,iD,m8⟩
   exact⟨_,_,_,_,rfl,fN,j1,rfl,iD,m8⟩
  clear m7 m U gE
  rintro ff kB ep ct ⟨fN,j1,aaX,iD,m9⟩
  rw[aaX]at iD⊢
  refine⟨_,m9.cell 16 rfl 5 rfl,?_⟩
  refine eg.kA m9 17 rfl (us:=[.int .i64 aF[k].sq]) rfl (by intro u hu;simp at hu;subst hu;rfl) (by omega) (by decide) λhJ gB i6 bW m7 gv=>?_
  replace m7:aa fN bW (aq a y g3 bq++[⟨vM,0,pn aF[k] G9 Ha,some 215⟩]::ae i6::ae cD::ae F::cG bp u ua uc::R):=m7
  refine aM.kA m7 18 rfl (us:=[.slice ff (gg (rm u more eosp aF[k])).length ep]) rfl (by intro u hu;simp at hu;subst hu;rfl) (by omega) (by decide) λuh o0 NY bJ m8 ah0=>?_
  replace m8:aa fN bJ (aq a y g3 bq++[⟨vM,0,pn aF[k] G9 Ha,some 215⟩]::ae i6::ae NY::ae F::cG bp u ua uc::R):=m8
  refine⟨by simp only[fits];omega,⟨k+1,fN,i6,HB++[.slice ff (gg (rm u more eosp aF[k])).length ep],NY,by omega,by omega,rfl,rfl,qi.trans j1,?_,ah0,?_,q.le j1,cI m8⟩,by dsimp only;omega⟩
  ·rw[Ib bY,ak3,kI];exact gv
  ·rw[Ib bY,aiN];exact(nQ.le j1).snoc iD
 ·obtain rfl:k=aF.length:=by omega
  rw[List.take_length]at eg nQ
  have eA:(ko u more eosp aF).length=aF.length:=Uf
  have nT:(ko u more eosp aF)[0]?=some ((ko u more eosp aF).headD []):=by
   cases e:ko u more eosp aF with
   |nil=>rw[e]at eA;exact absurd eA.symm dW
   |cons p r=>rfl
  obtain⟨v0,qp,fj⟩:=nQ.get nT
  obtain⟨a0,cW,rfl,-,-⟩:=id fj
  obtain⟨gw,dY,rfl,hcell⟩:=fW (aM.mJ m 17 rfl) qp
  obtain⟨bM,hO⟩:∃bM:bR,bM={u with kind:=1,bB:=aF.length,agg:=aJ.2.2,r:=s2.r,cO:=(ko u more eosp aF).headD []}:=⟨_,rfl⟩
  have AD:s2.r=s.r:=(uP.key c.hs aG.hs).1
  refine⟨λh=>aa jr h (aq a y g3 bq++ae mS::ae cD::ae F::cG bp bM a0 cW::R),?_,λ_=>?_⟩
  ·refine⟨⟨by omega,by omega⟩,aN ⟨_,_,_,hcell,aN ⟨_,OM pq.toeG c7.hs hb m,aN ?_⟩⟩⟩
   refine m.store 19 rfl 4 rfl λaU m6=>aN ?_
   refine m6.store 19 rfl 5 rfl λbW m7=>aN ?_
   refine m7.store 19 rfl 6 rfl λbJ m8=>aN ?_
   refine m8.store 19 rfl 7 rfl λct m9=>aN ?_
   have o5:((((fX u ua uc).set 4 (.int .i64 1)).set 5 (.int .i64 (aF.length:Int))).set 6 (.bool aJ.2.2)).set 7 (.slice a0 ((ko u more eosp aF).headD []).length cW)=fX {u with kind:=1,bB:=aF.length,agg:=aJ.2.2,cO:=(ko u more eosp aF).headD []} a0 cW:=rfl
   rw[o5]at m9
   have Wi:jq {u with kind:=1,bB:=aF.length,agg:=aJ.2.2,cO:=(ko u more eosp aF).headD []}:=⟨un.bss,un.to⟩
   refine m9.zV 19 rfl 23 rfl (by rw[xo Wi];decide) (λu hu=>aj4 u hu) λdS m10=>?_
   rw[amq Wi]at m10
   rw[hO]
   exact m10
  clear m
  intro Aj m
  have asB:jq bM:=by rw[hO];exact⟨un.bss,un.to⟩
  have aqH:aY.cZ u.aid u.ac (aY.has u.aid u.tid aF.length)=bq:=by rw[wI,yq]
  refine⟨λh=>∃(fN:Wd) (gi:bR) (Ex:Option Addr) (Ey:Nat),jr.le fN/\gi=(aY.mf s.r u aF aJ.2.2).2/\cm fN (.slice Ex gi.cO.length Ey) gi.cO/\aa fN h (aq a y g3 bq++ae mS::ae cD::ae F::cG bp gi Ex Ey::R),?_,λ_=>?_⟩
  ·refine bH (λeK=>?_) λeK=>?_
   ·have ac9:=mo eK
    obtain⟨f1,f2,f3,f4,f5,f6⟩:=Kb.1 ac9
    have Gd:rB (ko u more eosp aF)=c2 aF:=af5 un.tojq ru
    have hx:∀p∈ko u more eosp aF,(∀z∈p,0<=z/\z<256)/\1<=p.length/\p.length<=4095:=by
     intro p hp
     obtain⟨m,hm,rfl⟩:=List.mem_map.1 hp
     have h1:=ru m hm
     have h2:=uN m hm
     refine⟨UT h1 un.aP un.al un.al h2.2,?_,?_⟩
     ·rw[D1 h1];omega
     ·rw[D1 h1];have:=h1.kB;omega
    rw[<-eA]at aM⊢
    refine(Yn aM nQ hx (by omega) (by omega) (by rw[Gd];omega) (m.focus 17 rfl)).mono ?_
    rintro _ qa ⟨fN,ff,ep,j1,rfl,iD,m20⟩
    replace m20:aa fN qa (aq a y g3 bq++ae mS::ae cD::ae F::cG bp bM a0 cW::R):=aa.back (L:=aq a y g3 bq++ae mS::ae cD::ae F::cG bp bM a0 cW::R) 17 rfl m20
    refine⟨_,_,_,_,rfl,aN (m20.store 19 rfl 7 rfl λCA m21=>⟨fN,{bM with cO:=nC (ko u more eosp aF)},ff,ep,j1,?_,iD,?_⟩)⟩
    ·rw[hO]
     unfold ab.mf
     dsimp only
     rw[<-yq,<-KB,if_pos eK,AD]
    ·exact m21
   ·refine⟨jr,bM,a0,cW,Wd.le.refl jr,?_,by rw[hO];exact fj,m⟩
    rw[hO]
    unfold ab.mf
    dsimp only
    rw[<-yq,<-KB,if_neg (by rw[eK];decide),AD]
  clear m
  rintro FT ⟨fN,gi,Ex,Ey,j1,K6,yf,m⟩
  have qn:(l3 aF).length=aF.length:=by unfold l3;simp
  refine aN ⟨_,lh pq.toeG c7.hs hb ht m (j:=0) rfl _,?_⟩
  rw[<-qn]at eg⊢
  have Gs:l3 aF=l3 (I1.take n):=by rw[nq]
  refine(Yz pq (q.le j1) c7.hs hb ht eg (by omega) (by rw[Gs];exact c7.fm) (by rw[Gs];exact c7.aaE) c7.a6 m).mono ?_
  rintro v FU ⟨g5,eO,m5⟩
  have ex:(aY.mf s.r u aF aJ.2.2).1=bq.hG u.aid t (l3 aF):=by
   unfold ab.mf
   dsimp only
   rw[aqH,eB]
  refine⟨v,rfl,fN,g5,((dv.trans fa).trans qi).trans j1,?_,?_, .inr ⟨gi,Ex,Ey,by rw[K6],rfl,yf,?_⟩⟩
  ·show aH fN a y g5 (aY.mf s.r u aF aJ.2.2).1
   rw[ex];exact eO
  ·show bl (aY.mf s.r u aF aJ.2.2).1
   rw[ex];exact aqm c7 ht
  ·show aa fN FU (aq a y g5 (aY.mf s.r u aF aJ.2.2).1++cG bp gi Ex Ey::R)
   rw[ex];exact((m5.free 16 rfl).free 16 rfl).free 16 rfl
end
end Go.Proofs.YtjlkfjnfnonekaaGreatDoor
