import Derived.Test.YtjlkfjnfnonekaaGreatDoorM39
set_option linter.all false
set_option maxRecDepth 8000
namespace Go.Proofs.YtjlkfjnfnonekaaGreatDoor
open Go.Vc
section
variable{W W' aQ:Wd} {h h':J} {R:List aL} {a:Nat} {y:cR} {g:cQ} {x:ab} {i j k t n:Nat} {v:Value} {A B:aL} {s s':ba} {b:Nat} {aid tid ac now:Int} {ads:List Addr} {u:bR} {l all:List cq} {vs:List Value} {cg:Option Addr} {bZ:Nat} {E:ao} {r:bo} {mm:lP} {f:cq} {alone more eosp:Bool} {mI:List Int}
theorem Yo (ok:bl x) (m:aa W h (aq a y g x++R)):aj Tryz.prog 117 #[.pointer (some ⟨a,150,none⟩), .int .i64 aid] h λv h'=>v= .bool (tR x.pow aid)/\h'=h:=ajh ok.pw.toxE (kz 3 rfl m)
theorem XV (ok:bl x) (m:aa W h (aq a y g x++R)):aj Tryz.prog 106 #[.pointer (some ⟨a,22,none⟩), .int .i64 aid] h λv h'=>∃is,v= .tuple #[.agg (ints .u8 (x.addr aid)).toArray, .bool is]/\aa W h' (aq a y g x++R):=by
 refine(ala ok.eb (kz 2 rfl m)).mono ?_
 rintro _ h' ⟨rfl,ax⟩
 replace ax:=na (y:=y) (x:=x) (g:=g) (R:=R) 2 rfl ax
 unfold ab.addr
 cases sU x.dh aid with
 |none=>exact⟨_,rfl,ax⟩
 |some o=>exact⟨_,rfl,ax⟩
theorem IZ (ok:bl x):(x.addr aid).length=6/\∀z∈x.addr aid,0<=z/\z<256:=by
 unfold ab.addr
 cases e:sU x.dh aid with
 |none=>exact⟨rfl,by intro z hz;simp[BS]at hz;omega⟩
 |some o=>
  have hm:o∈x.dh:=by
   unfold sU at e
   split at e
   ·split at e
    ·rename_i z hz
     split at e
     ·cases e;exact List.mem_of_getElem? hz
     ·cases e
    ·cases e
   ·cases e
  exact⟨ok.eb.a o hm,ok.iN o hm⟩
theorem PR (ht:t<8):0<=fA t/\fA t<4:=by
 have:t=0\/t=1\/t=2\/t=3\/t=4\/t=5\/t=6\/t=7:=by omega
 rcases this with rfl|rfl|rfl|rfl|rfl|rfl|rfl|rfl<;>decide
structure xC (x:ab) (aid:Int) (t:Nat) (s:ba):Prop where
 ok:bl x
 hs:x.of aid=some s
 i:dB (s.l.getD t ak).s
 st:(s.l.getD t ak).s.st≠2
 a6:∀f∈(s.l.getD t ak).s.l,f.a6=false
 e:∀f∈(s.l.getD t ak).s.l,f.m.cZ<=15
theorem xC.ch (c:xC x aid t s) (hq:(s.l.getD t ak).s.asks=false):ej x aid t s ((s.l.getD t ak).s.l.map Fr.m):=⟨c.ok,c.hs,c.i,c.st,hq,c.a6,rfl,c.e⟩
theorem XZ {to fr:List Int} {tid sq:Int} (h1:to.length=6) (h2:fr.length=6) (ht:0<=tid/\tid<=7) (hs:0<=sq/\sq<=4095) (m:aa W h R):
 aj Tryz.prog 112 #[.agg (pR to fr tid sq).toArray] h λv h'=>∃W' ff ep,W.le W'/\v= .tuple #[.slice ff (k5 132 to fr tid sq).length ep, .nilIface]/\cm W' (.slice ff (k5 132 to fr tid sq).length ep) (k5 132 to fr tid sq)/\aa W' h' R:=by
 obtain⟨G,me,bk⟩:=m.nx
 refine(ZB me h1 h2 ht hs).mono ?_
 rintro _ h' ⟨W',ff,ep,hl,rfl,ax,hb⟩
 exact⟨W',ff,ep,hl,rfl,hb,(bk).1 ax⟩
theorem XS {to fr bss:List Int} {token tid size sq:Int} (hE:ud W) (h1:to.length=6) (h2:fr.length=6) (h3:bss.length=6) (k1:0<=token/\token<=255) (k2:0<=tid/\tid<=7) (k3:0<=size/\size<=1023) (j6:0<=sq/\sq<=4095) (m:aa W h R):
 aj Tryz.prog 115 #[.agg (zA to fr bss false token tid size 0 sq 0).toArray] h λv h'=>∃W' ff ep,W.le W'/\v= .tuple #[.slice ff (l9 to fr bss false token tid size 0 sq 0).length ep, .nilIface]/\cm W' (.slice ff (l9 to fr bss false token tid size 0 sq 0).length ep) (l9 to fr bss false token tid size 0 sq 0)/\aa W' h' R:=by
 obtain⟨G,me,bk⟩:=m.nx
 refine(Xr (tmo:=0) (st:=0) hE me h1 h2 h3 k1 ⟨k2.1,by omega⟩ k3 ⟨by decide,by decide⟩ j6 ⟨by decide,by decide⟩ false (λh=>by cases h) (λ_=>rfl)).mono ?_
 rintro _ h' ⟨W',hl,ax,⟨-,ff,ep,rfl,hb⟩|⟨bW,-⟩⟩
 ·exact⟨W',ff,ep,hl,rfl,hb,(bk).1 ax⟩
 ·omega
theorem XY (c:xC x aid t s) (a7:Snt W ads) (q:aH W a y g x) (hb:y.b1 (aD aid)=some b) (ht:t<8) (h1:(s.l.getD t ak).s.st=1) (h0:(s.l.getD t ak).s.l=[]) (m:aa W h (aq a y g x++R)):
 aj Tryz.prog 114 #[a8 (y.sp (aD aid) t), .int .i64 s.tok] h λv h'=>v= .tuple #[.int .i64 (s.l.getD t ak).s.w.dD, .nilIface]/\
  ∃g',aH W a y g' (x.bw aid (some (s.aW t ((s.l.getD t ak).dE ((s.l.getD t ak).s.ask s.tok).1))))/\aa W h' (aq a y g' (x.bw aid (some (s.aW t ((s.l.getD t ak).dE ((s.l.getD t ak).s.ask s.tok).1))))++R):=by
 have dH:=(c.ok.Bn c.hs).1
 have e:((s.l.getD t ak).s.ask s.tok).2=none:=by unfold aS.ask;rw[if_pos dH,if_pos ⟨h1,h0⟩]
 refine(YN a7 (q.mG c.hs ht) (lS c.ok.toeG c.hs hb ht m)).mono ?_
 rintro _ h' ⟨L',rfl,hv,ax⟩
 rw[e,if_pos rfl]
 exact⟨rfl,xS c.ok.toeG c.hs hb ht q rfl hv ax⟩
theorem Yw (n:eG x) (q:aH W a y g x) (hs:x.of aid=some s) (hb:y.b1 (aD aid)=some b) (tok:Int) (m:aa W h (aq a y g x++R)) {Q:J->Prop}
 (K:∀h1,aH W a y g (x.bw aid (some (s.xi tok)))->aa W h1 (aq a y g (x.bw aid (some (s.xi tok)))++R)->Q h1):wr h b 5/\∀h1,h1=b3 h b 5 (.int .i64 tok)->Q h1:=by
 have m1:=(xQ n hs hb m).pick 0 (A:=[⟨b,0,cK s.r++[.int .i64 s.tok],none⟩]) rfl
 refine m1.store 0 rfl 5 rfl λh1 m2=>?_
 have m3:=m2.n9 (A0:=[⟨b,0,cK s.r++[.int .i64 s.tok],none⟩]) 0 rfl
 have m4:=E6 (s':=s.xi tok) (M:=g.cL (aD aid)) n hs hb m3
 rw[zb]at m4
 refine K h1 ?_ m4
 obtain⟨h1,h2⟩:=ab.iU hs
 have I:=my h1
 refine⟨q.bk,q.dY,q.bc,λk bD=>?_,λk s' bD aR gu=>?_,q.lM,q.wl,q.ul,q.us⟩
 ·show((x.st.set (aD aid) (some (s.xi tok))).getD k none).isSome=_
  rw[fg (by rw[n.st];exact I),<-q.st k bD]
  split
  ·rename_i e;subst e;rw[h2];rfl
  ·rfl
 ·replace bD:(x.st.set (aD aid) (some (s.xi tok))).getD k none=some s':=bD
  rw[fg (by rw[n.st];exact I)]at bD
  by_cases e:k=aD aid
  ·subst e
   rw[if_pos rfl]at bD
   cases bD
   exact q.lo _ _ h2 aR gu
  ·rw[if_neg e]at bD
   exact q.lo _ _ bD aR gu
end
end Go.Proofs.YtjlkfjnfnonekaaGreatDoor
set_option maxRecDepth 8000
namespace Go.Proofs.YtjlkfjnfnonekaaGreatDoor
open Go.Vc
section
variable{W W' aQ:Wd} {h h':J} {R:List aL} {a:Nat} {y:cR} {g:cQ} {x:ab} {i j k t n:Nat} {v:Value} {A B:aL} {s s':ba} {b:Nat} {aid tid ac now:Int} {ads:List Addr} {u:bR} {l all:List cq} {vs:List Value} {cg:Option Addr} {bZ:Nat} {E:ao} {r:bo} {mm:lP} {f:cq} {alone more eosp:Bool} {mI:List Int}
def EU (W:Wd) (a:Nat) (y:cR) (R:List aL) (aJ:ab×Option bR) (v:Value) (h:J):Prop:=∃bp,EM W a y bp R aJ v h
theorem agG (hs:x.of aid=some s) (cW:(s.aT tid).s.asks=false) (c:¬((s.aT tid).s.st=1/\(s.aT tid).s.due.length=0/\1<x.c.wn/\(s.aT tid).refused=false/\(s.aT tid).dy<=x.c.rt)):
 x.make aid tid=x.data s.r (x.mO aid tid (s.aT tid)) (decide ((s.aT tid).s.st=1)||tR x.pow aid):=by
 unfold ab.make;rw[hs];dsimp only;rw[if_neg (by rw[cW];decide),if_neg c]
set_option maxHeartbeats 4000000 in
theorem Yh (c:xC x aid t s) (a7:Snt W ads) (q:aH W a y g x) (ht:t<8) (m:aa W h (aq a y g x++R)):
 aj Tryz.prog 45 #[a8 a, .int .i64 aid, .int .i64 t] h (EU W a y R (x.make aid t)):=by
 obtain⟨b,hb,-⟩:=q.da c.hs
 have n:=c.ok.toeG
 have CR:=PR ht
 have wm:=c.ok.nd
 have mj:=IZ (aid:=aid) c.ok
 have gr:s.aT (t:Int)=s.l.getD t ak:=by unfold ba.aT;rw[Int.toNat_natCast]
 have hw:=c.i.w
 refine amU _ _ _ _ _ ((s5 q c.hs hb m).ret ⟨_,rfl,aN ⟨⟨by omega,by omega⟩,(XV c.ok m).mono ?_⟩⟩)
 rintro _ h2 ⟨is,rfl,m2⟩
 refine⟨_,_,rfl,m2.bb λdp h3 m3=>m3.c8 0 rfl (by rw[dL];exact mj.1) rfl dM λh4 m4=>(OI ⟨by omega,by omega⟩ (c4 m4)).mono ?_⟩
 clear m m2 m3 m4
 rintro _ aA ⟨rfl,m⟩
 have wG:=XI n m (k:=(fA t).toNat) (by omega)
 refine⟨_,rfl,⟨CR.1,CR.2⟩,_,wG,?_⟩
 refine⟨λz h=>z=x.Bu (fA t)/\aa W h (aq a y g x++[⟨dp,0,ints .u8 (x.addr aid),some 26⟩]::R),aC (λaK=>⟨?_,m⟩) (λaK=>⟨?_,m⟩),λ_=>?_⟩
 ·unfold ab.Bu;rw[if_pos aK]
 ·unfold ab.Bu;rw[if_neg aK]
 clear m wG
 rintro _ aU ⟨rfl,m⟩
 have fj:=xO n m
 have kH:=m.bE 16 rfl (n:=6) (by rw[dL];exact mj.1.symm) (p:=0)
 have hp:∀{W:Wd} {h:J} {R:List aL},aa W h (aq a y g x++R)->∀(j:Nat) (v:Value),(fS (y.sp (aD aid) t) (s.l.getD t ak))[j]?=some v->cell h b (0+6+(t:Int).toNat*5+j)=some v:= λm j v ah=>lh n c.hs hb ht m ah _ (by first|(rw[Int.toNat_natCast];done)|(rw[Int.toNat_natCast];omega))
 have nT:=hp m 0 _ rfl
 have uI:=uk n m 8 rfl
 refine⟨_,fj,_,kH,_,nT,_,nT,_,uI,_,nT,(XH m).mono ?_⟩
 clear fj kH nT uI
 rintro _ bW ⟨rfl,m7⟩
 clear m
 have fj:=xO n m7
 have kH:=m7.bE 16 rfl (n:=6) (by rw[dL];exact mj.1.symm) (p:=0)
 have nT:=hp m7 0 _ rfl
 have uI:=uk n m7 8 rfl
 refine⟨_,rfl,nT,uI,nT,nT,kH,fj,(Yv c.ok q c.hs hb ht m7).ret ⟨_,rfl,nT,uI,nT,kH,fj,(Jk c.ok q c.hs hb ht m7).ret ⟨_,rfl,nT,uI,kH,fj,(Ff c.ok q c.hs hb ht m7).ret ⟨_,rfl,uI,kH,fj,by rw[dL];exact n.bss,by rw[dL];exact mj.1,rfl,rfl,by simp[dL,n.bss,mj.1,cK],?_⟩⟩⟩⟩
 clear fj kH nT uI
 refine m7.bb λbp fD m11=>?_
 replace m11:=c4 m11
 rw[List.append_nil]at m11
 obtain⟨u,hu⟩:∃u,u=x.mO aid t (s.l.getD t ak):=⟨_,rfl⟩
 replace m11:aa W fD (aq a y g x++cG bp u none 0::[⟨dp,0,ints .u8 (x.addr aid),some 26⟩]::R):=by rw[hu];exact m11
 clear m7
 have AE:u.aid=aid:=by rw[hu];rfl
 have AF:u.tid=t:=by rw[hu];rfl
 have un:zz x u:=by rw[hu];exact⟨⟨n.bss,mj.1⟩,rfl,wm.cO,mj.2⟩
 refine⟨_,hp m11 0 _ rfl,(OY c.ok q c.hs hb ht m11).ret ?_⟩
 have Qp:∀(W:Wd) (h:J) (g:cQ) (alone:Bool),Snt W ads->aH W a y g x->(s.l.getD t ak).s.asks=false->aa W h (aq a y g x++cG bp u none 0::[⟨dp,0,ints .u8 (x.addr aid),some 26⟩]::R)->
  aj Tryz.prog 116 #[a8 a,a8 bp, .pointer (some ⟨b,0+6+(t:Int).toNat*5,none⟩), .bool alone] h λv h'=>∃p,v= .pointer p/\EM W a y bp R (x.data s.r u alone) (.pointer p) h':= λW h g alone a7 q hq m=>by
  have nj:=c.ch hq
  rw[<-AE]at nj hb
  rw[Int.toNat_natCast,show 0+6+t*5=6+t*5 by omega]
  refine(X6 nj a7 q un wm.ix.2 hb AF ht m).mono ?_
  rintro v h' ⟨W',g',hl,q',A7,⟨e,rfl,ax⟩|⟨Bv,ua,uc,e,rfl,tu,ax⟩⟩
  ·exact⟨_,rfl,W',g',hl,q',A7, .inl ⟨e,rfl,cI ax⟩⟩
  ·exact⟨_,rfl,W',g',hl,q',A7, .inr ⟨Bv,ua,uc,e,rfl,tu,ax.free 17 rfl⟩⟩
 cases hq:(s.l.getD t ak).s.asks with
 |true=>
  refine⟨_,_,rfl,_,hp m11 0 _ rfl,(Ff c.ok q c.hs hb ht m11).ret ⟨_,rfl,?_⟩⟩
  have KQ:x.make aid t=((x.AZ aid t (s.l.getD t ak)).1,some (x.AZ aid t (s.l.getD t ak)).2):=by unfold ab.make;rw[c.hs];dsimp only;rw[gr,if_pos hq]
  rw[KQ]
  obtain⟨bM,hO⟩:∃bM,bM=(x.AZ aid t (s.l.getD t ak)).2:=⟨_,rfl⟩
  refine⟨λh=>∃bu ua uc,W.le bu/\cm bu (.slice ua bM.cO.length uc) bM.cO/\aa bu h (aq a y g x++cG bp bM ua uc::[⟨dp,0,ints .u8 (x.addr aid),some 26⟩]::R),df rfl ?_,λ_=>?_⟩
  ·refine m11.store 16 rfl 4 rfl λiA m14=>?_
   refine⟨_,m14.bE 17 rfl (n:=6) (by rw[dL];exact mj.1.symm) (p:=0),_,xO n m14,by rw[dL];exact mj.1,by rw[dL];exact n.bss,(XZ mj.1 n.bss ⟨by omega,by omega⟩ ⟨hw.s.1,by have:=hw.s.2;omega⟩ m14).mono ?_⟩
   rintro _ pa ⟨bu,ff,ep,hl,rfl,iD,m15⟩
   refine⟨_,_,_,_,rfl,m15.store 16 rfl 7 rfl λrn m16=>⟨bu,ff,ep,hl,by rw[hO];exact iD,?_⟩⟩
   rw[hO]
   have e:(((fX u none 0).set 4 (.int .i64 2)).set 7 (.slice ff (k5 132 (x.addr aid) x.c.bss t (s.l.getD t ak).s.w.st).length ep))=fX (x.AZ aid t (s.l.getD t ak)).2 ff ep:=by rw[hu];rfl
   unfold cG
   rw[<-e];exact m16
  rintro CD ⟨bu,ua,uc,hl,iD,LL⟩
  refine(Jg c.ok (q.le hl) c.hs (by decide) LL).mono ?_
  rintro _ Ry ⟨rfl,eJ,g3,fa,aE,LM⟩
  refine⟨_,rfl,(Ji c.ok ((a7.le hl).le fa) aE LM).mono ?_⟩
  rintro _ acg ⟨⟨jh,rfl⟩,LN⟩
  exact⟨_,_,rfl,bp,eJ,g3,hl.trans fa,aE.cZ,c.ok.cZ, .inr ⟨bM,ua,uc,by rw[hO],rfl,iD.le fa,LN.free 17 rfl⟩⟩
 |false=>
  refine⟨_,_,rfl,_,hp m11 0 _ rfl,(Ff c.ok q c.hs hb ht m11).ret ⟨_,rfl,?_⟩⟩
  have Sl:∀aO,¬((s.l.getD t ak).s.st=1/\(s.l.getD t ak).s.due.length=0/\1<x.c.wn/\(s.l.getD t ak).refused=false/\(s.l.getD t ak).dy<=x.c.rt)->aO=(decide ((s.l.getD t ak).s.st=1)||tR x.pow aid)->x.make aid t=x.data s.r u aO:= λaO hc e=>by
   have:=agG (tid:=(t:Int)) c.hs (by rw[gr];exact hq) (by rw[gr];exact hc)
   rw[gr]at this;rw[this,e,hu]
  have one:∀(bu:Wd) (h:J) (g:cQ),W.le bu->aH bu a y g x->aa bu h (aq a y g x++cG bp u none 0::[⟨dp,0,ints .u8 (x.addr aid),some 26⟩]::R)->¬((s.l.getD t ak).s.st=1/\(s.l.getD t ak).s.due.length=0/\1<x.c.wn/\(s.l.getD t ak).refused=false/\(s.l.getD t ak).dy<=x.c.rt)->
   ec (decide ((s.l.getD t ak).s.st=(1:Int))) (aj Tryz.prog 116 #[a8 a,a8 bp, .pointer (some ⟨b,0+6+(t:Int).toNat*5,none⟩), .bool true] h λv h'=>∃p,v= .pointer p/\EU W a y R (x.make aid t) (.pointer p) h')
    (aj Tryz.prog 117 #[.pointer (some ⟨a,150,none⟩), .int .i64 aid] h λr h1=>∃t5:Bool,r= .bool t5/\aj Tryz.prog 116 #[a8 a,a8 bp, .pointer (some ⟨b,0+6+(t:Int).toNat*5,none⟩), .bool t5] h1 λv h'=>∃p,v= .pointer p/\EU W a y R (x.make aid t) (.pointer p) h'):= λbu h g hl q m hc=>by
   have wrap:∀{aO p h'},x.make aid t=x.data s.r u aO->EM bu a y bp R (x.data s.r u aO) (.pointer p) h'->EU W a y R (x.make aid t) (.pointer p) h':= λe ⟨W',g',C6,k⟩=>by rw[e];exact⟨bp,W',g',hl.trans C6,k⟩
   refine aC (λaK=>?_) λaK=>?_
   ·refine(Qp bu h g true (a7.le hl) q hq m).mono ?_
    rintro _ h' ⟨p,rfl,hd⟩
    exact⟨p,rfl,wrap (Sl true hc (by rw[decide_eq_true aK];rfl)) hd⟩
   ·refine(Yo c.ok m).ret ⟨_,rfl,(Qp bu h g (tR x.pow aid) (a7.le hl) q hq m).mono ?_⟩
    rintro _ h' ⟨p,rfl,hd⟩
    exact⟨p,rfl,wrap (Sl _ hc (by rw[decide_eq_false aK];rfl)) hd⟩
  obtain⟨bM,hO⟩:∃bM,bM=(x.mkAdd aid t s).2:=⟨_,rfl⟩
  refine⟨λh=>((s.l.getD t ak).s.st=1/\(s.l.getD t ak).s.due.length=0/\1<x.c.wn/\(s.l.getD t ak).refused=false/\(s.l.getD t ak).dy<=x.c.rt)/\∃bu g2 ua uc,W.le bu/\aH bu a y g2 (x.pP aid t s)/\cm bu (.slice ua bM.cO.length uc) bM.cO/\
   aa bu h (aq a y g2 (x.pP aid t s)++cG bp bM ua uc::[⟨dp,0,ints .u8 (x.addr aid),some 26⟩]::R),aZ rfl (aC (λaK=>?_) λaK=>?_),λ_=>?_⟩
  ·refine⟨_,hp m11 0 _ rfl,(Jf c.ok q c.hs hb ht m11).mono ?_⟩
   rintro _ ov ⟨bu,a2,aG,us,F,dv,rfl,o,mv,q2,m2⟩
   replace m2:=cI m2
   refine⟨_,_,_,rfl,aC (λbd=>⟨_,uk n m2 5 rfl,aC (λc7=>⟨_,lh n c.hs hb ht m2 (j:=2) rfl _ (by rw[Int.toNat_natCast]),bH (λeK=>⟨_,lh n c.hs hb ht m2 (j:=1) rfl _ (by rw[Int.toNat_natCast]),_,uk n m2 6 rfl,aC (λnc=>?_)
    λnc=>one bu ov g dv q2 m2 (λhc=>nc hc.2.2.2.2)⟩) λeK=>one bu ov g dv q2 m2 (λhc=>by rw[hc.2.2.2.1]at eK;cases eK)⟩) λc7=>one bu ov g dv q2 m2 (λhc=>c7 hc.2.2.1)⟩) λbd=>one bu ov g dv q2 m2 (λhc=>bd (by have:=hc.2.1;omega))⟩
   have wy:(s.l.getD t ak).s.l=[]:=by
    have:=(c.ch hq).due
    have h2:(s.l.getD t ak).s.due.length=0:=by omega
    rw[this,List.length_map]at h2
    exact List.length_eq_zero_iff.1 h2
   have CT:((s.l.getD t ak).s.st=1/\(s.l.getD t ak).s.due.length=0/\1<x.c.wn/\(s.l.getD t ak).refused=false/\(s.l.getD t ak).dy<=x.c.rt):=⟨aK,by omega,c7,pU eK,nc⟩
   have dH:=(c.ok.Bn c.hs).1
   refine⟨_,hp m2 0 _ rfl,aN ⟨_,OO n c.hs hb m2,(XY c (a7.le dv) q2 hb ht aK wy m2).mono ?_⟩⟩
   rintro _ we ⟨rfl,g3,aE,m3⟩
   obtain⟨cN,Lb⟩:∃cN,cN=(s.l.getD t ak).dE ((s.l.getD t ak).s.ask s.tok).1:=⟨_,rfl⟩
   rw[<-Lb]at aE m3
   have bC:eG (x.bw aid (some (s.aW t cN))):=n.bw (ba.tH (n.lens c.hs)) c.hs
   have lD:(x.bw aid (some (s.aW t cN))).of aid=some (s.aW t cN):=ab.rE n.st c.hs
   have Nx:∀{W:Wd} {h:J} {R:List aL},aa W h (aq a y g3 (x.bw aid (some (s.aW t cN)))++R)->cell h b 5=some (.int .i64 s.tok):= λm=>OO (s:=s.aW t cN) bC lD hb m
   refine⟨_,_,rfl,_,jk,aZ rfl (aN ⟨_,Nx m3,?_⟩)⟩
   refine m3.store 16 rfl 4 rfl λAj m4=>?_
   refine m4.store 16 rfl 10 rfl λqa m5=>?_
   replace m5:aa bu qa (aq a y g3 (x.bw aid (some (s.aW t cN)))++[⟨bp,0,((fX u none 0).set 4 (.int .i64 3)).set 10 (.int .i64 s.tok),some 180⟩]::[⟨dp,0,ints .u8 (x.addr aid),some 26⟩]::R):=m5
   have qe:row qa a 0 6=some (ints .u8 x.c.bss):=xO (x:=x.bw aid (some (s.aW t cN))) bC m5
   refine⟨_,m5.bE 17 rfl (n:=6) (by rw[dL];exact mj.1.symm) (p:=0),_,qe,_,qe,aN ⟨_,Nx m5,_,uk bC m5 5 rfl,by rw[dL];exact mj.1,by rw[dL];exact n.bss,by rw[dL];exact n.bss,?_⟩⟩
   refine(XS (a7.le dv).Rc mj.1 n.bss n.bss ⟨dH.1,by omega⟩ ⟨by omega,by omega⟩ ⟨by show 0<=x.c.wn;have:=wm.wn.1;omega,by show x.c.wn<=1023;have:=wm.wn.2;omega⟩ ⟨hw.n.1,by have:=hw.n.2;omega⟩ m5).mono ?_
   rintro _ CA ⟨oh,ff,ep,mq,rfl,iD,m6⟩
   refine⟨_,_,_,_,rfl,?_⟩
   refine m6.store 16 rfl 7 rfl λFT m7=>aN ⟨_,Nx m7,by simp only[fits];omega,⟨by omega,by decide⟩,aN ?_⟩
   refine Yw bC (aE.le mq) lD hb ((s.tok+1)%256) m7 λFU vh m8=>⟨CT,oh,g3,ff,ep,dv.trans mq,?_,?_,?_⟩
   ·have e:(x.bw aid (some (s.aW t cN))).bw aid (some ((s.aW t cN).xi ((s.tok+1)%256)))=x.pP aid t s:=by
     unfold ab.pP;rw[gr,<-Lb];unfold ab.bw;simp only[List.set_set]
    rw[<-e];exact vh
   ·rw[hO]
    show cm oh (.slice ff (l9 (x.addr aid) x.c.bss x.c.bss false s.tok t x.c.wn 0 (s.aT t).s.w.dD 0).length ep) (l9 (x.addr aid) x.c.bss x.c.bss false s.tok t x.c.wn 0 (s.aT t).s.w.dD 0)
    rw[gr];exact iD
   ·have e:(x.bw aid (some (s.aW t cN))).bw aid (some ((s.aW t cN).xi ((s.tok+1)%256)))=x.pP aid t s:=by
     unfold ab.pP;rw[gr,<-Lb];unfold ab.bw;simp only[List.set_set]
    rw[<-e]
    have ag:(((fX u none 0).set 4 (.int .i64 3)).set 10 (.int .i64 s.tok)).set 7 (.slice ff (l9 (x.addr aid) x.c.bss x.c.bss false s.tok t x.c.wn 0 (s.l.getD t ak).s.w.dD 0).length ep)=fX bM ff ep:=by
     rw[hO];unfold ab.mkAdd;dsimp only;rw[gr,<-hu];rfl
    unfold cG
    rw[<-ag];exact m8
  ·exact one W fD g (Wd.le.refl W) q m11 (λhc=>aK hc.1)
  ·rintro CD ⟨CT,bu,g2,ua,uc,hl,q2,iD,LL⟩
   have dH:=(c.ok.Bn c.hs)
   have acD:((s.l.getD t ak).s.ask s.tok).2=none:=by
    have h2:=CT.2.1
    rw[(c.ch hq).due,List.length_map]at h2
    unfold aS.ask;rw[if_pos dH.1,if_pos ⟨CT.1,List.length_eq_zero_iff.1 h2⟩]
   have KQ:x.make aid t=((x.mkAdd aid t s).1,some (x.mkAdd aid t s).2):=by
    unfold ab.make;rw[c.hs];dsimp only;rw[gr,if_neg (by rw[hq];decide),if_pos CT,if_pos acD]
   rw[KQ]
   have kM:bl (x.pP aid t s):=by
    unfold ab.pP
    refine c.ok.bw c.hs (ba.tH (n.lens c.hs)) (λk I=>?_) ⟨⟨by show(0:Int)<=(s.tok+1)%256;omega,by show(s.tok+1)%256<256;omega⟩,dH.2⟩
    show r6 ((s.aW t ((s.aT t).dE ((s.aT t).s.ask s.tok).1)).l.getD k ak)
    rw[ba.qz (n.lens c.hs).1 ht]
    split
    ·rw[gr];exact⟨c.i.ask.ok,(c.ok.jz c.hs ht).v⟩
    ·exact c.ok.jz c.hs I
   refine(Jg kM q2 (ab.rE (x:=x) n.st c.hs) (by decide) LL).mono ?_
   rintro _ Ry ⟨rfl,eJ,g3,fa,aE,LM⟩
   refine⟨_,rfl,(Ji kM ((a7.le hl).le fa) aE LM).mono ?_⟩
   rintro _ acg ⟨⟨jh,rfl⟩,LN⟩
   exact⟨_,_,rfl,bp,eJ,g3,hl.trans fa,aE.cZ,kM.cZ, .inr ⟨bM,ua,uc,by rw[hO],rfl,iD.le fa,LN.free 17 rfl⟩⟩
end
end Go.Proofs.YtjlkfjnfnonekaaGreatDoor
set_option maxRecDepth 8000
namespace Go.Proofs.YtjlkfjnfnonekaaGreatDoor
open Go.Vc
def ab.nF (x:ab) (l:eR):ab:={x with cM:=l}
def ab.rS (x:ab) (n:Int):ab:={x with num:=n}
def ab.xq (x:ab) (w:List bR):ab:={x with ways:=w}
def ba.D9 (s:ba) (l:List Int):ba:=⟨s.r,s.tok,s.l,l⟩
def hk (u:bR) (a:Option Addr) (c:Nat):List Value:=
 [.int .i64 u.num, .int .i64 u.aid, .int .i64 u.tid, .int .i64 u.ac, .int .i64 u.kind, .int .i64 u.bB, .bool u.agg, .slice a u.cO.length c, .int .i64 u.air, .int .i64 u.slots]
section
variable{W W' aQ:Wd} {h h':J} {R:List aL} {a:Nat} {y:cR} {g:cQ} {x:ab} {i j k t n:Nat} {v:Value} {A B:aL} {s s':ba} {b:Nat} {aid tid ac now air num:Int} {ads:List Addr} {u:bR} {vs:List Value} {cg:Option Addr} {bZ:Nat} {E:ao}
theorem aH.nF {l:eR} (q:aH W a y g x):aH W a y g (x.nF l):=⟨q.bk,q.dY,q.bc,q.st,q.lo,q.lM,q.wl,q.ul,q.us⟩
theorem aH.rS (q:aH W a y g x):aH W a y g (x.rS num):=⟨q.bk,q.dY,q.bc,q.st,q.lo,q.lM,q.wl,q.ul,q.us⟩
theorem ZM {S:dm}:∀i,(o1 S aid air).2=some i->i<p6:=by
 intro i hi;unfold o1 at hi;split at hi
 ·cases hi;decide
 ·split at hi<;>cases hi;decide
theorem X2 (n:x.bc.length=4) (uF:eH (x.bc.getD k c3)) (a7:Snt W ads) (q:aH W a y g x) (I:k<4) (m:aa W h (aq a y g x++R)):aj Tryz.prog 120 #[a8 (y.dp k), .int .i64 aid, .int .i64 air] h λv h'=>
 ∃g',aH W a y g' (x.ew (x.bc.set k (o1 (x.bc.getD k c3) aid air).1))/\aa W h' (aq a y g' (x.ew (x.bc.set k (o1 (x.bc.getD k c3) aid air).1))++R):=by
 obtain⟨G,me,bk⟩:=(E7 I m).ny
 refine(Tn.ZN me (q.bc k I) uF (a7.gS ZM)).mono ?_
 rintro _ h' ⟨L',rfl,hv,ax⟩
 exact⟨_,q.ew n I hv,E8 I (bk.2.1 ax)⟩
theorem Yd (ok:mU x.cM) (a7:Snt W ads) (m:aa W h (aq a y g x++R)):aj Tryz.prog 121 #[a8 y.ik, .int .i64 aid, .int .i64 air] h λv h'=>aa W h' (aq a y g (x.nF (x.cM.add aid air))++R):=by
 refine(aga ok (a7.vy (i:=2) (by decide) rfl) (kz 11 rfl m)).mono ?_
 rintro _ h' ax
 exact na (y:=y) (x:=x) (g:=g) 11 rfl ax
theorem Yj (m:aa W h (aq a y g x++R)) {Q:J->Prop} (K:∀h1,aa W h1 (aq a y g (x.rS num)++R)->Q h1):wr h a 345/\∀h1,h1=b3 h a 345 (.int .i64 num)->Q h1:=
 m.store 8 rfl 0 rfl λh1 m1=>K h1 m1
theorem OW (n:eG x) (hs:x.of aid=some s) (hb:y.b1 (aD aid)=some b) (I:k<4) (m:aa W h (aq a y g x++R)):cell h b (46+k)=some (.int .i64 (s.air.getD k 0)):=by
 have m1:=(xQ n hs hb m).pick 1 (A:=[⟨b,46,ints .i64 s.air,none⟩]) rfl
 refine m1.cell 0 rfl k (j5 ?_)
 have bD:k<s.air.length:=by rw[(n.lens hs).2];exact I
 rw[List.getD_eq_getElem?_getD,List.getElem?_eq_getElem bD];rfl
theorem aH.Vx (n:eG x) (q:aH W a y g x) (hs:x.of aid=some s) (hl:∀t,t<8->(s'.l.getD t ak).s=(s.l.getD t ak).s):aH W a y g (x.bw aid (some s')):=by
 obtain⟨h1,h2⟩:=ab.iU hs
 have I:=my h1
 refine⟨q.bk,q.dY,q.bc,λk bD=>?_,λk s2 bD aR gu=>?_,q.lM,q.wl,q.ul,q.us⟩
 ·show((x.st.set (aD aid) (some s')).getD k none).isSome=_
  rw[fg (by rw[n.st];exact I),<-q.st k bD]
  split
  ·rename_i e;subst e;rw[h2];rfl
  ·rfl
 ·replace bD:(x.st.set (aD aid) (some s')).getD k none=some s2:=bD
  rw[fg (by rw[n.st];exact I)]at bD
  by_cases e:k=aD aid
  ·subst e
   rw[if_pos rfl]at bD
   cases bD
   rw[hl aR gu];exact q.lo _ _ h2 aR gu
  ·rw[if_neg e]at bD
   exact q.lo _ _ bD aR gu
theorem XW (n:eG x) (q:aH W a y g x) (hs:x.of aid=some s) (hb:y.b1 (aD aid)=some b) (I:k<4) (z:Int) (m:aa W h (aq a y g x++R)) {Q:J->Prop} {o:Nat}
 (K:∀h1,aH W a y g (x.bw aid (some (s.D9 (s.air.set k z))))->aa W h1 (aq a y g (x.bw aid (some (s.D9 (s.air.set k z))))++R)->Q h1) (aw:o=46+k:=by omega):wr h b o/\∀h1,h1=b3 h b o (.int .i64 z)->Q h1:=by
 subst aw
 have m1:=(xQ n hs hb m).pick 1 (A:=[⟨b,46,ints .i64 s.air,none⟩]) rfl
 refine m1.store 0 rfl k (by rw[Nat.ble_eq,dL,(n.lens hs).2];exact I) λh1 m2=>?_
 simp only[List.set_cons_zero]at m2
 rw[show(ints .i64 s.air).set k (.int .i64 z)=ints .i64 (s.air.set k z) by unfold ints;rw[List.map_set]]at m2
 have m3:=m2.n9 (A0:=[⟨b,46,ints .i64 s.air,none⟩]) 1 rfl
 have m4:=E6 (s':=s.D9 (s.air.set k z)) (M:=g.cL (aD aid)) n hs hb m3
 rw[zb]at m4
 exact K h1 (q.Vx n hs λt ht=>rfl) m4
theorem NM:∀{bs:List Nat} {us:List (Option Addr×Nat)} {ws:List bR} {b:Nat} {p:Option Addr×Nat} {w:bR},bs.length=ws.length->us.length=ws.length->jP (bs++[b]) (us++[p]) (ws++[w])=jP bs us ws++[(b,fX w p.1 p.2,180)]
 |[],us,ws,b,p,w,h1,h2=>by
  have af:=List.length_eq_zero_iff.1 h1.symm
  subst af
  have ag:=List.length_eq_zero_iff.1 h2
  subst ag;rfl
 |gO::bs,us,[],b,p,w,h1,h2=>by simp at h1
 |gO::bs,[],w0::ws,b,p,w,h1,h2=>by simp at h2
 |gO::bs,i1::us,w0::ws,b,p,w,h1,h2=>by
  simp only[List.cons_append,jP]
  rw[NM (by simpa using h1) (by simpa using h2)]
def cR.oi (y:cR) (b:Nat):cR:={y with fb:=y.fb++[b]}
theorem _root_.Go.Vc.aa.lT {L:List aL} {b:Nat} {cs:List Value} {T:TypeId} (m:aa W h L) (U:(⟨b,0,cs,some T⟩:ke)∈L.flatten):cT h b cs T:=by
 obtain⟨vs,b4,q⟩:=m.has _ U
 obtain⟨-,af,ag⟩:=q.w _ rfl
 have:=q.da
 rw[af,ag]at this;exact this
theorem Px {b j n:Nat} {cs us:List Value} {T:TypeId} (hb:cT h b cs T) (e:(cs.drop j).take n=us) (hl:j+n<=cs.length):row h b j n=some us:=by
 subst e
 refine D4 (by simp;omega) λk v I=>?_
 have KK:k<n:=by have:=(List.getElem?_eq_some_iff.1 I).1;simp at this;omega
 rw[List.getElem?_take_of_lt KK,List.getElem?_drop]at I
 exact hb.vR I
theorem Yy {bp:Nat} {ua:Option Addr} {uc:Nat} (q:aH W a y g x) (hb:cm W (.slice ua u.cO.length uc) u.cO) (hw:x.ways.length<=1000000) (m:aa W h (aq a y g x++cG bp u ua uc::R)) {Q:J->Prop} {ag:TypeId} {e:Nat}
 (K:∀h1 g1,(⟨bp,0,fX u ua uc,some 180⟩:ke)∈(aq a (y.oi bp) g1 (x.xq (x.ways++[u]))).flatten->aH W a (y.oi bp) g1 (x.xq (x.ways++[u]))->aa W h1 (aq a (y.oi bp) g1 (x.xq (x.ways++[u]))++R)->Q h1):
 ∀(br:Nat) (fu:J),br=h.size->fu=h.push (.cells ([a8 bp]:List Value).toArray ag)->∃news:List Value,(row fu br 0 1=some news/\∀u∈news,u.oneCell'=true)/\
  e8 fu g.tX x.ways.length g.vv 1 1 e 8 news λ(a1:Option Addr) (ur:Nat) (fQ:J)=>wr fQ a 346/\∀iA:J,iA=b3 fQ a 346 (.slice a1 (x.ways.length+1) ur)->Q iA:=by
 refine q.lM.kA m 14 rfl (us:=[a8 bp]) rfl (by intro u hu;simp at hu;subst hu;rfl) (by omega) (by decide) λhJ gB i6 bW m7 gv=>?_
 refine m7.store 9 rfl 0 rfl λbJ m8=>?_
 have af:(x.xq (x.ways++[u])).ways.length=x.ways.length+1:=by show(x.ways++[u]).length=_;rw[List.length_append];rfl
 have ly:pA (y.fb++[bp])=pA y.fb++[a8 bp]:=by unfold pA;rw[List.map_append];rfl
 refine K bJ {g with tX:=hJ,vv:=gB,ED:=i6,us:=g.us++[(ua,uc)]} ?_ ⟨q.bk,q.dY,q.bc,q.st,q.lo,?_,?_,?_,?_⟩ ?_
 ·have x5:=NM (b:=bp) (p:=(ua,uc)) (w:=u) q.wl q.ul
  have hm:(⟨bp,0,fX u ua uc,some 180⟩:ke)∈ae (jP (y.fb++[bp]) (g.us++[(ua,uc)]) (x.ways++[u])):=by
   rw[x5];exact DG (x:=(bp,fX u ua uc,180)) (List.mem_append_right _ (by simp))
  exact List.mem_flatten.2 ⟨_,List.mem_of_getElem? (i:=15) rfl,hm⟩
 ·rw[af];show au hJ (x.ways.length+1) gB 1 (pA (y.fb++[bp])) i6
  rw[ly];exact gv
 ·rw[af];show(y.fb++[bp]).length=_;rw[List.length_append,q.wl];rfl
 ·rw[af];show(g.us++[(ua,uc)]).length=_;rw[List.length_append,q.ul];rfl
 ·intro i w p h1 h2
  replace h1:(x.ways++[u])[i]?=some w:=h1
  replace h2:(g.us++[(ua,uc)])[i]?=some p:=h2
  by_cases hi:i<x.ways.length
  ·rw[List.getElem?_append_left hi]at h1
   rw[List.getElem?_append_left (by rw[q.ul];exact hi)]at h2
   exact q.us i w p h1 h2
  ·rw[List.getElem?_append_right (by omega)]at h1
   rw[List.getElem?_append_right (by rw[q.ul];omega),q.ul]at h2
   have yl:i -x.ways.length=0:=by
    have:=(List.getElem?_eq_some_iff.1 h1).1
    simp at this;omega
   rw[yl]at h1 h2
   simp at h1 h2
   subst h1 h2
   exact hb
 ·have x5:=NM (b:=bp) (p:=(ua,uc)) (w:=u) q.wl q.ul
  have m9:=aa.gD (Q:=((aq a y g x).set 14 (ae i6)).set 9 [⟨a,346,[.slice hJ (x.ways.length+1) gB],none⟩]) (A:=cG bp u ua uc) (R:=R) m8
  have m10:=aa.join (aa.focus m9 (A:=ae (jP y.fb g.us x.ways)) 16 rfl)
  have aI:ae (jP y.fb g.us x.ways)++cG bp u ua uc=ae (jP (y.fb++[bp]) (g.us++[(ua,uc)]) (x.ways++[u])):=by rw[x5,aqo];rfl
  rw[aI]at m10
  exact aa.back (L:=((aq a y g x).set 14 (ae i6)).set 9 [⟨a,346,[.slice hJ (x.ways.length+1) gB],none⟩]++R) (A:=ae (jP y.fb g.us x.ways)) 15 rfl m10|> λm11=>by
   have cx:(y.oi bp).fb=y.fb++[bp]:=rfl
   have cy:(x.xq (x.ways++[u])).ways.length=x.ways.length+1:=af
   unfold aq
   rw[cy]
   exact m11
end
end Go.Proofs.YtjlkfjnfnonekaaGreatDoor
set_option maxRecDepth 8000
namespace Go.Proofs.YtjlkfjnfnonekaaGreatDoor
open Go.Vc
section
variable{W W' aQ:Wd} {h h':J} {R:List aL} {a:Nat} {y:cR} {g:cQ} {x:ab} {i j k t n:Nat} {v:Value} {A B:aL} {s s':ba} {b:Nat} {aid tid ac now air num slots:Int} {ads:List Addr} {u:bR} {vs:List Value} {cg:Option Addr} {bZ:Nat} {E:ao}
theorem amr {uc:Nat} {ua:Option Addr} (n:jq u):((fX u ua uc).drop 23).take 5=cK u.r:=by
 obtain⟨al,aP,bx,dO,fh,ey,p5⟩:=fV n.bss
 obtain⟨aK,aG,bd,c7,eK,nc,cP⟩:=fV n.to
 unfold fX
 rw[p5,cP];rfl
theorem ams {uc:Nat} {ua:Option Addr}:((fX u ua uc).drop 0).take 10=hk u ua uc:=rfl
theorem tW {uc:Nat} {ua:Option Addr}:∀z∈hk u ua uc,z.oneCell'=true:=by
 intro z hz;unfold hk at hz;simp at hz
 rcases hz with rfl|rfl|rfl|rfl|rfl|rfl|rfl|rfl|rfl|rfl<;>rfl
theorem NC {r:bo} {n:Int}:0<=r.total n/\r.total n<=18000480:=by
 have:=bo.Uw (r:=r) (n:=n)
 unfold bo.total
 split<;>omega
theorem agb (ok:bl x) (h0:0<=air/\air<=20000000):mU (x.cM.add aid air)/\∀z∈(x.cM.add aid air).l,z<=20000000*(x.num+1):=by
 have hn:=ok.nm
 unfold eR.add
 split
 ·rename_i hc
  have adH:0<=x.cM.of aid/\x.cM.of aid<=20000000*x.num:=by
   unfold eR.of
   rw[if_pos hc.1]
   rw[List.getD_eq_getElem?_getD]
   cases e:x.cM.l[aD aid]?with
   |none=>exact⟨Int.le_refl 0,by show(0:Int)<=_;omega⟩
   |some z=>exact⟨(ok.lm.b z (List.mem_of_getElem? e)).1,ok.li z (List.mem_of_getElem? e)⟩
  refine⟨Tu ok.lm ⟨by omega,by omega⟩,λz hz=>?_⟩
  rcases List.mem_or_eq_of_mem_set hz with hz|rfl
  ·have:=ok.li z hz;omega
  ·omega
 ·exact⟨ok.lm,λz hz=>by have:=ok.li z hz;omega⟩
theorem afZ (ok:bl x) (hs:x.of u.aid=some s) (hn:x.num<1000000) (wB:u.num=x.num+1) (CM:0<=u.air/\u.air<=20000000) (qc:0<=u.ac/\u.ac<4) (ht:u.tid=t) (eY:t<8):bl (x.tG u):=by
 obtain⟨h1,h2⟩:=ab.iU hs
 have I:=my h1
 have tB:=ok.Bn hs
 have Gh:=ok.nm
 have hlen:=ok.lens hs
 obtain⟨k,eW⟩:∃k:Nat,u.ac=k:=⟨u.ac.toNat,by omega⟩
 have gS:(x.ie u).st=x.st.set (aD u.aid) (some ⟨s.r,s.tok,s.l.set u.tid.toNat ((s.aT u.tid).gx true),xL s.air u.ac u.air⟩):=by unfold ab.ie;rw[hs];rfl
 have key:∀k s',(x.tG u).st.getD k none=some s'->(s'=⟨s.r,s.tok,s.l.set u.tid.toNat ((s.aT u.tid).gx true),xL s.air u.ac u.air⟩)\/x.st.getD k none=some s':= λk s' ig=>by
  replace ig:(x.ie u).st.getD k none=some s':=ig
  rw[gS,fg (by rw[ok.st];exact I)]at ig
  split at ig
  ·cases ig;exact .inl rfl
  ·exact .inr ig
 have Sh:=agb (aid:=u.aid) ok CM
 have cP:(x.ie u).c=x.c/\(x.ie u).bK=x.bK/\(x.ie u).dh=x.dh/\(x.ie u).pow=x.pow/\(x.ie u).ed=x.ed/\(x.ie u).book=x.book/\(x.ie u).now=x.now:=by
  unfold ab.ie;rw[hs];exact⟨rfl,rfl,rfl,rfl,rfl,rfl,rfl⟩
 obtain⟨af,ag,aI,cx,cy,dP,h8⟩:=cP
 refine⟨⟨?_,?_,λk s' ig=>?_,?_,?_⟩,λk s' ig aR gu=>?_,?_,?_,?_,?_,?_,Sh.1,λj ah=>?_,?_,?_,?_,λk s' ig=>?_,?_,?_,?_,?_⟩
 ·show(x.ie u).st.length=16;rw[gS,List.length_set];exact ok.st
 ·show(x.bc.set _ _).length=4;rw[List.length_set];exact ok.bc
 ·rcases key k s' ig with rfl|h
  ·exact⟨by show(s.l.set _ _).length=8;rw[List.length_set];exact hlen.1,by show(s.air.set _ _).length=4;rw[List.length_set];exact hlen.2⟩
  ·exact ok.l k s' h
 ·show(x.ie u).c.bss.length=6;rw[af];exact ok.bss
 ·show(x.ie u).c.di.length=4;rw[af];exact ok.di
 ·rcases key k s' ig with rfl|h
  ·show r6 ((s.l.set u.tid.toNat ((s.aT u.tid).gx true)).getD aR ak)
   have e:s.l.set u.tid.toNat ((s.aT u.tid).gx true)=(s.aW t ((s.l.getD t ak).gx true)).l:=by rw[ht];rfl
   rw[e,ba.qz hlen.1 eY]
   split
   ·exact⟨(ok.jz hs eY).s,(ok.jz hs eY).v⟩
   ·exact ok.jz hs gu
  ·exact ok.aT k s' h aR gu
 ·show Pl.eT (x.ie u).bK;rw[ag];exact ok.dY
 ·show(x.ie u).bK.len<=1000000;rw[ag];exact ok.pl
 ·show∀p∈(x.ie u).bK.all,q4 p;rw[ag];exact ok.eh
 ·show oW (x.ie u).dh;rw[aI];exact ok.eb
 ·show q6 (x.ie u).pow;rw[cx];exact ok.pw
 ·show eH ((x.bc.set u.ac.toNat _).getD j c3)
  rw[fg (by rw[ok.bc];omega)]
  split
  ·exact eH.ZL (ok.mH _ (by omega))
  ·exact ok.mH j ah
 ·show ks (x.ie u).ed;rw[cy];exact ok.ed
 ·show(x.ie u).book.length<=1000000;rw[dP];exact ok.bk
 ·show 0<=(x.ie u).now/\_;rw[show(x.tG u).now=(x.ie u).now from rfl,h8];exact ok.now
 ·show BM u.num s'
  rw[wB]
  rcases key k s' ig with rfl|h
  ·refine⟨tB.1,tB.2.1,λz hz=>?_⟩
   replace hz:z∈s.air.set u.ac.toNat (s.air.getD u.ac.toNat 0+u.air):=hz
   rcases List.mem_or_eq_of_mem_set hz with hz|rfl
   ·have:=tB.2.2 z hz;omega
   ·have C5:u.ac.toNat<s.air.length:=by rw[hlen.2];omega
    rw[List.getD_eq_getElem?_getD,List.getElem?_eq_getElem C5]
    have:=tB.2.2 _ (List.getElem_mem C5)
    simp only[Option.getD_some];omega
  ·have:=ok.pF k s' h
   exact⟨this.1,this.2.1,λz hz=>by have:=this.2.2 z hz;omega⟩
 ·show 0<=u.num/\u.num<=1000000;omega
 ·intro z hz
  show z<=20000000*u.num
  rw[wB];exact Sh.2 z hz
 ·show EL (x.ie u).c;rw[af];exact ok.nd
 ·show∀o∈(x.ie u).dh,_;rw[aI];exact ok.iN
set_option maxHeartbeats 4000000 in
theorem Yf {bp:Nat} {ua:Option Addr} {uc:Nat} (ok:bl x) (a7:Snt W ads) (q:aH W a y g x) (hs:x.of u.aid=some s) (un:jq u) (eB:u.tid=t) (ht:t<8) (qc:0<=u.ac/\u.ac<4) (hn:x.num<1000000) (hw:x.ways.length<=1000000) (qd:u.cO.length<=1000000)
 (dK:cm W (.slice ua u.cO.length uc) u.cO) (m:aa W h (aq a y g x++cG bp u ua uc::R)):
 aj Tryz.prog 46 #[a8 a,a8 bp, .int .i64 slots] h λv h'=>∃W' g' nL dz,W.le W'/\v= .agg (hk (x.nv u slots).2 nL dz).toArray/\cm W' (.slice nL (x.nv u slots).2.cO.length dz) (x.nv u slots).2.cO/\
  aH W' a (y.oi bp) g' (x.nv u slots).1/\aa W' h' (aq a (y.oi bp) g' (x.nv u slots).1++R):=by
 obtain⟨b,hb,-⟩:=q.da hs
 obtain⟨k,eW⟩:∃k:Nat,u.ac=k:=⟨u.ac.toNat,by omega⟩
 have I:k<4:=by omega
 have n:=ok.toeG
 have Gh:=ok.nm
 have tB:=ok.Bn hs
 have hlen:=n.lens hs
 obtain⟨bM,hO⟩:∃bM,bM=u.fin (x.num+1) slots:=⟨_,rfl⟩
 have SA:=NC (r:=u.r) (n:=u.cO.length)
 have aaW:bM.air=u.r.total u.cO.length:=by rw[hO];rfl
 have ou:x.nv u slots=(x.tG bM,bM):=by unfold ab.nv;rw[hO]
 rw[ou]
 refine amT _ _ _ _ _ (m.bb λal h1 m1=>aN ⟨_,(c4 m1).cell 17 rfl 1 rfl,(s5 q hs hb (c4 m1)).ret ⟨_,rfl,_,OL (c4 m1),by simp only[fits];omega,?_⟩⟩)
 replace m1:=c4 m1
 refine Yj (num:=x.num+1) m1 λh3 m3=>⟨_,OL m3,aN ?_⟩
 replace q:=q.rS (num:=x.num+1)
 refine m3.store 17 rfl 0 rfl λh4 m4=>aN ?_
 refine m4.store 17 rfl 9 rfl λaA m5=>aN ?_
 have bC:eG (x.rS (x.num+1)):=⟨n.st,n.bc,n.l,n.bss,n.di⟩
 have abt:((fX u ua uc).set 0 (.int .i64 (x.num+1))).set 9 (.int .i64 slots)=fX {u with num:=x.num+1,slots:=slots} ua uc:=rfl
 replace m5:aa W aA (aq a y g (x.rS (x.num+1))++[⟨al,0,[.int .i64 0, .int .i64 0, .int .i64 0, .int .i64 0, .int .i64 0, .int .i64 0, .bool false, .slice none 0 0, .int .i64 0, .int .i64 0],some 50⟩]::cG bp {u with num:=x.num+1,slots:=slots} ua uc::R):=by
  unfold cG;rw[<-abt];exact m5
 have Wh:jq {u with num:=x.num+1,slots:=slots}:=⟨un.bss,un.to⟩
 clear m m1 m3 m4
 refine⟨_,m5.row 17 rfl 23 (amr Wh) (by rw[xo Wh];decide),aN ⟨_,_,_,m5.cell 17 rfl 7 rfl,(U8 m5).mono ?_⟩⟩
 rintro _ aU ⟨rfl,m6⟩
 clear m5
 refine⟨_,rfl,aN (m6.store 17 rfl 8 rfl λbW m7=>?_)⟩
 have abu:(fX {u with num:=x.num+1,slots:=slots} ua uc).set 8 (.int .i64 (u.r.total u.cO.length))=fX bM ua uc:=by rw[hO];rfl
 replace m7:aa W bW (aq a y g (x.rS (x.num+1))++[⟨al,0,[.int .i64 0, .int .i64 0, .int .i64 0, .int .i64 0, .int .i64 0, .int .i64 0, .bool false, .slice none 0 0, .int .i64 0, .int .i64 0],some 50⟩]::cG bp bM ua uc::R):=by
  unfold cG;rw[<-abu];exact m7
 clear m6
 have QI:bM.aid=u.aid:=by rw[hO];rfl
 have ti:bM.ac=u.ac:=by rw[hO];rfl
 have x6:bM.tid=u.tid:=by rw[hO];rfl
 have JZ:bM.cO=u.cO:=by rw[hO];rfl
 have lD:(x.rS (x.num+1)).of bM.aid=some s:=by rw[QI];exact hs
 rw[<-QI]at hb
 refine aN ⟨bM.ac,m7.cell 17 rfl 3 rfl,⟨by rw[ti];omega,by rw[ti];omega⟩,some ⟨y.dp k,0,none⟩,by rw[ti,eW,Int.toNat_natCast];exact ON m7 I,aN ⟨bM.aid,m7.cell 17 rfl 1 rfl,aN ⟨bM.air,m7.cell 17 rfl 8 rfl,(X2 bC.bc (ok.mH k I) a7 q I m7).mono ?_⟩⟩⟩
 clear m7 q
 rintro EB bJ ⟨g8,q,m8⟩
 obtain⟨fK,uT⟩:∃fK,fK=(x.rS (x.num+1)).ew ((x.rS (x.num+1)).bc.set k (o1 ((x.rS (x.num+1)).bc.getD k c3) bM.aid bM.air).1):=⟨_,rfl⟩
 rw[<-uT]at q m8
 have Ly:fK.cM=x.cM:=by rw[uT];rfl
 have hT:eG fK:=by rw[uT];exact⟨n.st,by show(x.bc.set _ _).length=4;rw[List.length_set];exact n.bc,n.l,n.bss,n.di⟩
 have pf:fK.of bM.aid=some s:=by rw[uT];exact lD
 refine⟨EB,rfl,_,E4 m8,aN ⟨bM.aid,m8.cell 17 rfl 1 rfl,aN ⟨bM.air,m8.cell 17 rfl 8 rfl,(Yd (by rw[Ly];exact ok.lm) a7 m8).mono ?_⟩⟩⟩
 clear m8
 rintro v9 ct m9
 replace q:=q.nF (l:=fK.cM.add bM.aid bM.air)
 obtain⟨gJ,ry⟩:∃gJ,gJ=fK.nF (fK.cM.add bM.aid bM.air):=⟨_,rfl⟩
 rw[<-ry]at q m9
 have G3:eG gJ:=by rw[ry];exact⟨hT.st,hT.bc,hT.l,hT.bss,hT.di⟩
 have Gn:gJ.of bM.aid=some s:=by rw[ry];exact pf
 have acx:=OW G3 Gn hb I m9
 have aro:0<=s.air.getD k 0/\s.air.getD k 0<=20000000*x.num:=by
  have C5:k<s.air.length:=by rw[hlen.2];exact I
  rw[List.getD_eq_getElem?_getD,List.getElem?_eq_getElem C5]
  exact tB.2.2 _ (List.getElem_mem C5)
 refine⟨v9,rfl,aN ⟨bM.ac,m9.cell 17 rfl 3 rfl,aN ⟨⟨by rw[ti];omega,by rw[ti];omega⟩,s.air.getD k 0,by rw[ti,eW,Int.toNat_natCast];rw[show 0+46+k=46+k by omega];exact acx,aN ⟨bM.air,m9.cell 17 rfl 8 rfl,by simp only[fits];rw[aaW];omega,aN ⟨⟨by rw[ti];omega,by rw[ti];omega⟩,?_⟩⟩⟩⟩⟩
 refine XW G3 q Gn hb I (s.air.getD k 0+bM.air) m9 (λdS DZ m10=>?_) (by rw[ti,eW,Int.toNat_natCast])
 clear m9 q
 obtain⟨sQ,K2⟩:∃sQ,sQ=s.D9 (s.air.set k (s.air.getD k 0+bM.air)):=⟨_,rfl⟩
 rw[<-K2]at DZ m10
 have LS:eG (gJ.bw bM.aid (some sQ)):=G3.bw (by rw[K2];exact⟨hlen.1,by show(s.air.set _ _).length=4;rw[List.length_set];exact hlen.2⟩) Gn
 have adX:(gJ.bw bM.aid (some sQ)).of bM.aid=some sQ:=ab.rE G3.st Gn
 refine aN ⟨bM.tid,m10.cell 17 rfl 2 rfl,aN ⟨⟨by rw[x6];omega,by rw[x6];omega⟩,?_⟩⟩
 refine Fe LS DZ adX hb ht m10 (z:=(sQ.l.getD t ak).gx true) 4 (by decide) rfl rfl (λfD g11 D0 m11=>?_) (by rw[x6,eB,Int.toNat_natCast])
 clear m10 DZ
 obtain⟨lu,K8⟩:∃lu,lu=(gJ.bw bM.aid (some sQ)).bw bM.aid (some (sQ.aW t ((sQ.l.getD t ak).gx true))):=⟨_,rfl⟩
 rw[<-K8]at D0 m11
 have aef:lu.ways=x.ways:=by rw[K8,ry,uT];rfl
 refine⟨_,_,_,B0 m11,?_⟩
 refine Yy D0 (by rw[JZ];exact dK) (by rw[aef];exact hw) (aa.jy (Q:=aq a y g11 lu++[cG bp bM ua uc]) (R:=R) (aa.gD (Q:=aq a y g11 lu) (R:=cG bp bM ua uc::R) m11)|> λm=>(show aa W fD (aq a y g11 lu++cG bp bM ua uc::_)from m)) λiA g14 hmem UP m14=>?_
 clear m11 D0
 obtain⟨kU,SE⟩:∃kU,kU=lu.xq (lu.ways++[bM]):=⟨_,rfl⟩
 rw[<-SE]at UP m14 hmem
 have ex:kU=x.tG bM:=by
  have KE:x.ie bM=x.bw bM.aid (some ⟨s.r,s.tok,s.l.set bM.tid.toNat ((s.aT bM.tid).gx true),xL s.air bM.ac bM.air⟩):=by unfold ab.ie;rw[show x.of bM.aid=some s from lD]
  unfold ab.tG
  rw[KE,SE,K8,ry,uT,K2]
  unfold ab.xq ab.bw ab.nF ab.ew ab.rS ba.D9 ba.aW ba.aT xL ab.tV
  simp only[List.set_set]
  rw[x6,eB,ti,eW]
  rw[show bM.num=x.num+1 by rw[hO];rfl]
  rfl
 have CP:∀{h:J} {R:List aL},aa W h (aq a (y.oi bp) g14 kU++R)->(⟨bp,0,fX bM ua uc,some 180⟩:ke)∈(aq a (y.oi bp) g14 kU).flatten->cT h bp (fX bM ua uc) 180:= λm hm=>m.lT (by rw[List.flatten_append];exact List.mem_append_left _ hm)
 have Ii:jq bM:=by rw[hO];exact⟨un.bss,un.to⟩
 refine aN ⟨hk bM ua uc,Px (CP m14 hmem) ams (by rw[xo Ii];decide),m14.bb λYC pa m15=>m15.c8 0 rfl rfl rfl tW λrn m16=>aN ⟨_,_,_,(CP (c4 m16) hmem).vR (o:=7) rfl,ints .u8 bM.cO,⟨?_,dM⟩,?_⟩⟩
 ·rw[Nat.mul_one,JZ]
  obtain⟨_,_,e,-,hw⟩:=dK
  cases e
  exact m16.e5 hw
 refine au.Fa (au.nil (sz:=1)) m16.hU 0 rfl (by rw[dL,Nat.mul_one]) (by rw[JZ];omega) (by decide) λhJ gB i6 ov m17 TT=>?_
 replace m17:aa W ov (ae i6::[⟨YC,0,hk bM ua uc,some 50⟩]::(aq a (y.oi bp) g14 kU++[⟨al,0,[.int .i64 0, .int .i64 0, .int .i64 0, .int .i64 0, .int .i64 0, .int .i64 0, .bool false, .slice none 0 0, .int .i64 0, .int .i64 0],some 50⟩]::R)):=m17
 refine m17.store 1 rfl 7 rfl λwe m18=>?_
 have JV:(hk bM ua uc).set 7 (.slice hJ (0+bM.cO.length) gB)=hk bM hJ gB:=by rw[Nat.zero_add];rfl
 simp only[List.set_cons_succ,List.set_cons_zero]at m18
 rw[JV]at m18
 refine⟨_,m18.bE 1 rfl rfl,?_⟩
 have m19:aa W we ([⟨al,0,[.int .i64 0, .int .i64 0, .int .i64 0, .int .i64 0, .int .i64 0, .int .i64 0, .bool false, .slice none 0 0, .int .i64 0, .int .i64 0],some 50⟩]::ae i6::(aq a (y.oi bp) g14 kU++R)):=
  aa.gD (Q:=ae i6::aq a (y.oi bp) g14 kU) (R:=R) ((m18.free 1 rfl)|> λm=>(show aa W we (ae i6::(aq a (y.oi bp) g14 kU++_))from m))
 refine m19.c8 0 rfl rfl rfl tW λqa m20=>⟨_,m20.bE 0 rfl rfl,?_⟩
 obtain⟨W',hl,hE,m21⟩:=(m20.aB).give
 have yg:cm W' (.slice hJ bM.cO.length gB) bM.cO:=by
  rw[Nat.zero_add]at TT
  exact au.uq (by simpa using TT) rfl hE
 refine⟨W',g14,hJ,gB,hl,rfl,yg,?_,?_⟩
 ·show aH W' a (y.oi bp) g14 (x.tG bM)
  rw[<-ex];exact UP.le hl
 ·show aa W' qa (aq a (y.oi bp) g14 (x.tG bM)++R)
  rw[<-ex];exact m21
end
end Go.Proofs.YtjlkfjnfnonekaaGreatDoor
