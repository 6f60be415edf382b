import Derived.Test.YtjlkfjnfnonekaaGreatDoorM43
import Derived.Test.YtjlkfjnfnonekaaGreatDoorM25
import Derived.Test.YtjlkfjnfnonekaaGreatDoorM26
import Derived.Test.YtjlkfjnfnonekaaGreatDoorM17
import Derived.Test.YtjlkfjnfnonekaaGreatDoorM23
import Derived.Test.YtjlkfjnfnonekaaGreatDoorM22
set_option linter.all false
set_option maxRecDepth 8000
namespace Go.Proofs.YtjlkfjnfnonekaaGreatDoor
open Go.Vc
def iG (p:Bool×Int):List Value:=[.bool false, .int .i64 0, .int .i64 0, .slice none 0 0, .int .i64 0, .int .u64 0, .bool p.1, .int .i64 p.2]
def gP:List Int:=[2,0,0,0,1,0]
section
variable{W:Wd} {h h':J} {L:List aL} {f:bQ} {v:Value} {b ee t n c k lc:Nat} {me bs:List Int} {ps:List (Bool×Int)} {p:Bool×Int} {eI:Option TypeId} {a dQ ua:Option Addr} {l:List bQ} {vs us:List Value} {E b4:ao}
theorem ak0 (o:au dQ l.length lc 24 vs E) (m:aa W h L) (i:Nat) (hi:L[i]?=some (ae E)) (hs:bX (ir W) l vs) (I:∀f∈l,gK f) (ah:l[k]?=some f):
 ∃b o',dQ=some ⟨b,o',none⟩/\cell h b ((o'+k*24)+18)=some (.int .i64 f.tid)/\∃cg bZ,cell h b ((o'+k*24)+23)=some (.slice cg f.body.length bZ):=by
 obtain⟨cs,⟨⟨v,rfl,hv⟩,hf⟩,hc,hl⟩:=(VL hs I).get (n:=24) (λx cs hx=>by obtain⟨⟨v,rfl,-⟩,hx⟩:=hx;exact v8 hx) ah
 obtain⟨cg,bZ,rfl,h1,h2⟩:=hv
 have sy:=o.j8 m i hi
 have hg:∀r u,(ef f (.slice cg f.body.length bZ))[r]?=some u->vs[k*24+r]?=some u:= λr u hu=>by
  rw[<-hc]at hu
  have U:r<24:=by
   have:=(List.getElem?_eq_some_iff.1 hu).1
   rw[List.length_take]at this;omega
  rw[List.getElem?_take_of_lt U,List.getElem?_drop]at hu
  exact hu
 obtain⟨-,wL,-,-,-,-,AO,-⟩:=Ct (v:= .slice cg f.body.length bZ) hf
 obtain⟨b,o',af,aK⟩:=fW sy (hg 18 _ wL)
 obtain⟨b',ahZ,ag,aG⟩:=fW sy (hg 23 _ AO)
 rw[af]at ag
 cases ag
 exact⟨b,o',af,by rw[Nat.add_assoc];exact aK,cg,bZ,by rw[Nat.add_assoc];exact aG⟩
theorem akj (hl:ps.length=8) (yw:∀p∈ps,0<=p.2/\p.2<=4095) (hf:gK f) (hv:ir W f (ef f v)) (m:aa W h (cA iG 8 b 13 ps::[⟨ee,0,[.slice none 0 0],eI⟩]::L)):
 aj Tryz.prog 149 #[a8 b,a8 ee, .agg (ef f v).toArray] h λr h'=>∃fU ua uc us b4 l,fU.length=8/\(∀p∈fU,0<=p.2/\p.2<=4095)/\(l=[]\/l=[f])/\bX (ir W) l us/\au ua l.length uc 24 us b4/\aa W h' (cA iG 8 b 13 fU::[⟨ee,0,[.slice ua l.length uc],eI⟩]::ae b4::L):=by
 obtain⟨-,wL,uY,wM,-,-,-,uZ⟩:=Ct (v:=v) hf
 have C8:∀u∈ef f v,u.oneCell'=true:=by
  obtain⟨xp,e,a,c,rfl,-,-⟩:=hv
  have:=wa f a f.body.length c
  rwa[<-e]at this
 have t0:=hf.t0
 have t7:=hf.t7
 have q0:=hf.rK
 have q1:=hf.s1
 obtain⟨t,ht⟩:∃t:Nat,f.tid=t:=⟨f.tid.toNat,by omega⟩
 rw[ht]at wL
 have eY:t<ps.length:=by omega
 have hp:=List.getElem?_eq_getElem eY
 obtain⟨p,mr⟩:∃p,p=ps[t]:=⟨_,rfl⟩
 rw[<-mr]at hp
 refine aoX _ _ _ _ _ (m.bb λal h1 m1=>?_)
 have m2:=cA.one m1.swap hp
 clear m m1
 refine⟨_,m2.cell 2 rfl 18 wL,⟨by omega,by omega⟩,_,m2.cell 0 rfl 0 rfl (by rw[Int.toNat_natCast];rfl),df rfl ?_⟩
 rw[Int.toNat_natCast]
 have Gl:∀p∈ps.set t (true,f.sq),0<=p.2/\p.2<=4095:= λp hp=>(List.mem_or_eq_of_mem_set hp).elim (yw p) λe=>by subst e;exact⟨q0,q1⟩
 have app:∀h2,aa W h2 ([⟨b,13+t*8,iG (true,f.sq),none⟩]::zo iG 8 b 13 ps t::[⟨al,0,ef f v,some 257⟩]::[⟨ee,0,[.slice none 0 0],eI⟩]::L)->eu (some ⟨ee,0,none⟩) λaP eg=>∃(s1:Option Addr) (y4 D7:Nat),cell h2 aP eg=some (.slice s1 y4 D7)/\∃uu:List Value,row h2 al 0 24=some uu/\uu.length=24/\
  ∀(bx:Nat) (h4:J),bx=h2.size->h4=h2.push (.cells (uu++[]).toArray 257)->∃oF:List Value,(row h4 bx 0 24=some oF/\∀u∈oF,u.oneCell'=true)/\e8 h4 s1 y4 D7 1 24 257 72 oF λ(a1:Option Addr) (ur:Nat) (aA:J)=>
   eu (some ⟨ee,0,none⟩) λdO aM=>wr aA dO aM/\∀aU:J,aU=b3 aA dO aM (.slice a1 (y4+1) ur)->∃fU ua uc us b4 l,fU.length=8/\(∀p∈fU,0<=p.2/\p.2<=4095)/\(l=[]\/l=[f])/\bX (ir W) l us/\au ua l.length uc 24 us b4/\aa W aU (cA iG 8 b 13 fU::[⟨ee,0,[.slice ua l.length uc],eI⟩]::ae b4::L):= λh2 m3=>by
  refine aN ⟨_,_,_,m3.cell 3 rfl 0 rfl,_,m3.bE 2 rfl uZ.symm,uZ,?_⟩
  rw[List.append_nil]
  refine(au.nil (sz:=24)).kA m3.hU 0 rfl uZ C8 (by decide) (by decide) λay c' bn h' ax o'=>aN (ax.store 4 rfl 0 rfl λaU m4=>⟨ps.set t (true,f.sq),ay,c',[]++ef f v,bn,[f],by rw[List.length_set];exact hl,Gl, .inr rfl,by rw[List.nil_append];exact bX.one hv,o',?_⟩)
  have m5:aa W aU ([⟨b,13+t*8,iG (true,f.sq),none⟩]::zo iG 8 b 13 ps t::[⟨al,0,ef f v,some 257⟩]::[⟨ee,0,[.slice ay 1 c'],eI⟩]::ae bn::L):=m4.jy (Q:=[_,_,_,_])
  exact(cA.back eY m5).swap.aB
 have nil:∀h2,aa W h2 ([⟨b,13+t*8,iG (true,f.sq),none⟩]::zo iG 8 b 13 ps t::[⟨al,0,ef f v,some 257⟩]::[⟨ee,0,[.slice none 0 0],eI⟩]::L)->∃fU ua uc us b4 l,fU.length=8/\(∀p∈fU,0<=p.2/\p.2<=4095)/\(l=[]\/l=[f])/\bX (ir W) l us/\au ua l.length uc 24 us b4/\aa W h2 (cA iG 8 b 13 fU::[⟨ee,0,[.slice ua l.length uc],eI⟩]::ae b4::L):= λh2 m3=>
  ⟨ps.set t (true,f.sq),none,0,[],[],[],by rw[List.length_set];exact hl,Gl, .inl rfl,rfl,au.nil,(cA.back eY m3).swap.aB.hU.jy (Q:=[_,_])⟩
 refine⟨_,m2.cell 2 rfl 20 wM,bH (λaK=>⟨_,m2.cell 0 rfl 6 rfl,bH (λaG=>⟨_,m2.cell 0 rfl 7 rfl,_,m2.cell 2 rfl 19 uY,m2.store 0 rfl 6 rfl λh2 m3=>⟨_,m3.cell 2 rfl 19 uY,m3.store 0 rfl 7 rfl λh3 m4=>bH (λ_=>app h3 m4) λ_=>nil h3 m4⟩⟩) λaG=>?_⟩) λaK=>?_⟩
 all_goals exact m2.store 0 rfl 6 rfl λh2 m3=>⟨_,m3.cell 2 rfl 19 uY,m3.store 0 rfl 7 rfl λh3 m4=>app h3 m4⟩
theorem akh (hl:ps.length=8) (yw:∀p∈ps,0<=p.2/\p.2<=4095) (ht:t<8) (aU:me.length=6) (yp:∀z∈me,0<=z/\z<256) (m:aa W h (cA iG 8 b 13 ps::[⟨b,0,ints .u8 me++(ints .u8 gP++[.int .i64 16]),none⟩]::L)):
 aj Tryz.prog 150 #[a8 b, .int .i64 t] h λr h'=>∃W' a c bs,W.le W'/\r= .slice a bs.length c/\cm W' r bs/\(∀x∈bs,0<=x/\x<256)/\aa W' h' (cA iG 8 b 13 ps::[⟨b,0,ints .u8 me++(ints .u8 gP++[.int .i64 16]),none⟩]::L):=by
 have eY:t<ps.length:=by omega
 have hp:=List.getElem?_eq_getElem eY
 obtain⟨p,mr⟩:∃p,p=ps[t]:=⟨_,rfl⟩
 have yt:=yw p (by rw[mr];exact List.getElem_mem eY)
 rw[<-mr]at hp
 have dP:∀{k:Nat} {x:List Value},(ints .u8 me++x).length=6+x.length/\((ints .u8 me++x).drop 6)=x/\(ints .u8 me++x).take 6=ints .u8 me:= λ{k x}=>by
  obtain⟨_,_,_,_,_,_,e⟩:=fV aU
  rw[e];exact⟨by simp[ints];omega,rfl,rfl⟩
 have m1:=cA.one m hp
 refine aoW _ _ _ _ ⟨⟨by omega,by omega⟩,_,m1.row 2 rfl 6 (us:=ints .u8 gP) (by rw[(dP (k:=0)).2.1];rfl) (by rw[(dP (k:=0)).1];decide),_,m1.row 2 rfl 0 (us:=ints .u8 me) (by rw[List.drop_zero,(dP (k:=0)).2.2]) (by rw[(dP (k:=0)).1];decide),_,m1.cell 0 rfl 7 rfl (by rw[Int.toNat_natCast]),rfl,by rw[dL];exact aU,m1.bb λal h1 m2=>?_⟩
 have hc:(js gP me t p.2 1).length=15:=by unfold js;simp[ints,aU,gP]
 refine m2.c8 (us:=js gP me t p.2 1) 0 rfl hc rfl (λu hu=>?_) λh2 m3=>⟨_,m3.cell 1 rfl 0 rfl (by rw[Int.toNat_natCast];rfl),aZ rfl ⟨_,m3.bE 0 rfl hc.symm,?_⟩⟩
 ·unfold js at hu
  rcases List.mem_append.1 hu with hu|hu
  ·exact dM u hu
  rcases List.mem_append.1 hu with hu|hu
  ·exact dM u hu
  ·simp at hu;rcases hu with rfl|rfl|rfl<;>rfl
 obtain⟨G,l0,bk⟩:=m3.nx
 refine(ajC l0 rfl aU ⟨by omega,by omega⟩ yt).mono ?_
 rintro _ aA ⟨W',a,c,hle,rfl,yI,hb⟩
 refine⟨_,_,_,_,rfl,W',a,c,_,hle,rfl,hb,λx hx=>?_,cA.same hp (bk.1 yI).aB⟩
 rcases List.mem_append.1 hx with hx|hx
 ·exact OS (by decide) yp ⟨by decide,by decide⟩ x hx
 ·exact Tz _ x hx
theorem aki (hl:ps.length=8) (yw:∀p∈ps,0<=p.2/\p.2<=4095) (aU:me.length=6) (yp:∀z∈me,0<=z/\z<256) (hb:cm W (.slice a n c) bs) (hx:∀x∈bs,0<=x/\x<256) (hn:bs.length<=1000000) (m:aa W h (cA iG 8 b 13 ps::[⟨b,0,ints .u8 me++(ints .u8 gP++[.int .i64 16]),none⟩]::L)):
 aj Tryz.prog 62 #[a8 b, .bool false, .slice a n c] h λr h'=>∃W' fU ua uc us b4 l cg bZ an,W.le W'/\fU.length=8/\(∀p∈fU,0<=p.2/\p.2<=4095)/\r= .tuple #[.slice ua l.length uc, .slice cg an.length bZ]/\l.length<=1/\(∀f∈l,gK f)/\bX (ir W') l us/\au ua l.length uc 24 us b4/\cm W' (.slice cg an.length bZ) an/\(∀x∈an,0<=x/\x<256)/\
  aa W' h' (cA iG 8 b 13 fU::[⟨b,0,ints .u8 me++(ints .u8 gP++[.int .i64 16]),none⟩]::ae b4::L):=by
 have dP:∀{k:Nat} {x:List Value},(ints .u8 me++x).length=6+x.length/\((ints .u8 me++x).drop 6)=x/\(ints .u8 me++x).take 6=ints .u8 me:= λ{k x}=>by
  obtain⟨_,_,_,_,_,_,e⟩:=fV aU
  rw[e];exact⟨by simp[ints];omega,rfl,rfl⟩
 refine aoV _ _ _ _ _ _ _ (m.bb λal h1 m1=>aZ rfl (m1.bb λfh fu m2=>?_))
 replace m2:aa W fu (cA iG 8 b 13 ps::[⟨b,0,ints .u8 me++(ints .u8 gP++[.int .i64 16]),none⟩]::[⟨fh,0,[.slice none 0 0],some 142⟩]::[⟨al,0,[.slice a n c],some 36⟩]::[]::L):=((m2.gD (Q:=[_,_])).gD (Q:=[_,_,_])).swap.hU.jy (Q:=[_,_,_,_])
 clear m m1
 refine⟨λtid i h=>∃W' fU ua uc us b4 l,W.le W'/\fU.length=8/\(∀p∈fU,0<=p.2/\p.2<=4095)/\(i=0/\tid=-1/\l=[]/\ua=none/\uc=0\/i=1/\l.length<=1/\-1<=tid/\tid<8)/\(∀f∈l,gK f)/\bX (ir W') l us/\au ua l.length uc 24 us b4/\aa W' h (cA iG 8 b 13 fU::[⟨b,0,ints .u8 me++(ints .u8 gP++[.int .i64 16]),none⟩]::[⟨fh,0,[.slice ua l.length uc],some 142⟩]::[⟨al,0,[.slice a n c],some 36⟩]::ae b4::L),λ_ i _=>(1 -i).toNat,
  ⟨W,ps,none,0,[],[],[],Wd.le.refl W,hl,yw, .inl ⟨rfl,rfl,rfl,rfl,rfl⟩,λf hf=>(by cases hf),rfl,au.nil,m2⟩,λ_=>?_⟩
 clear m2
 rintro tid i fQ ⟨aQ,Hx,ua,uc,us,b4,l,tz,jj,Da,⟨rfl,rfl,rfl,rfl,rfl⟩|⟨rfl,yo,K5,eY⟩,eX,mv,o,m⟩
 ·refine fB (by decide) ⟨⟨by decide,by decide⟩,_,_,_,m.cell 3 rfl 0 rfl,?_⟩
  obtain⟨G,l0,bk⟩:=m.nx
  refine(aj0 l0 (hb.le tz) hx hn).mono ?_
  rintro _ iA ⟨jr,KL,DD,acR⟩
  have m5:=bk.1 DD
  clear l0 DD bk m
  have hle:=tz.trans KL
  have stay:∀{h:J} {ey:Nat} {cs:List Value} {T:TypeId},aa jr h ([⟨ey,0,cs,some T⟩]::cA iG 8 b 13 Hx::[⟨b,0,ints .u8 me++(ints .u8 gP++[.int .i64 16]),none⟩]::[⟨fh,0,[.slice none ([]:List bQ).length 0],some 142⟩]::[⟨al,0,[.slice a n c],some 36⟩]::ae b4::L)->fits .i64 ((0:Int)+1)/\(∃W' fU ua uc us b4 l,W.le W'/\fU.length=8/\(∀p∈fU,0<=p.2/\p.2<=4095)/\((0:Int)+1=0/\(-1:Int)=-1/\l=[]/\ua=none/\uc=0\/(0:Int)+1=1/\l.length<=1/\(-1:Int)<=-1/\(-1:Int)<8)/\(∀f∈l,gK f)/\bX (ir W') l us/\au ua l.length uc 24 us b4/\aa W' h (cA iG 8 b 13 fU::[⟨b,0,ints .u8 me++(ints .u8 gP++[.int .i64 16]),none⟩]::[⟨fh,0,[.slice ua l.length uc],some 142⟩]::[⟨al,0,[.slice a n c],some 36⟩]::ae b4::L))/\(1 -((0:Int)+1)).toNat<(1 -(0:Int)).toNat:= λ{h ey cs T} m=>
   ⟨by simp only[fits];decide,⟨jr,Hx,none,0,us,b4,[],hle,jj,Da, .inr ⟨by decide,by decide,by decide,by decide⟩,eX,mv,o,m.aB⟩,by decide⟩
  rcases acR with⟨hq,cs,rfl,v5,rfl,Df⟩|⟨hq,_,rfl,cy,rfl,ac0⟩
  ·obtain⟨k1,k2⟩:=MB hq hx
   obtain⟨zg,kS,rfl,-,-⟩:=id Df
   obtain⟨⟨f0,f6,-⟩,wL,-,-,-,-,-,uZ⟩:=Ct (v:= .slice zg (jM bs).body.length kS) k1
   have C8:=wa (jM bs) zg (jM bs).body.length kS
   refine⟨_,_,rfl,m5.bb λey pa m6=>m6.c8 0 rfl uZ rfl C8 λrn m7=>fB rfl ⟨_,m7.row 0 rfl 0 f0 (by omega),_,m7.row 2 rfl 0 (us:=ints .u8 me) (by rw[List.drop_zero,(dP (k:=0)).2.2]) (by rw[(dP (k:=0)).1];decide),?_⟩⟩
   clear m5 m6
   obtain⟨G,l0,bk⟩:=m7.nx
   refine(Vq l0 k1.ca aU).mono ?_
   rintro _ ov ⟨rfl,yI⟩
   have m8:=bk.1 yI
   clear l0 yI bk m7
   refine⟨_,rfl,bH (λ_=>?_) λ_=>stay m8⟩
   refine⟨_,m8.row 0 rfl 6 f6 (by omega),_,m8.row 2 rfl 6 (us:=ints .u8 gP) (by rw[(dP (k:=0)).2.1];rfl) (by rw[(dP (k:=0)).1];decide),?_⟩
   obtain⟨G,l0,bk⟩:=m8.nx
   refine(Vq l0 k1.aF rfl).mono ?_
   rintro _ we ⟨rfl,yI⟩
   have m9:=bk.1 yI
   clear l0 yI bk m8
   refine⟨_,rfl,bH (λ_=>?_) λ_=>stay m9⟩
   refine⟨_,m9.bE 0 rfl uZ.symm,?_⟩
   refine(akj jj Da k1 ⟨_,rfl,Df⟩ ((m9.gD (Q:=[_,_,_])).gD (Q:=[_,_]))).mono ?_
   rintro _ Aj ⟨Hy,ua,uc,NL,Xc,aF,dv,Gl,Si,Gs,aM,m10⟩
   have t0:=k1.t0
   have t7:=k1.t7
   refine⟨_,m10.cell 3 rfl 18 wL,by simp only[fits];decide,⟨jr,Hy,ua,uc,NL,Xc,aF,hle,dv,Gl, .inr ⟨by decide,?_,by omega,by omega⟩,?_,Gs,aM,((((m10.gD (Q:=[_,_,_])).aB.gD (Q:=[_,_,_,_,_])).aB.gD (Q:=[_,_])).jy (Q:=[_,_,_,_])).gD (Q:=[_,_])|>.swap⟩,by dsimp only;decide⟩
   ·rcases Si with rfl|rfl
    ·decide
    ·exact Nat.le_refl 1
   ·rcases Si with rfl|rfl
    ·intro f hf;cases hf
    ·intro f hf;simp at hf;subst hf;exact k1
  ·refine⟨_,_,rfl,m5.bb λey pa m6=>m6.c8 0 rfl rfl rfl WS λrn m7=>bF ac0 (stay m7)⟩
 ·refine bF (by decide) (aC (λq=>?_) λq=>?_)
  ·exact⟨_,_,_,m.cell 2 rfl 0 rfl,aQ,Hx,ua,uc,us,b4,l,none,0,[],tz,jj,Da,rfl,yo,eX,mv,o,cm.nil,λx hx=>(by cases hx),((m.gD (Q:=[_,_])).aB.gD (Q:=[_,_])).aB⟩
  ·obtain⟨t,rfl⟩:∃t:Nat,tid=t:=⟨tid.toNat,by omega⟩
   refine⟨_,_,_,m.cell 2 rfl 0 rfl,(akh jj Da (by omega) aU yp m).mono ?_⟩
   rintro _ qa ⟨bu,cg,bZ,an,j2,rfl,Al,uJ,m2⟩
   exact⟨_,_,_,rfl,m2.cell 2 rfl 0 rfl,bu,Hx,ua,uc,us,b4,l,cg,bZ,an,tz.trans j2,jj,Da,rfl,yo,eX,mv.mono λf cs h=>h.le j2,o,Al,uJ,((m2.gD (Q:=[_,_])).aB.gD (Q:=[_,_])).aB⟩
end
end Go.Proofs.YtjlkfjnfnonekaaGreatDoor
set_option maxRecDepth 8000
namespace Go.Proofs.YtjlkfjnfnonekaaGreatDoor
open Go.Vc
def ab.qG (x:ab) (now tid ad:Int) (bs:List Int):bh:=⟨x.book.length+1,ad,tid,now,bs⟩
def ab.DY (x:ab) (aid:Int) (p:bh):ab:=((x.c6 p.at_).l5 (x.bK.jl aid p).1).dX (p4 1 (x.book++[(1,0)]) (x.bK.jl aid p).2)
def ab.offer (x:ab) (now aid tid ad:Int) (bs:List Int):ab×Int×lO:=match x.of aid with
 |none=>(x,0,some 6)
 |some _=>if tid<0\/8<=tid\/1500<bs.length\/now<x.now then(x,0,some 2)else(x.DY aid (x.qG now tid ad bs),x.book.length+1,none)
section
variable{W W' aQ:Wd} {h h':J} {R:List aL} {a:Nat} {y:cR} {g:cQ} {x:ab} {i j k t n:Nat} {v:Value} {A B:aL} {s s':ba} {b:Nat} {aid tid ac now air num ad:Int} {ads:List Addr} {u:bR} {vs:List Value} {E F:ao} {bs:List Int}
theorem ajo (b5:Pl.eT x.bK) (hl:x.bK.len<=1000000) {p:bh} (h0:0<=p.at_/\p.at_<=1125899906842624) (hb:p.body.length<=1500) (ht:Pl.iY aid p.tid=true):
 Pl.eT (x.bK.jl aid p).1/\(x.bK.jl aid p).1.len<=512/\((x.bK.jl aid p).2++(x.bK.jl aid p).1.all).Perm (p::x.bK.all)/\(x.bK.jl aid p).1.len<=x.bK.mp/\(x.bK.jl aid p).1.e9<=x.bK.cF/\(x.bK.jl aid p).1.mp=x.bK.mp/\(x.bK.jl aid p).1.cF=x.bK.cF:=by
 unfold Pl.bL.jl
 rw[if_pos ht]
 have hz:=Pl.vp.1 ht
 obtain⟨h1,h2,h3,h4,aA⟩:=Pl.ajq (k:=Pl.dJ aid p.tid) b5 (by unfold Pl.dJ;omega) h0.1 h0.2 (by omega) (by omega) (p:=p)
 have hp:=b5.p1
 exact⟨h1,by omega,h3,h4,aA,h2.mp,h2.cF⟩
theorem Yp {p:bh} {cs:List Value} (ok:bl x) (a7:Snt W ads) (q:aH W a y g x) (hp:dF W p cs) (h0:0<=p.at_/\p.at_<=1125899906842624) (hb:p.body.length<=1500) (ht:Pl.iY aid p.tid=true) (m:aa W h (aq a y g x++R)):
 aj Tryz.prog 138 #[a8 y.gw, .int .i64 aid, .agg cs.toArray] h λv h'=>∃ar cJ vs W' E g',v= .tuple #[.slice ar (x.bK.jl aid p).2.length cJ, .nilIface]/\au ar (x.bK.jl aid p).2.length cJ 5 vs E/\W.le W'/\bX (dF W') (x.bK.jl aid p).2 vs/\
  aH W' a y g' (x.l5 (x.bK.jl aid p).1)/\aa W' h' (aq a y g' (x.l5 (x.bK.jl aid p).1)++ae E::R):=by
 have eA:=ok.pl
 obtain⟨G,me,bk⟩:=(kz 10 rfl m:aa W h (ae g.jB::(aq a y g x++R).eraseIdx 10)).ny
 refine(Pl.ai7 me q.dY ok.dY (by omega) hp h0.1 h0.2 (by omega) (a7.vy (i:=2) (by decide) rfl)).mono ?_
 rintro _ h1 ⟨ar,cJ,vs,E,aQ,jF,rfl,o,hl,hq,hv,m1⟩
 rw[if_pos ht]
 exact⟨ar,cJ,vs,aQ,E,{g with jB:=jF},rfl,o,hl,hq,(q.le hl).l5 hv,na (y:=y) (x:=x) (g:=g) (R:=ae E::R) 10 rfl (aa.jy (Q:=ae jF::(aq a y g x).eraseIdx 10) (bk.2.2 m1))⟩
theorem Yk {l8 mY:Nat} {kg:Option Addr} (ok:bl x) (a7:Snt W ads) (q:aH W a y g x) (hN:0<=now/\now<=1125899906842624) (rq:x.book.length<1000000) (arP:x.bK.len<1000000) (iD:cm W (.slice kg l8 mY) bs) (hx:∀z∈bs,0<=z/\z<256) (m:aa W h (aq a y g x++R)):
 aj Tryz.prog 54 #[a8 a, .int .i64 now, .int .i64 aid, .int .i64 tid, .int .u32 ad, .slice kg l8 mY] h λv h'=>v= .tuple #[.int .i64 (x.offer now aid tid ad bs).2.1,gC ads (x.offer now aid tid ad bs).2.2]/\pK W a y (x.offer now aid tid ad bs).1 R h':=by
 obtain⟨-,hn,-⟩:=kC iD
 unfold ab.offer
 cases hs:x.of aid with
 |none=>exact Wr _ _ _ _ _ _ _ _ _ _ ((Jh q hs m).ret ⟨_,rfl,df rfl ⟨_,a7.var m 6 rfl,rfl, .mk' q m⟩⟩)
 |some s=>
  obtain⟨b,hb,-⟩:=q.da hs
  obtain⟨ha,-⟩:=ab.iU hs
  have no:(tid<0\/8<=tid\/1500<bs.length\/now<x.now)->∃v:Value,cell h 0 0=some v/\Value.tuple #[.int .i64 0,v]= .tuple #[.int .i64 (if tid<0\/8<=tid\/1500<bs.length\/now<x.now then(x,(0:Int),some 2)else(x.DY aid (x.qG now tid ad bs),(x.book.length:Int)+1,none):ab×Int×lO).2.1,gC ads (if tid<0\/8<=tid\/1500<bs.length\/now<x.now then(x,(0:Int),some 2)else(x.DY aid (x.qG now tid ad bs),(x.book.length:Int)+1,none):ab×Int×lO).2.2]/\
   pK W a y (if tid<0\/8<=tid\/1500<bs.length\/now<x.now then(x,(0:Int),some 2)else(x.DY aid (x.qG now tid ad bs),(x.book.length:Int)+1,none):ab×Int×lO).1 R h:= λhc=>by
   rw[if_pos hc];exact⟨_,a7.var m 2 rfl,rfl, .mk' q m⟩
  refine Wr _ _ _ _ _ _ _ _ _ _ ((s5 q hs hb m).ret ⟨_,rfl,aZ rfl (aC (λaK=>no (by omega)) λaK=>aC (λaG=>no (by omega)) λaG=>aC (λbd=>no (by omega)) λbd=>⟨_,zE m,aC (λc7=>no (by omega)) λc7=>?_⟩)⟩)
  clear no
  dsimp only
  rw[if_neg (by omega)]
  refine m.store 1 rfl 0 rfl λh2 m2=>?_
  replace m2:aa W h2 (aq a y g (x.c6 now)++R):=m2
  have kM:=ok.c6 hN
  refine(Z8 q.bk (by omega) (kz 4 rfl m2)).mono ?_
  rintro _ h3 ⟨ja,rfl,fE,m3⟩
  have aE:aH W a y {g with bk:=ja} ((x.c6 now).dX (x.book++[(1,0)])):=q.c6.dX fE
  replace m3:aa W h3 (aq a y {g with bk:=ja} ((x.c6 now).dX (x.book++[(1,0)]))++R):=na (y:=y) (x:=x.c6 now) (g:=g) 4 rfl m3
  have G6:bl ((x.c6 now).dX (x.book++[(1,0)])):=kM.dX (by simp;omega)
  have ht:Pl.iY aid (x.qG now tid ad bs).tid=true:=Pl.vp.2 ⟨ha.1,ha.2,by show 0<=tid;omega,by show tid<8;omega⟩
  obtain⟨p1,p2,vd,-⟩:=ajo (aid:=aid) (p:=x.qG now tid ad bs) ok.dY ok.pl hN (by show bs.length<=1500;omega) ht
  refine⟨_,rfl,_,E5 m3,(Yp (p:=x.qG now tid ad bs) G6 a7 aE ⟨kg,mY,by rw[show(x.qG now tid ad bs).body.length=l8 from hn];rfl,by rw[show(x.qG now tid ad bs).body.length=l8 from hn];exact iD⟩ hN (by show bs.length<=1500;omega) ht m3).mono ?_⟩
  rintro _ h4 ⟨ar,cJ,vs,oh,E,g4,rfl,o,hl,hq,bP,m4⟩
  have eA:(x.bK.jl aid (x.qG now tid ad bs)).2.length<=1000000:=by
   have:=vd.length_eq
   rw[List.length_append,List.length_cons,<-Pl.bL.rA x.bK]at this
   omega
  have L7:bl (((x.c6 now).dX (x.book++[(1,0)])).l5 (x.bK.jl aid (x.qG now tid ad bs)).1):=G6.l5 p1 (by omega) λp hp=>by
   rcases List.mem_cons.1 (vd.mem_iff.1 (List.mem_append_right _ hp))with rfl|hp
   ·exact⟨by show bs.length<=1500;omega,hx⟩
   ·exact ok.eh p hp
  refine⟨_,_,_,_,rfl,true,jk,aZ rfl ((Je (l:=(x.bK.jl aid (x.qG now tid ad bs)).2) L7 (a7.le hl) bP hq eA (λh g x X mm=>o.j8 mm (16+X.length+0) (Ja 0)) m4).mono ?_)⟩
  rintro v5 aA ⟨g5,eO,m5⟩
  exact⟨rfl,oh,g5,hl,eO,cI m5⟩
end
end Go.Proofs.YtjlkfjnfnonekaaGreatDoor
set_option maxRecDepth 8000
namespace Go.Proofs.YtjlkfjnfnonekaaGreatDoor
open Go.Vc
def ab.Bi (x:ab) (t:List jb):ab:={x with dh:=t}
section
variable{W W' aQ:Wd} {h h':J} {R:List aL} {a:Nat} {y:cR} {g:cQ} {x:ab} {i j k t n:Nat} {v:Value} {A B:aL} {s s':ba} {b:Nat} {aid tid ac now air num ad:Int} {ads:List Addr} {u:bR} {vs:List Value} {E F:ao} {cg:Option Addr} {bZ:Nat} {P:ra->Bool} {bk:fZ} {S:dm}
end
end Go.Proofs.YtjlkfjnfnonekaaGreatDoor
set_option maxRecDepth 8000
namespace Go.Proofs.YtjlkfjnfnonekaaGreatDoor
open Go.Vc
section
variable{W W' aQ:Wd} {h h':J} {R:List aL} {a:Nat} {y:cR} {g:cQ} {x:ab} {i j k t n:Nat} {v:Value} {A B:aL} {s s':ba} {b:Nat} {aid tid ac now air num ad:Int} {ads:List Addr} {u:bR} {vs:List Value} {E F:ao} {cg:Option Addr} {bZ:Nat} {P:ra->Bool} {bk:fZ} {S:dm}
theorem aH.Bi {l:List jb} (q:aH W a y g x):aH W a y g (x.Bi l):=⟨q.bk,q.dY,q.bc,q.st,q.lo,q.lM,q.wl,q.ul,q.us⟩
end
end Go.Proofs.YtjlkfjnfnonekaaGreatDoor
set_option maxRecDepth 8000
namespace Go.Proofs.YtjlkfjnfnonekaaGreatDoor
open Go.Vc
section
variable{W W':Wd} {h h':J} {R:List aL} {l:List jb} {b o k:Nat} {a:Int} {ads:List Addr} {x:jb} {j n:Nat} {v:Value} {eo:List Int}
theorem Nb (hl:eo.length=6) (m:aa W h R):aj Tryz.prog 36 #[.agg (ints .u8 eo).toArray] h λv h'=>v= .bool (FI eo)/\aa W h' R:=by
 obtain⟨bj,aY,bz,bq,bU,aV,rfl⟩:=M4 hl
 refine ap3 _ _ _ (m.bb λal h1 m1=>⟨by decide,bj,m1.cell 0 rfl 0 rfl,aC (λq=>⟨_,m1.bE 0 rfl rfl,[bj,aY,bz,bq,bU,aV],[0,0,0,0,0,0],rfl,rfl,⟨rfl,rfl⟩,?_,m1.aB⟩) λq=>⟨?_,m1.aB⟩⟩)
 ·show Value.bool _=Value.bool (decide (bits .and .u8 bj 1=0)&&_)
  rw[decide_eq_true q];rfl
 ·show Value.bool _=Value.bool (decide (bits .and .u8 bj 1=0)&&_)
  rw[decide_eq_false q];rfl
theorem ak9 (ok:oW l) (s:Snt W ads) (hl:eo.length=6) (he:∀z∈l,z.ly<1048576) (m:aa W h (mX b o l::R)):aj Tryz.prog 48 #[.pointer (some ⟨b,o,none⟩), .agg (ints .u8 eo).toArray] h λv h'=>
 v= .tuple #[.int .i64 (tU l eo).2.1,gC ads (tU l eo).2.2]/\aa W h' (mX b o (tU l eo).1::R):=by
 have hlen:(ints .u8 eo).length=6:=by rw[dL,hl]
 unfold tU
 refine ap4 _ _ _ _ (m.bb λal h1 m1=>⟨_,m1.bE 0 rfl hlen.symm,(Nb hl m1).mono ?_⟩)
 rintro _ h2 ⟨rfl,m2⟩
 refine⟨_,rfl,bH (λaK=>?_) λaK=>?_⟩
 ·rw[if_pos (pU aK)];exact⟨_,s.var m2 2 rfl,rfl,m2.aB⟩
 rw[if_neg (by rw[sb aK];decide)]
 refine⟨_,m2.bE 0 rfl hlen.symm,(alc ok hl m2.swap).mono ?_⟩
 rintro _ h3 ⟨rfl,m3⟩
 cases hf:HZ l eo with
 |some k=>exact⟨_,_,rfl,df rfl ⟨_,s.var m3 7 rfl,rfl,m3.swap.aB⟩⟩
 |none=>
  refine⟨_,_,rfl,aZ rfl ⟨λz h=>∃k:Nat,z=k/\k<=16/\vZ (λx:jb=>!x.oM) (l.drop k) k=vZ (λx:jb=>!x.oM) l 0/\aa W h (mX b o l::[⟨al,0,ints .u8 eo,some _⟩]::R),λz _=>(16 -z).toNat,⟨0,rfl,by omega,rfl,m3⟩,λ_=>?_⟩⟩
  clear m m1 m2 m3
  rintro _ h4 ⟨k,rfl,I,hq,m⟩
  refine aC (λaG=>?_) λaG=>?_
  ·obtain⟨x,hx,iE⟩:=ok.get (k:=k) (by omega)
   have bY:=(List.getElem?_eq_some_iff.1 hx).1
   have hex:=ok.e x (List.mem_of_getElem? hx)
   have arB:=he x (List.mem_of_getElem? hx)
   rw[Rb hx]at hq
   refine aN ⟨⟨by omega,by omega⟩,_,by rw[show((k:Int)).toNat=k from rfl];exact T3 m hx (j:=0) rfl,bH (λbd=>?_) λbd=>?_⟩
   ·rw[if_pos bd]at hq
    rw[<-hq]
    obtain⟨bj,aY,bz,bq,bU,aV,aek⟩:=M4 iE
    obtain⟨a1,a2,a3,a4,a5,vG,rfl⟩:=M4 hl
    rw[show((k:Int)).toNat=k from rfl]
    refine⟨_,m.bE 1 rfl rfl,(cA.one m hx).store 0 rfl 0 (by rw[va iE];rfl) λaA m5=>⟨m5.bE 2 rfl rfl,m5.zV 0 rfl 1 rfl (by rw[List.length_set,va iE];decide) (by intro u hu;simp[ints]at hu;rcases hu with rfl|rfl|rfl|rfl|rfl|rfl<;>rfl) λaU m6=>?_⟩⟩
    have ag:bG ((mC x).set 0 (.bool true)) 1 (ints .u8 [a1,a2,a3,a4,a5,vG])=mC ⟨true,[a1,a2,a3,a4,a5,vG],x.ly⟩:=by unfold mC;rw[aek];rfl
    simp only[List.set_cons_zero]at m6
    rw[ag]at m6
    refine⟨_,m6.cell 0 rfl 7 rfl,by simp only[fits];omega,m6.store 0 rfl 7 rfl λbW m7=>⟨by simp only[fits];omega,rfl,?_⟩⟩
    have aI:(l.getD k w3).ly=x.ly:=by rw[List.getD_eq_getElem?_getD,hx];rfl
    have m8:=(cA.back (f:=mC) (y:=⟨true,[a1,a2,a3,a4,a5,vG],x.ly+1⟩) bY m7)
    dsimp only
    rw[aI]
    exact m8.swap.aB
   ·rw[if_neg (by rw[bd];decide)]at hq
    exact⟨by simp only[fits];omega,⟨k+1,by omega,by omega,hq,m⟩,by dsimp only;omega⟩
  ·obtain rfl:k=16:=by omega
   rw[List.drop_of_length_le (by rw[ok.n];decide)]at hq
   rw[<-hq]
   exact⟨_,s.var m 8 rfl,rfl,m.swap.aB⟩
end
section
variable{W W':Wd} {h h':J} {R:List aL} {l:List hr} {b o k:Nat} {a most:Int} {ads:List Addr} {i1 ei bM gi:Bool}
theorem ajg (ok:xE l) (s:Snt W ads) (ha:1<=a/\a<=16) (hm:0<=most/\most<=8) (hn:qH l a=none) (m:aa W h (q5 b o l::R)):aj Tryz.prog 50 #[.pointer (some ⟨b,o,none⟩), .int .i64 a, .agg ([.bool i1, .bool ei, .bool bM, .bool gi]:List Value).toArray, .int .i64 most] h λv h'=>
 v= .nilIface/\aa W h' (q5 b o (w8 l a ⟨true,false,false,false,i1,ei,bM,gi,most,0⟩)::R):=by
 refine ape _ _ _ _ _ _ (m.bb λal h1 m1=>bF (by omega) (bF (by omega) (bF (by omega) (bF (by omega) ((Hz ok m1.swap).mono ?_)))))
 rintro _ h2 ⟨rfl,⟨-,rfl⟩|⟨k,x,rfl,I,hi,hx,hs,rfl⟩⟩
 ·have I:aD a<l.length:=by rw[ok.n];unfold aD;omega
  have m2:=cA.one m1.swap (List.getElem?_eq_getElem I)
  refine⟨_,rfl,aZ rfl ⟨by simp only[fits];omega,_,m1.bE 0 rfl rfl,rfl,aN ⟨⟨by omega,by omega⟩,m2.c8 0 rfl rfl rfl (by intro u hu;simp at hu;rcases hu with rfl|rfl|rfl|rfl|rfl|rfl|rfl|rfl<;>rfl) (λh3 m3=>⟨rfl,?_⟩) (by unfold aD;omega)⟩⟩⟩
  exact(cA.back (f:=vf) (y:=⟨true,false,false,false,i1,ei,bM,gi,most,0⟩) I m3).swap.aB
 ·rw[hs]at hn;cases hn
end
end Go.Proofs.YtjlkfjnfnonekaaGreatDoor
set_option maxRecDepth 8000
namespace Go.Proofs.YtjlkfjnfnonekaaGreatDoor
open Go.Vc
def ab.nl (x:ab):dk:=⟨xU x.c.wn x.c.rt x.c.iT,0,false,false,false⟩
def ab.sT (x:ab) (r:bo):ba:=⟨r,0,List.replicate 8 x.nl,[0,0,0,0]⟩
def ab.join (x:ab) (eo:List Int) (r:bo) (w:Int) (p:hr) (k:Nat):ab:=
 (((x.Bi (tU x.dh eo).1).ew (x.bc.map λS=>(iO S (k+1) w).1)).xg (w8 x.pow (k+1) p)).bw (k+1) (some (x.sT r))
def cR.on (y:cR) (k b:Nat) (p:Nat->Nat):cR:={y with b1:=aX y.b1 k (some b),sp:=aX y.sp k p}
def u2:List Value:=[.pointer none, .int .i64 0, .bool false, .bool false, .bool false]
def oB (b:Nat) (p:Nat->Nat) (L:Nat->ao) (z:dk) (k j:Nat):aL:=if j<k then⟨b,6+j*5,fS (p j) z,none⟩::ae (L j)else[⟨b,6+j*5,u2,none⟩]
section
variable{W W' aQ:Wd} {h h':J} {R:List aL} {a:Nat} {y:cR} {g:cQ} {x:ab} {i j k t n:Nat} {v:Value} {A B:aL} {s s':ba} {b:Nat} {aid tid ac now air num w most:Int} {ads:List Addr} {u:bR} {vs:List Value} {E F:ao} {eo:List Int} {r:bo} {S:dm} {i1 ei bM gi:Bool} {p:Nat->Nat} {L:Nat->ao} {z:dk}
theorem Xs:∀i,(iO S aid w).2=some i->i<p6:=by
 intro i hi;unfold iO at hi;split at hi
 ·split at hi<;>cases hi;decide
 ·cases hi;decide
theorem XU (n:x.bc.length=4) (a7:Snt W ads) (q:aH W a y g x) (I:k<4) (m:aa W h (aq a y g x++R)):aj Tryz.prog 49 #[a8 (y.dp k), .int .i64 aid, .int .i64 w] h λv h'=>v=gC ads (iO (x.bc.getD k c3) aid w).2/\
 ∃g',aH W a y g' (x.ew (x.bc.set k (iO (x.bc.getD k c3) aid w).1))/\aa W h' (aq a y g' (x.ew (x.bc.set k (iO (x.bc.getD k c3) aid w).1))++R):=by
 obtain⟨G,me,bk⟩:=(E7 I m).ny
 refine(Tn.IY me (q.bc k I) (a7.gS Xs)).mono ?_
 rintro _ h' ⟨L',rfl,hv,ax⟩
 exact⟨rfl,_,q.ew n I hv,E8 I (bk.2.1 ax)⟩
theorem ahO {T:TypeId} (m:aa W h ([⟨b,0,cK r++(.int .i64 0::((List.replicate 8 u2).flatten++[.int .i64 0, .int .i64 0, .int .i64 0, .int .i64 0])),some T⟩]::R)):
 aa W h (((List.range 8).map (oB b p L z 0)).flatten::[⟨b,0,cK r++[.int .i64 0],none⟩]::[⟨b,46,ints .i64 [0,0,0,0],none⟩]::R):=by
 have m1:=aa.cut (cs:=cK r++[.int .i64 0]) (ds:=(List.replicate 8 u2).flatten++ints .i64 [0,0,0,0]) (by rw[List.append_assoc];exact m)
 have m2:=aa.cut (b:=b) (o:=6) (cs:=(List.replicate 8 u2).flatten) (ds:=ints .i64 [0,0,0,0]) (t:=none) m1.swap
 have m3:=aa.MI (n:=5) (o:=6) (b:=b) (css:=List.replicate 8 u2) (by intro c hc;rw[List.eq_of_mem_replicate hc];rfl) m2
 have e:lQ b 5 6 (List.replicate 8 u2)=(List.range 8).map (oB b p L z 0):=rfl
 rw[e]at m3
 exact m3.perm (by
  simp only[List.flatten_cons]
  refine List.Perm.append_left _ ?_
  rw[<-List.append_assoc,<-List.append_assoc]
  exact List.perm_append_comm.append_right _)
theorem agl {eh:Nat} {ku:ao} (I:k<8) (hz:fS eh z=[a8 eh, .int .i64 0, .bool false, .bool false, .bool false]) (m:aa W h (ae ku::((List.range 8).map (oB b p L z k)).flatten::R)) {Q:J->Prop} {o:Nat}
 (K:∀h1,aa W h1 (((List.range 8).map (oB b (aX p k eh) (aX L k ku) z (k+1))).flatten::R)->Q h1) (aw:o=6+k*5):wr h b o/\∀h1,h1=b3 h b o (a8 eh)->Q h1:=by
 subst aw
 have dW:oB b p L z k k=[⟨b,6+k*5,u2,none⟩]:=if_neg (Nat.lt_irrefl k)
 have m1:=m.swap.pick k (A:=[⟨b,6+k*5,u2,none⟩]) (by rw[qL I,dW])
 refine m1.store 0 rfl 0 rfl λh1 m2=>K h1 ?_
 have m3:aa W h1 ([⟨b,6+k*5,fS eh z,none⟩]::(((List.range 8).map (oB b p L z k)).eraseIdx k).flatten::ae ku::R):=by rw[hz];exact m2
 have m4:=aa.join (A:=[⟨b,6+k*5,fS eh z,none⟩]) (B:=ae ku) (aa.swap (m3.perm (L':=ae ku::[⟨b,6+k*5,fS eh z,none⟩]::(((List.range 8).map (oB b p L z k)).eraseIdx k).flatten::R) (by
  simp only[List.flatten_cons]
  rw[<-List.append_assoc,<-List.append_assoc,<-List.append_assoc,<-List.append_assoc]
  refine List.Perm.append_right _ ?_
  rw[List.append_assoc (ae ku)]
  exact List.perm_append_comm)))
 have m5:=m4.n9 k (A0:=[⟨b,6+k*5,u2,none⟩]) (by rw[qL I,dW])
 rw[vk I]at m5
 have af:((List.range 8).map λj=>if j=k then[⟨b,6+k*5,fS eh z,none⟩]++ae ku else oB b p L z k j)=(List.range 8).map (oB b (aX p k eh) (aX L k ku) z (k+1)):=List.map_congr_left λj _=>by
  unfold oB
  by_cases e:j=k
  ·subst e;rw[if_pos rfl,if_pos (Nat.lt_succ_self _),jC,jC];rfl
  ·rw[if_neg e,jm e,jm e]
   by_cases ag:j<k
   ·rw[if_pos ag,if_pos (by omega)]
   ·rw[if_neg ag,if_neg (by omega)]
 rw[af]at m5
 exact m5
theorem Yl {s:ba} (n:eG x) (q:aH W a y g x) (I:k<16) (uF:x.st.getD k none=none) (hv:∀t,t<8->cB W (p t) (s.l.getD t ak).s (L t))
 (m:aa W h (aq a y g x++((List.range 8).map (rC b p L s)).flatten::[⟨b,0,cK s.r++[.int .i64 s.tok],none⟩]::[⟨b,46,ints .i64 s.air,none⟩]::R)) {Q:J->Prop} {o:Nat}
 (K:∀h1 g1,aH W a (y.on k b p) g1 (x.bw ((k:Int)+1) (some s))->aa W h1 (aq a (y.on k b p) g1 (x.bw ((k:Int)+1) (some s))++R)->Q h1) (aw:o=329+k):wr h a o/\∀h1,h1=b3 h a o (a8 b)->Q h1:=by
 subst aw
 have qh:aD ((k:Int)+1)=k:=by unfold aD;omega
 have K9:y.b1 k=none:=by
  have:=q.st k I
  rw[uF]at this
  cases hb:y.b1 k with
  |none=>rfl
  |some _=>rw[hb]at this;cases this
 have m1:=xP m
 have m2:=aa.gD (Q:=((List.range 8).map (rC b p L s)).flatten::aq a y g x) (A:=[⟨b,0,cK s.r++[.int .i64 s.tok],none⟩]) m1
 have m3:=aa.gD (Q:=[⟨b,0,cK s.r++[.int .i64 s.tok],none⟩]::((List.range 8).map (rC b p L s)).flatten::aq a y g x) (A:=[⟨b,46,ints .i64 s.air,none⟩]) m2
 have m4:aa W h ((pD b p L s).flatten::(aq a y g x++R)):=m3.swap.perm (by
  unfold pD
  simp only[List.flatten_cons,List.append_assoc,List.cons_append]
  exact List.Perm.refl _)
 have m5:=(m4.focus 14 (A:=((List.range 16).map (lp y g x.st)).flatten) rfl).pick k (A:=[]) (by rw[qL I];unfold lp;rw[K9])
 have m6:=(aa.swap m5.LX).n9 k (A0:=[]) (by rw[qL I];unfold lp;rw[K9])
 have e:((List.range 16).map (lp y g x.st)).set k (pD b p L s).flatten=(List.range 16).map (lp (y.on k b p) {g with cL:=aX g.cL k L} (x.bw ((k:Int)+1) (some s)).st):=by
  rw[vk I]
  refine List.map_congr_left λj ah=>?_
  unfold lp cR.on ab.bw
  dsimp only
  rw[qh]
  by_cases e:j=k
  ·subst e;rw[if_pos rfl,jC,fg (by rw[n.st];exact I),if_pos rfl,jC,jC]
  ·rw[if_neg e,jm e,fg (by rw[n.st];exact I),if_neg e,jm e,jm e]
 rw[e]at m6
 have m7:=aa.back (L:=aq a y g x++R) (A:=((List.range 16).map (lp y g x.st)).flatten) 13 rfl m6
 refine m7.store 7 rfl k (by rw[Nat.ble_eq];unfold y7;simp;omega) λh1 m8=>?_
 have ag:(y7 y).set k (a8 b)=y7 (y.on k b p):=by
  unfold y7
  rw[vk I]
  refine List.map_congr_left λj ah=>?_
  unfold cR.on
  dsimp only
  by_cases e:j=k
  ·subst e;rw[if_pos rfl,jC];rfl
  ·rw[if_neg e,jm e]
 rw[ag]at m8
 refine K h1 {g with cL:=aX g.cL k L} ⟨q.bk,q.dY,q.bc,λj ah=>?_,λj s' ah aR gu=>?_,q.lM,q.wl,q.ul,q.us⟩ m8
 ·show((x.st.set (aD ((k:Int)+1)) (some s)).getD j none).isSome=(aX y.b1 k (some b) j).isSome
  rw[qh,fg (by rw[n.st];exact I)]
  by_cases e:j=k
  ·subst e;rw[if_pos rfl,jC];rfl
  ·rw[if_neg e,jm e];exact q.st j ah
 ·replace ah:(x.st.set (aD ((k:Int)+1)) (some s)).getD j none=some s':=ah
  rw[qh,fg (by rw[n.st];exact I)]at ah
  show cB W (aX y.sp k p j aR) (s'.l.getD aR ak).s (aX g.cL k L j aR)
  by_cases e:j=k
  ·rw[if_pos e]at ah;cases ah
   subst e;rw[jC,jC];exact hv aR gu
  ·rw[if_neg e]at ah
   rw[jm e,jm e];exact q.lo j s' ah aR gu
end
end Go.Proofs.YtjlkfjnfnonekaaGreatDoor
set_option maxRecDepth 8000
namespace Go.Proofs.YtjlkfjnfnonekaaGreatDoor
open Go.Vc
section
variable{W W' aQ:Wd} {h h':J} {R:List aL} {a:Nat} {y:cR} {g:cQ} {x:ab} {i j k t n:Nat} {v:Value} {A B:aL} {s s':ba} {b:Nat} {aid tid ac now air num w most:Int} {ads:List Addr} {u:bR} {vs:List Value} {E F:ao} {eo:List Int} {r:bo} {S:dm} {i1 ei bM gi:Bool} {p:Nat->Nat} {L:Nat->ao} {z:dk}
structure BI (x:ab) (eo:List Int) (k:Nat):Prop where
 l:eo.length=6
 f:FI eo=true
 ne:eo≠x.c.bss
 add:(tU x.dh eo).2=((k:Int)+1,none)
 I:k<16
 S:x.st.getD k none=none
 T:∀j,j<4->hB (x.bc.getD j c3) ((k:Int)+1)=none
 P:qH x.pow ((k:Int)+1)=none
 e:∀z∈x.dh,z.ly<1048576
theorem Xt (I:k<16) (hw:1<=w/\w<=100) (h:hB S ((k:Int)+1)=none):(iO S ((k:Int)+1) w).2=none:=by
 unfold iO
 rw[if_pos ⟨by unfold nE;simp;omega,by unfold tj;simp;omega⟩,h]
theorem O4 (ok:bl x) (a7:Snt W ads) (q:aH W a y g x) (c:BI x eo k) (U:r.ok=true) (hw:1<=w/\w<=100) (hm:0<=most/\most<=8) (m:aa W h (aq a y g x++R)):
 aj Tryz.prog 13 #[a8 a, .agg (ints .u8 eo).toArray, .agg (cK r).toArray, .int .i64 w, .agg ([.bool i1, .bool ei, .bool bM, .bool gi]:List Value).toArray, .int .i64 most] h λv h'=>v= .tuple #[.int .i64 ((k:Int)+1), .nilIface]/\
  ∃g' b p,aH W a (y.on k b p) g' (x.join eo r w ⟨true,false,false,false,i1,ei,bM,gi,most,0⟩ k)/\aa W h' (aq a (y.on k b p) g' (x.join eo r w ⟨true,false,false,false,i1,ei,bM,gi,most,0⟩ k)++R):=by
 have ml:(ints .u8 eo).length=6:=by rw[dL,c.l]
 refine amE _ _ _ _ _ _ _ _ (m.bb λal h1 m1=>(c4 m1).bb λaP h2 m2=>(c4 m2).bb λbx h3 m3=>?_)
 obtain⟨ek,T2,q8,m3⟩:∃ek T2 q8,aa W h3 (aq a y g x++[⟨bx,0,[.bool i1, .bool ei, .bool bM, .bool gi],some q8⟩]::[⟨aP,0,cK r,some T2⟩]::[⟨al,0,ints .u8 eo,some ek⟩]::R):=⟨_,_,_,c4 m3⟩
 clear m m1 m2
 refine⟨_,m3.bE 18 rfl ml.symm,(Nb c.l m3).mono ?_⟩
 rintro _ h4 ⟨rfl,m4⟩
 refine⟨_,rfl,aZ (by rw[c.f];rfl) ⟨_,m4.bE 18 rfl ml.symm,_,xO ok.toeG m4,eo,x.c.bss,rfl,rfl,⟨c.l,ok.bss⟩,bF c.ne ⟨_,m4.bE 17 rfl rfl,(vl m4).mono ?_⟩⟩⟩
 rintro _ aA ⟨rfl,m5⟩
 refine⟨_,rfl,aZ (by rw[U];rfl) (bF (by omega) (bF (by omega) (bF (by omega) (bF (by omega) ⟨_,m5.bE 18 rfl ml.symm,(ak9 ok.eb a7 c.l c.e (kz 2 rfl m5)).mono ?_⟩))))⟩
 rintro _ aU ⟨rfl,m6⟩
 have fI:aH W a y g (x.Bi (tU x.dh eo).1):=q.Bi
 replace m6:=na (y:=y) (x:=x) (g:=g) 2 rfl m6
 obtain⟨aV,iE⟩:∃aV,aV=x.Bi (tU x.dh eo).1:=⟨_,rfl⟩
 replace m6:aa W aU (aq a y g aV++[⟨bx,0,[.bool i1, .bool ei, .bool bM, .bool gi],some q8⟩]::[⟨aP,0,cK r,some T2⟩]::[⟨al,0,ints .u8 eo,some ek⟩]::R):=by rw[iE];exact m6
 rw[<-iE]at fI
 have yh:aV.c=x.c:=by rw[iE];rfl
 have oE:eG aV:=by rw[iE];exact⟨ok.st,ok.bc,ok.l,ok.bss,ok.di⟩
 have ad4:aV.bc=x.bc:=by rw[iE];rfl
 clear m3 m4 m5 q
 rw[show(tU x.dh eo).2.1=(k:Int)+1 by rw[c.add],show(tU x.dh eo).2.2=none by rw[c.add]]
 refine⟨_,_,rfl,true,jk,aZ rfl ⟨_,m6.bE 17 rfl rfl,rfl,m6.bb λdO bW m7=>?_⟩⟩
 obtain⟨z,hz⟩:∃z,z=aV.nl:=⟨_,rfl⟩
 have j4:∀eh,fS eh z=[a8 eh, .int .i64 0, .bool false, .bool false, .bool false]:= λeh=>by rw[hz];rfl
 have m8:=ahO (r:=r) (p:= λ_=>0) (L:= λ_=>[]) (z:=z) m7
 have m9:aa W bW (aq a y g aV++((List.range 8).map (oB dO (λ_=>0) (λ_=>[]) z 0)).flatten::[⟨dO,0,cK r++[.int .i64 0],none⟩]::[⟨dO,46,ints .i64 [0,0,0,0],none⟩]::[⟨bx,0,[.bool i1, .bool ei, .bool bM, .bool gi],some q8⟩]::[⟨aP,0,cK r,some T2⟩]::[⟨al,0,ints .u8 eo,some ek⟩]::R):=m8.perm (by
  simp only[List.flatten_cons,List.flatten_append]
  exact(List.Perm.append_left _ ((List.Perm.append_left _ (List.perm_append_comm_assoc _ _ _)).trans (List.perm_append_comm_assoc _ _ _))).trans (List.perm_append_comm_assoc _ _ _))
 clear m8 m7
 obtain⟨l7,tr⟩:∃l7:List aL,l7=[⟨bx,0,[.bool i1, .bool ei, .bool bM, .bool gi],some q8⟩]::[⟨aP,0,cK r,some T2⟩]::[⟨al,0,ints .u8 eo,some ek⟩]::R:=⟨_,rfl⟩
 obtain⟨zx,RH⟩:∃zx:List aL,zx=[⟨dO,0,cK r++[.int .i64 0],none⟩]::[⟨dO,46,ints .i64 [0,0,0,0],none⟩]::l7:=⟨_,rfl⟩
 rw[<-tr,<-RH]at m9
 refine⟨λi h=>∃(j:Nat) (p:Nat->Nat) (L:Nat->ao),i=j/\j<=8/\(∀t,t<j->cB W (p t) z.s (L t))/\aa W h (aq a y g aV++((List.range 8).map (oB dO p L z j)).flatten::zx),λi _=>(8 -i).toNat,⟨0,_,_,rfl,by omega,λt ht=>by omega,m9⟩,λ_=>?_⟩
 clear m9
 rintro _ bJ ⟨j,p,L,rfl,ah,hv,m⟩
 have wm:=ok.nd
 refine aC (λaK=>?_) λaK=>?_
 ·have C2:j<8:=by omega
  refine⟨_,uk oE m 5 rfl,_,uk oE m 6 rfl,_,uk oE m 7 rfl,(Pq (by rw[yh];exact wm.wn) (by rw[yh];exact wm.rt) (by rw[yh];exact wm.iT) m).mono ?_⟩
  rintro _ ct ⟨eh,ku,rfl,ns,m2⟩
  have m3:=(aa.gD (Q:=ae ku::aq a y g aV) (A:=((List.range 8).map (oB dO p L z j)).flatten) (R:=zx) m2).swap
  refine⟨_,_,rfl,⟨by omega,by omega⟩,agl C2 (j4 eh) m3 (λdS m4=>⟨true,jk,aZ rfl ⟨by simp only[fits];omega,⟨j+1,_,_,by omega,by omega,λt ht=>?_,c4 m4⟩,by dsimp only;omega⟩⟩) (by rw[Int.toNat_natCast])⟩
  by_cases e:t=j
  ·subst e;rw[jC,jC,hz];exact ns
  ·rw[jm e,jm e];exact hv t (by omega)
 obtain rfl:j=8:=by omega
 have ou:(List.range 8).map (oB dO p L z 8)=(List.range 8).map (rC dO p L (aV.sT r)):=List.map_congr_left λt ht=>by
  have eY:t<8:=List.mem_range.1 ht
  unfold oB rC
  rw[if_pos eY]
  have:(aV.sT r).l.getD t ak=z:=by rw[hz];show(List.replicate 8 aV.nl).getD t ak=aV.nl;rw[List.getD_eq_getElem?_getD,List.getElem?_replicate,if_pos eY];rfl
  rw[this]
 rw[ou]at m
 have dc:∀t,t<8->cB W (p t) ((aV.sT r).l.getD t ak).s (L t):= λt ht=>by
  have:(aV.sT r).l.getD t ak=z:=by rw[hz];show(List.replicate 8 aV.nl).getD t ak=aV.nl;rw[List.getD_eq_getElem?_getD,List.getElem?_replicate,if_pos ht];rfl
  rw[this];exact hv t ht
 refine⟨_,alV m,λi h=>∃(j:Nat) (g1:cQ),i=j/\j<=4/\aH W a y g1 (aV.ew (oN (λS=>(iO S ((k:Int)+1) w).1) aV.bc j))/\aa W h (aq a y g1 (aV.ew (oN (λS=>(iO S ((k:Int)+1) w).1) aV.bc j))++((List.range 8).map (rC dO p L (aV.sT r))).flatten::zx),λi _=>(4 -i).toNat,⟨0,g,rfl,by omega,fI,m⟩,λ_=>?_⟩
 clear m fI
 rintro _ ct ⟨j,g9,rfl,ah,q,m⟩
 refine aC (λaG=>?_) λaG=>?_
 ·have F8:j<4:=by omega
  obtain⟨af,ag⟩:=alT (f:= λS=>(iO S ((k:Int)+1) w).1) oE.bc F8
  have hno:(iO ((aV.ew (oN (λS=>(iO S ((k:Int)+1) w).1) aV.bc j)).bc.getD j c3) ((k:Int)+1) w).2=none:=by
   show(iO ((oN (λS=>(iO S ((k:Int)+1) w).1) aV.bc j).getD j c3) ((k:Int)+1) w).2=none
   rw[af,ad4];exact Xt c.I hw (c.T j F8)
  refine⟨⟨by omega,by omega⟩,_,by rw[Int.toNat_natCast];exact alW F8,(XU (aid:=(k:Int)+1) (w:=w) (alU oE.bc) a7 q F8 m).mono ?_⟩
  rintro _ h3 ⟨rfl,g3,aE,m3⟩
  rw[hno]
  replace aE:aH W a y g3 (aV.ew ((oN (λS=>(iO S ((k:Int)+1) w).1) aV.bc j).set j (iO ((oN (λS=>(iO S ((k:Int)+1) w).1) aV.bc j).getD j c3) ((k:Int)+1) w).1)):=aE
  replace m3:aa W h3 (aq a y g3 (aV.ew ((oN (λS=>(iO S ((k:Int)+1) w).1) aV.bc j).set j (iO ((oN (λS=>(iO S ((k:Int)+1) w).1) aV.bc j).getD j c3) ((k:Int)+1) w).1))++((List.range 8).map (rC dO p L (aV.sT r))).flatten::zx):=m3
  rw[af,ag]at aE m3
  exact⟨_,rfl,true,jk,aZ rfl ⟨by simp only[fits];omega,⟨j+1,g3,by omega,by omega,aE,m3⟩,by dsimp only;omega⟩⟩
 obtain rfl:j=4:=by omega
 rw[alS oE.bc]at q m
 obtain⟨gJ,ry⟩:∃gJ,gJ=aV.ew (aV.bc.map λS=>(iO S ((k:Int)+1) w).1):=⟨_,rfl⟩
 rw[<-ry]at q m
 have Gj:gJ.pow=x.pow:=by rw[ry,iE];rfl
 rw[RH,tr]at m
 refine⟨_,m.bE 19 rfl rfl,(ajg (a:=(k:Int)+1) (show xE gJ.pow by rw[Gj];exact ok.pw.toxE) a7 (by have:=c.I;omega) hm (by rw[Gj];exact c.P) (kz 3 rfl m)).mono ?_⟩
 rintro _ dS ⟨rfl,m10⟩
 have DZ:=q.xg (l:=w8 gJ.pow ((k:Int)+1) ⟨true,false,false,false,i1,ei,bM,gi,most,0⟩)
 replace m10:=na (y:=y) (x:=gJ) (g:=g9) 3 rfl m10
 have LS:eG (gJ.xg (w8 gJ.pow ((k:Int)+1) ⟨true,false,false,false,i1,ei,bM,gi,most,0⟩)):=by rw[ry];exact⟨oE.st,by show(aV.bc.map _).length=4;rw[List.length_map];exact oE.bc,oE.l,oE.bss,oE.di⟩
 have aco:(gJ.xg (w8 gJ.pow ((k:Int)+1) ⟨true,false,false,false,i1,ei,bM,gi,most,0⟩)).st.getD k none=none:=by rw[ry,iE];exact c.S
 have F9:=c.I
 refine⟨_,rfl,true,jk,aZ rfl ⟨by simp only[fits];omega,⟨by omega,by omega⟩,Yl LS DZ F9 aco dc m10 (λfD g11 D0 m11=>⟨rfl,g11,dO,p,?_,?_⟩) (by omega)⟩⟩
 ·have fO:(gJ.xg (w8 gJ.pow ((k:Int)+1) ⟨true,false,false,false,i1,ei,bM,gi,most,0⟩)).bw ((k:Int)+1) (some (aV.sT r))=x.join eo r w ⟨true,false,false,false,i1,ei,bM,gi,most,0⟩ k:=by rw[Gj,ry,iE];rfl
  rw[<-fO];exact D0
 ·have fO:(gJ.xg (w8 gJ.pow ((k:Int)+1) ⟨true,false,false,false,i1,ei,bM,gi,most,0⟩)).bw ((k:Int)+1) (some (aV.sT r))=x.join eo r w ⟨true,false,false,false,i1,ei,bM,gi,most,0⟩ k:=by rw[Gj,ry,iE];rfl
  rw[<-fO];exact cI (cI (cI m11))
end
end Go.Proofs.YtjlkfjnfnonekaaGreatDoor
