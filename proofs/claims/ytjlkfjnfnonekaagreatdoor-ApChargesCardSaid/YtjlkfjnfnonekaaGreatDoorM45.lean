import Derived.Test.YtjlkfjnfnonekaaGreatDoorM44
import Derived.Test.YtjlkfjnfnonekaaGreatDoorM16
import Derived.Test.YtjlkfjnfnonekaaGreatDoorM14
import Derived.Test.YtjlkfjnfnonekaaGreatDoorM19
import Derived.Test.YtjlkfjnfnonekaaGreatDoorM43
set_option linter.all false
set_option maxRecDepth 8000
namespace Go.Proofs.YtjlkfjnfnonekaaGreatDoor
open Go.Vc
structure BE (c:jT):Prop extends EL c where
 ey:c.bss.length=6
 t4:c.di.length=4
 fr:FI c.bss=true
 eh:1<=c.eh/\c.eh<=512
 bt:1<=c.bt/\c.bt<=1048576
 tg:0<=c.tg/\c.tg<=1073741824
 iv:0<=c.iv/\c.iv<=1073741824
 a7:qE c.a7=true
 aO:qE c.aO=true
def k6 (c:jT):ab:=⟨c,0,List.replicate 16 w3,List.replicate 16 pB,[],Pl.ln c.bf c.tg c.iv c.eh c.bt,⟨c.a7,c.aO,List.replicate 16 0⟩,List.replicate 4 c3,List.replicate 4 la,List.replicate 16 none,0,[]⟩
def tM (a gw ik:Nat) (c:jT) (jB:ao) (dp:Nat->Nat) (fw:Nat->ao) (k:Nat):List aL:=
 [[⟨a,0,fq c,none⟩],[⟨a,21,[.int .i64 0],none⟩],mX a 22 (List.replicate 16 w3),q5 a 150 (List.replicate 16 pB),[⟨a,310,[.slice none 0 0],none⟩],[⟨a,311,[a8 gw,a8 ik]++(List.range 4).map (λj=>if j<k then a8 (dp j)else .pointer none),none⟩],
  pL a 317 (List.replicate 4 la),[⟨a,329,List.replicate 16 (.pointer none),none⟩],[⟨a,345,[.int .i64 0],none⟩],[⟨a,346,[.slice none 0 0],none⟩],
  ae jB,ae (nI ik ⟨c.a7,c.aO,List.replicate 16 0⟩),((List.range 4).map λj=>if j<k then ae (fw j)else[]).flatten,[],[],[]]
section
variable{W W' aQ:Wd} {h h':J} {R:List aL} {a b n k:Nat} {v:Value} {ads:List Addr} {c:jT} {di:List Int} {T:TypeId} {jB:ao} {gw ik:Nat} {cs:List Value}
theorem agh {st aO:Int} (h1:qE st=true) (h2:qE aO=true) (m:aa W h R):aj Tryz.prog 33 #[.int .i64 st, .int .i64 aO] h λv h'=>∃b,v= .tuple #[a8 b, .nilIface]/\aa W h' (ae (nI b ⟨st,aO,List.replicate 16 0⟩)::R):=
 anb _ _ _ _ ((GN _ _).ret ⟨_,rfl,aZ (by rw[h1];rfl) ((GN _ _).ret ⟨_,rfl,aZ (by rw[h2];rfl) (m.bb λb h3 m3=>⟨b,rfl,m3⟩)⟩)⟩)
theorem ama (h4:di.length=4) (hb:∀z∈di,0<=z/\z<=54840) (m:aa W h R) (i:Nat) (hi:R[i]?=some [⟨b,0,cs,some T⟩]) (hc:∀(k:Nat) (x:Int),di[k]?=some x->cs[15+k]?=some (.int .i64 x)):
 aj Tryz.prog 35 #[.slice (some ⟨b,15,none⟩) 4 4, .func (.func 34) #[] #[]] h λv h'=>v= .bool false/\h'=h:=by
 refine apS _ _ _ _ _ _ (apZ _ _ _ _ _ _ ⟨λx h'=>h'=h/\∃k:Nat,x=k/\k<=4,λx _=>(4 -x).toNat,⟨rfl,0,rfl,by omega⟩,λ_=>?_⟩)
 rintro _ _ ⟨rfl,k,rfl,I⟩
 refine aC (λq=>?_) λq=>⟨-1,rfl,rfl,rfl⟩
 have bY:k<di.length:=by omega
 have hx:=List.getElem?_eq_getElem bY
 have h3:=hb _ (List.getElem_mem bY)
 exact⟨⟨by omega,by omega⟩,aN ⟨di[k],m.cell i hi (15+k) (hc k _ hx) (by rw[Int.toNat_natCast];omega),sd (by kernel_rfl) (am2 _ _ _ (bF (by omega) ⟨_,rfl,aZ (decide_eq_false (by omega)) ⟨by simp only[fits];omega,⟨rfl,k+1,rfl,by omega⟩,by dsimp only;omega⟩⟩))⟩⟩
theorem ahN (nc:c.bss.length=6) (c7:c.di.length=4) (m:aa W h ([⟨a,0,fq c++([.int .i64 0]++((List.replicate 16 (mC w3)).flatten++((List.replicate 16 (vf pB)).flatten++([.slice none 0 0]++([a8 gw,a8 ik, .pointer none, .pointer none, .pointer none, .pointer none]++((List.replicate 4 (tf la)).flatten++(List.replicate 16 (.pointer none)++([.int .i64 0]++[.slice none 0 0])))))))),some T⟩]::
 ae (nI ik ⟨c.a7,c.aO,List.replicate 16 0⟩)::ae jB::R)):aa W h (tM a gw ik c jB (λ_=>0) (λ_=>[]) 0++R):=by
 have c9:(fq c).length=21:=by unfold fq;simp[ints,nc,c7]
 have m1:=aa.cut m.part
 rw[c9]at m1
 have m2:=aa.cut (b:=a) (o:=21) (t:=none) m1.swap
 have m3:=aa.cut (b:=a) (o:=22) (t:=none) m2.swap
 have agu:=cA.of (f:=mC) (n:=8) (l:=List.replicate 16 w3) (by intro x hx;rw[List.eq_of_mem_replicate hx];rfl) (L:=[⟨a,150,_,none⟩]::_) m3
 have m4:=aa.cut (b:=a) (o:=150) (t:=none) agu.swap
 have agx:=cA.of (f:=vf) (n:=10) (l:=List.replicate 16 pB) (by intro x hx;rw[List.eq_of_mem_replicate hx];rfl) (L:=[⟨a,310,_,none⟩]::_) m4
 have m5:=aa.cut (b:=a) (o:=310) (t:=none) agx.swap
 have m6:=aa.cut (b:=a) (o:=311) (t:=none) m5.swap
 have m7:=aa.cut (b:=a) (o:=317) (t:=none) m6.swap
 have agy:=cA.of (f:=tf) (n:=3) (l:=List.replicate 4 la) (by intro x hx;rw[List.eq_of_mem_replicate hx];rfl) (L:=[⟨a,329,_,none⟩]::_) m7
 have m8:=aa.cut (b:=a) (o:=329) (t:=none) agy.swap
 have m9:=aa.cut (b:=a) (o:=345) (t:=none) m8.swap
 have m10:aa W h (((tM a gw ik c jB (λ_=>0) (λ_=>[]) 0).take 10).reverse++ae (nI ik ⟨c.a7,c.aO,List.replicate 16 0⟩)::ae jB::R):=m9.swap
 exact m10.perm (((List.reverse_perm ((tM a gw ik c jB (λ_=>0) (λ_=>[]) 0).take 10)).append (List.Perm.swap (ae jB) (ae (nI ik ⟨c.a7,c.aO,List.replicate 16 0⟩)) R)).flatten.trans (.of_eq rfl))
theorem ahV {dp:Nat->Nat} {fw:Nat->ao}:tM a gw ik c jB dp fw 4=aq a ⟨gw,ik,dp,λ_=>none,λ_ _=>0,[]⟩ ⟨[⟨a,310,[.slice none 0 0],none⟩],jB,fw,λ_ _=>[],none,0,[],[]⟩ (k6 c):=rfl
theorem YA {dp:Nat->Nat} {fw:Nat->ao} (hp:Pl.iu W gw (k6 c).bK jB) (ht:∀k,k<4->Tn.lR (dp k) c3 (fw k)):aH W a ⟨gw,ik,dp,λ_=>none,λ_ _=>0,[]⟩ ⟨[⟨a,310,[.slice none 0 0],none⟩],jB,fw,λ_ _=>[],none,0,[],[]⟩ (k6 c):=by
 refine⟨⟨none,0,[],rfl,au.nil⟩,hp,λk I=>?_,λk I=>?_,λk s I=>?_,au.nil,rfl,rfl,λi w u h=>by simp[k6]at h⟩
 ·have:(k6 c).bc.getD k c3=c3:=by show(List.replicate 4 c3).getD k c3=c3;rw[List.getD_eq_getElem?_getD,List.getElem?_replicate,if_pos I];rfl
  rw[this];exact ht k I
 ·show((List.replicate 16 none).getD k none).isSome=_
  rw[List.getD_eq_getElem?_getD,List.getElem?_replicate,if_pos I];rfl
 ·replace I:(List.replicate 16 (none:Option ba)).getD k none=some s:=I
  rw[List.getD_eq_getElem?_getD,List.getElem?_replicate]at I
  split at I<;>cases I
theorem ahW {dp:Nat->Nat} {fw:Nat->ao} {bs:Nat} {cV:ao} (I:k<4) (m:aa W h (ae cV::(tM a gw ik c jB dp fw k++R))) {Q:J->Prop} {o:Nat} (K:∀h1,aa W h1 (tM a gw ik c jB (aX dp k bs) (aX fw k cV) (k+1)++R)->Q h1) (aw:o=313+k):
 wr h a o/\∀h1,h1=b3 h a o (a8 bs)->Q h1:=by
 subst aw
 have m1:aa W h (((List.range 4).map λj=>if j<k then ae (fw j)else[]).flatten::ae cV::(tM a gw ik c jB dp fw k++R).eraseIdx 12):=m.focus 13 rfl
 have m2:=m1.pick k (A:=[]) (by rw[qL I,if_neg (Nat.lt_irrefl k)])
 have m3:=m2.LX.swap.n9 k (A0:=[]) (by rw[qL I,if_neg (Nat.lt_irrefl k)])
 rw[vk I]at m3
 have af:((List.range 4).map λj=>if j=k then ae cV else if j<k then ae (fw j)else[])=(List.range 4).map λj=>if j<k+1 then ae (aX fw k cV j)else[]:=List.map_congr_left λj _=>by
  by_cases e:j=k
  ·subst e;rw[if_pos rfl,if_pos (Nat.lt_succ_self _),jC]
  ·rw[if_neg e,jm e]
   by_cases ag:j<k
   ·rw[if_pos ag,if_pos (by omega)]
   ·rw[if_neg ag,if_neg (by omega)]
 rw[af]at m3
 have m4:=aa.back (L:=tM a gw ik c jB dp fw k++R) (A:=((List.range 4).map λj=>if j<k then ae (fw j)else[]).flatten) 12 rfl m3
 refine m4.store 5 rfl (2+k) (by rw[Nat.ble_eq];simp;omega) (λh1 m5=>K h1 ?_) (by omega)
 have ag:([a8 gw,a8 ik]++(List.range 4).map (λj=>if j<k then a8 (dp j)else .pointer none)).set (2+k) (a8 bs)=[a8 gw,a8 ik]++(List.range 4).map (λj=>if j<k+1 then a8 (aX dp k bs j)else .pointer none):=by
  rw[List.set_append_right _ _ (by simp)]
  congr 1
  rw[show 2+k -[a8 gw,a8 ik].length=k by simp,vk I]
  refine List.map_congr_left λj _=>?_
  by_cases e:j=k
  ·subst e;rw[if_pos rfl,if_pos (Nat.lt_succ_self _),jC]
  ·rw[if_neg e,jm e]
   by_cases ag:j<k
   ·rw[if_pos ag,if_pos (by omega)]
   ·rw[if_neg ag,if_neg (by omega)]
 rw[ag]at m5
 exact m5
theorem JA:∀u∈fq c,u.oneCell'=true:=by
 intro u hu
 unfold fq at hu
 rcases List.mem_append.1 hu with hu|hu
 ·exact dM u hu
 rcases List.mem_append.1 hu with hu|hu
 ·simp at hu;rcases hu with rfl|rfl|rfl|rfl|rfl|rfl|rfl|rfl|rfl<;>rfl
 rcases List.mem_append.1 hu with hu|hu
 ·exact dM u hu
 ·simp at hu;rcases hu with rfl|rfl<;>rfl
theorem abV (h:di.length=4):∃a b c d,di=[a,b,c,d]:=by
 match di,h with
 |[a,b,c,d],_=>exact⟨a,b,c,d,rfl⟩
theorem O7 (w:BE c) (a7:Snt W ads) (m:aa W h R):aj Tryz.prog 11 #[.agg (fq c).toArray] h λv h'=>∃a y g,v= .tuple #[a8 a, .nilIface]/\aH W a y g (k6 c)/\aa W h' (aq a y g (k6 c)++R):=by
 have c9:(fq c).length=21:=by unfold fq;simp[ints,w.ey,w.t4]
 obtain⟨al,aP,bx,dO,fh,ey,p5⟩:=fV w.ey
 obtain⟨t1,t2,t3,t4,uz⟩:=abV w.t4
 have fl:(fq c)[6]?=some (.int .u32 c.bf)/\(fq c)[7]?=some (.int .i64 c.eh)/\(fq c)[8]?=some (.int .i64 c.bt)/\(fq c)[9]?=some (.int .i64 c.tg)/\(fq c)[10]?=some (.int .i64 c.iv)/\(fq c)[11]?=some (.int .i64 c.wn)/\(fq c)[12]?=some (.int .i64 c.rt)/\
  (fq c)[13]?=some (.int .i64 c.iT)/\(fq c)[14]?=some (.int .i64 c.ix)/\(fq c)[19]?=some (.int .i64 c.a7)/\(fq c)[20]?=some (.int .i64 c.aO)/\((fq c).drop 0).take 6=ints .u8 c.bss/\∀(k:Nat) (x:Int),c.di[k]?=some x->(fq c)[15+k]?=some (.int .i64 x):=by
  refine⟨?_,?_,?_,?_,?_,?_,?_,?_,?_,?_,?_,?_,λk x hx=>?_⟩
  all_goals unfold fq;rw[p5,uz]
  any_goals rfl
  rw[uz]at hx
  have I:k<4:=by have:=(List.getElem?_eq_some_iff.1 hx).1;simpa using this
  have:k=0\/k=1\/k=2\/k=3:=by omega
  rcases this with rfl|rfl|rfl|rfl<;>(cases hx;rfl)
 obtain⟨lf,tD,Lu,Dw,Dv,afx,afy,afz,Td,uY,wM,Lv,wO⟩:=fl
 have w1:=w.eh
 have w2:=w.bt
 have kb:=w.tg
 have vu:=w.iv
 have Wx:=w.ix
 refine am1 _ _ _ (m.bb λep h1 m1=>⟨_,m1.cell 0 rfl 6 lf,_,m1.cell 0 rfl 9 Dw,_,m1.cell 0 rfl 10 Dv,_,m1.cell 0 rfl 7 tD,_,m1.cell 0 rfl 8 Lu,?_⟩)
 obtain⟨G,me,bk⟩:=m1.nx
 refine(Pl.ai6 me (a7.vy (i:=2) (by decide) rfl) c.bf c.tg c.iv c.eh c.bt).mono ?_
 rintro v h2 ⟨-,gX⟩
 obtain⟨gw,jB,rfl,yu,l0⟩:=gX ⟨w1.1,w1.2,w2.1,w2.2⟩
 have m2:=(bk).2 l0
 clear m1 me l0 bk gX m
 refine⟨_,_,rfl,true,jk,aZ rfl ⟨_,m2.cell 1 rfl 11 afx,_,m2.cell 1 rfl 12 afy,_,m2.cell 1 rfl 13 afz,(Pq w.wn w.rt w.iT m2).mono ?_⟩⟩
 rintro _ h3 ⟨ju,aqX,rfl,-,m3⟩
 replace m3:=m3.aB
 refine⟨_,_,rfl,true,jk,aZ rfl ⟨_,m3.cell 1 rfl 19 uY,_,m3.cell 1 rfl 20 wM,(agh w.a7 w.aO m3).mono ?_⟩⟩
 rintro _ h4 ⟨ik,rfl,m4⟩
 clear m2 m3
 refine⟨_,_,rfl,true,jk,aZ rfl ⟨_,m4.cell 2 rfl 9 Dw,bF (by omega) ⟨_,m4.cell 2 rfl 9 Dw,bF (by omega) ⟨_,m4.cell 2 rfl 10 Dv,bF (by omega) ⟨_,m4.cell 2 rfl 10 Dv,bF (by omega) ⟨_,m4.cell 2 rfl 14 Td,bF (by omega) ⟨_,m4.cell 2 rfl 14 Td,bF (by omega) ?_⟩⟩⟩⟩⟩⟩⟩
 refine(ama w.t4 w.di m4 2 rfl wO).ret ⟨_,rfl,aZ rfl ⟨_,m4.row 2 rfl 0 Lv (by rw[c9];decide),(Nb w.ey m4).mono ?_⟩⟩
 rintro _ aU ⟨rfl,m6⟩
 refine⟨_,rfl,aZ (by rw[w.fr];rfl) ⟨_,m6.bE 2 rfl c9.symm,c9,m6.bb λa bW m7=>?_⟩⟩
 have m8:=ahN w.ey w.t4 m7
 obtain⟨BP,l7,tr,m8⟩:∃(BP:TypeId) (l7:List aL),l7=[⟨ep,0,fq c,some BP⟩]::R/\aa W bW (tM a gw ik c jB (λ_=>0) (λ_=>[]) 0++l7):=⟨_,_,rfl,m8⟩
 refine⟨λi h=>∃(k:Nat) (dp:Nat->Nat) (fw:Nat->ao),i=k/\k<=4/\(∀j,j<k->Tn.lR (dp j) c3 (fw j))/\aa W h (tM a gw ik c jB dp fw k++l7),λi _=>(4 -i).toNat,⟨0,_,_,rfl,by omega,λj ah=>by omega,m8⟩,λ_=>?_⟩
 clear m8 m7 m6 m4
 rintro _ bJ ⟨k,dp,fw,rfl,I,ht,m⟩
 refine aC (λaK=>?_) λaK=>?_
 ·have eW:k<4:=by omega
  obtain⟨G,me,bk⟩:=m.nx
  refine(Tn.LU me).mono ?_
  rintro _ ct ⟨bs,cV,rfl,hv,l0⟩
  refine⟨_,rfl,⟨by omega,by omega⟩,ahW eW ((bk).2 l0) (λdS m3=>⟨by simp only[fits];omega,⟨k+1,_,_,by omega,by omega,λj ah=>?_,m3⟩,by dsimp only;omega⟩) (by rw[Int.toNat_natCast])⟩
  by_cases e:j=k
  ·subst e;rw[jC,jC];exact hv
  ·rw[jm e,jm e];exact ht j (by omega)
 obtain rfl:k=4:=by omega
 rw[ahV,tr]at m
 exact⟨a,_,_,rfl,YA yu ht,cI m⟩
end
end Go.Proofs.YtjlkfjnfnonekaaGreatDoor
set_option maxRecDepth 8000
namespace Go.Proofs.YtjlkfjnfnonekaaGreatDoor
open Go.Vc
abbrev nJ:=Option Addr×Nat×Nat
def kn:nJ:=(none,0,0)
def sS (x:nJ):Value:= .slice x.1 x.2.1 x.2.2
structure k0 where
 aid:Int
 s:Option Addr
 u:nJ
 g:nJ
 z:Bool
 t:nJ
def lI (q:k0):List Value:=[.int .i64 q.aid, .pointer q.s,sS q.u,sS q.g, .bool q.z,sS q.t]
structure iw where
 a:Nat
 q:Nat->k0
 di:nJ
 now:Int
 size:Int
 nw:bR
 dQ:Option Addr
 lc:Nat
 sm:Bool
def oQ (o:iw):List Value:=a8 o.a::(lI (o.q 0)++(lI (o.q 1)++(lI (o.q 2)++(lI (o.q 3)++(sS o.di:: .int .i64 o.now:: .int .i64 o.size::(hk o.nw o.dQ o.lc++[.bool o.sm]))))))
def dj (w:Nat) (o:iw):aL:=[⟨w,21,oQ o,none⟩]
def akr:k0:=⟨0,none,kn,kn,false,kn⟩
def EE (a:Nat) (size:Int):iw:=⟨a,λ_=>akr,kn,0,size,EA,none,0,false⟩
def jt (k:Int):List Int:=[2,0,0,0,0,k]
def hK (gG fY tid n ad kK:Int) (kD:Bool) (b:nJ):List Value:=[.int .i64 gG, .int .i64 fY, .int .i64 tid, .int .i64 n, .int .u32 ad, .int .u64 kK, .bool kD,sS b]
section
variable{W:Wd} {h h':J} {R L:List aL} {a w:Nat} {y:cR} {g:cQ} {x:ab} {o:iw} {c:jT} {size k:Int} {ads:List Addr} {v:Value}
theorem PD (m:aa W h L):aj Tryz.prog 15 #[] h λv h'=>v= .agg (ints .u8 gP).toArray/\aa W h' L:=
 aoD _ _ (m.bb λb h1 m1=>m1.c8 (us:=ints .u8 gP) 0 rfl rfl rfl dM λh2 m2=>⟨_,m2.bE 0 rfl rfl,rfl,m2.aB⟩)
theorem I0 (I:0<=k/\k<256) (m:aa W h L):aj Tryz.prog 14 #[.int .i64 k] h λv h'=>v= .agg (ints .u8 (jt k)).toArray/\aa W h' L:=
 aoC _ _ _ (m.bb λb h1 m1=>⟨by simp only[fits];omega,m1.c8 (us:=ints .u8 (jt k)) 0 rfl rfl rfl dM λh2 m2=>⟨_,m2.bE 0 rfl rfl,rfl,m2.aB⟩⟩)
theorem OJ {A B:aL} (m:aa W h (aq a y g x++B::A::R)):aa W h (aq a y g x++B::R):=c4 ((aa.gD (Q:=B::aq a y g x) (xP m)).aB)
def xW (n:Int):jT:=⟨gP,n,40,8000,50000,1000000,16,2,1073741824,20000,[0,0,0,0],100000,200000⟩
theorem PU (m:aa W h L):aj Tryz.prog 6 #[.int .i64 0] h λv h'=>v= .agg (fq (xW 0)).toArray/\aa W h' L:=by
 refine aoE _ _ _ (m.bb λal h1 m1=>(rD _ _ _ (by decide) (by decide)).ret ⟨_,rfl,(PD m1).mono ?_⟩)
 rintro _ h3 ⟨rfl,m3⟩
 refine⟨_,rfl,by simp only[fits];decide,rfl,m3.bb λaP h4 m4=>m4.c8 (us:=fq (xW 0)) 0 rfl rfl rfl JA λaA m5=>⟨by decide,bF (by decide) (bF (by decide) (bF (by decide) (bF (by decide) ⟨_,m5.bE 0 rfl rfl,m5.c8 (us:=fq (xW 0)) 1 rfl rfl rfl JA λaU m6=>⟨_,m6.bE 1 rfl rfl,rfl,m6.aB.aB⟩⟩)))⟩⟩
theorem aqy (p3:BE c) (a7:Snt W ads) (m:aa W h R):aj Tryz.prog 7 #[.agg (fq c).toArray, .int .i64 size] h λv h'=>∃w a y g,v=a8 w/\aH W a y g (k6 c)/\aa W h' (aq a y g (k6 c)++dj w (EE a size)::R):=by
 have c9:(fq c).length=21:=by unfold fq;simp[ints,p3.ey,p3.t4]
 refine aoF _ _ _ _ (m.bb λal h1 m1=>⟨_,m1.bE 0 rfl c9.symm,(O7 p3 a7 m1).mono ?_⟩)
 rintro _ h2 ⟨a,y,g,rfl,q,m2⟩
 refine⟨_,_,rfl,true,jk,aZ rfl (aZ rfl ⟨_,m2.bE 16 rfl c9.symm,c9,m2.bb λw h3 m3=>⟨w,a,y,g,rfl,q,?_⟩⟩)⟩
 have m4:aa W h3 ([⟨w,0,fq c++oQ (EE a size),some _⟩]::(aq a y g (k6 c)++[⟨al,0,fq c,some _⟩]::R)):=m3
 have m5:=aa.cut m4.part
 rw[c9]at m5
 exact c4 (m5.aB.gD (Q:=_::aq a y g (k6 c))).aB
end
end Go.Proofs.YtjlkfjnfnonekaaGreatDoor
set_option maxRecDepth 8000
namespace Go.Proofs.YtjlkfjnfnonekaaGreatDoor
open Go.Vc
def iw.e4 (o:iw) (k:Nat) (q:k0):iw:={o with q:=aX o.q k q}
def iw.c6 (o:iw) (t:Int):iw:={o with now:=t}
section
variable{W:Wd} {h h':J} {R L:List aL} {a w k j p i ar9:Nat} {y:cR} {g:cQ} {x:ab} {o:iw} {c:jT} {size fY tid n ad kK:Int} {kD:Bool} {b':nJ} {ads:List Addr} {v:Value} {q':k0}
theorem aqv (I:k<4) (ah:j<6):(oQ o)[1+k*6+j]?=(lI (o.q k))[j]?:=by
 have h1:k=0\/k=1\/k=2\/k=3:=by omega
 have h2:j=0\/j=1\/j=2\/j=3\/j=4\/j=5:=by omega
 rcases h1 with rfl|rfl|rfl|rfl<;>rcases h2 with rfl|rfl|rfl|rfl|rfl|rfl<;>rfl
theorem xh (i:Nat):lI ((o.e4 k q').q i)=if i=k then lI q' else lI (o.q i):=by
 show lI (aX o.q k q' i)=_
 unfold aX;split<;>rfl
theorem aqx (I:k<4) (ah:j<6) (he:(lI (o.q k)).set j v=lI q'):(oQ o).set (1+k*6+j) v=oQ (o.e4 k q'):=by
 have h1:k=0\/k=1\/k=2\/k=3:=by omega
 have h2:j=0\/j=1\/j=2\/j=3\/j=4\/j=5:=by omega
 rw[oQ,oQ,xh,xh,xh,xh,<-he]
 rcases h1 with rfl|rfl|rfl|rfl<;>rcases h2 with rfl|rfl|rfl|rfl|rfl|rfl<;>rfl
theorem aqw (I:k<4):bG (oQ o) (1+k*6) (lI q')=oQ (o.e4 k q'):=by
 have h1:k=0\/k=1\/k=2\/k=3:=by omega
 rw[oQ,oQ,xh,xh,xh,xh]
 rcases h1 with rfl|rfl|rfl|rfl<;>rfl
theorem WJ:(oQ o).length=39:=rfl
theorem qN (m:aa W h L) (i:Nat) (hi:L[i]?=some (dj w o)) (I:k<4) (j:Nat) (ah:(lI (o.q k))[j]?=some v) (hp:p=22+k*6+j:=by omega):cell h w p=some v:=
 m.cell i hi (1+k*6+j) (by rw[aqv I (List.getElem?_eq_some_iff.1 ah).1];exact ah) (by omega)
theorem MP {Q:J->Prop} (m:aa W h L) (i:Nat) (hi:L[i]?=some (dj w o)) (I:k<4) (j:Nat) (ah:j<6) (he:(lI (o.q k)).set j v=lI q') (K:∀h1,aa W h1 (L.set i (dj w (o.e4 k q')))->Q h1) (hp:p=22+k*6+j:=by omega):wr h w p/\∀h1,h1=b3 h w p v->Q h1:=
 m.store i hi (1+k*6+j) (by rw[WJ,Nat.ble_eq];omega) (λh1 m1=>K h1 (by rw[aqx I ah he]at m1;exact m1)) (by omega)
theorem aks {q:k0}:∀u∈lI q,u.oneCell'=true:=by
 intro u hu;unfold lI at hu;simp at hu
 rcases hu with rfl|rfl|rfl|rfl|rfl|rfl<;>rfl
theorem akt {Q:J->Prop} (m:aa W h L) (i:Nat) (hi:L[i]?=some (dj w o)) (I:k<4) (K:∀h1,aa W h1 (L.set i (dj w (o.e4 k q')))->Q h1) (hp:p=22+k*6:=by omega):((lI q').length=6/\c0 h w p 6/\∀u∈lI q',u.oneCell'=true)/\∀h1,h1=bm h w p (lI q')->Q h1:=
 m.zV i hi (1+k*6) rfl (by rw[WJ];omega) aks (λh1 m1=>K h1 (by rw[aqw I]at m1;exact m1)) (by omega)
theorem xr {Q:J->Prop} {o':iw} (m:aa W h L) (i:Nat) (hi:L[i]?=some (dj w o)) (j:Nat) (ah:Nat.ble (j+1) 39=true) (he:(oQ o).set j v=oQ o') (K:∀h1,aa W h1 (L.set i (dj w o'))->Q h1) (hp:p=21+j:=by omega):wr h w p/\∀h1,h1=b3 h w p v->Q h1:=
 m.store i hi j ah (λh1 m1=>K h1 (by rw[he]at m1;exact m1)) hp
def zk (n:Int):Int:=([1,10,50,100]:List Int).getD (n%4).toNat 0
theorem WO (n:Int):([.int .i64 1, .int .i64 10, .int .i64 50, .int .i64 100]:List Value)[(n%4).toNat]?=some (.int .i64 (zk n)):=by
 have h:(n%4).toNat=0\/(n%4).toNat=1\/(n%4).toNat=2\/(n%4).toNat=3:=by omega
 unfold zk
 rcases h with h|h|h|h<;>rw[h]<;>rfl
theorem aqG (n:Int):1<=zk n/\zk n<=100:=by
 have h:(n%4).toNat=0\/(n%4).toNat=1\/(n%4).toNat=2\/(n%4).toNat=3:=by omega
 unfold zk
 rcases h with h|h|h|h<;>rw[h]<;>decide
def HC (n:Int):hr:=⟨true,false,false,false,true,true,decide (n%2=0),false,n%4,0⟩
def ab.oA (x:ab) (k:Int) (n:Int) (j:Nat):ab:=x.join (jt k) oK (zk n) (HC n) j
def qM (s:Nat) (me:List Int) (ps:List (Bool×Int)):List aL:=[cA iG 8 s 13 ps,[⟨s,0,ints .u8 me++(ints .u8 gP++[.int .i64 16]),none⟩]]
theorem akk {me:List Int} (aU:me.length=6) (m:aa W h L):aj Tryz.prog 16 #[.agg (ints .u8 me).toArray, .agg (ints .u8 gP).toArray, .int .i64 16] h λv h'=>∃s,v=a8 s/\aa W h' (qM s me (List.replicate 8 (false,0))++L):=by
 refine aoU _ _ _ _ _ (m.bb λal h1 m1=>m1.bb λaP h2 m2=>⟨_,m2.bE 1 rfl (by rw[dL,aU]),_,m2.bE 0 rfl rfl,by rw[dL,aU],rfl,m2.bb λs h3 m3=>⟨s,rfl,?_⟩⟩)
 have e:∀ds:List Value,ints .u8 me++(ints .u8 gP++(.int .i64 16::ds))=(ints .u8 me++(ints .u8 gP++[.int .i64 16]))++ds:= λds=>by simp
 rw[e]at m3
 have m4:=aa.cut m3.part
 rw[show(ints .u8 me++(ints .u8 gP++[Value.int .i64 16])).length=13 by simp[ints,aU,gP]]at m4
 have m5:aa W h3 (cA iG 8 s 13 (List.replicate 8 (false,0))::[⟨s,0,_,none⟩]::[⟨aP,0,_,some _⟩]::[⟨al,0,_,some _⟩]::L):=cA.of (f:=iG) (n:=8) (l:=List.replicate 8 (false,0)) (by intro x hx;rw[List.eq_of_mem_replicate hx];rfl) m4.swap
 exact((m5.gD (Q:=[_,_])).aB.gD (Q:=[_,_])).aB
set_option maxHeartbeats 4000000 in
theorem Qs (I:k<4) (hw:fY%4=k) (h0:(o.q k).aid=0) (ha:o.a=a) (qo:o.size=16) (hn:0<=n) (hN:0<=o.now/\o.now<=1000000000000) (ok:bl x) (a7:Snt W ads) (q:aH W a y g x) (c:BI x (jt k) j) (m:aa W h (aq a y g x++dj w o::R)):
 aj Tryz.prog 8 #[a8 w, .agg (hK 1 fY tid n ad kK kD b').toArray] h λv h'=>v= .bool true/\∃fy g' s,aH W a fy g' (x.oA k n j)/\
  aa W h' (aq a fy g' (x.oA k n j)++dj w ((o.c6 (o.now+100)).e4 k ⟨(j:Int)+1,some ⟨s,0,none⟩,kn,kn,false,kn⟩)::(qM s (jt k) (List.replicate 8 (false,0))++R)):=by
 subst ha
 have arD:=c.I
 refine Il _ _ _ _ (m.bb λal h1 m1=>?_)
 replace m1:=c4 m1
 refine⟨_,m1.cell 16 rfl 1 rfl,(rD _ _ _ (by decide) (by decide)).ret ⟨_,rfl,?_⟩⟩
 rw[hw]
 refine⟨⟨by omega,by omega⟩,_,m1.cell 17 rfl 26 rfl,by simp only[fits];omega,xr (o':=o.c6 (o.now+100)) m1 17 rfl 26 rfl rfl λh3 m3=>⟨_,m3.cell 16 rfl 0 rfl,fB rfl ?_⟩⟩
 clear m m1
 rw[Int.toNat_natCast]
 obtain⟨aM,lC⟩:∃aM,aM=o.c6 (o.now+100):=⟨_,rfl⟩
 have ace:(aM.q k).aid=0:=by rw[lC];exact h0
 have iS:aM.size=16:=by rw[lC];exact qo
 have dn:o.a=aM.a:=by rw[lC];rfl
 rw[<-lC]at m3⊢
 rw[dn]at q m3⊢
 refine⟨_,qN m3 17 rfl I 0 rfl,bF (by rw[ace];decide) ⟨λbC af h'=>bC=(j:Int)+1/\af= .nilIface/\∃fy g',aH W aM.a fy g' (x.oA k n j)/\aa W h' (aq aM.a fy g' (x.oA k n j)++dj w aM::R),
  ⟨_,m3.cell 17 rfl 0 rfl,_,m3.cell 16 rfl 3 rfl,_,m3.cell 16 rfl 3 rfl,⟨hn,by decide⟩,_,m3.cell 16 rfl 3 rfl,?_⟩,λ_=>?_⟩⟩
 ·have aft:∀{h:J} {b:Nat} {T:TypeId} {T2:TypeId},aa W h ([⟨b,0,[.int .i64 1, .int .i64 10, .int .i64 50, .int .i64 100],some T⟩]::(aq aM.a y g x++[⟨al,0,hK 1 fY tid n ad kK kD b',some T2⟩]::dj w aM::R))->
   aj Tryz.prog 13 #[a8 aM.a, .agg (ints .u8 (jt k)).toArray, .agg (cK oK).toArray, .int .i64 (zk n), .agg ([.bool true, .bool true, .bool (decide (n%2=0)), .bool false]:List Value).toArray, .int .i64 (n%4)] h λr h'=>∃G1:Int,∃v1:Value,r= .tuple #[.int .i64 G1,v1]/\G1=(j:Int)+1/\v1= .nilIface/\∃fy g',aH W aM.a fy g' (x.oA k n j)/\aa W h' (aq aM.a fy g' (x.oA k n j)++dj w aM::R):= λ{h b T T2} m=>by
   refine(O4 ok a7 q c rfl (aqG n) ⟨by omega,by omega⟩ (c4 m)).mono ?_
   rintro _ h' ⟨rfl,g',b,p,q',ax⟩
   exact⟨_,_,rfl,rfl,rfl,_,g',q',cI (cI ax)⟩
  repeat' first
   |exact aft ‹_›
   |refine(I0 ⟨by omega,by omega⟩ ‹_›).mono (λ_ _ e=>?_);obtain⟨rfl,_⟩:=e
   |refine(rD _ _ _ (by decide) (by decide)).ret ?_
   |refine aa.bb ‹_› λ_ _ _=>?_
   |refine⟨aa.cell ‹_› 16 rfl 3 rfl,?_⟩
   |refine⟨aa.cell ‹_› 17 rfl 3 rfl,?_⟩
   |refine⟨aa.cell ‹_› 17 rfl 0 rfl,?_⟩
   |refine⟨aa.cell ‹_› 18 rfl 0 rfl,?_⟩
   |refine⟨_,aa.cell ‹_› 0 rfl (n%4).toNat (WO n),?_⟩
   |refine⟨aa.cell ‹_› 0 rfl (n%4).toNat (WO n),?_⟩
   |refine⟨⟨by omega,by omega⟩,?_⟩
   |refine⟨_,rfl,?_⟩
   |refine⟨?_,?_⟩
 ·rintro _ _ CA ⟨rfl,rfl,fy,g',q',m4⟩
  refine⟨true,jk,aZ rfl (bF (by omega) (bF (by omega) ⟨_,m4.cell 16 rfl 27 rfl,(I0 ⟨by omega,by omega⟩ m4).mono ?_⟩))⟩
  rintro _ FT ⟨rfl,m5⟩
  refine⟨_,rfl,m5.cell 16 rfl 27 rfl,(PD m5).mono ?_⟩
  rintro _ FU ⟨rfl,m6⟩
  rw[iS]
  refine⟨_,rfl,by rw[<-iS];exact m6.cell 16 rfl 27 rfl,(akk rfl m6).mono ?_⟩
  rintro _ CB ⟨s,rfl,m7⟩
  refine⟨_,rfl,akt (q':=⟨(j:Int)+1,some ⟨s,0,none⟩,kn,kn,false,kn⟩) m7 18 rfl I λRx m8=>⟨rfl,fy,g',s,q',?_⟩⟩
  exact(m8.swap.jy (Q:=cA iG 8 s 13 (List.replicate 8 (false,0))::(aq aM.a fy g' (x.oA k n j)++[dj w _]))).jy (Q:=aq aM.a fy g' (x.oA k n j)++[dj w _])
end
end Go.Proofs.YtjlkfjnfnonekaaGreatDoor
set_option maxRecDepth 8000
namespace Go.Proofs.YtjlkfjnfnonekaaGreatDoor
open Go.Vc
section
variable{W:Wd} {h h':J} {R L:List aL} {a w k j p i ji gc:Nat} {y:cR} {g:cQ} {x:ab} {o:iw} {c:jT} {gG fY tid n ad kK aid:Int} {kD:Bool} {b:nJ} {ads:List Addr} {v:Value} {q':k0} {s:ba} {lA:Option Addr} {gs:List Value} {fP:ao} {bs:List Int}
def k0.MT (q:k0) (g:nJ):k0:={q with g:=g}
set_option maxHeartbeats 1000000 in
theorem aqi (I:k<4) (ha:o.a=a) (CL:(o.q k).aid=aid) (hs:x.of aid=some s) (hg:(o.q k).g=(lA,ji,gc)) (L5:au lA ji gc 4 gs fP) (hi:R[i]?=some (ae fP)) (Ap:ji<=100000) (iD:cm W (sS b) bs) (hx:∀z∈bs,0<=z/\z<256) (hlen:bs.length<=1500) (hN:x.now<=o.now/\0<=o.now/\o.now<=1125899906842624) (rq:x.book.length<1000000) (eA:x.bK.len<1000000)
 (ok:bl x) (a7:Snt W ads) (q:aH W a y g x) (m:aa W h (aq a y g x++dj w o::R)):
 aj Tryz.prog 18 #[a8 w, .int .i64 k, .agg (hK gG fY tid n ad kK kD b).toArray] h λv h'=>v= .bool true/\∃W' g' Cx Cy Km FQ,W.le W'/\aH W' a y g' (x.offer o.now aid (tid%8) ad bs).1/\au Cx (ji+1) Cy 4 Km FQ/\
  aa W' h' (aq a y g' (x.offer o.now aid (tid%8) ad bs).1++dj w (o.e4 k ((o.q k).MT (Cx,ji+1,Cy)))::R.set i (ae FQ)):=by
 subst ha
 obtain⟨ff,kB,ep⟩:=b
 have af:(x.offer o.now aid (tid%8) ad bs).2.1=x.book.length+1/\(x.offer o.now aid (tid%8) ad bs).2.2=none:=by
  unfold ab.offer;rw[hs];dsimp only;rw[if_neg (by omega)];exact⟨rfl,rfl⟩
 refine aoI _ _ _ _ _ (m.bb λal h1 m1=>?_)
 replace m1:=c4 m1
 have aq4:=@qN W
 refine⟨⟨by omega,by omega⟩,_,m1.cell 17 rfl 0 rfl,_,m1.cell 17 rfl 26 rfl,_,(by rw[Int.toNat_natCast];exact qN m1 17 rfl I 0 rfl),_,m1.cell 16 rfl 2 rfl,_,m1.cell 16 rfl 4 rfl,_,_,_,m1.cell 16 rfl 7 rfl,(rD _ _ _ (by decide) (by decide)).ret ⟨_,rfl,m1.cell 16 rfl 7 rfl,m1.cell 16 rfl 4 rfl,(by rw[Int.toNat_natCast];exact qN m1 17 rfl I 0 rfl),m1.cell 17 rfl 26 rfl,m1.cell 17 rfl 0 rfl,?_⟩⟩
 rw[CL,Int.toNat_natCast]
 clear m
 refine(Yk ok a7 q hN.2 rq eA iD hx m1).mono ?_
 rintro _ h3 ⟨rfl,aQ,g1,hle,q1,m3⟩
 have h1:=(ab.iU hs).1
 rw[af.1,af.2]
 refine⟨_,_,rfl,_,qN m3 17 rfl I 0 rfl,bF (by rw[CL];omega) ⟨true,jk,aZ rfl (bF (by omega) ⟨_,_,_,(by rw[<-show sS (o.q k).g= .slice lA ji gc by rw[hg];rfl];exact qN m3 17 rfl I 3 rfl),_,m3.cell 16 rfl 2 rfl,_,m3.cell 16 rfl 4 rfl,_,_,_,m3.cell 16 rfl 7 rfl,?_⟩)⟩⟩
 have F7:cell h3 w (22+k*6+3)=some (.slice lA ji gc):=by rw[<-show sS (o.q k).g= .slice lA ji gc by rw[hg];rfl];exact qN m3 17 rfl I 3 rfl
 refine(rD _ _ _ (by decide) (by decide)).ret ⟨_,rfl,m3.cell 16 rfl 7 rfl,m3.cell 16 rfl 4 rfl,F7,?_⟩
 obtain⟨G,me,bk⟩:=m3.nx
 refine(U0 me (iD.le hle) (by omega)).mono ?_
 rintro _ aA ⟨bu,a5,eK,j2,rfl,DD,ars⟩
 have m5:=bk.1 DD
 clear me DD bk m3 F7
 have F7:cell aA w (22+k*6+3)=some (.slice lA ji gc):=by rw[<-show sS (o.q k).g= .slice lA ji gc by rw[hg];rfl];exact qN m5 17 rfl I 3 rfl
 refine⟨_,_,_,rfl,m5.cell 16 rfl 4 rfl,F7,rfl,L5.kA m5 (i+18) (by exact hi) rfl (by intro u hu;simp at hu;rcases hu with rfl|rfl|rfl|rfl<;>rfl) (by omega) (by decide) λay c' bn h' m6 nZ=>?_⟩
 replace m6:aa bu h' (aq o.a y g1 (x.offer o.now aid (tid%8) ad bs).1++[⟨al,0,hK gG fY tid n ad kK kD (ff,kB,ep),some 38⟩]::dj w o::R.set i (ae bn)):=by
  have:(aq o.a y g1 (x.offer o.now aid (tid%8) ad bs).1++[⟨al,0,hK gG fY tid n ad kK kD (ff,kB,ep),some 38⟩]::dj w o::R).set (i+18) (ae bn)=aq o.a y g1 (x.offer o.now aid (tid%8) ad bs).1++[⟨al,0,hK gG fY tid n ad kK kD (ff,kB,ep),some 38⟩]::dj w o::R.set i (ae bn):=by
   rfl
  rwa[this]at m6
 exact MP (q':=(o.q k).MT (ay,ji+1,c')) m6 17 rfl I 3 (by decide) rfl λbJ m8=>⟨rfl,bu,g1,ay,c',_,bn,hle.trans j2,q1.le j2,nZ,cI m8⟩
end
end Go.Proofs.YtjlkfjnfnonekaaGreatDoor
set_option maxRecDepth 8000
namespace Go.Proofs.YtjlkfjnfnonekaaGreatDoor
open Go.Vc
structure IJ (u:bR):Prop extends jq u where
 k:u.kind=1
 aK:u.bB=1
 ix:u.agg=false
 Jd:0<u.air
 iX:2<=u.slots
 a0:0<=u.ac/\u.ac<=3
 f:∃f,gK f/\u.cO=gg f/\f.to=u.to/\f.bss=u.bss/\f.fr=u.bss/\cC u.start f.sq<u.size/\f.tid=u.tid
 sz:1<=u.size
 r1:u.r.ok=true
 pp:u.r.kp u.cO.length<=54840
def iw.cZ (o:iw) (u:bR) (dQ:Option Addr) (lc:Nat):iw:={o with sm:=true,nw:=u,dQ:=dQ,lc:=lc}
def iw.Ef (o:iw) (t:nJ):iw:={o with di:=t}
section
variable{W:Wd} {h h':J} {R L:List aL} {a w k j p i jS:Nat} {y:cR} {g:cQ} {x:ab} {o:iw} {c:jT} {gG fY tid n ad kK aid:Int} {kD:Bool} {b:nJ} {ads:List Addr} {v:Value} {q':k0} {s:ba} {kc:Option Addr} {jR:ao} {bs:List Int} {u:bR}
theorem VE (m:aa W h L) (i:Nat) (hi:L[i]?=some (dj w o)):aj Tryz.prog 57 #[a8 w, .int .i64 aid] h λv h'=>h'=h/\((∃k:Nat,k<4/\v= .int .i64 k/\(o.q k).aid=aid/\0<aid/\∀j,j<k->(o.q j).aid≠aid)\/v= .int .i64 (-1)/\∀k,k<4->(o.q k).aid=aid->aid<=0):=by
 refine aoK _ _ _ _ ⟨λz h'=>h'=h/\∃k:Nat,z=k/\k<=4/\∀j,j<k->(o.q j).aid=aid->aid<=0,λz _=>(4 -z).toNat,⟨rfl,0,rfl,by omega,λj ah=>by omega⟩,λ_=>?_⟩
 rintro _ h2 ⟨rfl,k,rfl,I,ah⟩
 refine aC (λaK=>?_) λaK=>⟨rfl, .inr ⟨rfl,λk' ig=>ah k' (by omega)⟩⟩
 refine⟨⟨by omega,by omega⟩,_,qN m i hi (k:=k) (by omega) 0 rfl,?_⟩
 have dD:((o.q k).aid=aid->aid<=0)->fits .i64 ((k:Int)+1)/\(h2=h2/\∃k':Nat,(k:Int)+1=k'/\k'<=4/\∀j,j<k'->(o.q j).aid=aid->aid<=0)/\(4 -((k:Int)+1)).toNat<(4 -(k:Int)).toNat:= λhh=>⟨by simp only[fits];omega,⟨rfl,k+1,by omega,by omega,λj At=>by
  rcases Nat.lt_or_ge j k with h|h
  ·exact ah j h
  ·obtain rfl:j=k:=by omega
   exact hh⟩,by omega⟩
 exact aC (λaG=>aC (λbd=>⟨rfl, .inl ⟨k,by omega,rfl,aG,bd,λj At e=>by have:=ah j At e;omega⟩⟩) λbd=>dD λ_=>by omega) λaG=>dD λe=>absurd e aG
set_option maxHeartbeats 4000000 in
theorem aqj {x':ab} {mx:Nat} (I:k<4) (ha:o.a=a) (hi:R[i]?=some (ae jR)) (tO:au kc 0 jS 10 [] jR) (wG:o.di=(kc,0,jS)) (he:x.send o.now [0,0,0,0]=(x',some u)) (ei:IJ u) (hq:(o.q k).aid=u.aid/\0<u.aid/\∀j,j<k->(o.q j).aid≠u.aid)
 (hN:0<=o.now/\o.now<=1125899906842624) (hn:x.num<1000000) (AJ:x.ways.length<=1000) (kj:x'.ways.length=x.ways.length+1/\x'.rQ u.num=some mx/\x'.ways[mx]?=some u/\∀z∈x'.ways,jq z)
 (i0:vz x) (a7:Snt W ads) (q:aH W a y g x) (m:aa W h (aq a y g x++dj w o::R)):
 aj Tryz.prog 19 #[a8 w, .agg (hK gG fY tid 0 ad kK kD b).toArray] h λv h'=>v= .bool true/\∃W' fy g' dQ lc EH EI zl,W.le W'/\aH W' a fy g' x'/\bl x'/\au EH 1 EI 10 (hk u dQ lc) zl/\cm W' (.slice dQ u.cO.length lc) u.cO/\
  aa W' h' (aq a fy g' x'++dj w ((o.cZ u dQ lc).Ef (EH,1,EI))::R.set i (ae zl)):=by
 subst ha
 obtain⟨f,hf,uJ,kH,qe,eN,Kx,ade⟩:=ei.f
 have hl:=y3 ei.tojq
 refine aoJ _ _ _ _ (m.bb λal h1 m1=>(c4 m1).bb λaP h2 m2=>?_)
 replace m2:=c4 m2
 refine⟨λz h'=>0<=z/\z<=4/\aa W h' (aq o.a y g x++[⟨aP,0,ints .u32 [0,0,0,0],some 64⟩]::[⟨al,0,hK gG fY tid 0 ad kK kD b,some 38⟩]::dj w o::R),λz _=>(4 -z).toNat,⟨by decide,by decide,m2⟩,λ_=>?_⟩
 clear m m1 m2
 rintro z h3 ⟨qs,ar5,m3⟩
 refine aC (λaK=>?_) λaK=>?_
 ·have hz:z=0\/z=1\/z=2\/z=3:=by omega
  refine⟨0,m3.cell 17 rfl 3 rfl,by simp only[fits];decide,by simp only[fits];omega,by simp only[fits];omega,⟨by omega,by simp only[nW];omega⟩,⟨by omega,by omega⟩,m3.store 16 rfl z.toNat (by rcases hz with rfl|rfl|rfl|rfl<;>rfl) λh4 m4=>⟨by simp only[fits];omega,⟨by omega,by omega,?_⟩,by dsimp only;omega⟩⟩
  rw[Int.zero_ediv]at m4
  rcases hz with rfl|rfl|rfl|rfl<;>exact m4
 refine⟨_,m3.cell 18 rfl 0 rfl,(Pg q (by omega) m3).mono ?_⟩
 rintro _ aA ⟨cg,bZ,rfl,m5⟩
 clear m3
 obtain⟨ek,T2,m5⟩:∃ek T2,aa W aA (aq o.a y g x++[⟨aP,0,ints .u32 [0,0,0,0],some ek⟩]::[⟨al,0,hK gG fY tid 0 ad kK kD b,some T2⟩]::dj w o::R):=⟨_,_,m5⟩
 have Vs:∀{h R},aa W h (aq o.a y g x++R)->aj Tryz.prog 12 #[a8 o.a, .int .i64 o.now, .agg (ints .u32 [0,0,0,0]).toArray] h (IM W o.a y R (x',some u)):= λ{h R} m=>by
  have:=Pd (dr:=[0,0,0,0]) i0 a7 q hN rfl (by decide) hn (by omega) m
  rw[he]at this;exact this
 refine⟨_,_,_,rfl,λp t h'=>t=true/\∃W' fy g' dQ lc bt,W.le W'/\aH W' o.a fy g' x'/\bl x'/\cm W' (.slice dQ u.cO.length lc) u.cO/\p=some ⟨bt,0,none⟩/\aa W' h' (aq o.a fy g' x'++[⟨bt,0,hk u dQ lc,some 50⟩]::[⟨aP,0,ints .u32 [0,0,0,0],some ek⟩]::[⟨al,0,hK gG fY tid 0 ad kK kD b,some T2⟩]::dj w o::R),
  ⟨_,m5.cell 18 rfl 0 rfl,_,m5.cell 18 rfl 26 rfl,_,m5.bE 16 rfl rfl,(Vs m5).mono ?_,m5.bb λdO ct m9=>(Vs (c4 m9)).mono ?_⟩,λ_=>?_⟩
 ·rintro _ aU ⟨aQ,b0,g1,hle,q1,rG,m6,⟨e,-⟩|⟨_,bp,dQ,lc,e,rfl,rfl,dK⟩⟩
  ·cases e
  ·cases e
   exact⟨_,_,rfl,m6.bb λbx bW m7=>m7.c8 0 rfl rfl rfl tW λbJ m8=>⟨rfl,aQ,_,g1,dQ,lc,bx,hle,q1,rG,dK,rfl,c4 m8⟩⟩
 ·rintro _ aU ⟨aQ,b0,g1,hle,q1,rG,m6,⟨e,-⟩|⟨_,bp,dQ,lc,e,rfl,rfl,dK⟩⟩
  ·cases e
  ·cases e
   exact⟨_,_,rfl,m6.c8 16 rfl rfl rfl tW λbJ m8=>⟨rfl,aQ,_,g1,dQ,lc,dO,hle,q1,rG,dK,rfl,m8⟩⟩
 clear m5
 rintro _ _ fu ⟨rfl,aQ,b0,g1,dQ,lc,bt,hle,q1,rG,dK,rfl,m12⟩
 obtain⟨eg,pd⟩:∃eg,eg=o.cZ u dQ lc:=⟨_,rfl⟩
 have Db:(eg.q k).aid=u.aid/\0<u.aid/\∀j,j<k->(eg.q j).aid≠u.aid:=by rw[pd];exact hq
 have ad8:eg.di=(kc,0,jS):=by rw[pd];exact wG
 have QH:eg.a=o.a:=by rw[pd];rfl
 refine xr (o':={o with sm:=true}) m12 19 rfl 38 rfl rfl λfQ m13=>aN ⟨_,m13.bE 16 rfl rfl,m13.zV (us:=hk u dQ lc) 19 rfl 28 rfl (Nat.le_of_ble_eq_true rfl) tW λiA m14=>aZ rfl (aN ⟨_,m14.cell 16 rfl 1 rfl,?_⟩)⟩
 replace m14:aa aQ iA (aq o.a b0 g1 x'++[⟨bt,0,hk u dQ lc,some 50⟩]::[⟨aP,0,ints .u32 [0,0,0,0],some ek⟩]::[⟨al,0,hK gG fY tid 0 ad kK kD b,some T2⟩]::dj w eg::R):=by rw[pd];exact m14
 clear m12 m13
 refine(VE m14 19 rfl).mono ?_
 rintro _ _ ⟨rfl,⟨k',ig,rfl,af,ag,aI⟩|⟨-,af⟩⟩
 rotate_left
 ·exact absurd (af k I Db.1) (by have:=Db.2.1;omega)
 refine⟨_,rfl,bF (by omega) ⟨_,m14.cell 19 rfl 0 rfl,?_⟩⟩
 rw[QH]
 refine(Pg q1 (by omega) m14).mono ?_
 rintro _ ov ⟨asv,asy,rfl,m17⟩
 clear m14
 have a0:=ei.a0
 refine⟨_,_,_,rfl,by simp only[fits];omega,aZ (by rw[kj.1];simp) (aN ⟨_,m17.cell 16 rfl 8 rfl,bF (by have:=ei.Jd;omega) (aN ⟨_,m17.cell 16 rfl 9 rfl,bF (by have:=ei.iX;omega) (aN ⟨_,m17.cell 16 rfl 3 rfl,bF (by omega) (aN ⟨_,m17.cell 16 rfl 3 rfl,bF (by omega) ⟨λz h=>z=0/\h=ov,λ_ _=>0,⟨rfl,rfl⟩,λ_=>?_⟩⟩)⟩)⟩)⟩)⟩
 rintro _ _ ⟨rfl,rfl⟩
 have th:∀{h':J} {L:List aL} (m:aa aQ h' L) (i:Nat) (hi:L[i]?=some (dj w eg)),cell h' w 46=some (.slice kc 0 jS):= λm i hi=>by
  have:=m.cell i hi 25 rfl (p:=46)
  rw[ad8]at this;exact this
 refine⟨_,_,_,th m17 19 rfl,bF (by decide) ⟨_,_,_,th m17 19 rfl,aN ⟨_,m17.bE 16 rfl rfl,rfl,?_⟩⟩⟩
 rw[List.append_nil]
 refine tO.kA m17 (i+20) (by exact hi) rfl tW (by decide) (by decide) λEH EI zl CA m21 aiF=>?_
 replace m21:aa aQ CA (aq o.a b0 g1 x'++[⟨bt,0,hk u dQ lc,some 50⟩]::[⟨aP,0,ints .u32 [0,0,0,0],some ek⟩]::[⟨al,0,hK gG fY tid 0 ad kK kD b,some T2⟩]::dj w eg::R.set i (ae zl)):=m21
 obtain⟨cb,sv⟩:∃cb,cb=eg.Ef (EH,1,EI):=⟨_,rfl⟩
 have JX:cb.a=o.a:=by rw[sv];exact QH
 refine xr (o':=cb) m21 19 rfl 25 rfl (by rw[sv];rfl) λFT m22=>aN ⟨_,m22.cell 16 rfl 4 rfl,aZ (by rw[ei.k];rfl) ?_⟩
 replace m22:aa aQ FT (aq o.a b0 g1 x'++[⟨bt,0,hk u dQ lc,some 50⟩]::[⟨aP,0,ints .u32 [0,0,0,0],some ek⟩]::[⟨al,0,hK gG fY tid 0 ad kK kD b,some T2⟩]::dj w cb::R.set i (ae zl)):=m22
 clear m17 m21 th tO
 refine⟨λp t h'=>t=true/\∃s7,p=some ⟨s7,0,none⟩/\aa aQ h' (aq o.a b0 g1 x'++[⟨s7,0,kq u,some 158⟩]::[⟨bt,0,hk u dQ lc,some 50⟩]::[⟨aP,0,ints .u32 [0,0,0,0],some ek⟩]::[⟨al,0,hK gG fY tid 0 ad kK kD b,some T2⟩]::dj w cb::R.set i (ae zl)),
  ⟨_,m22.cell 19 rfl 0 rfl,aN ⟨_,m22.cell 16 rfl 0 rfl,?_,m22.bb λYE FV LK=>?_⟩⟩,λ_=>?_⟩
 ·rw[JX]
  refine(Pc q1 kj.2.2.2 (by omega) m22).mono ?_
  rintro _ FU ⟨hv,m23⟩
  rw[hv _ _ kj.2.1 kj.2.2.1]
  exact⟨_,_,rfl,m23.bb λYD CB m24=>m24.c8 0 rfl hl rfl MN λRx LJ=>⟨rfl,YD,rfl,c4 LJ⟩⟩
 ·rw[JX]
  refine(Pc q1 kj.2.2.2 (by omega) (c4 LK)).mono ?_
  rintro _ aq9 ⟨hv,agt⟩
  rw[hv _ _ kj.2.1 kj.2.2.1]
  exact⟨_,_,rfl,agt.c8 16 rfl hl rfl MN λCC wQ=>⟨rfl,YE,rfl,wQ⟩⟩
 clear m22
 rintro _ _ ara ⟨rfl,s7,rfl,GQ⟩
 rw[uJ]at dK
 refine aZ rfl (aN ⟨_,GQ.bE 16 rfl hl.symm,aN ⟨_,GQ.cell 17 rfl 6 rfl,aN ⟨_,_,_,GQ.cell 17 rfl 7 rfl,?_⟩⟩⟩)
 rw[ei.ix,uJ]
 refine(ab5 ei.tojq hf kH qe eN Kx ei.sz ei.r1 (by rw[<-uJ];exact ei.pp) dK GQ).mono ?_
 rintro _ arb ⟨bu,a1,aK,a2,aG,a3,bd,j2,rfl,agv⟩
 refine⟨_,_,rfl,agv.bb λaq3 arc agw=>agw.c8 0 rfl rfl rfl (by intro u hu;simp at hu;rcases hu with rfl|rfl|rfl|rfl|rfl|rfl<;>rfl) λacf m32=>⟨true,jk,df rfl ⟨_,_,_,m32.cell 0 rfl 1 rfl,aN ⟨_,m32.cell 18 rfl 5 rfl,fB (by rw[ei.aK];rfl) ⟨_,m32.cell 0 rfl 0 rfl,aN ⟨_,m32.cell 18 rfl 2 rfl,fB ade (aN ⟨_,m32.cell 18 rfl 5 rfl,?_⟩)⟩⟩⟩⟩⟩⟩
 refine⟨by rw[ei.aK];rfl,bu,_,g1,dQ,lc,EH,EI,zl,hle.trans j2,q1.le j2,rG,aiF,dK.le j2,?_⟩
 rw[<-pd,<-sv]
 exact cI (cI (cI (cI (m32.aB))))
end
end Go.Proofs.YtjlkfjnfnonekaaGreatDoor
