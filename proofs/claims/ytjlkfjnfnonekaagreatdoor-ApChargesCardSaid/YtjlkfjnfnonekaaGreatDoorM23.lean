import Derived.Test.YtjlkfjnfnonekaaGreatDoorM22
import Derived.Test.YtjlkfjnfnonekaaGreatDoorM20
import Derived.Test.YtjlkfjnfnonekaaGreatDoorM14
import Derived.Test.YtjlkfjnfnonekaaGreatDoorM19
set_option linter.all false
set_option maxRecDepth 8000
namespace Go.Proofs.YtjlkfjnfnonekaaGreatDoor
open Go.Vc
structure h7 where
 has:Bool
 left:Int
 grown:Int
def tf (x:h7):List Value:=[.bool x.has, .int .i64 x.left, .int .i64 x.grown]
def la:h7:=⟨false,0,0⟩
def B2 (l:List Int) (ac:Int):Int:=l.getD ac.toNat 0
def lb (ac:Int):Int:=B2 [7,3,2,2] ac
def jg (ac:Int):Int:=B2 [15,15,7,3] ac
def ot (ac:Int):Int:=B2 [1023,63,15,7] ac
def kh (l:List h7) (k:Nat):h7:=l.getD k la
def tn (ac:Int) (c:h7):h7:={c with grown:=min (2*(jg ac+c.grown)+1) (ot ac) -jg ac}
def rk (ac:Int) (d:Int) (c:h7):h7:=if c.has=true then c else⟨true,d%(jg ac+c.grown+1),c.grown⟩
def dG (rd:List Bool) (dr:List Int) (l:List h7):Nat->List h7×Int×Int
 |0=>(l,-1,0)
 |k+1=>if rd.getD k false=true then
  (let s:=dG rd dr l k
   let c:=rk k (dr.getD k 0) (kh s.1 k)
   if s.2.1<0\/lb k+c.left<=s.2.2 then(s.1.set k c,(k:Int),lb k+c.left)else(s.1.set k c,s.2.1,s.2.2))
  else dG rd dr l k
def tQ (win least k:Int) (c:h7):h7:=
 if least<lb k+c.left then{c with left:=max (c.left -max (least -lb k) 0) 0}
 else if k≠win then⟨false,0,(tn k c).grown⟩else⟨false,0,c.grown⟩
def ng (rd:List Bool) (win least:Int) (l:List h7):Nat->List h7
 |0=>l
 |k+1=>if rd.getD k false=true then(ng rd win least l k).set k (tQ win least k (kh (ng rd win least l k) k))else ng rd win least l k
def gd (rd:List Bool) (dr:List Int) (l:List h7):List h7×Int×Int×Bool:=
 if(dG rd dr l 4).2.1<0 then((dG rd dr l 4).1,0,0,false)else(ng rd (dG rd dr l 4).2.1 (dG rd dr l 4).2.2 (dG rd dr l 4).1 4,(dG rd dr l 4).2.1,(dG rd dr l 4).2.2,true)
def oq (l:List h7) (ac:Int) (well:Bool):List h7×lO:=
 if iV ac=true then(l.set ac.toNat (if well=true then{kh l ac.toNat with grown:=0}else tn ac (kh l ac.toNat)),none)else(l,some 2)
abbrev pL (b o:Nat) (l:List h7):aL:=cA tf 3 b o l
structure tY (k:Int) (c:h7):Prop where
 l:0<=c.left/\c.left<=1023
 g:0<=c.grown/\c.grown<=ot k -jg k
structure ks (l:List h7):Prop where
 n:l.length=4
 c:∀(k:Nat) (c:h7),l[k]?=some c->tY k c
section
variable{W W':Wd} {h h':J} {R:List aL} {l:List h7} {b o k:Nat} {ac:Int} {ads:List Addr} {c:h7} {j:Nat} {v:Value} {rd:List Bool} {dr:List Int}
theorem EW (h0:iV ac=true):ac=0\/ac=1\/ac=2\/ac=3:=by have:=u9.1 h0;omega
theorem k4 (h:k<4):iV (k:Int)=true:=u9.2 ⟨by omega,by omega⟩
theorem J1 {oR bj aY bz:Int} {T:TypeId} {ju:Nat} (h0:iV ac=true) (m:aa W h ([⟨ju,0,[.int .i64 oR, .int .i64 bj, .int .i64 aY, .int .i64 bz],some T⟩]::R)):cell h ju (0+ac.toNat)=some (.int .i64 (B2 [oR,bj,aY,bz] ac)):=by
 rcases EW h0 with rfl|rfl|rfl|rfl
 ·exact m.cell 0 rfl 0 rfl
 ·exact m.cell 0 rfl 1 rfl
 ·exact m.cell 0 rfl 2 rfl
 ·exact m.cell 0 rfl 3 rfl
theorem FD (h0:iV ac=true):2<=lb ac/\lb ac<=7:=by rcases EW h0 with rfl|rfl|rfl|rfl<;>decide
theorem Ac (h0:iV ac=true):3<=jg ac/\jg ac<=15:=by rcases EW h0 with rfl|rfl|rfl|rfl<;>decide
theorem sg (h0:iV ac=true):jg ac<=ot ac/\ot ac<=1023:=by rcases EW h0 with rfl|rfl|rfl|rfl<;>decide
theorem FE (h0:iV ac=true) (m:aa W h R):aj Tryz.prog 94 #[.int .i64 ac] h λv h'=>v= .int .i64 (lb ac)/\aa W h' R:=by
 have:=u9.1 h0
 exact aog _ _ _ (m.bb λal h1 m1=>⟨⟨by omega,by omega⟩,_,J1 h0 m1,rfl,m1.aB⟩)
theorem QJ (h0:iV ac=true) (m:aa W h R):aj Tryz.prog 184 #[.int .i64 ac] h λv h'=>v= .int .i64 (jg ac)/\aa W h' R:=by
 have:=u9.1 h0
 exact aoe _ _ _ (m.bb λal h1 m1=>⟨⟨by omega,by omega⟩,_,J1 h0 m1,rfl,m1.aB⟩)
theorem aa9 (h0:iV ac=true) (m:aa W h R):aj Tryz.prog 185 #[.int .i64 ac] h λv h'=>v= .int .i64 (ot ac)/\aa W h' R:=by
 have:=u9.1 h0
 exact aof _ _ _ (m.bb λal h1 m1=>⟨⟨by omega,by omega⟩,_,J1 h0 m1,rfl,m1.aB⟩)
theorem QL (ac:Int) (h:J):aj Tryz.prog 173 #[.int .i64 ac] h λv h'=>v= .bool (iV ac)/\h'=h:=by
 refine aod _ _ _ (aC (λq=>⟨?_,rfl⟩) λq=>⟨?_,rfl⟩)
 ·by_cases q2:ac<4<;>simp[iV,q,q2]
 ·simp[iV,q]
theorem aaj (I:l[k]?=some c):kh l k=c:=by unfold kh;rw[List.getD_eq_getElem?_getD,I];rfl
theorem ks.at (ok:ks l) (I:k<4):l[k]?=some (kh l k)/\tY k (kh l k):=by
 have bY:k<l.length:=by rw[ok.n];exact I
 have:=List.getElem?_eq_getElem bY
 rw[aaj this]
 exact⟨this,ok.c k _ this⟩
theorem ks.set (ok:ks l) (hc:tY k c):ks (l.set k c):=by
 refine⟨by rw[List.length_set];exact ok.n,λj d ah=>?_⟩
 by_cases ym:j=k
 ·subst ym
  have bY:j<l.length:=by have:=(List.getElem?_eq_some_iff.1 ah).1;simpa using this
  rw[List.getElem?_set_self bY]at ah;cases ah;exact hc
 ·rw[List.getElem?_set_ne (Ne.symm ym)]at ah;exact ok.c j d ah
theorem ux (m:aa W h (pL b o l::R)) (I:l[k]?=some c) (ah:(tf c)[j]?=some v):cell h b (o+k*3+j)=some v:=(cA.one m I).cell 0 rfl j ah
theorem QM (ok:ks l) (I:k<4) (m:aa W h (pL b o l::R)):aj Tryz.prog 93 #[.pointer (some ⟨b,o,none⟩), .int .i64 (k:Int)] h λv h'=>v= .int .i64 (jg k+(kh l k).grown)/\aa W h' (pL b o l::R):=by
 obtain⟨h1,h2⟩:=ok.at I
 have:=Ac (k4 I);have:=sg (k4 I);have:=h2.g
 refine aob _ _ _ _ ((QL _ _).ret ⟨_,rfl,aZ (by rw[k4 I];rfl) (aN ⟨⟨by omega,by omega⟩,_,ux (j:=2) m h1 rfl,?_⟩)⟩)
 refine(QJ (k4 I) m).mono ?_
 rintro _ g1 ⟨rfl,m1⟩
 exact⟨_,rfl,ux (j:=2) m1 h1 rfl,by simp only[fits];omega,rfl,m1⟩
theorem QK (ok:ks l) (I:k<4) (m:aa W h (pL b o l::R)):aj Tryz.prog 95 #[.pointer (some ⟨b,o,none⟩), .int .i64 (k:Int)] h λv h'=>aa W h' (pL b o (l.set k (tn k (kh l k)))::R):=by
 obtain⟨h1,h2⟩:=ok.at I
 have:=Ac (k4 I);have:=sg (k4 I);have:=h2.g
 refine aoc _ _ _ _ (aN ((QM ok I m).mono ?_))
 rintro _ g1 ⟨rfl,m⟩
 refine⟨_,rfl,by simp only[fits];omega,by simp only[fits];omega,(aa9 (k4 I) m).mono ?_⟩
 rintro _ g2 ⟨rfl,m⟩
 refine⟨_,rfl,(QJ (k4 I) m).mono ?_⟩
 rintro _ g3 ⟨rfl,m⟩
 refine⟨_,rfl,by simp only[fits];omega,⟨by omega,by omega⟩,?_⟩
 refine(cA.one m h1).store 0 rfl 2 rfl λg4 m4=>?_
 exact cA.back (f:=tf) (y:=tn k (kh l k)) (by rw[ok.n];exact I) m4
theorem Rv (I:k<4) (hc:tY k c):tY k (tn k c):=by
 have:=Ac (k4 I);have:=sg (k4 I);have:=hc.g
 refine⟨hc.l,?_,?_⟩
 ·show 0<=min (2*(jg k+c.grown)+1) (ot k) -jg k;omega
 ·show min (2*(jg k+c.grown)+1) (ot k) -jg k<=_;omega
theorem aax {d:Int} (I:k<4) (hd:0<=d) (hc:tY k c):tY k (rk k d c):=by
 unfold rk
 split
 ·exact hc
 ·have:=Ac (k4 I);have:=sg (k4 I);have:=hc.g
  have h1:=Int.emod_nonneg d (b:=jg k+c.grown+1) (by omega)
  have h2:=Int.emod_lt_of_pos d (b:=jg k+c.grown+1) (by omega)
  exact⟨⟨h1,by show d%_<=_;omega⟩,hc.g⟩
theorem Cm (ok:ks l) (hd:∀x∈dr,0<=x):∀{k:Nat},k<=4->ks (dG rd dr l k).1/\((dG rd dr l k).2.1<0\/0<=(dG rd dr l k).2.1/\(dG rd dr l k).2.1<k/\2<=(dG rd dr l k).2.2/\(dG rd dr l k).2.2<=1030)
 |0,_=>⟨ok, .inl (by show(-1:Int)<0;decide)⟩
 |k+1,I=>by
  obtain⟨h1,h2⟩:=Cm ok hd (k:=k) (by omega)
  unfold dG
  split
  ·have nk:0<=dr.getD k 0:=by
    rw[List.getD_eq_getElem?_getD]
    cases e:dr[k]?with
    |none=>exact Int.le_refl _
    |some x=>exact hd x (List.mem_of_getElem? e)
   have hc:=aax (k:=k) (d:=dr.getD k 0) (by omega) nk (h1.at (k:=k) (by omega)).2
   have hs:=h1.set hc
   have hl:=hc.l;have:=FD (k4 (k:=k) (by omega))
   dsimp only
   split
   ·exact⟨hs, .inr ⟨by show(0:Int)<=k;omega,by show(k:Int)<((k+1:Nat):Int);omega,by show 2<=lb k+_;omega,by show lb k+_<=1030;omega⟩⟩
   ·refine⟨hs,?_⟩
    rcases h2 with h2|h2
    ·exact .inl h2
    ·exact .inr ⟨h2.1,by have:=h2.2.1;show(dG rd dr l k).2.1<((k+1:Nat):Int);omega,h2.2.2⟩
  ·refine⟨h1,?_⟩
   rcases h2 with h2|h2
   ·exact .inl h2
   ·exact .inr ⟨h2.1,by have:=h2.2.1;omega,h2.2.2⟩
theorem aiY {win least:Int} (I:k<4) (hc:tY k c):tY k (tQ win least k c):=by
 have:=hc.l
 unfold tQ
 split
 ·exact⟨⟨by show 0<=max (c.left -max (least -lb k) 0) 0;omega,by show max (c.left -max (least -lb k) 0) 0<=1023;omega⟩,hc.g⟩
 ·split
  ·exact⟨⟨Int.le_refl _,by show(0:Int)<=1023;decide⟩,(Rv I hc).g⟩
  ·exact⟨⟨Int.le_refl _,by show(0:Int)<=1023;decide⟩,hc.g⟩
theorem J0 {win least:Int} (ok:ks l):∀{k:Nat},k<=4->ks (ng rd win least l k)
 |0,_=>ok
 |k+1,I=>by
  have h1:=J0 (win:=win) (least:=least) ok (k:=k) (by omega)
  unfold ng
  split
  ·exact h1.set (aiY (by omega) (h1.at (by omega)).2)
  ·exact h1
theorem aa3 (ok:ks l) (hd:∀x∈dr,0<=x):ks (gd rd dr l).1:=by
 unfold gd
 split
 ·exact(Cm ok hd (Nat.le_refl 4)).1
 ·exact J0 (Cm ok hd (Nat.le_refl 4)).1 (Nat.le_refl 4)
theorem aa8 {well:Bool} (ok:ks l):ks (oq l ac well).1:=by
 unfold oq
 split
 ·rename_i h0
  have h4:=u9.1 h0
  have ha:=(ok.at (k:=ac.toNat) (by omega)).2
  rw[show((ac.toNat:Nat):Int)=ac by omega]at ha
  refine ok.set ?_
  rw[show((ac.toNat:Nat):Int)=ac by omega]
  split
  ·have:=sg h0;exact⟨ha.l,by show(0:Int)<=0;decide,by show(0:Int)<=_;omega⟩
  ·have:=Rv (k:=ac.toNat) (c:=kh l ac.toNat) (by omega) (by rw[show((ac.toNat:Nat):Int)=ac by omega];exact ha)
   rw[show((ac.toNat:Nat):Int)=ac by omega]at this;exact this
 ·exact ok
theorem aa6 {well:Bool} (ok:ks l) (s:Snt W ads) (m:aa W h (pL b o l::R)):aj Tryz.prog 80 #[.pointer (some ⟨b,o,none⟩), .int .i64 ac, .bool well] h λv h'=>v=gC ads (oq l ac well).2/\aa W h' (pL b o (oq l ac well).1::R):=by
 refine aoa _ _ _ _ _ ((QL _ _).ret ⟨_,rfl,bH (λq=>⟨_,s.var m 2 rfl,?_⟩) λq=>?_⟩)
 ·have q':iV ac=false:=by simpa using q
  unfold oq;rw[if_neg (by rw[q'];decide)];exact⟨rfl,m⟩
 have h0:iV ac=true:=by simpa using q
 have h4:=u9.1 h0
 obtain⟨k,rfl⟩:∃k:Nat,ac=k:=⟨ac.toNat,by omega⟩
 have I:k<4:=by omega
 obtain⟨h1,h2⟩:=ok.at I
 unfold oq;rw[if_pos h0]
 refine bH (λq2=>?_) λq2=>?_
 ·rw[if_pos q2]
  refine aN ⟨⟨by omega,by omega⟩,(cA.one m h1).store 0 rfl 2 rfl λg4 m4=>?_⟩
  exact⟨rfl,cA.back (f:=tf) (y:={kh l k with grown:=0}) (by rw[ok.n];exact I) m4⟩
 ·rw[if_neg (by rw[q2];decide)]
  refine(QK ok I m).mono ?_
  exactλv h' m=>⟨rfl,m⟩
end
end Go.Proofs.YtjlkfjnfnonekaaGreatDoor
set_option maxRecDepth 8000
namespace Go.Proofs.YtjlkfjnfnonekaaGreatDoor
open Go.Vc
section
variable{W W':Wd} {h h':J} {R:List aL} {l:List h7} {b o k:Nat} {c:h7} {rd:List Bool} {dr:List Int}
theorem akL {α:Type} {l:List α} {i:Nat} {v:α} (h:l[i]?=some v):l.set i v=l:=by
 apply List.ext_getElem?
 intro j
 by_cases ah:i=j
 ·subst ah;rw[List.getElem?_set_self (List.getElem?_eq_some_iff.1 h).1,h]
 ·rw[List.getElem?_set_ne ah]
theorem aaY (U:rd.getD k false=false):dG rd dr l (k+1)=dG rd dr l k:=by rw[dG,U];rfl
theorem aaZ (U:rd.getD k false=true):dG rd dr l (k+1)=(if(dG rd dr l k).2.1<0\/lb k+(rk k (dr.getD k 0) (kh (dG rd dr l k).1 k)).left<=(dG rd dr l k).2.2
 then((dG rd dr l k).1.set k (rk k (dr.getD k 0) (kh (dG rd dr l k).1 k)),(k:Int),lb k+(rk k (dr.getD k 0) (kh (dG rd dr l k).1 k)).left)else((dG rd dr l k).1.set k (rk k (dr.getD k 0) (kh (dG rd dr l k).1 k)),(dG rd dr l k).2.1,(dG rd dr l k).2.2)):=by rw[dG,if_pos U]
theorem aa0 {win least:Int} (U:rd.getD k false=false):ng rd win least l (k+1)=ng rd win least l k:=by rw[ng,U];rfl
theorem aa1 {win least:Int} (U:rd.getD k false=true):ng rd win least l (k+1)=(ng rd win least l k).set k (tQ win least k (kh (ng rd win least l k) k)):=by rw[ng,if_pos U]
theorem PA (hn:rd.length=4) (I:k<4):(rd.map Value.bool)[k]?=some (.bool (rd.getD k false)):=by
 rw[List.getElem?_map,List.getElem?_eq_getElem (by omega),List.getD_eq_getElem?_getD,List.getElem?_eq_getElem (by omega)];rfl
theorem NG (hn:dr.length=4) (I:k<4):(ints .u32 dr)[k]?=some (.int .u32 (dr.getD k 0)):=by
 rw[j5 (List.getElem?_eq_getElem (by omega)),List.getD_eq_getElem?_getD,List.getElem?_eq_getElem (by omega)];rfl
set_option maxHeartbeats 2000000 in
theorem aa5 (ok:ks l) (hn:rd.length=4) (hd:dr.length=4) (nk:∀x∈dr,0<=x/\x<4294967296) (m:aa W h (pL b o l::R)):
 aj Tryz.prog 40 #[.pointer (some ⟨b,o,none⟩), .agg (rd.map Value.bool).toArray, .agg (ints .u32 dr).toArray] h λv h'=>v= .tuple #[.int .i64 (gd rd dr l).2.1, .int .i64 (gd rd dr l).2.2.1, .bool (gd rd dr l).2.2.2]/\aa W h' (pL b o (gd rd dr l).1::R):=by
 refine an9 _ _ _ _ _ (m.bb λal h1 m1=>m1.swap.bb λaP h2 m2=>?_)
 replace m2:=m2.swap
 clear m m1
 have eX:∀{k:Nat},k<=4->ks (dG rd dr l k).1/\((dG rd dr l k).2.1<0\/0<=(dG rd dr l k).2.1/\(dG rd dr l k).2.1<k/\2<=(dG rd dr l k).2.2/\(dG rd dr l k).2.2<=1030):= λI=>Cm ok (λx hx=>(nk x hx).1) I
 refine⟨λw le x h'=>∃k:Nat,x=(k:Int)/\k<=4/\w=(dG rd dr l k).2.1/\le=(dG rd dr l k).2.2/\aa W h' (pL b o (dG rd dr l k).1::[⟨aP,0,ints .u32 dr,some 64⟩]::[⟨al,0,rd.map Value.bool,some 68⟩]::R),λ_ _ x _=>(4 -x).toNat,⟨0,rfl,by omega,rfl,rfl,m2⟩,λ_=>?_⟩
 clear m2
 rintro _ _ _ h3 ⟨k,rfl,I,rfl,rfl,m⟩
 refine aC (λq=>?_) λq=>?_
 ·have eW:k<4:=by omega
  rw[Int.toNat_natCast]
  obtain⟨s1,s2⟩:=eX (k:=k) (by omega)
  obtain⟨a1,a2⟩:=s1.at eW
  have acG:=FD (k4 eW)
  have art:=Ac (k4 eW)
  have aru:=sg (k4 eW)
  have hg:=a2.g
  have hl:=a2.l
  have Kw:0<=dr.getD k 0:=by
   rw[List.getD_eq_getElem?_getD,List.getElem?_eq_getElem (by omega)]
   exact(nk _ (List.getElem_mem (by omega))).1
  refine⟨⟨by omega,by omega⟩,rd.getD k false,m.cell 2 rfl k (PA hn eW),bH (λq2=>?_) λq2=>?_⟩
  ·have q2:rd.getD k false=false:=by simpa using q2
   have e:=aaY (dr:=dr) (l:=l) q2
   exact⟨by simp only[fits];omega,⟨k+1,by omega,by omega,by rw[e],by rw[e],by rw[e];exact m⟩,by dsimp only;omega⟩
  have q2:rd.getD k false=true:=by simpa using q2
  have e:=aaZ (dr:=dr) (l:=l) q2
  obtain⟨s,hs⟩:∃s,s=dG rd dr l k:=⟨_,rfl⟩
  obtain⟨dz,CS⟩:∃dz,dz=kh s.1 k:=⟨_,rfl⟩
  rw[<-hs]at e s1 s2 a1 a2 m hg hl⊢
  rw[<-CS]at e a1 a2 hg hl
  refine aN ⟨⟨by omega,by omega⟩,dz.has,ux (j:=0) m a1 rfl,bH (λaE=>?_) λaE=>?_⟩
  ·have aE:dz.has=false:=by simpa using aE
   obtain⟨x4,F5⟩:∃x4,x4=dr.getD k 0%(jg k+dz.grown+1):=⟨_,rfl⟩
   have ed:rk k (dr.getD k 0) dz=⟨true,x4,dz.grown⟩:=by unfold rk;rw[if_neg (by rw[aE];decide),F5]
   rw[ed]at e
   dsimp only at e
   have ary:0<=x4:=by rw[F5];exact Int.emod_nonneg _ (by omega)
   have arz:x4<jg k+dz.grown+1:=by rw[F5];exact Int.emod_lt_of_pos _ (by omega)
   have hw:=QM s1 eW m
   rw[<-CS]at hw
   refine⟨⟨by omega,by omega⟩,dr.getD k 0,m.cell 1 rfl k (NG hd eW),hw.mono ?_⟩
   rintro _ h4 ⟨rfl,m4⟩
   refine⟨_,rfl,m4.cell 1 rfl k (NG hd eW),by simp only[fits];omega,by simp only[fits];omega,⟨Kw,by omega⟩,?_⟩
   rw[<-F5]
   refine⟨by simp only[fits];omega,(cA.one m4 a1).store 0 rfl 0 rfl λaA m5=>⟨m5.cell 2 rfl k (NG hd eW),m5.store 0 rfl 1 rfl λaU m6=>?_⟩⟩
   refine aN ⟨⟨by omega,by omega⟩,x4,m6.cell 0 rfl 1 rfl,(FE (k4 eW) m6).mono ?_⟩
   rintro _ bW ⟨rfl,m7⟩
   have m8:=cA.back (f:=tf) (y:=⟨true,x4,dz.grown⟩) (by rw[s1.n];exact eW) m7
   refine⟨_,rfl,m7.cell 0 rfl 1 rfl,by simp only[fits];omega,aC (λbP=>?_) λbP=>aC (λeO=>?_) λeO=>?_⟩
   ·rw[if_pos (.inl bP)]at e
    exact⟨by simp only[fits];omega,⟨k+1,by omega,by omega,by rw[e],by rw[e],by rw[e];exact m8⟩,by dsimp only;omega⟩
   ·rw[if_pos (.inr eO)]at e
    exact⟨by simp only[fits];omega,⟨k+1,by omega,by omega,by rw[e],by rw[e],by rw[e];exact m8⟩,by dsimp only;omega⟩
   ·rw[if_neg (λhh=>hh.elim bP eO)]at e
    exact⟨by simp only[fits];omega,⟨k+1,by omega,by omega,by rw[e],by rw[e],by rw[e];exact m8⟩,by dsimp only;omega⟩
  ·have aE:dz.has=true:=by simpa using aE
   have ed:rk k (dr.getD k 0) dz=dz:=if_pos aE
   rw[ed]at e
   refine aN ⟨⟨by omega,by omega⟩,dz.left,ux (j:=1) m a1 rfl,(FE (k4 eW) m).mono ?_⟩
   rintro _ bJ ⟨rfl,m8⟩
   have es:s.1.set k dz=s.1:=akL a1
   rw[es]at e
   refine⟨_,rfl,ux (j:=1) m8 a1 rfl,by simp only[fits];omega,aC (λbP=>?_) λbP=>aC (λeO=>?_) λeO=>?_⟩
   ·rw[if_pos (.inl bP)]at e
    exact⟨by simp only[fits];omega,⟨k+1,by omega,by omega,by rw[e],by rw[e],by rw[e];exact m8⟩,by dsimp only;omega⟩
   ·rw[if_pos (.inr eO)]at e
    exact⟨by simp only[fits];omega,⟨k+1,by omega,by omega,by rw[e],by rw[e],by rw[e];exact m8⟩,by dsimp only;omega⟩
   ·rw[if_neg (λhh=>hh.elim bP eO)]at e
    exact⟨by simp only[fits];omega,⟨k+1,by omega,by omega,by rw[e],by rw[e],by rw[e];exact m8⟩,by dsimp only;omega⟩
 ·obtain rfl:k=4:=by omega
  obtain⟨s1,s2⟩:=eX (k:=4) (Nat.le_refl 4)
  refine aC (λq1=>?_) λq1=>?_
  ·have e:gd rd dr l=((dG rd dr l 4).1,0,0,false):=if_pos q1
   rw[e]
   exact⟨rfl,m.swap.aB.swap.aB⟩
  have e:gd rd dr l=(ng rd (dG rd dr l 4).2.1 (dG rd dr l 4).2.2 (dG rd dr l 4).1 4,(dG rd dr l 4).2.1,(dG rd dr l 4).2.2,true):=if_neg q1
  rw[e]
  have sR:0<=(dG rd dr l 4).2.1/\(dG rd dr l 4).2.1<4/\2<=(dG rd dr l 4).2.2/\(dG rd dr l 4).2.2<=1030:=by
   rcases s2 with h2|h2
   ·exact absurd h2 q1
   ·exact h2
  obtain⟨win,AH⟩:∃win,win=(dG rd dr l 4).2.1:=⟨_,rfl⟩
  obtain⟨least,KN⟩:∃least,least=(dG rd dr l 4).2.2:=⟨_,rfl⟩
  obtain⟨lZ,mq⟩:∃lZ,lZ=(dG rd dr l 4).1:=⟨_,rfl⟩
  rw[<-mq]at m s1
  rw[<-AH,<-KN]at sR
  rw[<-AH,<-KN,<-mq]
  clear e AH KN mq q1 s2 eX
  refine⟨λx h'=>∃k:Nat,x=(k:Int)/\k<=4/\aa W h' (pL b o (ng rd win least lZ k)::[⟨aP,0,ints .u32 dr,some 64⟩]::[⟨al,0,rd.map Value.bool,some 68⟩]::R),λx _=>(4 -x).toNat,⟨0,rfl,by omega,m⟩,λ_=>?_⟩
  clear m
  rintro _ ct ⟨k,rfl,bD,m⟩
  refine aC (λq=>?_) λq=>?_
  ·have eW:k<4:=by omega
   have t1:=J0 (rd:=rd) (win:=win) (least:=least) s1 (k:=k) bD
   obtain⟨a1,a2⟩:=t1.at eW
   have acG:=FD (k4 eW)
   have hl:=a2.l
   rw[Int.toNat_natCast]
   refine aN ⟨⟨by omega,by omega⟩,⟨by omega,by omega⟩,rd.getD k false,m.cell 2 rfl k (PA hn eW),bH (λq2=>?_) λq2=>?_⟩
   ·have q2:rd.getD k false=false:=by simpa using q2
    exact⟨by simp only[fits];omega,⟨k+1,by omega,by omega,by rw[aa0 q2];exact m⟩,by dsimp only;omega⟩
   have q2:rd.getD k false=true:=by simpa using q2
   have e:=aa1 (win:=win) (least:=least) (l:=lZ) q2
   obtain⟨s,hs⟩:∃s,s=ng rd win least lZ k:=⟨_,rfl⟩
   obtain⟨dz,CS⟩:∃dz,dz=kh s k:=⟨_,rfl⟩
   rw[<-hs]at e t1 a1 a2 m hl
   rw[<-CS]at e a1 a2 hl
   have qn:k<s.length:=by rw[t1.n];exact eW
   refine⟨dz.left,ux (j:=1) m a1 rfl,(FE (k4 eW) m).mono ?_⟩
   rintro _ dS ⟨rfl,m10⟩
   refine⟨_,rfl,ux (j:=1) m10 a1 rfl,by simp only[fits];omega,aC (λbP=>?_) λbP=>?_⟩
   ·refine⟨dz.left,ux (j:=1) m10 a1 rfl,(FE (k4 eW) m10).mono ?_⟩
    rintro _ fD ⟨rfl,m11⟩
    have ly:tQ win least k dz={dz with left:=max (dz.left -max (least -lb k) 0) 0}:=if_pos bP
    rw[ly]at e
    refine⟨_,rfl,ux (j:=1) m11 a1 rfl,by simp only[fits];omega,by simp only[fits];omega,(cA.one m11 a1).store 0 rfl 1 rfl λfu m12=>?_⟩
    have m13:=cA.back (f:=tf) (y:={dz with left:=max (dz.left -max (least -lb k) 0) 0}) qn m12
    exact⟨by simp only[fits];omega,⟨k+1,by omega,by omega,by rw[e];exact m13⟩,by dsimp only;omega⟩
   ·refine bH (λeO=>?_) λeO=>?_
    ·have eO:¬((k:Int)=win):=by simpa using eO
     have ly:tQ win least k dz=⟨false,0,(tn k dz).grown⟩:=by unfold tQ;rw[if_neg bP,if_pos eO]
     rw[ly]at e
     have R3:=QK t1 eW m10
     rw[<-CS]at R3
     refine R3.mono ?_
     intro _ fQ m13
     have xG:(s.set k (tn k dz))[k]?=some (tn k dz):=List.getElem?_set_self qn
     refine(cA.one m13 xG).store 0 rfl 0 rfl λiA m14=>m14.store 0 rfl 1 rfl λpa m15=>?_
     have m16:=cA.back (f:=tf) (y:=⟨false,0,(tn k dz).grown⟩) (by rw[List.length_set];exact qn) m15
     rw[List.set_set]at m16
     exact⟨by simp only[fits];omega,⟨k+1,by omega,by omega,by rw[e];exact m16⟩,by dsimp only;omega⟩
    ·have eO:(k:Int)=win:=by simpa using eO
     have ly:tQ win least k dz=⟨false,0,dz.grown⟩:=by unfold tQ;rw[if_neg bP,if_neg (λhh=>hh eO)]
     rw[ly]at e
     refine(cA.one m10 a1).store 0 rfl 0 rfl λrn m16=>m16.store 0 rfl 1 rfl λov m17=>?_
     have m18:=cA.back (f:=tf) (y:=⟨false,0,dz.grown⟩) qn m17
     exact⟨by simp only[fits];omega,⟨k+1,by omega,by omega,by rw[e];exact m18⟩,by dsimp only;omega⟩
  ·obtain rfl:k=4:=by omega
   exact⟨rfl,m.swap.aB.swap.aB⟩
end
end Go.Proofs.YtjlkfjnfnonekaaGreatDoor
set_option maxRecDepth 8000
namespace Go.Proofs.YtjlkfjnfnonekaaGreatDoor
open Go.Vc
structure jb where
 oM:Bool
 a:List Int
 ly:Int
def mC (x:jb):List Value:= .bool x.oM::(ints .u8 x.a++[.int .i64 x.ly])
def BS:List Int:=[0,0,0,0,0,0]
def w3:jb:=⟨false,BS,0⟩
abbrev mX (b o:Nat) (l:List jb):aL:=cA mC 8 b o l
structure oW (l:List jb):Prop where
 n:l.length=16
 a:∀x∈l,x.a.length=6
 e:∀x∈l,0<=x.ly/\x.ly<=1048576
def FI (l:List Int):Bool:=decide (bits .and .u8 (l.headD 0) 1=0)&&!decide (l=BS)
def vZ {α:Type} (p:α->Bool):List α->Nat->Option Nat
 |[],_=>none
 |x::r,i=>if p x=true then some i else vZ p r (i+1)
theorem Rb {α:Type} {p:α->Bool} {l:List α} {k:Nat} {x:α} (I:l[k]?=some x):vZ p (l.drop k) k=if p x=true then some k else vZ p (l.drop (k+1)) (k+1):=by
 obtain⟨h1,h2⟩:=List.getElem?_eq_some_iff.1 I
 rw[List.drop_eq_getElem_cons h1,h2];rfl
def Dp (a:List Int) (x:jb):Bool:=x.oM&&decide (x.a=a)
def HZ (l:List jb) (a:List Int):Option Nat:=vZ (Dp a) l 0
def sU (l:List jb) (a:Int):Option jb:=if 1<=a/\a<=16 then(match l[aD a]?with|some x=>if x.oM=true then some x else none|none=>none)else none
def tU (l:List jb) (a:List Int):List jb×Int×lO:=
 if FI a=false then(l,0,some 2)else match HZ l a with
  |some _=>(l,0,some 7)
  |none=>match vZ (λx:jb=>!x.oM) l 0 with
   |some k=>(l.set k ⟨true,a,(l.getD k w3).ly+1⟩,(k:Int)+1,none)
   |none=>(l,0,some 8)
def cc:List jb->Int->List Int
 |[],_=>[]
 |x::r,i=>if x.oM=true then(i+1)::cc r (i+1)else cc r (i+1)
theorem Xx {l:List jb} {k:Nat} {x:jb} (I:l[k]?=some x):cc (l.drop k) k=if x.oM=true then((k:Int)+1)::cc (l.drop (k+1)) (k+1:Nat)else cc (l.drop (k+1)) (k+1:Nat):=by
 obtain⟨h1,h2⟩:=List.getElem?_eq_some_iff.1 I
 rw[List.drop_eq_getElem_cons h1,h2]
 rw[show((k+1:Nat):Int)=(k:Int)+1 by omega];rfl
theorem uj:∀{l:List jb} {i:Int},(cc l i).length<=l.length
 |[],i=>by simp[cc]
 |o::l,i=>by
  have:=uj (l:=l) (i:=i+1)
  simp only[cc]
  split<;>simp<;>omega
theorem M4 {l:List Int} (h:l.length=6):∃a b c d e f,l=[a,b,c,d,e,f]:=by
 match l,h with
 |[a,b,c,d,e,f],_=>exact⟨a,b,c,d,e,f,rfl⟩
section
variable{W W':Wd} {h h':J} {R:List aL} {l:List jb} {b o k:Nat} {a:Int} {ads:List Addr} {x:jb} {j n:Nat} {v:Value} {eo:List Int}
theorem va (h:x.a.length=6):(mC x).length=8:=by simp[mC,ints,h]
theorem T1:∀u∈mC x,u.oneCell'=true:=by
 intro u hu
 unfold mC at hu
 rcases List.mem_cons.1 hu with rfl|hu
 ·rfl
 rcases List.mem_append.1 hu with hu|hu
 ·exact dM u hu
 ·simp at hu;subst hu;rfl
theorem oW.row (ok:oW l) (m:aa W h (mX b o l::R)):row h b o 128=some (l.map mC).flatten:=by
 have:=cA.row (λx hx=>va (ok.a x hx)) (λe=>by have:=ok.n;rw[e]at this;cases this) m
 rw[ok.n]at this;exact this
theorem oW.part (ok:oW l) (I:l[k]?=some x):((l.map mC).flatten.drop (k*8)).take 8=mC x:=by
 have hx:=ok.a x (List.mem_of_getElem? I)
 rw[FM (by intro c hc;obtain⟨y,hy,rfl⟩:=List.mem_map.1 hc;exact va (ok.a y hy)) (cs:=mC x) (by rw[List.getElem?_map,I];rfl),<-va hx,List.take_left]
theorem oW.get (ok:oW l) (I:k<16):∃x,l[k]?=some x/\x.a.length=6:=by
 have bY:k<l.length:=by rw[ok.n];exact I
 exact⟨_,List.getElem?_eq_getElem bY,ok.a _ (List.getElem_mem bY)⟩
theorem alb (ok:oW l) (m:aa W h (mX b o l::R)):aj Tryz.prog 38 #[.pointer (some ⟨b,o,none⟩)] h λv h'=>∃a c E,v= .slice a (cc l 0).length c/\au a (cc l 0).length c 1 (ints .i64 (cc l 0)) E/\aa W h' (ae E::mX b o l::R):=by
 refine ap6 _ _ _ (aN ⟨_,ok.row m,?_⟩)
 refine⟨λay bI c' x h=>∃(k:Nat) (q:List Int) (E:ao),x=k/\k<=16/\q.length<=k/\bI=q.length/\q++cc (l.drop k) k=cc l 0/\au ay q.length c' 1 (ints .i64 q) E/\aa W h (ae E::mX b o l::R),λ_ _ _ x _=>(16 -x).toNat,⟨0,[],[],rfl,by omega,by simp,rfl,rfl,au.nil,m.hU⟩,λ_=>?_⟩
 clear m
 rintro ay _ c' _ h1 ⟨k,q,E,rfl,I,K0,rfl,hq,sN,m⟩
 refine aC (λq1=>?_) λq1=>?_
 ·obtain⟨x,hx,iE⟩:=ok.get (k:=k) (by omega)
  rw[Xx hx]at hq
  refine⟨⟨by omega,by omega⟩,?_⟩
  rw[show((k:Int)).toNat=k from rfl,ok.part hx]
  refine m.bb λaP h2 m2=>?_
  refine m2.c8 0 rfl (va iE) rfl T1 λh3 m3=>?_
  refine⟨x.oM,m3.cell 0 rfl 0 rfl,bH (λq2=>?_) λq2=>?_⟩
  ·rw[if_pos q2]at hq
   refine⟨by simp only[fits];omega,?_⟩
   refine sN.kA m3 1 rfl rfl (by intro u hu;simp at hu;subst hu;rfl) (by omega) (by decide) λhJ gB i6 bW m7 gv=>?_
   refine⟨by simp only[fits];omega,⟨k+1,q++[(k:Int)+1],i6,by omega,by omega,by simp;omega,by simp,by simpa using hq,?_,m7.aB⟩,by dsimp only;omega⟩
   rw[kI,List.length_append];exact gv
  ·rw[if_neg (by rw[q2];decide)]at hq
   exact⟨by simp only[fits];omega,⟨k+1,q,E,by omega,by omega,by omega,rfl,hq,sN,m3.aB⟩,by dsimp only;omega⟩
 ·obtain rfl:k=16:=by omega
  rw[List.drop_of_length_le (by rw[ok.n];decide)]at hq
  simp only[cc,List.append_nil]at hq
  subst hq
  exact⟨ay,c',E,rfl,sN,m⟩
theorem alc (ok:oW l) (hl:eo.length=6) (m:aa W h (mX b o l::R)):aj Tryz.prog 125 #[.pointer (some ⟨b,o,none⟩), .agg (ints .u8 eo).toArray] h λv h'=>
 v=(match HZ l eo with|some k=> .tuple #[.int .i64 ((k:Int)+1), .bool true]|none=> .tuple #[.int .i64 0, .bool false])/\aa W h' (mX b o l::R):=by
 refine ap7 _ _ _ _ (m.bb λal h1 m1=>aN ⟨_,ok.row m1.swap,?_⟩)
 refine⟨λx h=>∃(k:Nat),x=k/\k<=16/\vZ (Dp eo) (l.drop k) k=HZ l eo/\aa W h ([⟨al,0,ints .u8 eo,some 26⟩]::mX b o l::R),λx _=>(16 -x).toNat,⟨0,rfl,by omega,rfl,m1⟩,λ_=>?_⟩
 clear m m1
 rintro _ h2 ⟨k,rfl,I,hq,m⟩
 refine aC (λq1=>?_) λq1=>?_
 ·obtain⟨x,hx,iE⟩:=ok.get (k:=k) (by omega)
  rw[Rb hx]at hq
  refine⟨⟨by omega,by omega⟩,?_⟩
  rw[show((k:Int)).toNat=k from rfl,ok.part hx]
  refine m.bb λaP h3 m3=>?_
  refine m3.c8 0 rfl (va iE) rfl T1 λh4 m4=>?_
  refine⟨x.oM,m4.cell 0 rfl 0 rfl,bH (λq2=>?_) λq2=>?_⟩
  ·refine⟨_,m4.row 0 rfl 1 (us:=ints .u8 x.a) (by rw[show(mC x).drop 1=ints .u8 x.a++[.int .i64 x.ly]from rfl,List.take_left' (by simp[ints,iE])]) (by rw[va iE];decide),_,m4.bE 1 rfl (by simp[ints,hl]),x.a,eo,rfl,rfl,⟨iE,hl⟩,aC (λaE=>?_) λaE=>?_⟩
   ·rw[if_pos (by simp[Dp,q2,aE])]at hq
    rw[<-hq]
    exact⟨by simp only[fits];omega,rfl,m4.aB.aB⟩
   ·rw[if_neg (by simp[Dp,aE])]at hq
    exact⟨by simp only[fits];omega,⟨k+1,by omega,by omega,hq,m4.aB⟩,by dsimp only;omega⟩
  ·rw[if_neg (by simp[Dp,q2])]at hq
   exact⟨by simp only[fits];omega,⟨k+1,by omega,by omega,hq,m4.aB⟩,by dsimp only;omega⟩
 ·obtain rfl:k=16:=by omega
  rw[List.drop_of_length_le (by rw[ok.n];decide)]at hq
  rw[<-hq]
  exact⟨rfl,m.aB⟩
theorem T3 (m:aa W h (mX b o l::R)) (I:l[k]?=some x) (ah:(mC x)[j]?=some v):cell h b (o+k*8+j)=some v:=(cA.one m I).cell 0 rfl j ah
theorem ald (ok:oW l) (m:aa W h (mX b o l::R)):aj Tryz.prog 190 #[.pointer (some ⟨b,o,none⟩), .int .i64 a] h λv h'=>h'=h/\
 ((sU l a=none/\v= .pointer none)\/∃(k:Nat) (x:jb),a=(k:Int)+1/\k<16/\aD a=k/\l[k]?=some x/\sU l a=some x/\v= .pointer (some ⟨b,o+k*8,none⟩)):=by
 refine ap8 _ _ _ _ (aC (λq=>⟨rfl, .inl ⟨by unfold sU;rw[if_neg (by omega)],rfl⟩⟩) λq=>aC (λq2=>⟨rfl, .inl ⟨by unfold sU;rw[if_neg (by omega)],rfl⟩⟩) λq2=>?_)
 obtain⟨k,rfl⟩:∃k:Nat,a=(k:Int)+1:=⟨(a -1).toNat,by omega⟩
 obtain⟨x,hx,iE⟩:=ok.get (k:=k) (by omega)
 have qh:aD ((k:Int)+1)=k:=by unfold aD;omega
 have e:((k:Int)+1 -1).toNat=k:=by omega
 refine⟨by simp only[fits];omega,aN ⟨⟨by omega,by omega⟩,x.oM,?_,bH (λaE=>?_) λaE=>?_⟩⟩
 ·rw[e];exact T3 (j:=0) m hx rfl
 ·refine⟨rfl, .inl ⟨?_,rfl⟩⟩
  unfold sU;rw[if_pos ⟨by omega,by omega⟩,qh,hx];dsimp only;rw[if_neg (by simpa using aE)]
 ·refine⟨by simp only[fits];omega,aN ⟨⟨by omega,by omega⟩,rfl, .inr ⟨k,x,rfl,by omega,qh,hx,?_,by rw[e]⟩⟩⟩
  unfold sU;rw[if_pos ⟨by omega,by omega⟩,qh,hx];dsimp only;rw[if_pos (by simpa using aE)]
theorem ala (ok:oW l) (m:aa W h (mX b o l::R)):aj Tryz.prog 106 #[.pointer (some ⟨b,o,none⟩), .int .i64 a] h λv h'=>
 v=(match sU l a with|some x=> .tuple #[.agg (ints .u8 x.a).toArray, .bool true]|none=> .tuple #[.agg (ints .u8 BS).toArray, .bool false])/\aa W h' (mX b o l::R):=by
 refine ap5 _ _ _ _ (m.bb λal h1 m1=>(ald ok m1.swap).mono ?_)
 rintro _ h2 ⟨rfl,⟨hn,rfl⟩|⟨k,x,rfl,I,hi,hx,ha,rfl⟩⟩
 ·rw[hn]
  refine⟨_,rfl,df rfl (m1.c8 0 rfl rfl rfl (by intro u hu;simp at hu;subst hu;rfl) λh3 m3=>⟨_,m3.bE 0 rfl rfl,rfl,m3.aB⟩)⟩
 ·rw[ha]
  have iE:=ok.a x (List.mem_of_getElem? hx)
  refine⟨_,rfl,aZ rfl (aN ⟨_,(cA.one m1.swap hx).row 0 rfl 1 (us:=ints .u8 x.a) (by rw[show(mC x).drop 1=ints .u8 x.a++[.int .i64 x.ly]from rfl,List.take_left' (by simp[ints,iE])]) (by rw[va iE];decide),m1.c8 0 rfl (by simp[ints,iE]) rfl dM λh3 m3=>⟨_,m3.bE 0 rfl (by simp[ints,iE]),rfl,m3.aB⟩⟩)⟩
end
end Go.Proofs.YtjlkfjnfnonekaaGreatDoor
set_option maxRecDepth 8000
namespace Go.Proofs.YtjlkfjnfnonekaaGreatDoor
open Go.Vc
structure eR where
 st:Int
 aO:Int
 l:List Int
def pE:List Int->Int
 |[]=>0
 |x::r=>x+pE r
def pk (x:eR):List Value:= .int .i64 x.st:: .int .i64 x.aO::ints .i64 x.l
def oG (a:Int):Bool:=decide (1<=a/\a<=16)
def qE (n:Int):Bool:=decide (0<=n/\n<=1099511627776)
def eR.of (x:eR) (a:Int):Int:=if oG a=true then x.l.getD (aD a) 0 else 0
def eR.may (x:eR) (a:Int):Bool:=oG a&&(decide (x.of a=0)||decide (x.of a<x.st)&&decide (pE x.l<x.aO))
def eR.add (x:eR) (a n:Int):eR:=if oG a=true/\qE n=true then⟨x.st,x.aO,x.l.set (aD a) (x.of a+n)⟩else x
def eR.sub (x:eR) (a n:Int):eR:=if oG a=true/\qE n=true/\¬x.of a<n then⟨x.st,x.aO,x.l.set (aD a) (x.of a -n)⟩else x
structure mU (x:eR):Prop where
 n:x.l.length=16
 b:∀y∈x.l,0<=y/\y<=1125899906842624
def nI (b:Nat) (x:eR):ao:=[(b,pk x,198)]
section
variable{W:Wd} {h h':J} {R:List aL} {x:eR} {b k:Nat} {a n:Int}
theorem DN:oG a=true↔1<=a/\a<=16:=by simp[oG]
theorem T0:qE n=true↔0<=n/\n<=1099511627776:=by simp[qE]
theorem GO (a:Int) (h:J):aj Tryz.prog 101 #[.int .i64 a] h λv h'=>v= .bool (oG a)/\h'=h:=by
 refine ane _ _ _ (aC (λq=>⟨?_,rfl⟩) λq=>⟨?_,rfl⟩)
 ·by_cases q2:a<=16<;>simp[oG,q,q2]
 ·simp[oG,q]
theorem GN (n:Int) (h:J):aj Tryz.prog 87 #[.int .i64 n] h λv h'=>v= .bool (qE n)/\h'=h:=by
 refine anc _ _ _ (aC (λq=>⟨?_,rfl⟩) λq=>⟨?_,rfl⟩)
 ·by_cases q2:n<=1099511627776<;>simp[qE,q,q2]
 ·simp[qE,q]
theorem LB (ok:mU x) (m:aa W h (ae (nI b x)::R)) (ha:oG a=true):cell h b (2+(a -1).toNat)=some (.int .i64 (x.of a)):=by
 have h1:=DN.1 ha
 have hl:=ok.n
 have I:(a -1).toNat<x.l.length:=by omega
 refine m.cell (b:=b) (o:=0) (cs:=pk x) 0 rfl (2+(a -1).toNat) ?_ (by omega)
 unfold pk
 rw[Nat.add_comm 2,List.getElem?_cons_succ,List.getElem?_cons_succ,j5 (List.getElem?_eq_getElem I)]
 unfold eR.of aD;rw[if_pos ha,List.getD_eq_getElem?_getD,List.getElem?_eq_getElem I];rfl
theorem LC (ok:mU x) (m:aa W h (ae (nI b x)::R)):aj Tryz.prog 102 #[.pointer (some ⟨b,0,none⟩), .int .i64 a] h λv h'=>v= .int .i64 (x.of a)/\h'=h:=by
 refine am9 _ _ _ _ ((GO _ _).ret ⟨_,rfl,bH (λq=>?_) λq=>?_⟩)
 ·refine⟨?_,rfl⟩
  unfold eR.of;rw[if_neg (by simpa using q)]
 ·have ha:oG a=true:=by simpa using q
  have h1:=DN.1 ha
  exact⟨by simp only[fits];omega,⟨by omega,by omega⟩,_,LB ok m ha,rfl,rfl⟩
theorem VT:∀{l r:List Int},pE (l++r)=pE l+pE r
 |[],r=>by simp[pE]
 |x::l,r=>by simp only[List.cons_append,pE,VT];omega
theorem VU:∀{l:List Int},(∀y∈l,0<=y/\y<=1125899906842624)->0<=pE l/\pE l<=1125899906842624*l.length
 |[],_=>by simp[pE]
 |x::l,h=>by
  have h1:=h x (List.mem_cons_self ..)
  have h2:=VU (l:=l) λy hy=>h y (List.mem_cons_of_mem _ hy)
  simp only[pE,List.length_cons]
  omega
theorem agc (ok:mU x) (m:aa W h (ae (nI b x)::R)):aj Tryz.prog 103 #[.pointer (some ⟨b,0,none⟩)] h λv h'=>v= .int .i64 (pE x.l)/\h'=h:=by
 have hn:=ok.n
 refine am7 _ _ _ ⟨_,m.row (b:=b) (o:=0) (cs:=pk x) 0 rfl 2 (us:=ints .i64 x.l) (by show(ints .i64 x.l).take 16=_;exact List.take_of_length_le (by rw[dL];omega)) (by show 2+16<=(ints .i64 x.l).length+1+1;rw[dL];omega),?_⟩
 refine⟨λs y h'=>h'=h/\∃k:Nat,y=k/\k<=16/\s=pE (x.l.take k),λ_ y _=>(16 -y).toNat,⟨rfl,0,rfl,by omega,rfl⟩,λ_=>?_⟩
 rintro _ _ _ ⟨rfl,k,rfl,I,rfl⟩
 refine aC (λq=>?_) λq=>?_
 ·obtain⟨y,hy⟩:∃y,x.l[k]?=some y:=⟨_,List.getElem?_eq_getElem (by omega)⟩
  have K9:=ok.b y (List.mem_of_getElem? hy)
  have hs:=VU (l:=x.l.take k) λz hz=>ok.b z (List.mem_of_mem_take hz)
  have hl:(x.l.take k).length<=16:=by rw[List.length_take];omega
  refine⟨⟨by omega,by omega⟩,y,j5 hy,by simp only[fits];omega,by simp only[fits];omega,⟨rfl,k+1,by omega,by omega,?_⟩,by dsimp only;omega⟩
  rw[List.take_add_one,hy,VT];simp[pE]
 ·obtain rfl:k=16:=by omega
  rw[List.take_of_length_le (by omega)];exact⟨rfl,rfl⟩
theorem agf (ok:mU x) (m:aa W h (ae (nI b x)::R)):aj Tryz.prog 43 #[.pointer (some ⟨b,0,none⟩), .int .i64 a] h λv h'=>v= .bool (x.may a)/\h'=h:=by
 have cW:cell h b 0=some (.int .i64 x.st):=m.cell (b:=b) (o:=0) (cs:=pk x) 0 rfl 0 rfl
 have aK:cell h b 1=some (.int .i64 x.aO):=m.cell (b:=b) (o:=0) (cs:=pk x) 0 rfl 1 rfl
 refine am8 _ _ _ _ ((GO _ _).ret ⟨_,rfl,bH (λq=>⟨?_,rfl⟩) λq=>(LC ok m).ret ⟨_,rfl,aC (λq2=>⟨?_,rfl⟩) λq2=>⟨_,cW,(LC ok m).ret ⟨_,rfl,cW,aC (λaE=>⟨_,aK,(agc ok m).ret ⟨_,rfl,aK,?_,rfl⟩⟩) λaE=>⟨?_,rfl⟩⟩⟩⟩⟩)
 ·unfold eR.may;simp at q;rw[q];rfl
 ·unfold eR.may;simp at q;rw[q,decide_eq_true q2];rfl
 ·unfold eR.may;simp at q;rw[q,decide_eq_false q2,decide_eq_true aE];rfl
 ·unfold eR.may;simp at q;rw[q,decide_eq_false q2,decide_eq_false aE];rfl
theorem agd (ha:oG a=true) (n:Int):(pk x).set (2+(a -1).toNat) (.int .i64 n)=pk ⟨x.st,x.aO,x.l.set (aD a) n⟩:=by
 unfold pk aD ints
 rw[Nat.add_comm 2,List.set_cons_succ,List.set_cons_succ,List.map_set]
theorem age (ok:mU x):(pk x).length=18:=by unfold pk;simp[ints,ok.n]
theorem Tv (ok:mU x) (ha:oG a=true) (m:aa W h (ae (nI b x)::R)) {Q:J->Prop} (K:∀h1,aa W h1 (ae (nI b ⟨x.st,x.aO,x.l.set (aD a) n⟩)::R)->Q h1):wr h b (2+(a -1).toNat)/\∀h1,h1=b3 h b (2+(a -1).toNat) (.int .i64 n)->Q h1:=by
 have h1:=DN.1 ha
 have hl:2+(a -1).toNat<(pk x).length:=by rw[age ok];omega
 refine⟨m.wr (b:=b) (o:=0) (cs:=pk x) 0 rfl _ hl (by omega),λh2 e=>K h2 ?_⟩
 have m2:=m.b3 (b:=b) (o:=0) (cs:=pk x) 0 rfl _ hl e (by omega)
 rw[agd ha]at m2
 exact m2
theorem aga {jh:Value} (ok:mU x) (hg:bT W 0 0=some jh) (m:aa W h (ae (nI b x)::R)):aj Tryz.prog 121 #[.pointer (some ⟨b,0,none⟩), .int .i64 a, .int .i64 n] h λv h'=>aa W h' (ae (nI b (x.add a n))::R):=by
 refine am6 _ _ _ _ _ ((GO _ _).ret ⟨_,rfl,bH (λq=>⟨_,m.bT hg,?_⟩) λq=>(GN _ _).ret ⟨_,rfl,bH (λq2=>⟨_,m.bT hg,?_⟩) λq2=>?_⟩⟩)
 ·unfold eR.add;rw[if_neg (by simp at q;simp[q])];exact m
 ·unfold eR.add;rw[if_neg (by simp at q2;simp[q2])];exact m
 have ha:oG a=true:=by simpa using q
 have U:qE n=true:=by simpa using q2
 have h1:=DN.1 ha;have h2:=T0.1 U
 have hb:0<=x.of a/\x.of a<=1125899906842624:=by
  unfold eR.of;rw[if_pos ha,List.getD_eq_getElem?_getD]
  have I:aD a<x.l.length:=by rw[ok.n];unfold aD;omega
  rw[List.getElem?_eq_getElem I];exact ok.b _ (List.getElem_mem I)
 unfold eR.add;rw[if_pos ⟨ha,U⟩]
 exact⟨by simp only[fits];omega,⟨by omega,by omega⟩,_,LB ok m ha,by simp only[fits];omega,⟨by omega,by omega⟩,Tv ok ha m λh1 m1=>m1⟩
theorem agi {jh o5:Value} (ok:mU x) (hg:bT W 0 0=some jh) (hg2:bT W 4 0=some o5) (m:aa W h (ae (nI b x)::R)):aj Tryz.prog 76 #[.pointer (some ⟨b,0,none⟩), .int .i64 a, .int .i64 n] h λv h'=>aa W h' (ae (nI b (x.sub a n))::R):=by
 refine ana _ _ _ _ _ ((GO _ _).ret ⟨_,rfl,bH (λq=>⟨_,m.bT hg,?_⟩) λq=>(GN _ _).ret ⟨_,rfl,bH (λq2=>⟨_,m.bT hg,?_⟩) λq2=>(LC ok m).ret ⟨_,rfl,aC (λaE=>⟨_,m.bT hg2,?_⟩) λaE=>?_⟩⟩⟩)
 ·unfold eR.sub;rw[if_neg (by simp at q;simp[q])];exact m
 ·unfold eR.sub;rw[if_neg (by simp at q2;simp[q2])];exact m
 ·unfold eR.sub;rw[if_neg (λhc=>hc.2.2 aE)];exact m
 have ha:oG a=true:=by simpa using q
 have U:qE n=true:=by simpa using q2
 have h1:=DN.1 ha;have h2:=T0.1 U
 have hb:0<=x.of a/\x.of a<=1125899906842624:=by
  unfold eR.of;rw[if_pos ha,List.getD_eq_getElem?_getD]
  have I:aD a<x.l.length:=by rw[ok.n];unfold aD;omega
  rw[List.getElem?_eq_getElem I];exact ok.b _ (List.getElem_mem I)
 unfold eR.sub;rw[if_pos ⟨ha,U,aE⟩]
 exact⟨by simp only[fits];omega,⟨by omega,by omega⟩,_,LB ok m ha,by simp only[fits];omega,⟨by omega,by omega⟩,Tv ok ha m λh1 m1=>m1⟩
theorem Tu {x:eR} (ok:mU x) {k:Nat} {y:Int} (hy:0<=y/\y<=1125899906842624):mU ⟨x.st,x.aO,x.l.set k y⟩:=
 ⟨by show(x.l.set k y).length=16;rw[List.length_set];exact ok.n,λz hz=>by
  rcases List.mem_or_eq_of_mem_set hz with h|rfl
  ·exact ok.b z h
  ·exact hy⟩
end
end Go.Proofs.YtjlkfjnfnonekaaGreatDoor
set_option maxRecDepth 8000
namespace Go.Proofs.YtjlkfjnfnonekaaGreatDoor
open Go.Vc
section
variable{W W':Wd} {h h':J} {G:List ao} {E:ao} {a:Option Addr} {l c n k:Nat} {vs us:List Value} {bs xs:List Int}
theorem fV {x:List Int} (h:x.length=6):∃a b c d e f,x=[a,b,c,d,e,f]:=by
 match x,h with
 |[a,b,c,d,e,f],_=>exact⟨a,b,c,d,e,f,rfl⟩
theorem _root_.Go.Vc.au.s4 {bytes e:Nat} {ag:TypeId} {Q:Option Addr->Nat->J->Prop} (o:au a l c 1 vs E) (m:ai W h (E::G)) (hD:us.length=k) (h1:∀u∈us,u.oneCell'=true) (mo:(l+k)*bytes<=140737488355328) (fj:0<bytes)
 (q:∀ay c' bn h',ai W h' (bn::G)->au ay (l+k) c' 1 (vs++us) bn->Q ay c' h'):
 ∀(bx:Nat) (h3:J),bx=h.size->h3=h.push (.cells us.toArray ag)->∃news:List Value,(Go.Vc.row h3 bx 0 k=some news/\∀u∈news,u.oneCell'=true)/\e8 h3 a l c k 1 e bytes news Q:=by
 intro bx h3 af ag
 have ax:=m.push ag af
 refine⟨us,⟨ax.row 0 rfl (by rw[List.drop_zero,<-hD,List.take_length]) (by omega),h1⟩,?_⟩
 refine o.app ax 1 rfl (by simp[hD]) mo fj λay c' bn h' m2 aM=>q ay c' bn h' ?_ aM
 exact m2.aB
def NZ (W:Wd) (G:List ao) (bs xs:List Int) (v:Value) (h':J):Prop:=∃ay c' bn,v= .slice ay (bs.length+xs.length) c'/\ai W h' (bn::G)/\au ay (bs.length+xs.length) c' 1 (ints .u8 (bs++xs)) bn
theorem UZ (o:au a bs.length c 1 (ints .u8 bs) E) (m:ai W h (E::G)) (hx:xs.length=6) (hl:bs.length<=1048576):
 aj Tryz.prog 65 #[.slice a bs.length c, .agg (ints .u8 xs).toArray] h (NZ W G bs xs):=by
 refine aoP _ _ _ _ _ _ ?_
 intro al h1 af ag
 replace m:=m.push ag af
 refine⟨λay bI c' i h=>∃(k:Nat) (bn:ao),i=k/\k<=6/\bI=bs.length+k/\ai W h ([(al,ints .u8 xs,26)]::bn::G)/\au ay bI c' 1 (ints .u8 (bs++xs.take k)) bn,λ_ _ _ i _=>(6 -i).toNat,⟨0,E,rfl,by omega,rfl,m,by simpa using o⟩,λ_=>?_⟩
 rintro ay bI c' _ h2 ⟨k,bn,rfl,I,rfl,m,o⟩
 refine aC (λq=>?_) λq=>?_
 ·have tw:k<xs.length:=by omega
  refine⟨⟨by omega,by omega⟩,xs[k],m.cell 0 rfl (j5 (by simp[tw])),?_⟩
  intro bx h3 f1 f2
  refine o.s4 (m.perm (G':=bn::[(al,ints .u8 xs,26)]::G) (by simp only[List.flatten_cons];rw[<-List.append_assoc,<-List.append_assoc];exact List.perm_append_comm.append_right _)) (us:=[.int .u8 xs[k]]) (k:=1) (e:=5) (bytes:=1) rfl (by simp[Value.oneCell']) (by omega) (by decide) (λa2 aG cD h4 m2 aM=>?_) bx h3 f1 f2
  ·refine⟨by simp only[fits];omega,⟨k+1,cD,by omega,by omega,by omega,m2.perm (by simp only[List.flatten_cons];rw[<-List.append_assoc,<-List.append_assoc];exact List.perm_append_comm.append_right _),?_⟩,by dsimp only;omega⟩
   have e:ints .u8 (bs++xs.take k)++[.int .u8 xs[k]]=ints .u8 (bs++xs.take (k+1)):=by
    rw[List.take_add_one,List.getElem?_eq_getElem tw,<-List.append_assoc,kI (l:=bs++xs.take k)];rfl
   rw[<-e];exact aM
 ·obtain rfl:k=6:=by omega
  have e:xs.take 6=xs:=List.take_of_length_le (by omega)
  rw[e]at o
  exact⟨ay,c',bn,by rw[hx],m.aB,by rw[hx];exact o⟩
theorem Va (z:Int) (o:au a bs.length c 1 (ints .u8 bs) E) (m:ai W h (E::G)) (hl:bs.length<=1048576):
 aj Tryz.prog 66 #[.slice a bs.length c, .int .i64 z] h (NZ W G bs [z%256,z/256%256]):=by
 refine aoT _ _ _ _ _ _ ⟨by decide,?_⟩
 rw[pI,pI]
 exact o.s4 m rfl (by simp[Value.oneCell']) (by omega) (by decide) λay c' bn h' ax o'=>⟨ay,c',bn,rfl,ax,by simpa[ints]using o'⟩
theorem ajY (n m:Int) (h:J):aj Tryz.prog 229 #[.int .i64 n, .int .i64 m] h λv h'=>v= .bool (decide (n<0\/m<n))/\h'=h:=by
 refine aoR _ _ _ _ (aC (λq=>⟨by simp[q],rfl⟩) λq=>⟨by simp[q],rfl⟩)
theorem U7 {n m:Int} {h:J} {Post:Value->J->Prop} (hn:0<=n/\n<=m) (k:Post (.bool false) h):aj Tryz.prog 229 #[.int .i64 n, .int .i64 m] h Post:=
 (ajY n m h).ret (by rwa[show decide (n<0\/m<n)=false from decide_eq_false (by omega)])
end
structure bQ where
 to:List Int
 bss:List Int
 fr:List Int
 tid:Int
 sq:Int
 rt:Bool
 hR:Bool
 fC:Bool
 body:List Int
def ef (f:bQ) (v:Value):List Value:=ints .u8 f.to++(ints .u8 f.bss++(ints .u8 f.fr++[.int .i64 f.tid, .int .i64 f.sq, .bool f.rt, .bool f.hR, .bool f.fC,v]))
structure gK (f:bQ):Prop where
 ca:f.to.length=6
 aF:f.bss.length=6
 dw:f.fr.length=6
 t0:0<=f.tid
 t7:f.tid<=7
 rK:0<=f.sq
 s1:f.sq<=4095
 kB:f.body.length<=1500
def ir (W:Wd) (f:bQ) (cs:List Value):Prop:=∃v,cs=ef f v/\cm W v f.body
theorem ir.le {W W':Wd} {f:bQ} {cs:List Value} (hl:W.le W') (hv:ir W f cs):ir W' f cs:=by
 obtain⟨v,e,hb⟩:=hv;exact⟨v,e,hb.le hl⟩
def gg (f:bQ):List Int:=([136,2+(if f.rt then 8 else 0)+(if f.hR then 32 else 0),0,0]:List Int)++(f.to++(f.bss++(f.fr++([f.sq*16%256,f.sq*16/256%256,f.tid+(if f.fC then 16 else 0),0]++f.body))))
def BD (W:Wd) (G:List ao) (l:List Int) (K:Value->Value) (v:Value) (h':J):Prop:=∃W' a c,W.le W'/\v=K (.slice a l.length c)/\ai W' h' G/\cm W' (.slice a l.length c) l
theorem w5 {W:Wd} {h:J} {G:List ao} {E:ao} {a:Option Addr} {c:Nat} {l:List Int} (o:au a l.length c 1 (ints .u8 l) E) (m:ai W h (E::G)):∃W',W.le W'/\ai W' h G/\cm W' (.slice a l.length c) l:=by
 obtain⟨W',h1,h2,h3⟩:=m.give
 exact⟨W',h1,h3,o.uq rfl h2⟩
def II (W:Wd) (G:List ao) (l:List Int) (K:Value->Value) (v:Value) (h':J):Prop:=∃a c E,v=K (.slice a l.length c)/\ai W h' (E::G)/\au a l.length c 1 (ints .u8 l) E
end Go.Proofs.YtjlkfjnfnonekaaGreatDoor
