import Derived.Test.YtjlkfjnfnonekaaGreatDoorM23
import Derived.Test.YtjlkfjnfnonekaaGreatDoorM12
import Derived.Test.YtjlkfjnfnonekaaGreatDoorM20
set_option linter.all false
set_option maxRecDepth 8000
namespace Go.Proofs.YtjlkfjnfnonekaaGreatDoor
open Go.Vc
section
variable{W W':Wd} {h h':J} {G:List ao} {E:ao} {a b:Option Addr} {l r c d n k:Nat} {vs us:List Value} {bs xs ys:List Int}
theorem s8 (hb:cm W (.slice a n c) xs) (hl:0<xs.length):∃b o,a=some ⟨b,o,none⟩/\n=xs.length/\n<=c/\∀(k:Nat) (x:Int),xs[k]?=some x->bT W b (o+k)=some (.int .u8 x):=by
 obtain⟨ay,c',e,h1,h2⟩:=hb
 cases e
 unfold e5 at h2
 split at h2
 ·simp[ints]at h2;rw[h2]at hl;simp at hl
 ·rename_i b o
  exact⟨b,o,rfl,rfl,h1,λk x I=>(zj.1 h2).2 k _ (j5 I)⟩
 ·have:=h2.1;omega
theorem pW (hb:cm W (.slice a n c) xs) (I:k<=n):cm W (.slice (en a k c k) (n -k) (c -k)) (xs.drop k):=by
 obtain⟨ay,c',e,h1,h2⟩:=hb
 cases e
 refine⟨en a k c k,c -k,?_,?_,?_⟩
 ·rw[List.length_drop]
 ·rw[List.length_drop];omega
 ·unfold e5 at h2
  split at h2
  ·simp[ints]at h2;subst h2
   unfold en;split<;>simp[e5,ints]
  ·rename_i b o
   obtain⟨af,ag⟩:=zj.1 h2
   unfold en
   split
   ·have:xs.drop k=[]:=List.drop_of_length_le (by omega)
    rw[this];rfl
   ·simp only[Option.map_some,add_eq]
    show kT W b (o+k) (xs.drop k).length=_
    refine zj.2 ⟨by simp[ints],λj v ah=>?_⟩
    have:=ag (k+j) v (by rw[<-ah,<-S0,List.getElem?_drop])
    rw[Nat.add_assoc];exact this
  ·obtain⟨af,ag⟩:=h2
   have:xs=[]:=List.eq_nil_of_length_eq_zero af
   subst this
   unfold en
   split
   ·simp[e5,ints]
   ·by_cases av:k=0<;>simp[e5,ints,Addr.add,av,kT]
theorem kC (hb:cm W (.slice a n c) xs):e5 W a n (ints .u8 xs)/\xs.length=n/\n<=c:=by
 obtain⟨ay,c',e,h1,h2⟩:=hb
 cases e
 exact⟨h2,rfl,h1⟩
theorem EG {j:Nat} (hs:e5 W a n vs) (ah:j<=n) (hn:vs.length=n):e5 W a j (vs.take j):=by
 unfold e5 at hs⊢
 split at hs
 ·rw[hs];simp
 ·obtain⟨af,ag⟩:=zj.1 hs
  refine zj.2 ⟨by simp;omega,λi v hi=>ag i v ?_⟩
  rw[List.getElem?_take]at hi
  split at hi
  ·exact hi
  ·cases hi
 ·exact⟨by omega,by rw[hs.2];simp⟩
theorem vn (m:ai W h G) (hb:cm W (.slice a n c) xs) (hl:6<=xs.length):
 aj Tryz.prog 220 #[.slice a n c] h λv h'=>v= .agg (ints .u8 (xs.take 6)).toArray/\ai W h' G:=by
 obtain⟨b,o,rfl,hn,hc,hx⟩:=s8 hb (by omega)
 refine aoS _ _ _ _ _ ?_
 intro al h1 af ag aP h2 f1 f2
 replace m:=(m.push ag af).push f2 f1
 refine⟨λi h=>∃(k:Nat),i=k/\k<=6/\ai W h ([(aP,ints .u8 (xs.take k++List.replicate (6 -k) 0),26)]::[(al,ints .u8 [0,0,0,0,0,0],26)]::G),λi _=>(6 -i).toNat,⟨0,rfl,by omega,by rw[List.take_zero];exact m⟩,λ_=>?_⟩
 rintro _ h3 ⟨k,rfl,I,m⟩
 refine aC (λq=>?_) λq=>?_
 ·have bY:k<xs.length:=by omega
  refine⟨⟨by omega,by omega⟩,xs[k],m.bT (by simpa using hx k xs[k] (by simp[bY])),⟨by omega,by omega⟩,?_⟩
  refine m.store 0 rfl (by simp[ints];omega) λh4 m4=>?_
  refine⟨by simp only[fits];omega,⟨k+1,by omega,by omega,?_⟩,by dsimp only;omega⟩
  have e:(ints .u8 (xs.take k++List.replicate (6 -k) 0)).set (0+(k:Int).toNat) (.int .u8 xs[k])=ints .u8 (xs.take (k+1)++List.replicate (6 -(k+1)) 0):=by
   rw[show 6 -k=(6 -(k+1))+1 by omega,List.replicate_succ,Nat.zero_add,Int.toNat_natCast]
   simp only[ints]
   rw[<-List.map_set]
   congr 1
   rw[List.set_append_right _ _ (by rw[List.length_take];omega),List.length_take,Nat.min_eq_left (by omega),Nat.sub_self,List.set_cons_zero]
   rw[List.take_add_one,List.getElem?_eq_getElem bY,List.append_assoc];rfl
  rw[List.set_cons_zero,e]at m4
  exact m4
 ·obtain rfl:k=6:=by omega
  rw[show List.replicate (6 -6) (0:Int)=[]from rfl,List.append_nil]at m
  have j1:(ints .u8 (xs.take 6)).length=6:=by rw[dL,List.length_take];omega
  refine⟨_,m.row 0 rfl (by rw[List.drop_zero];exact List.take_of_length_le (by omega)) (by omega),⟨j1,m.dR 1 rfl rfl,dM⟩,λh4 cx=>?_⟩
  have m4:=m.bm 1 rfl cx
  simp only[List.set_cons_succ,List.set_cons_zero]at m4
  have cy:bG (ints .u8 [0,0,0,0,0,0]) 0 (ints .u8 (xs.take 6))=ints .u8 (xs.take 6):=by
   rw[n3 (by rw[j1];exact Nat.le_of_ble_eq_true rfl),List.take_zero,List.nil_append,j1,show(ints .u8 [0,0,0,0,0,0]).drop (0+6)=[]from rfl,List.append_nil]
  rw[cy]at m4
  exact⟨_,m4.row 1 rfl (by rw[List.drop_zero];exact List.take_of_length_le (by omega)) (by omega),rfl,m4.aB.aB⟩
theorem ahU {x y:Int} (m:ai W h G) (hb:cm W (.slice a n c) xs) (h0:xs[0]?=some x) (h1:xs[1]?=some y) (hx:0<=x/\x<256) (hy:0<=y/\y<256):
 aj Tryz.prog 143 #[.slice a n c] h λv h'=>v= .int .i64 (x+y*256)/\h'=h:=by
 have hl:=(List.getElem?_eq_some_iff.1 h1).1
 obtain⟨b,o,rfl,hn,hc,c9⟩:=s8 hb (by omega)
 refine aoQ _ _ _ _ _ ⟨⟨by decide,by omega⟩,x,m.bT (by simpa using c9 0 x h0),by simp only[fits];omega,⟨by decide,by omega⟩,y,m.bT (c9 1 y h1),by simp only[fits];omega,by decide,by simp only[fits];omega,?_,rfl⟩
 rw[Mf hx hy]
theorem Vq (m:ai W h G) (hx:xs.length=6) (hy:ys.length=6):
 aj Tryz.prog 148 #[.agg (ints .u8 xs).toArray, .agg (ints .u8 ys).toArray] h λv h'=>v= .bool (decide (xs=ys))/\ai W h' G:=by
 refine aoZ _ _ _ _ ?_
 intro al h1 af ag aP h2 f1 f2
 replace m:=(m.push ag af).push f2 f1
 refine⟨λi h=>h=h2/\∃(k:Nat),i=k/\k<=6/\xs.take k=ys.take k,λi _=>(6 -i).toNat,⟨rfl,0,rfl,by omega,rfl⟩,λ_=>?_⟩
 rintro _ h3 ⟨rfl,k,rfl,I,hn⟩
 refine aC (λq=>?_) λq=>?_
 ·obtain⟨x,mw⟩:∃y,xs[k]?=some y:=⟨_,List.getElem?_eq_getElem (by omega)⟩
  obtain⟨y,GB⟩:∃y,ys[k]?=some y:=⟨_,List.getElem?_eq_getElem (by omega)⟩
  refine⟨⟨by omega,by omega⟩,x,m.cell 1 rfl (by simpa using j5 mw),⟨by omega,by omega⟩,y,m.cell 0 rfl (by simpa using j5 GB),bH (λq1=>⟨?_,m.aB.aB⟩) λq1=>⟨by simp only[fits];omega,⟨rfl,k+1,by omega,by omega,?_⟩,by dsimp only;omega⟩⟩
  ·have:xs≠ys:= λe=>by subst e;rw[mw]at GB;cases GB;simp at q1
   simp[this]
  ·rw[List.take_add_one,List.take_add_one,mw,GB,hn]
   simp at q1
   rw[q1]
 ·obtain rfl:k=6:=by omega
  rw[List.take_of_length_le (by omega),List.take_of_length_le (by omega)]at hn
  exact⟨by simp[hn],m.aB.aB⟩
theorem asw (ha:src h a l (ints .u8 xs)) (Sc:xs.length=l) (hb:src h b r (ints .u8 ys)) (Sd:ys.length=r) (hl:l<=4611686018427387904):
 aj Tryz.prog 226 #[.slice a l c, .slice b r d] h λv h'=>v= .bool (decide (xs=ys))/\h'=h:=by
 refine asE _ _ _ _ _ _ _ _ ?_
 refine bH (λq=>⟨?_,rfl⟩) λq=>?_
 ·have:xs≠ys:= λe=>by subst e;simp at q;omega
  simp[this]
 have adu:l=r:=by simp at q;omega
 subst adu
 refine⟨λi h'=>h'=h/\∃k:Nat,i=k/\k<=l/\xs.take k=ys.take k,λi _=>((l:Int) -i).toNat,⟨rfl,0,rfl,by omega,rfl⟩,λ_=>?_⟩
 rintro _ h1 ⟨rfl,k,rfl,I,hn⟩
 refine aC (λq=>?_) λq=>?_
 ·obtain⟨x,hx⟩:∃y,xs[k]?=some y:=⟨_,List.getElem?_eq_getElem (by omega)⟩
  obtain⟨y,hy⟩:∃y,ys[k]?=some y:=⟨_,List.getElem?_eq_getElem (by omega)⟩
  obtain⟨al,eg,rfl,hc⟩:=fW ha (j5 (k:= .u8) hx)
  obtain⟨aP,aM,rfl,hd⟩:=fW hb (j5 (k:= .u8) hy)
  refine⟨⟨by omega,by omega⟩,x,by simpa using hc,⟨by omega,by omega⟩,y,by simpa using hd,bH (λq1=>⟨?_,rfl⟩) λq1=>⟨by simp only[fits];omega,⟨rfl,k+1,by omega,by omega,?_⟩,by dsimp only;omega⟩⟩
  ·have:xs≠ys:= λe=>by subst e;rw[hx]at hy;cases hy;simp at q1
   simp[this]
  ·rw[List.take_add_one,List.take_add_one,hx,hy,hn]
   simp at q1
   rw[q1]
 ·obtain rfl:k=l:=by omega
  rw[List.take_of_length_le (by omega),List.take_of_length_le (by omega)]at hn
  exact⟨by simp[hn],rfl⟩
theorem Qc (m:ai W h G) (hb:cm W (.slice a n c) xs) (hn:n<=140737488355328):
 aj Tryz.prog 217 #[.slice a n c] h (BD W G xs λv=>v):=by
 obtain⟨h1,h2,h3⟩:=kC hb
 refine(Cf (m.e5 h1) (by rw[dL];exact h2) dM hn).mono ?_
 rintro _ h' ⟨ay,c',E,rfl,ax,o⟩
 have m2:=m.beside ax
 rw[<-h2]at o⊢
 obtain⟨W',af,ag,aI⟩:=w5 o m2
 exact⟨W',ay,c',af,rfl,ag,aI⟩
end
end Go.Proofs.YtjlkfjnfnonekaaGreatDoor
set_option maxRecDepth 8000
namespace Go.Proofs.YtjlkfjnfnonekaaGreatDoor
open Go.Vc
theorem Js {m n:Nat} (hm:m<256) (hn:n<256):bits .xor .u8 (m:Int) (n:Int)=((m^^^n:Nat):Int):=by
 have e:bits .xor .u8 (m:Int) (n:Int)=IntKind.u8.wrap ((BitVec.ofInt 8 (m:Int)^^^BitVec.ofInt 8 (n:Int)).toNat:Int):=rfl
 have ag:(BitVec.ofInt 8 (m:Int)^^^BitVec.ofInt 8 (n:Int)).toNat=m^^^n:=by
  rw[BitVec.toNat_xor,BitVec.toNat_ofInt,BitVec.toNat_ofInt]
  rw[show((m:Int)%(2^8:Nat)).toNat=m by omega,show((n:Int)%(2^8:Nat)).toNat=n by omega]
 have h3:m^^^n<2^8:=Nat.xor_lt_two_pow (by omega) (by omega)
 rw[e,ag,mP (show fits .u8 _ by simp only[fits];omega)]
theorem Y3 {m n:Nat} (hm:m<256) (hn:n<256):bits .and .u8 (m:Int) (n:Int)=((m&&&n:Nat):Int):=by
 have e:bits .and .u8 (m:Int) (n:Int)=IntKind.u8.wrap ((BitVec.ofInt 8 (m:Int)&&&BitVec.ofInt 8 (n:Int)).toNat:Int):=rfl
 have ag:(BitVec.ofInt 8 (m:Int)&&&BitVec.ofInt 8 (n:Int)).toNat=m&&&n:=by
  rw[BitVec.toNat_and,BitVec.toNat_ofInt,BitVec.toNat_ofInt]
  rw[show((m:Int)%(2^8:Nat)).toNat=m by omega,show((n:Int)%(2^8:Nat)).toNat=n by omega]
 have h3:m&&&n<=m:=Nat.and_le_left
 rw[e,ag,mP (show fits .u8 _ by simp only[fits];omega)]
def xl (r b:Nat):Nat:=if(r/128+b)%2=1 then(r*2%256)^^^7 else r*2%256
def vU (r x:Nat):Nat->Nat
 |0=>r
 |k+1=>xl (vU r x k) (x/2^k%2)
def vV (xs:List Int):Nat:=xs.foldl (λr x=>vU r x.toNat 8) 255
def Ad (r:Nat):Nat->Nat
 |0=>0
 |k+1=>if r/2^k%2=0 then Ad r k|||(128/2^k)else Ad r k
def qO (xs:List Int):Int:=(Ad (vV xs) 8:Nat)
theorem alk (r b:Nat):xl r b<256:=by
 unfold xl
 have h:r*2%256<2^8:=Nat.mod_lt _ (by decide)
 split
 ·exact Nat.xor_lt_two_pow h (by decide)
 ·exact h
theorem Qm {r x:Nat} (U:r<256):∀k,vU r x k<256
 |0=>U
 |k+1=>alk _ _
theorem Ri:∀{xs:List Int} {r:Nat},r<256->xs.foldl (λr x=>vU r x.toNat 8) r<256
 |[],r,h=>h
 |x::xs,r,h=>Ri (xs:=xs) (Qm h 8)
theorem aaf (xs:List Int):vV xs<256:=Ri (by decide)
theorem aag (xs:List Int) (x:Int):vV (xs++[x])=vU (vV xs) x.toNat 8:=by unfold vV;rw[List.foldl_append];rfl
theorem Ra (r:Nat):∀k,k<=8->Ad r k<256
 |0,_=>by show 0<256;decide
 |k+1,I=>by
  unfold Ad
  have h:=Ra r k (by omega)
  split
  ·refine Nat.or_lt_two_pow (n:=8) h ?_
   have:=Nat.div_le_self 128 (2^k);omega
  ·exact h
theorem alo (xs:List Int):0<=qO xs/\qO xs<256:=by
 have:=Ra (vV xs) 8 (by decide)
 unfold qO;omega
theorem aqL {a b:Nat} (ha:a<2) (hb:b<2):a^^^b=(a+b)%2:=by
 have h1:a=0\/a=1:=by omega
 have h2:b=0\/b=1:=by omega
 rcases h1 with rfl|rfl<;>rcases h2 with rfl|rfl<;>rfl
theorem Za {r x:Nat} (U:r<256) (hx:x<256):bits .xor .u8 ((r:Int)/128) (bits .and .u8 (x:Int) 1)=(((r/128+x%2)%2:Nat):Int):=by
 rw[show bits .and .u8 (x:Int) 1=bits .and .u8 (x:Int) ((1:Nat):Int)from rfl,Y3 hx (by decide),Nat.and_one_is_mod,show(r:Int)/128=((r/128:Nat):Int) by omega,Js (by omega) (by omega),aqL (by omega) (by omega)]
theorem ali {r b:Nat} (q:(r/128+b)%2=1):bits .xor .u8 (IntKind.u8.wrap ((r:Int)*2)) 7=(xl r b:Nat):=by
 rw[pI,show((r:Int)*2)%256=((r*2%256:Nat):Int) by omega,show bits .xor .u8 ((r*2%256:Nat):Int) 7=bits .xor .u8 ((r*2%256:Nat):Int) ((7:Nat):Int)from rfl,Js (by omega) (by decide)]
 unfold xl;rw[if_pos q]
theorem alj {r b:Nat} (q:¬(r/128+b)%2=1):IntKind.u8.wrap ((r:Int)*2)=(xl r b:Nat):=by
 rw[pI,show((r:Int)*2)%256=((r*2%256:Nat):Int) by omega]
 unfold xl;rw[if_neg q]
section
variable{W W':Wd} {h h':J} {G:List ao} {a:Option Addr} {n c k:Nat} {xs:List Int}
theorem ajS {r:Nat} (U:r<256) (h:J):aj Tryz.prog 295 #[.int .u8 (bits .xor .u8 255 (r:Int))] h λv h'=>v= .int .u8 ((Ad r 8:Nat):Int)/\h'=h:=by
 rw[show bits .xor .u8 255 (r:Int)=bits .xor .u8 ((255:Nat):Int) (r:Int)from rfl,Js (by decide) U]
 have h2:255^^^r<2^8:=Nat.xor_lt_two_pow (by decide) (by omega)
 refine aoB _ _ _ ⟨⟨by omega,?_⟩,?_,rfl⟩
 ·show((255^^^r:Nat):Int)<((256:Nat):Int)
  omega
 ·congr 1
  rw[Int.toNat_natCast]
  clear h2
  revert r
  decide
theorem aai (m:ai W h G) (hb:cm W (.slice a n c) xs) (hx:∀x∈xs,0<=x/\x<256) (hl:xs.length<=65535):
 aj Tryz.prog 287 #[.slice a n c] h λv h'=>v= .int .u8 (qO xs)/\h'=h:=by
 obtain⟨hs,hn,hc⟩:=kC hb
 subst hn
 refine an3 _ _ _ _ _ ⟨λr i h'=>h'=h/\∃k:Nat,i=k/\k<=xs.length/\r=(vV (xs.take k):Nat),λ_ i _=>((xs.length:Int) -i).toNat,⟨rfl,0,rfl,by omega,rfl⟩,λ_=>?_⟩
 rintro _ _ h1 ⟨rfl,k,rfl,I,rfl⟩
 obtain⟨R,iC⟩:∃R,R=vV (xs.take k):=⟨_,rfl⟩
 have RG:R<256:=by rw[iC];exact aaf _
 rw[<-iC]
 refine aC (λq=>?_) λq=>?_
 ·have bY:k<xs.length:=by omega
  obtain⟨b,o,rfl,-,-,c9⟩:=s8 hb (by omega)
  have SG:xs[k]?=some xs[k]:=List.getElem?_eq_getElem bY
  have ar3:=hx xs[k] (List.getElem_mem bY)
  obtain⟨y,hy⟩:∃y:Nat,xs[k]=(y:Int):=⟨xs[k].toNat,by omega⟩
  have uU:y<256:=by omega
  refine⟨⟨by omega,by omega⟩,xs[k],m.bT (by simpa using c9 k _ SG),?_⟩
  refine⟨λr z j h'=>h'=h1/\∃i:Nat,j=i/\i<=8/\r=(vU R y i:Nat)/\z=(y/2^i:Nat),λ_ _ j _=>(8 -j).toNat,⟨rfl,0,rfl,by omega,rfl,by rw[hy];simp⟩,λ_=>?_⟩
  rintro _ _ _ h2 ⟨rfl,i,rfl,hi,rfl,rfl⟩
  obtain⟨r,U⟩:∃r,r=vU R y i:=⟨_,rfl⟩
  have wD:r<256:=by rw[U];exact Qm RG i
  rw[<-U]
  refine aC (λq2=>?_) λq2=>?_
  ·have hz:y/2^i<256:=Nat.lt_of_le_of_lt (Nat.div_le_self ..) uU
   have af:vU R y (i+1)=xl r (y/2^i%2):=by rw[U];rfl
   have ag:((y/2^i:Nat):Int)/2=((y/2^(i+1):Nat):Int):=by
    rw[Nat.pow_succ,<-Nat.div_div_eq_div_mul];omega
   have aI:IntKind.i64.wrap ((i:Int)+1)=((i+1:Nat):Int):=by rw[mP (show fits .i64 ((i:Int)+1) by simp only[fits];omega)];omega
   rw[Za wD hz,ag,aI]
   refine⟨by decide,by decide,aC (λaE=>?_) λaE=>?_⟩
   ·rw[ali (b:=y/2^i%2) (by omega)]
    exact⟨by decide,⟨rfl,i+1,rfl,by omega,by rw[af],rfl⟩,by dsimp only;omega⟩
   ·rw[alj (b:=y/2^i%2) (by omega)]
    exact⟨by decide,⟨rfl,i+1,rfl,by omega,by rw[af],rfl⟩,by dsimp only;omega⟩
  ·obtain rfl:i=8:=by omega
   have aI:IntKind.i64.wrap ((k:Int)+1)=((k+1:Nat):Int):=by rw[mP (show fits .i64 ((k:Int)+1) by simp only[fits];have:=hc;omega)];omega
   rw[aI]
   refine⟨⟨rfl,k+1,rfl,by omega,?_⟩,by dsimp only;omega⟩
   rw[List.take_add_one,SG,Option.toList_some,aag,<-iC,U,hy];rfl
 ·obtain rfl:k=xs.length:=by omega
  rw[List.take_length]at iC
  refine(ajS RG h1).ret ⟨_,rfl,?_,rfl⟩
  rw[iC];rfl
end
end Go.Proofs.YtjlkfjnfnonekaaGreatDoor
set_option maxRecDepth 8000
namespace Go.Proofs.YtjlkfjnfnonekaaGreatDoor
open Go.Vc
def z24:List Value:=ints .u8 [0,0,0,0,0,0,0,0,0,0,0,0,0,0,0,0,0,0]++[.int .i64 0, .int .i64 0, .bool false, .bool false, .bool false, .slice none 0 0]
def xe (f:bQ) (k:Nat) (v:Value):List Value:=
 ints .u8 (match k with|0=>[0,0,0,0,0,0]|_=>f.to)++(ints .u8 (match k with|0=>[0,0,0,0,0,0]|1=>[0,0,0,0,0,0]|_=>f.bss)++(ints .u8 (match k with|3=>f.fr|_=>[0,0,0,0,0,0])++[.int .i64 f.tid, .int .i64 f.sq, .bool f.rt, .bool f.hR, .bool f.fC,v]))
theorem MF (f:bQ) (k:Nat) (a:Option Addr) (l c:Nat):∀u∈xe f k (.slice a l c),u.oneCell'=true:=by
 intro u hu
 unfold xe at hu
 simp only[List.mem_append]at hu
 rcases hu with hu|hu|hu|hu
 ·exact dM u hu
 ·exact dM u hu
 ·exact dM u hu
 ·simp only[List.mem_cons,List.not_mem_nil,or_false]at hu
  rcases hu with rfl|rfl|rfl|rfl|rfl|rfl<;>rfl
theorem wa (f:bQ) (a:Option Addr) (l c:Nat):∀u∈ef f (.slice a l c),u.oneCell'=true:=MF f 3 a l c
theorem tT {vs us:List Value} (h:us.length=vs.length):bG vs 0 us=us:=by
 rw[n3 (by omega),List.take_zero,List.nil_append,Nat.zero_add,h,List.drop_length,List.append_nil]
theorem xd {W:Wd} {a:Option Addr} {n:Nat} {vs:List Value} (hs:e5 W a 6 vs) (hn:n*1=6):e5 W a (n*1) vs:=by rw[hn];exact hs
set_option maxHeartbeats 600000 in
theorem ajy {W:Wd} {h:J} {G:List ao} {f:bQ} {a:Option Addr} {n c:Nat} (m:ai W h G) (hb:cm W (.slice a n c) (gg f)) (hf:gK f):
 aj Tryz.prog 140 #[.slice a n c] h λv h'=>∃W' cs,W.le W'/\v= .tuple #[.agg cs.toArray, .nilIface]/\ir W' f cs/\ai W' h' G:=by
 obtain⟨ca,aF,dw,t0,t7,rK,s1,kB⟩:=hf
 obtain⟨to,bss,fr,tid,sq,rt,hR,fC,body⟩:=f
 dsimp only at ca aF dw t0 t7 rK s1 kB
 obtain⟨bj,aY,bz,bq,bU,aV,rfl⟩:=fV ca
 obtain⟨b0,b8,bO,cd,cf,cj,rfl⟩:=fV aF
 obtain⟨cN,z2,z3,z4,z5,eF,rfl⟩:=fV dw
 have hlen:(gg ⟨[bj,aY,bz,bq,bU,aV],[b0,b8,bO,cd,cf,cj],[cN,z2,z3,z4,z5,eF],tid,sq,rt,hR,fC,body⟩).length=26+body.length:=by simp[gg];omega
 obtain⟨b,o,rfl,hn,hc,hx⟩:=s8 hb (by omega)
 rw[hlen]at hn
 have dK:=pW hb (k:=26) (by omega)
 rw[show List.drop 26 (gg ⟨[bj,aY,bz,bq,bU,aV],[b0,b8,bO,cd,cf,cj],[cN,z2,z3,z4,z5,eF],tid,sq,rt,hR,fC,body⟩)=body from rfl]at dK
 obtain⟨uH,-,-⟩:=kC (pW hb (k:=4) (by omega))
 obtain⟨wh,-,-⟩:=kC (pW hb (k:=10) (by omega))
 obtain⟨FZ,-,-⟩:=kC (pW hb (k:=16) (by omega))
 replace uH:e5 W (en (some ⟨b,o,none⟩) 4 c 4) 6 (ints .u8 [bj,aY,bz,bq,bU,aV]):=EG (j:=6) uH (by omega) (by rw[dL,List.length_drop];omega)
 replace wh:e5 W (en (some ⟨b,o,none⟩) 10 c 10) 6 (ints .u8 [b0,b8,bO,cd,cf,cj]):=EG (j:=6) wh (by omega) (by rw[dL,List.length_drop];omega)
 replace FZ:e5 W (en (some ⟨b,o,none⟩) 16 c 16) 6 (ints .u8 [cN,z2,z3,z4,z5,eF]):=EG (j:=6) FZ (by omega) (by rw[dL,List.length_drop];omega)
 have abm:bits .or .i64 (sq*16%256) (sq*16/256%256*256)=sq*16:=by
  rw[Mf (by omega) (by omega)];omega
 obtain⟨abb,QN,QO⟩:=abK rt hR
 obtain⟨Q1,x6⟩:=alN tid fC t0 t7
 refine apn _ _ _ _ _ ?_
 intro al h1 af ag
 replace m:=m.push ag af
 refine bF (by omega) ⟨⟨by decide,by omega⟩,_,m.bT (hx 0 _ rfl),aZ rfl ⟨⟨by decide,by omega⟩,_,m.bT (hx 22 _ rfl),by simp only[fits];omega,⟨by decide,by omega⟩,_,m.bT (hx 23 _ rfl),by simp only[fits];omega,by decide,by simp only[fits];omega,?_⟩⟩
 rw[abm]
 refine⟨λh=>h=h1,⟨λx h=>x=false/\h=h1,?_,λ_=>?_⟩,λ_=>?_⟩
 ·refine⟨⟨by decide,by omega⟩,_,m.bT (hx 1 _ rfl),?_⟩
  rw[abb]
  refine aZ rfl ⟨⟨by decide,by omega⟩,_,m.bT (hx 2 _ rfl),aZ rfl ⟨⟨by decide,by omega⟩,_,m.bT (hx 3 _ rfl),aZ rfl ⟨⟨by decide,by omega⟩,_,m.bT (hx 25 _ rfl),aZ rfl ⟨by decide,aZ ?_ ⟨⟨by decide,by omega⟩,_,m.bT (hx 24 _ rfl),?_,rfl⟩⟩⟩⟩⟩
  ·rw[Int.tmod_eq_emod_of_nonneg (by omega)];simp
  ·rw[Q1];exact decide_eq_false (by omega)
 ·rintro _ _ ⟨rfl,rfl⟩
  exact aZ rfl ⟨by simp only[fits];omega,bF (by omega) rfl⟩
 rintro _ rfl
 refine⟨⟨by decide,by omega⟩,_,m.bT (hx 24 _ rfl),?_⟩
 rw[Q1]
 refine⟨by simp only[fits];omega,⟨by omega,by decide,by simp only[fits];omega⟩,⟨by decide,by omega⟩,_,m.bT (hx 1 _ rfl),⟨by decide,by omega⟩,_,m.bT (hx 1 _ rfl),⟨by decide,by omega⟩,_,m.bT (hx 24 _ rfl),⟨by decide,by omega⟩,?_,?_⟩
 ·refine(Qc m dK (by omega)).mono ?_
  rintro _ bJ ⟨W',cg,bZ,hle,rfl,m,qe⟩
  refine⟨_,_,_,rfl,m.bT (rR hle (hx 24 _ rfl)),m.bT (rR hle (hx 1 _ rfl)),m.bT (rR hle (hx 1 _ rfl)),m.bT (rR hle (hx 24 _ rfl)),?_⟩
  intro e0 ct g1 g2
  replace m:=m.push g2 g1
  rw[QN,QO,x6,show sq*16/16=sq by omega]
  refine⟨⟨rfl,m.dR 0 rfl rfl,MF ⟨[bj,aY,bz,bq,bU,aV],[b0,b8,bO,cd,cf,cj],[cN,z2,z3,z4,z5,eF],tid,sq,rt,hR,fC,body⟩ 0 _ _ _⟩,λdS g3=>?_⟩
  replace m:=m.bm 0 rfl g3
  simp only[List.set_cons_zero]at m
  replace m:ai W' dS ([(e0,xe ⟨[bj,aY,bz,bq,bU,aV],[b0,b8,bO,cd,cf,cj],[cN,z2,z3,z4,z5,eF],tid,sq,rt,hR,fC,body⟩ 0 (.slice cg body.length bZ),257)]::[(al,z24,257)]::G):=m
  refine⟨λh=>ai W' h ([(e0,xe ⟨[bj,aY,bz,bq,bU,aV],[b0,b8,bO,cd,cf,cj],[cN,z2,z3,z4,z5,eF],tid,sq,rt,hR,fC,body⟩ 3 (.slice cg body.length bZ),257)]::[(al,z24,257)]::G),?_,λ_=>?_⟩
  ·intro Jl fD g4 g5
   replace m:=m.push g5 g4
   refine⟨λi h=>∃k:Nat,i=k/\k<=3/\ai W' h ([(Jl,[.pointer (some ⟨e0,0,none⟩), .pointer (some ⟨e0,6,none⟩), .pointer (some ⟨e0,12,none⟩)],344)]::[(e0,xe ⟨[bj,aY,bz,bq,bU,aV],[b0,b8,bO,cd,cf,cj],[cN,z2,z3,z4,z5,eF],tid,sq,rt,hR,fC,body⟩ k (.slice cg body.length bZ),257)]::[(al,z24,257)]::G),λi _=>(3 -i).toNat,⟨0,rfl,by omega,m⟩,λ_=>?_⟩
   rintro _ fu ⟨k,rfl,I,m⟩
   refine aC (λq=>?_) λq=>?_
   ·have:k=0\/k=1\/k=2:=by omega
    rcases this with rfl|rfl|rfl
    ·(refine⟨⟨by decide,by decide⟩,_,m.cell 0 rfl rfl,⟨by simp only[fits];omega,by simp only[fits];omega,⟨by decide,by omega⟩,_,⟨m.e5 (vx hle (xd uH (by omega))),dM⟩,m.dR 1 rfl rfl,λfQ g6=>?_⟩⟩;have m13:=m.bm 1 rfl g6;exact⟨by simp only[fits];omega,⟨0+1,rfl,by decide,m13⟩,by dsimp only;omega⟩)
    ·(refine⟨⟨by decide,by decide⟩,_,m.cell 0 rfl rfl,⟨by simp only[fits];omega,by simp only[fits];omega,⟨by decide,by omega⟩,_,⟨m.e5 (vx hle (xd wh (by omega))),dM⟩,m.dR 1 rfl rfl,λfQ g6=>?_⟩⟩;have m13:=m.bm 1 rfl g6;exact⟨by simp only[fits];omega,⟨1+1,rfl,by decide,m13⟩,by dsimp only;omega⟩)
    ·(refine⟨⟨by decide,by decide⟩,_,m.cell 0 rfl rfl,⟨by simp only[fits];omega,by simp only[fits];omega,⟨by decide,by omega⟩,_,⟨m.e5 (vx hle (xd FZ (by omega))),dM⟩,m.dR 1 rfl rfl,λfQ g6=>?_⟩⟩;have m13:=m.bm 1 rfl g6;exact⟨by simp only[fits];omega,⟨2+1,rfl,by decide,m13⟩,by dsimp only;omega⟩)
   ·obtain rfl:k=3:=by omega
    exact m.aB
  ·intro iA m
   have HG:row iA e0 0 24=some (ef ⟨[bj,aY,bz,bq,bU,aV],[b0,b8,bO,cd,cf,cj],[cN,z2,z3,z4,z5,eF],tid,sq,rt,hR,fC,body⟩ (.slice cg body.length bZ)):=m.row 0 rfl rfl (Nat.le_of_ble_eq_true rfl)
   refine⟨_,HG,⟨rfl,m.dR 1 rfl rfl,wa _ _ _ _⟩,λpa g6=>?_⟩
   have m15:=m.bm 1 rfl g6
   simp only[List.set_cons_zero,List.set_cons_succ]at m15
   rw[tT (show(ef ⟨[bj,aY,bz,bq,bU,aV],[b0,b8,bO,cd,cf,cj],[cN,z2,z3,z4,z5,eF],tid,sq,rt,hR,fC,body⟩ (.slice cg body.length bZ)).length=z24.length from rfl)]at m15
   have HH:row pa al 0 24=some (ef ⟨[bj,aY,bz,bq,bU,aV],[b0,b8,bO,cd,cf,cj],[cN,z2,z3,z4,z5,eF],tid,sq,rt,hR,fC,body⟩ (.slice cg body.length bZ)):=m15.row 1 rfl rfl (Nat.le_of_ble_eq_true rfl)
   exact⟨_,HH,W',_,hle,rfl,⟨_,rfl,qe⟩,m15.aB.aB⟩
 ·intro e0 ct g1 g2
  replace m:=m.push g2 g1
  refine(Qc m dK (by omega)).mono ?_
  rintro _ bJ ⟨W',cg,bZ,hle,rfl,m,qe⟩
  refine⟨_,_,_,rfl,m.bT (rR hle (hx 24 _ rfl)),m.bT (rR hle (hx 1 _ rfl)),m.bT (rR hle (hx 1 _ rfl)),m.bT (rR hle (hx 24 _ rfl)),?_⟩
  rw[QN,QO,x6,show sq*16/16=sq by omega]
  refine⟨⟨rfl,m.dR 0 rfl rfl,MF ⟨[bj,aY,bz,bq,bU,aV],[b0,b8,bO,cd,cf,cj],[cN,z2,z3,z4,z5,eF],tid,sq,rt,hR,fC,body⟩ 0 _ _ _⟩,λdS g3=>?_⟩
  replace m:=m.bm 0 rfl g3
  simp only[List.set_cons_zero]at m
  replace m:ai W' dS ([(e0,xe ⟨[bj,aY,bz,bq,bU,aV],[b0,b8,bO,cd,cf,cj],[cN,z2,z3,z4,z5,eF],tid,sq,rt,hR,fC,body⟩ 0 (.slice cg body.length bZ),257)]::[(al,z24,257)]::G):=m
  refine⟨λh=>ai W' h ([(e0,xe ⟨[bj,aY,bz,bq,bU,aV],[b0,b8,bO,cd,cf,cj],[cN,z2,z3,z4,z5,eF],tid,sq,rt,hR,fC,body⟩ 3 (.slice cg body.length bZ),257)]::[(al,z24,257)]::G),?_,λ_=>?_⟩
  ·intro Jl fD g4 g5
   replace m:=m.push g5 g4
   refine⟨λi h=>∃k:Nat,i=k/\k<=3/\ai W' h ([(Jl,[.pointer (some ⟨e0,0,none⟩), .pointer (some ⟨e0,6,none⟩), .pointer (some ⟨e0,12,none⟩)],344)]::[(e0,xe ⟨[bj,aY,bz,bq,bU,aV],[b0,b8,bO,cd,cf,cj],[cN,z2,z3,z4,z5,eF],tid,sq,rt,hR,fC,body⟩ k (.slice cg body.length bZ),257)]::[(al,z24,257)]::G),λi _=>(3 -i).toNat,⟨0,rfl,by omega,m⟩,λ_=>?_⟩
   rintro _ fu ⟨k,rfl,I,m⟩
   refine aC (λq=>?_) λq=>?_
   ·have:k=0\/k=1\/k=2:=by omega
    rcases this with rfl|rfl|rfl
    ·(refine⟨⟨by decide,by decide⟩,_,m.cell 0 rfl rfl,⟨by simp only[fits];omega,by simp only[fits];omega,⟨by decide,by omega⟩,_,⟨m.e5 (vx hle (xd uH (by omega))),dM⟩,m.dR 1 rfl rfl,λfQ g6=>?_⟩⟩;have m13:=m.bm 1 rfl g6;exact⟨by simp only[fits];omega,⟨0+1,rfl,by decide,m13⟩,by dsimp only;omega⟩)
    ·(refine⟨⟨by decide,by decide⟩,_,m.cell 0 rfl rfl,⟨by simp only[fits];omega,by simp only[fits];omega,⟨by decide,by omega⟩,_,⟨m.e5 (vx hle (xd wh (by omega))),dM⟩,m.dR 1 rfl rfl,λfQ g6=>?_⟩⟩;have m13:=m.bm 1 rfl g6;exact⟨by simp only[fits];omega,⟨1+1,rfl,by decide,m13⟩,by dsimp only;omega⟩)
    ·(refine⟨⟨by decide,by decide⟩,_,m.cell 0 rfl rfl,⟨by simp only[fits];omega,by simp only[fits];omega,⟨by decide,by omega⟩,_,⟨m.e5 (vx hle (xd FZ (by omega))),dM⟩,m.dR 1 rfl rfl,λfQ g6=>?_⟩⟩;have m13:=m.bm 1 rfl g6;exact⟨by simp only[fits];omega,⟨2+1,rfl,by decide,m13⟩,by dsimp only;omega⟩)
   ·obtain rfl:k=3:=by omega
    exact m.aB
  ·intro iA m
   have HG:row iA e0 0 24=some (ef ⟨[bj,aY,bz,bq,bU,aV],[b0,b8,bO,cd,cf,cj],[cN,z2,z3,z4,z5,eF],tid,sq,rt,hR,fC,body⟩ (.slice cg body.length bZ)):=m.row 0 rfl rfl (Nat.le_of_ble_eq_true rfl)
   refine⟨_,HG,⟨rfl,m.dR 1 rfl rfl,wa _ _ _ _⟩,λpa g6=>?_⟩
   have m15:=m.bm 1 rfl g6
   simp only[List.set_cons_zero,List.set_cons_succ]at m15
   rw[tT (show(ef ⟨[bj,aY,bz,bq,bU,aV],[b0,b8,bO,cd,cf,cj],[cN,z2,z3,z4,z5,eF],tid,sq,rt,hR,fC,body⟩ (.slice cg body.length bZ)).length=z24.length from rfl)]at m15
   have HH:row pa al 0 24=some (ef ⟨[bj,aY,bz,bq,bU,aV],[b0,b8,bO,cd,cf,cj],[cN,z2,z3,z4,z5,eF],tid,sq,rt,hR,fC,body⟩ (.slice cg body.length bZ)):=m15.row 1 rfl rfl (Nat.le_of_ble_eq_true rfl)
   exact⟨_,HH,W',_,hle,rfl,⟨_,rfl,qe⟩,m15.aB.aB⟩
end Go.Proofs.YtjlkfjnfnonekaaGreatDoor
set_option maxRecDepth 8000
namespace Go.Proofs.YtjlkfjnfnonekaaGreatDoor
open Go.Vc
def oD (mp:Int) (k:Nat):List Int:=(List.range k).map λ(i:Nat)=>mp/dU (8*(i:Int))%256
theorem TB (mp:Int) (k:Nat):oD mp (k+1)=oD mp k++[mp/dU (8*(k:Int))%256]:=by
 simp[oD,List.range_succ]
theorem TA (mp:Int) (k:Nat):(oD mp k).length=k:=by simp[oD]
def k5 (kind:Int) (to fr:List Int) (tid sq:Int):List Int:=([kind,0,0,0]:List Int)++(to++(fr++[(4+tid*4096)%256,(4+tid*4096)/256%256,sq*16%256,sq*16/256%256]))
def r7 (to fr:List Int) (tid sq mp:Int):List Int:=k5 148 to fr tid sq++oD mp 8
def js (to fr:List Int) (tid sq mp:Int):List Value:=ints .u8 to++(ints .u8 fr++[.int .i64 tid, .int .i64 sq, .int .u64 mp])
section
variable{W W':Wd} {h h':J} {G:List ao} {E:ao} {a b:Option Addr} {l r c d n k:Nat} {vs us:List Value} {bs xs ys to fr:List Int} {tid sq mp:Int}
theorem OT (kind:Int) (h1:to.length=6) (h2:fr.length=6):(k5 kind to fr tid sq).length=20:=by simp[k5,h1,h2]
theorem Oj (h1:to.length=6) (h2:fr.length=6):(r7 to fr tid sq mp).length=28:=by simp[r7,OT 148 h1 h2,TA]
theorem Wc (z:Int) (m:ai W h G):aj Tryz.prog 253 #[.int .i64 z] h λv h'=>∃b T,v= .slice (some ⟨b,0,none⟩) 2 2/\ai W h' ([(b,ints .u8 [z%256,z/256%256],T)]::G):=by
 refine an8 _ _ _ ⟨by decide,?_⟩
 rw[pI,pI]
 intro al h1 af ag
 exact⟨al,_,rfl,m.push ag af⟩
theorem u3 {A B:ao} (m:ai W h (A::B::G)):ai W h (B::A::G):=m.perm (by
 simp only[List.flatten_cons];rw[<-List.append_assoc,<-List.append_assoc];exact List.perm_append_comm.append_right _)
theorem OU (kind:Int) (m:ai W h G) (h1:to.length=6) (h2:fr.length=6) (ht:0<=tid/\tid<=7) (hs:0<=sq/\sq<=4095):
 aj Tryz.prog 193 #[.int .u8 kind, .agg (ints .u8 to).toArray, .agg (ints .u8 fr).toArray, .int .i64 tid, .int .i64 sq] h λv h'=>∃a c E,v= .tuple #[.slice a 20 c, .nilIface]/\ai W h' (E::G)/\au a 20 c 1 (ints .u8 (k5 kind to fr tid sq)) E:=by
 refine Wt _ _ _ _ _ _ _ ?_
 intro al g1 af ag aP g2 f1 f2
 replace m:=(m.push ag af).push f2 f1
 refine bF (by omega) (bF (by omega) (bF (by omega) (bF (by omega) ?_)))
 intro bx g3 aI cx
 replace m:=m.push cx aI
 have cb:au (some ⟨bx,0,none⟩) 4 4 1 (ints .u8 [kind,0,0,0]) [(bx,ints .u8 [kind,0,0,0],5)]:=au.wb rfl
 refine⟨ints .u8 to,⟨m.row 2 rfl (by rw[List.drop_zero];exact List.take_of_length_le (by rw[dL];omega)) (by rw[dL];omega),dM⟩,?_⟩
 refine cb.app m 0 rfl (by rw[dL];omega) (by omega) (by decide) λa4 c7 r3 h4 m hF=>?_
 simp only[List.set_cons_zero]at m
 refine⟨ints .u8 fr,⟨m.row 1 rfl (by rw[List.drop_zero];exact List.take_of_length_le (by rw[dL];omega)) (by rw[dL];omega),dM⟩,?_⟩
 refine hF.app m 0 rfl (by rw[dL];omega) (by omega) (by decide) λa5 eK IC aA m kL=>?_
 simp only[List.set_cons_zero]at m
 refine⟨by simp only[fits];omega,by simp only[fits];omega,?_⟩
 refine(Wc _ m).mono ?_
 rintro _ aU ⟨ey,Oa,rfl,m⟩
 refine⟨_,_,_,rfl,ints .u8 [(4+tid*4096)%256,(4+tid*4096)/256%256],⟨m.row 0 rfl rfl (Nat.le_of_ble_eq_true rfl),dM⟩,?_⟩
 refine kL.app m 1 rfl rfl (by omega) (by decide) λhJ gB i6 bW m gv=>?_
 simp only[List.set_cons_zero,List.set_cons_succ]at m
 refine⟨by simp only[fits];omega,?_⟩
 refine(Wc _ m.aB).mono ?_
 rintro _ bJ ⟨vM,aqZ,rfl,m⟩
 refine⟨_,_,_,rfl,ints .u8 [sq*16%256,sq*16/256%256],⟨m.row 0 rfl rfl (Nat.le_of_ble_eq_true rfl),dM⟩,?_⟩
 refine gv.app m 1 rfl rfl (by omega) (by decide) λa9 om vB ct m nz=>?_
 simp only[List.set_cons_zero,List.set_cons_succ]at m
 refine⟨a9,om,vB,rfl,(u3 (u3 m.aB).aB).aB,?_⟩
 have e:ints .u8 [kind,0,0,0]++ints .u8 to++ints .u8 fr++ints .u8 [(4+tid*4096)%256,(4+tid*4096)/256%256]++ints .u8 [sq*16%256,sq*16/256%256]=ints .u8 (k5 kind to fr tid sq):=by
  simp[k5,ints]
 rw[<-e];exact nz
theorem yU (k:Nat):dU (8*(k:Int))=((2^(8*k):Nat):Int):=by
 unfold dU
 rw[show(8*(k:Int)).toNat=8*k by omega,Int.natCast_pow];rfl
theorem Vz {k:Nat} (I:k<8):(IntKind.i64.wrap ((8:Int)*(k:Int)))=8*(k:Int)/\IntKind.u64.wrap (8*(k:Int))=8*(k:Int)/\IntKind.i64.wrap ((k:Int)+1)=(k:Int)+1:=
 ⟨mP (by simp only[fits];omega),mP (by simp only[fits];omega),mP (by simp only[fits];omega)⟩
theorem Xj (m:ai W h G) (h1:to.length=6) (h2:fr.length=6) (ht:0<=tid/\tid<=7) (hs:0<=sq/\sq<=4095):
 aj Tryz.prog 278 #[.agg (js to fr tid sq mp).toArray] h (BD W G (r7 to fr tid sq mp) λv=> .tuple #[v, .nilIface]):=by
 have hL:=Oj (tid:=tid) (sq:=sq) (mp:=mp) h1 h2
 obtain⟨bj,aY,bz,bq,bU,aV,rfl⟩:=fV h1
 obtain⟨b0,b8,bO,cd,cf,cj,rfl⟩:=fV h2
 refine Ws _ _ _ ?_
 intro al g1 af ag
 replace m:=m.push ag af
 refine⟨_,m.row 0 rfl rfl (Nat.le_of_ble_eq_true rfl),_,m.row 0 rfl rfl (Nat.le_of_ble_eq_true rfl),_,m.cell 0 rfl rfl,_,m.cell 0 rfl rfl,?_⟩
 refine(OU (to:=[bj,aY,bz,bq,bU,aV]) (fr:=[b0,b8,bO,cd,cf,cj]) 148 m rfl rfl ht hs).mono ?_
 rintro _ g2 ⟨a2,aG,cD,rfl,m,aM⟩
 refine⟨_,_,_,_,rfl,true,rfl,aZ rfl ?_⟩
 refine⟨λay bI c' i h=>∃(k:Nat) (bn:ao),i=k/\k<=8/\bI=20+k/\ai W h (bn::[(al,js [bj,aY,bz,bq,bU,aV] [b0,b8,bO,cd,cf,cj] tid sq mp,304)]::G)/\au ay bI c' 1 (ints .u8 (k5 148 [bj,aY,bz,bq,bU,aV] [b0,b8,bO,cd,cf,cj] tid sq++oD mp k)) bn,λ_ _ _ i _=>(8 -i).toNat,⟨0,cD,rfl,by omega,rfl,m,by simpa[oD]using aM⟩,λ_=>?_⟩
 rintro ay bI c' _ g3 ⟨k,bn,rfl,I,rfl,m,o⟩
 refine aC (λq=>?_) λq=>?_
 ·obtain⟨w1,w2,kb⟩:=Vz (show k<8 by omega)
  rw[w1,kb]
  refine⟨_,m.cell 1 rfl rfl,⟨by omega,by simp only[nW];omega⟩,?_⟩
  rw[pI]
  refine o.s4 m rfl (by simp[Value.oneCell']) (by omega) (by decide) λa4 c7 r3 g4 m4 hF=>?_
  refine⟨⟨k+1,r3,by omega,by omega,by omega,m4,?_⟩,by dsimp only;omega⟩
  rw[TB,<-List.append_assoc,kI (l:=_++oD mp k)]
  exact hF
 ·obtain rfl:k=8:=by omega
  have nz:au ay (r7 [bj,aY,bz,bq,bU,aV] [b0,b8,bO,cd,cf,cj] tid sq mp).length c' 1 (ints .u8 (r7 [bj,aY,bz,bq,bU,aV] [b0,b8,bO,cd,cf,cj] tid sq mp)) bn:=by rw[hL];exact o
  obtain⟨W',hl,m9,CO⟩:=w5 nz m
  exact⟨W',ay,c',hl,by rw[hL],m9.aB,CO⟩
theorem ajC (m:ai W h G) (h1:to.length=6) (h2:fr.length=6) (ht:0<=tid/\tid<=7) (hs:0<=sq/\sq<=4095):
 aj Tryz.prog 223 #[.agg (js to fr tid sq mp).toArray] h (BD W G (r7 to fr tid sq mp) λv=> .tuple #[v, .int .i64 0]):=by
 have hL:=Oj (tid:=tid) (sq:=sq) (mp:=mp) h1 h2
 obtain⟨bj,aY,bz,bq,bU,aV,rfl⟩:=fV h1
 obtain⟨b0,b8,bO,cd,cf,cj,rfl⟩:=fV h2
 refine aoN _ _ _ ?_
 intro al g1 af ag
 replace m:=m.push ag af
 refine⟨_,m.cell 0 rfl rfl,U7 ⟨ht.1,ht.2⟩ ⟨_,rfl,aZ rfl ?_⟩⟩
 refine⟨_,m.cell 0 rfl rfl,U7 ⟨hs.1,hs.2⟩ ⟨_,rfl,aZ rfl ?_⟩⟩
 refine⟨_,m.row 0 rfl rfl (Nat.le_of_ble_eq_true rfl),_,m.row 0 rfl rfl (Nat.le_of_ble_eq_true rfl),_,m.cell 0 rfl rfl,_,m.cell 0 rfl rfl,?_⟩
 intro aP g2 f1 f2
 have m2:=m.push f2 f1
 have aM:au (some ⟨aP,0,none⟩) 4 4 1 (ints .u8 [148,0,0,0]) [(aP,ints .u8 [148,0,0,0],5)]:=au.wb rfl
 refine(UZ (xs:=[bj,aY,bz,bq,bU,aV]) (bs:=[148,0,0,0]) aM m2 rfl (Nat.le_of_ble_eq_true rfl)).mono ?_
 rintro _ h3 ⟨a3,bd,mT,rfl,m3,cb⟩
 refine⟨_,_,_,rfl,m3.cell 1 rfl rfl,m3.cell 1 rfl rfl,m3.row 1 rfl rfl (Nat.le_of_ble_eq_true rfl),?_⟩
 refine(UZ (xs:=[b0,b8,bO,cd,cf,cj]) (bs:=[148,0,0,0]++[bj,aY,bz,bq,bU,aV]) cb m3 rfl (Nat.le_of_ble_eq_true rfl)).mono ?_
 rintro _ h4 ⟨a4,c7,r3,rfl,m4,hF⟩
 refine⟨_,_,_,rfl,m4.cell 1 rfl rfl,m4.cell 1 rfl rfl,?_⟩
 rw[mP (show fits .i64 (tid*4096) by simp only[fits];omega),mP (show fits .i64 (4+tid*4096) by simp only[fits];omega),mP (show fits .i64 (sq*16) by simp only[fits];omega)]
 refine(Va (bs:=[148,0,0,0]++[bj,aY,bz,bq,bU,aV]++[b0,b8,bO,cd,cf,cj]) (4+tid*4096) hF m4 (Nat.le_of_ble_eq_true rfl)).mono ?_
 rintro _ aA ⟨a5,eK,IC,rfl,m5,kL⟩
 refine⟨_,_,_,rfl,m5.cell 1 rfl rfl,?_⟩
 refine(Va (bs:=[148,0,0,0]++[bj,aY,bz,bq,bU,aV]++[b0,b8,bO,cd,cf,cj]++[(4+tid*4096)%256,(4+tid*4096)/256%256]) (sq*16) kL m5 (Nat.le_of_ble_eq_true rfl)).mono ?_
 rintro _ aU ⟨vG,nc,ID,rfl,m6,nZ⟩
 refine⟨_,_,_,rfl,?_⟩
 refine⟨λay bI c' i h=>∃(k:Nat) (bn:ao),i=k/\k<=8/\bI=20+k/\ai W h (bn::[(al,js [bj,aY,bz,bq,bU,aV] [b0,b8,bO,cd,cf,cj] tid sq mp,304)]::G)/\au ay bI c' 1 (ints .u8 (k5 148 [bj,aY,bz,bq,bU,aV] [b0,b8,bO,cd,cf,cj] tid sq++oD mp k)) bn,λ_ _ _ i _=>(8 -i).toNat,⟨0,ID,rfl,by omega,rfl,m6,by simpa[oD,k5]using nZ⟩,λ_=>?_⟩
 rintro ay bI c' _ g3 ⟨k,bn,rfl,I,rfl,m,o⟩
 refine aC (λq=>?_) λq=>?_
 ·obtain⟨w1,w2,kb⟩:=Vz (show k<8 by omega)
  rw[w1,w2,kb]
  refine⟨_,m.cell 1 rfl rfl,⟨by omega,by simp only[nW];omega⟩,?_⟩
  rw[pI]
  refine o.s4 m rfl (by simp[Value.oneCell']) (by omega) (by decide) λa4 c7 r3 g4 m4 hF=>?_
  refine⟨⟨k+1,r3,by omega,by omega,by omega,m4,?_⟩,by dsimp only;omega⟩
  rw[TB,<-List.append_assoc,kI (l:=_++oD mp k)]
  exact hF
 ·obtain rfl:k=8:=by omega
  have nz:au ay (r7 [bj,aY,bz,bq,bU,aV] [b0,b8,bO,cd,cf,cj] tid sq mp).length c' 1 (ints .u8 (r7 [bj,aY,bz,bq,bU,aV] [b0,b8,bO,cd,cf,cj] tid sq mp)) bn:=by rw[hL];exact o
  obtain⟨W',hl,m9,CO⟩:=w5 nz m
  exact⟨W',ay,c',hl,by rw[hL],m9.aB,CO⟩
end
end Go.Proofs.YtjlkfjnfnonekaaGreatDoor
set_option maxRecDepth 8000
namespace Go.Proofs.YtjlkfjnfnonekaaGreatDoor
open Go.Vc
theorem aiq {mp:Int} {k:Nat} (h0:0<=mp) (I:k<8):fits .u64 (mp/dU (8*(k:Int))%256*dU (8*(k:Int)))/\bits .or .u64 (mp%dU (8*(k:Int))) (mp/dU (8*(k:Int))%256*dU (8*(k:Int)))=mp%dU (8*((k+1:Nat):Int)):=by
 obtain⟨m,rfl⟩:=Int.eq_ofNat_of_zero_le h0
 rw[yU,yU]
 have hp:2^(8*(k+1))=2^(8*k)*256:=by rw[Nat.mul_succ,Nat.pow_add]
 have hle:2^(8*(k+1))<=18446744073709551616:=by
  have:=Nat.pow_le_pow_right (n:=2) (by decide) (show 8*(k+1)<=64 by omega)
  exact this
 have sw:0<2^(8*k):=Nat.pow_pos (by decide)
 obtain⟨p,mr⟩:∃p,p=2^(8*k):=⟨_,rfl⟩
 have af:((m:Int)/((2^(8*k):Nat):Int)%256*((2^(8*k):Nat):Int))=((m/p%256*p:Nat):Int):=by
  rw[<-mr];simp
 have ag:((m:Int)%((2^(8*k):Nat):Int))=((m%p:Nat):Int):=by rw[<-mr];simp
 have h1:m/p%256<256:=Nat.mod_lt _ (by decide)
 have h2:m/p%256*p+p<=256*p:=by
  have:=Nat.mul_le_mul_right p (show m/p%256+1<=256 by omega)
  rw[Nat.add_mul,Nat.one_mul]at this;exact this
 have h3:m%p<p:=Nat.mod_lt _ (by omega)
 have h4:256*p<=18446744073709551616:=by rw[mr,Nat.mul_comm,<-hp];exact hle
 rw[af,ag]
 refine⟨by simp only[fits];omega,?_⟩
 rw[PB (by omega) (by omega),hp,<-mr]
 have aA:m%p|||m/p%256*p=m%p+m/p%256*p:=by
  have:=T7 (a:=m/p%256) (b:=m%p) (i:=8*k) (by rw[<-mr];exact h3)
  rwa[<-mr]at this
 rw[aA]
 have aU:m%(p*256)=m%p+p*(m/p%256):=Nat.mod_mul
 rw[Nat.mul_comm p]at aU
 have:((m:Int)%((p*256:Nat):Int))=((m%(p*256):Nat):Int):=by simp
 rw[this,Nat.mul_comm (m/p%256)]
 rw[Nat.mul_comm]at aU
 rw[aU,Nat.mul_comm p]
theorem agJ {mp:Int} {k:Nat} (I:k<8):(oD mp 8)[k]?=some (mp/dU (8*(k:Int))%256):=by
 simp[oD,I]
theorem xH (to fr:List Int) (tid sq mp:Int):∀u∈js to fr tid sq mp,u.oneCell'=true:=by
 intro u hu
 unfold js at hu
 simp only[List.mem_append]at hu
 rcases hu with hu|hu|hu
 ·exact dM u hu
 ·exact dM u hu
 ·simp only[List.mem_cons,List.not_mem_nil,or_false]at hu
  rcases hu with rfl|rfl|rfl<;>rfl
end Go.Proofs.YtjlkfjnfnonekaaGreatDoor
namespace Go.Proofs.YtjlkfjnfnonekaaGreatDoor
open Go.Vc
def Fg (a b:Int):Int:=bits .or .u64 a b
structure cu where
 on:Bool
 start:Int
 size:Int
 fr:Int
 bits:Int
 kept:List bQ
 came:Bool
 last:Int
def y9:cu:=⟨false,0,0,0,0,[],false,0⟩
def nX (l:List bQ) (n:Int):Option bQ:=l.find? λf=>f.sq==n
def lY (l:List bQ) (n:Int):List bQ:=l.eraseP λf=>f.sq==n
def mN:Nat->List bQ->Int->List bQ×List bQ
 |0,l,_=>([],l)
 |d+1,l,s=>if l.length=0 then([],l)else match nX l s with
  |none=>mN d l (fz s 1)
  |some f=>(f::(mN d (lY l s) (fz s 1)).1,(mN d (lY l s) (fz s 1)).2)
def ea:Nat->List bQ->Int->List bQ×List bQ×Int
 |0,l,s=>([],l,s)
 |n+1,l,s=>match nX l s with
  |none=>([],l,s)
  |some f=>(f::(ea n (lY l s) (fz s 1)).1,(ea n (lY l s) (fz s 1)).2)
def cu.up (x:cu) (to:Int):List bQ×cu:=((mN (cC x.start to).toNat x.kept x.start).1,{x with start:=to,kept:=(mN (cC x.start to).toNat x.kept x.start).2})
def cu.run (x:cu):List bQ×cu:=((ea (x.kept.length+1) x.kept x.start).1,{x with start:=(ea (x.kept.length+1) x.kept x.start).2.2,kept:=(ea (x.kept.length+1) x.kept x.start).2.1})
def cu.move (x:cu) (n:Int):cu:={x with fr:=n,bits:=if 64<=cC x.fr n then 0 else x.bits/dU (cC x.fr n)}
def cu.mark (x:cu) (n:Int):cu:=if cC x.fr n<64 then{x with bits:=Fg x.bits (1*dU (cC x.fr n))}else x
def cu.kO (x:cu) (n:Int):cu:=(if 64<=cC x.fr n/\cC x.fr n<2048 then x.move (fz n (-63))else x).mark n
def cu.put (x:cu) (f:bQ):cu:=if(nX x.kept f.sq).isSome then x else{x with kept:=x.kept++[f]}
def cu.Nv (x:cu) (f:bQ):List bQ×cu:=(if f.rt&&(x.came&&(x.last==f.sq))then[]else[f],{x with came:=true,last:=f.sq})
def cu.Nt (x:cu) (f:bQ):List bQ×cu:=
 if 2048<=cC x.start f.sq then([],x)else
 if x.size<=cC x.start f.sq then((x.up (fz f.sq (1 -x.size))).1++(((x.up (fz f.sq (1 -x.size))).2.put f).run).1,(((x.up (fz f.sq (1 -x.size))).2.put f).run).2)
 else((x.put f).run.1,(x.put f).run.2)
def cu.take (x:cu) (f:bQ):List bQ×cu:=if x.on then(x.kO f.sq).Nt f else x.Nv f
structure BL (x:cu):Prop where
 s:0<=x.start/\x.start<=4095
 f:0<=x.fr/\x.fr<=4095
 l:0<=x.last/\x.last<=4095
 b:0<=x.bits/\x.bits<18446744073709551616
 z:0<=x.size/\x.size<=64
 k:∀f∈x.kept,gK f
 n:x.kept.length<=4096
theorem alF {x:cu} {f:bQ} (h:BL x) (hf:gK f):BL (x.Nv f).2:=⟨h.s,h.f,⟨hf.rK,hf.s1⟩,h.b,h.z,h.k,h.n⟩
def TG:List Int:=[2,0,0,0,0,9]
def PC:List Int:=[2,0,0,0,1,0]
end Go.Proofs.YtjlkfjnfnonekaaGreatDoor
set_option maxRecDepth 8000
namespace Go.Proofs.YtjlkfjnfnonekaaGreatDoor
open Go.Vc
def Ba (size:Int):List Value:=ints .u8 TG++(ints .u8 PC++[.int .i64 size])
def HY (size:Int) (css:List (List Value)) (t:Nat) (cs:List Value):List Value:=fi (Ba size) (css.set t cs) []
def xy (W:Wd):List MapEntry->List bQ->Prop
 |[],l=>l=[]
 |e::es,l=>∃f r cs,l=f::r/\e.key= .int .i64 f.sq/\e.val= .agg cs.toArray/\ir W f cs/\xy W es r
structure W7 (W:Wd) (r:Nat) (l:List bQ):Prop where
 v:∃es c,W r=some (.map es.toArray c)/\xy W es l/\(∀e∈es,e.born<c)/\(es.map (·.born)).Nodup
def ER (W:Wd) (wR:Option Nat) (l:List bQ):Prop:=match wR with
 |none=>l=[]
 |some r=>W7 W r l
structure asZ (W:Wd) (h:J) (b:Nat) (T:TypeId) (size:Int) (css:List (List Value)) (t:Nat) (cs:List Value) (G:List ao):Prop where
 m:ai W h ([(b,HY size css t cs,T)]::G)
 hn:∀c∈css,c.length=8
 hl:css.length=8
 ht:t<8
 hc:cs.length=8
section
variable{W W':Wd} {h h':J} {b t j n:Nat} {T:TypeId} {size:Int} {css:List (List Value)} {cs us vs:List Value} {G G':List ao} {v:Value} {x:cu} {f:bQ} {wR:Option Nat} {Q:J->Prop} {E:ao}
theorem asZ.dA (s:asZ W h b T size css t cs G):t<css.length:=by rw[s.hl];exact s.ht
theorem asZ.get (s:asZ W h b T size css t cs G) (j:Nat) (hv:cs[j]?=some v):cell h b (13+t*8+j)=some v:=
 s.m.sj 0 rfl s.hn s.dA s.hc j rfl hv
theorem asZ.set (s:asZ W h b T size css t cs G) (j:Nat) (ah:Nat.ble (j+1) 8=true) (q:∀h1,asZ W h1 b T size css t (cs.set j v) G->Q h1):wr h b (13+t*8+j)/\∀h1,h1=b3 h b (13+t*8+j) v->Q h1:=
 s.m.ye 0 rfl s.hn s.dA s.hc j rfl ah λh1 m=>q h1 ⟨m,s.hn,s.hl,s.ht,by rw[List.length_set];exact s.hc⟩
theorem asZ.c0 (s:asZ W h b T size css t cs G):c0 h b (13+t*8) 8:=s.m.Rr 0 rfl s.hn s.dA s.hc 0 rfl rfl
theorem asZ.bm (s:asZ W h b T size css t cs G) (hu:us.length=8) (e:h'=bm h b (13+t*8) us):asZ W h' b T size css t us G:=by
 have m:=s.m.Rq 0 rfl s.hn s.dA s.hc 0 rfl (by omega) e
 rw[tT (by rw[hu,s.hc])]at m
 exact⟨m,s.hn,s.hl,s.ht,hu⟩
theorem asZ.mem (s:asZ W h b T size css t cs G) (m:ai W' h' ([(b,HY size css t cs,T)]::G')):asZ W' h' b T size css t cs G':=⟨m,s.hn,s.hl,s.ht,s.hc⟩
theorem asZ.push {al:Nat} {ek:TypeId} (s:asZ W h b T size css t cs G) (af:al=h.size) (ag:h'=h.push (.cells vs.toArray ek)):asZ W h' b T size css t cs ([(al,vs,ek)]::G):=
 ⟨u3 (s.m.push ag af),s.hn,s.hl,s.ht,s.hc⟩
theorem asZ.drop (s:asZ W h b T size css t cs (E::G)):asZ W h b T size css t cs G:=⟨(u3 s.m).aB,s.hn,s.hl,s.ht,s.hc⟩
end
theorem sl {f:bQ} {v:Value} (hf:gK f) (j:Nat) {u:Value} (hu:[Value.int .i64 f.tid, .int .i64 f.sq, .bool f.rt, .bool f.hR, .bool f.fC,v][j]?=some u):(ef f v)[18+j]?=some u:=by
 unfold ef
 rw[<-List.append_assoc,<-List.append_assoc,List.getElem?_append_right (by simp[ints,hf.ca,hf.aF,hf.dw])]
 rw[show(ints .u8 f.to++ints .u8 f.bss++ints .u8 f.fr).length=18 by simp[ints,hf.ca,hf.aF,hf.dw],Nat.add_sub_cancel_left];exact hu
theorem v8 {f:bQ} {v:Value} (hf:gK f):(ef f v).length=24:=by simp[ef,ints,hf.ca,hf.aF,hf.dw]
end Go.Proofs.YtjlkfjnfnonekaaGreatDoor
namespace Go.Proofs.YtjlkfjnfnonekaaGreatDoor
open Go.Vc
def Q0:List Nat:=[7,6,0,5,11]
def ud (W:Wd):Prop:=∀g∈Q0,∃a,bT W g 0=some (ptE a)
theorem ud.cl {W W':Wd} (h:ud W) (k:∀b o v,bT W b o=some v->bT W' b o=some v):ud W':= λg hg=>by
 obtain⟨a,e⟩:=h g hg;exact⟨a,k _ _ _ e⟩
theorem Snt.Rc {W:Wd} {ads:List Addr} (s:Snt W ads):ud W:=by
 intro g hg
 have k:∀i,errG[i]?=some g->∃a,bT W g 0=some (ptE a):= λi hi=>by
  obtain⟨a,ha,-⟩:=s.get (i:=i) (List.getElem?_eq_some_iff.1 hi).1
  exact⟨a,s.v i a g ha hi⟩
 unfold Q0 at hg
 simp only[List.mem_cons,List.not_mem_nil,or_false]at hg
 rcases hg with rfl|rfl|rfl|rfl|rfl
 all_goals first|exact k 0 rfl|exact k 1 rfl|exact k 2 rfl|exact k 3 rfl|exact k 4 rfl|exact k 5 rfl|exact k 6 rfl
end Go.Proofs.YtjlkfjnfnonekaaGreatDoor
