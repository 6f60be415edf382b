import Derived.Test.YtjlkfjnfnonekaaGreatDoorM14
import Derived.Test.YtjlkfjnfnonekaaGreatDoorM28
import Derived.Test.YtjlkfjnfnonekaaGreatDoorM18
import Derived.Laws.Entries
import Derived.Test.YtjlkfjnfnonekaaGreatDoorM16
set_option linter.all false
set_option maxRecDepth 8000
namespace Go.Proofs.YtjlkfjnfnonekaaGreatDoor.Pl
open Go.Vc
def p8:List (Int×Int)->List Value
 |[]=>[]
 |x::r=> .int .i64 x.1:: .int .i64 x.2::p8 r
theorem Rf:∀l:List (Int×Int),(p8 l).length=l.length*2
 |[]=>rfl
 |x::r=>by simp only[p8,List.length_cons,Rf r];omega
def q3 (h:J) (a:Option Addr) (l:List (Int×Int)):Prop:=
 ∀(i:Nat) (x:Int×Int),l[i]?=some x->∃b o,a=some ⟨b,o,none⟩/\row h b (o+i*2) 2=some [.int .i64 x.1, .int .i64 x.2]
theorem q3.mem {h0 h:J} {S:List Nat} {L:List (Nat×List Value×TypeId)} {a:Option Addr} {l:List (Int×Int)} (hi:q3 h0 a l) (m:Mem h0 h S L) (b6:l≠[]->∀b∈lT a,b∉S):q3 h a l:=by
 intro i x hx
 obtain⟨b,o,rfl,h2⟩:=hi i x hx
 exact⟨b,o,rfl,m.row (b6 (by rintro rfl;simp at hx) b (by simp[lT])) h2⟩
theorem q3.lt {h:J} {a:Option Addr} {l:List (Int×Int)} (hi:q3 h a l) (hl:l≠[]):∀b∈lT a,b<h.size:=by
 intro b hb
 obtain⟨x,hx⟩:∃x,l[0]?=some x:=⟨_,List.getElem?_eq_getElem (List.length_pos_iff.2 hl)⟩
 obtain⟨c,o,rfl,h2⟩:=hi 0 x hx
 simp[lT]at hb;subst hb
 have h3:=(Bd.1 h2).2 0 _ rfl
 rcases Nat.lt_or_ge b h.size with h'|h'
 ·exact h'
 ·unfold cell at h3;rw[Array.getElem?_eq_none h']at h3;cases h3
def jD (now tg iv:Int) (a:Option Addr) (len cap:Nat) (s:e6):List Value:=
 [.int .i64 s.first, .int .i64 s.drop, .int .u32 s.count, .int .u32 s.last, .bool s.dropping, .int .i64 now, .int .i64 tg, .int .i64 iv, .int .i64 s.bytes, .slice a len cap, .int .i64 s.pos]
section
variable{now tg iv:Int} {a:Option Addr} {cap:Nat} {l:List (Int×Int)} {s:e6} {h:J} {b:Nat} {T:TypeId}
theorem LG (hE:oT now tg iv l) (hb:cT h b (jD now tg iv a l.length cap s) T) (hs:q3 h a l) (b6:l≠[]->b∉lT a)
 (f0:0<=s.first) (f1:s.first<=2251799813685248) (gO:-1152921504606846976<=s.bytes) (al:s.bytes<=1152921504606846976):
 aj Tryz.prog 301 #[.pointer (some ⟨b,0,none⟩)] h λv h'=>
  v= .tuple #[.bool (eD now tg iv l s).2.1, .bool (eD now tg iv l s).2.2]/\Mem h h' [b] [(b,jD now tg iv a l.length cap (eD now tg iv l s).1,T)]:=by
 obtain⟨cp,bC,t0,t1,i0,uX,len,Dl⟩:=hE
 refine anP _ _ _ ?_
 simp only[eu,Nat.zero_add]
 have m:=Mem.H2 hb
 unfold jD at m
 refine⟨_,Mem.cell m 0 rfl rfl,?_⟩
 refine⟨_,_,_,Mem.cell m 0 rfl rfl,?_⟩
 refine aC (λc=>?_) λc=>?_
 ·(refine Mem.store m 0 rfl (by simp only[List.length];decide) ?_;clear m;intro _ m;simp only[List.set_cons_zero,List.set_cons_succ]at m)
  have e:l[s.pos]?=none:=List.getElem?_eq_none (by omega)
  refine⟨by simp only[eD,e],?_⟩
  simp only[eD,e];exact m
 ·have cn:s.pos<l.length:=by omega
  obtain⟨x,hx⟩:∃x,l[s.pos]?=some x:=⟨_,List.getElem?_eq_getElem cn⟩
  obtain⟨oR,bj,aY⟩:=Dl x (List.mem_of_getElem? hx)
  obtain⟨ff,ar,rfl,gE⟩:=hs _ _ hx
  refine⟨_,_,_,Mem.cell m 0 rfl rfl,?_⟩
  refine⟨_,Mem.cell m 0 rfl rfl,?_⟩
  refine⟨⟨by omega,by omega⟩,?_⟩
  simp only[Int.toNat_natCast]
  refine⟨_,gE,?_⟩
  intro pQ h2 h8 gl
  replace m:=m.push gl h8
  refine⟨⟨rfl,(m.da 0 rfl).c0 (by decide),by simp[Value.oneCell']⟩,?_⟩
  intro h3 o5
  replace m:=m.bm 0 rfl o5
  simp only[List.set_cons_zero,List.set_cons_succ,bG]at m
  refine⟨_,Mem.cell m 1 rfl rfl,?_⟩
  refine⟨_,Mem.cell m 0 rfl rfl,?_⟩
  refine⟨by simp only[fits];omega,?_⟩
  (refine Mem.store m 1 rfl (by simp only[List.length];decide) ?_;clear m;intro _ m;simp only[List.set_cons_zero,List.set_cons_succ]at m)
  refine⟨_,Mem.cell m 1 rfl rfl,?_⟩
  refine⟨_,Mem.cell m 0 rfl rfl,?_⟩
  refine⟨by simp only[fits];omega,?_⟩
  refine⟨_,Mem.cell m 1 rfl rfl,?_⟩
  refine aC (λaK=>?_) λaK=>?_
  ·(refine Mem.store m 1 rfl (by simp only[List.length];decide) ?_;clear m;intro _ m;simp only[List.set_cons_zero,List.set_cons_succ]at m)
   simp only[eD,hx]
   rw[if_pos (.inl aK)]
   exact⟨rfl,m.forget 0⟩
  ·refine⟨_,Mem.cell m 1 rfl rfl,?_⟩
   refine aC (λaG=>?_) λaG=>?_
   ·(refine Mem.store m 1 rfl (by simp only[List.length];decide) ?_;clear m;intro _ m;simp only[List.set_cons_zero,List.set_cons_succ]at m)
    simp only[eD,hx]
    rw[if_pos (.inr aG)]
    exact⟨rfl,m.forget 0⟩
   ·refine⟨_,Mem.cell m 1 rfl rfl,?_⟩
    simp only[eD,hx]
    rw[if_neg (by omega)]
    refine aC (λbd=>?_) λbd=>?_
    ·refine⟨_,Mem.cell m 1 rfl rfl,?_⟩
     refine⟨_,Mem.cell m 1 rfl rfl,?_⟩
     refine⟨by simp only[fits];omega,?_⟩
     (refine Mem.store m 1 rfl (by simp only[List.length];decide) ?_;clear m;intro _ m;simp only[List.set_cons_zero,List.set_cons_succ]at m)
     rw[if_pos bd]
     exact⟨rfl,m.forget 0⟩
    ·refine⟨_,Mem.cell m 1 rfl rfl,?_⟩
     refine⟨_,Mem.cell m 1 rfl rfl,?_⟩
     rw[if_neg bd]
     exact⟨rfl,m.forget 0⟩
theorem B1 (b6:l≠[]->b∉lT a):l≠[]->∀c∈lT a,c∉[b]:= λhl c hc wk=>b6 hl (by simp at wk;exact wk▸hc)
theorem oU.look (hE:oT now tg iv l) (I:oU l s) (hp:s.pos+1<=l.length):oU l (eD now tg iv l {s with pos:=s.pos+1,count:=kR s.count}).1:=by
 obtain⟨af,ag,aI,cx,cy⟩:=sJ now tg iv l {s with pos:=s.pos+1,count:=kR s.count}
 obtain⟨f0,f1⟩:=LF (s:={s with pos:=s.pos+1,count:=kR s.count}) hE I.f0 I.f1
 obtain⟨gO,al⟩:=Tx (s:={s with pos:=s.pos+1,count:=kR s.count}) hE
 obtain⟨i1,ei⟩:=ami I.cW I.aK
 have:=I.gO
 have:=I.al
 dsimp only at*
 exact⟨f0,f1,by rw[af];exact I.d0,by rw[af];exact I.d1,by rw[ag];exact i1,by rw[ag];exact ei,by rw[aI];exact I.lF,by rw[aI];exact I.ca,by rw[cy];omega,by omega,by rw[cy];omega⟩
def posOf (h:J) (b:Nat):Nat:=match cell h b 10 with|some (.int _ n)=>n.toNat|_=>0
theorem agS (hE:oT now tg iv l) (hb:cT h b (jD now tg iv a l.length cap s) T) (hs:q3 h a l) (b6:l≠[]->b∉lT a) (I:oU l s) (hp:s.pos<l.length):
 aj Tryz.prog 302 #[.pointer (some ⟨b,0,none⟩)] h λv h'=>
  v= .bool (iF now tg iv l (l.length+1) s true).2/\Mem h h' [b] [(b,jD now tg iv a l.length cap (iF now tg iv l (l.length+1) s true).1,T)]:=by
 refine anQ _ _ _ ?_
 simp only[eu,Nat.zero_add]
 refine⟨λis h1=>∃t n,Mem h h1 [b] [(b,jD now tg iv a l.length cap t,T)]/\oU l t/\(t.dropping=true->t.pos<l.length)/\l.length+1<=n+t.pos/\iF now tg iv l n t is=iF now tg iv l (l.length+1) s true,
  λ_ h1=>l.length+1 -posOf h1 b,⟨s,l.length+1,Mem.H2 hb,I,λ_=>hp,by omega,rfl⟩,λ_=>?_⟩
 rintro is h1 ⟨t,n,m,wO,GL,asa,Tl⟩
 rw[<-Tl]
 clear Tl
 have sw:posOf h1 b=t.pos:=by unfold posOf;rw[m.cell (o:=10) 0 rfl rfl];rfl
 dsimp only
 rw[sw]
 have len:=hE.len
 unfold jD at m
 refine⟨_,Mem.cell m 0 rfl rfl,?_⟩
 refine⟨_,Mem.cell m 0 rfl rfl,?_⟩
 have fin:¬(t.drop<=now/\t.dropping=true)->iF now tg iv l n t is=(t,is):= λhc=>by
  cases n with
  |zero=>rfl
  |succ n=>simp only[iF];rw[if_neg hc]
 refine aC (λc=>?_) λc=>?_
 ·refine⟨_,Mem.cell m 0 rfl rfl,?_⟩
  refine bH (λaG=>?_) λaG=>?_
  ·have cn:=GL aG
   obtain⟨n,rfl⟩:∃k,n=k+1:=⟨n -1,by omega⟩
   simp only[iF]
   rw[if_pos ⟨c,aG⟩]
   obtain⟨af,ag,aI,cx,cy⟩:=sJ now tg iv l {t with pos:=t.pos+1,count:=kR t.count}
   have bD:=wO.look hE (by omega)
   have ez:=wP now tg iv l {t with pos:=t.pos+1,count:=kR t.count}
   have Sc:=agm now tg iv l {t with pos:=t.pos+1,count:=kR t.count}
   refine⟨_,Mem.cell m 0 rfl rfl,?_⟩
   refine⟨by simp only[fits];omega,?_⟩
   (refine Mem.store m 0 rfl (by simp only[List.length];decide) ?_;clear m;intro _ m;simp only[List.set_cons_zero,List.set_cons_succ]at m)
   refine⟨λh'=>Mem h h' [b] [(b,jD now tg iv a l.length cap {t with pos:=t.pos+1,count:=kR t.count},T)],?_,λ_=>?_⟩
   ·refine⟨_,Mem.cell m 0 rfl rfl,?_⟩
    refine aC (λbd=>?_) λbd=>?_
    ·refine⟨_,Mem.cell m 0 rfl rfl,?_⟩
     refine⟨by simp only[fits];have:=wO.cW;omega,?_⟩
     (refine Mem.store m 0 rfl (by simp only[List.length];decide) ?_;clear m;intro _ m;simp only[List.set_cons_zero,List.set_cons_succ]at m)
     unfold kR;rw[if_pos bd];exact m
    ·unfold kR;rw[if_neg bd];exact m
   ·clear m
    intro h4 m
    have gO:=wO.gO
    have al:=wO.al
    refine(LG hE (m.da 0 rfl) (hs.mem m (B1 b6)) b6 wO.f0 wO.f1 (by simp;omega) (by simp;omega)).mono ?_
    rintro _ aA ⟨rfl,ax⟩
    replace m:=m.zO 0 rfl ax 0 rfl
    clear ax
    simp only[List.set_cons_zero]at m
    generalize eD now tg iv l {t with pos:=t.pos+1,count:=kR t.count}=r at*
    obtain⟨u,i2,aF⟩:=r
    dsimp only at*
    refine⟨_,_,rfl,?_⟩
    unfold jD at m
    have R1:∀aU,Mem h aU [b] [(b,jD now tg iv a l.length cap {u with dropping:=false},T)]->¬(i2=true/\aF=true)->
     (∃aR wS,Mem h aU [b] [(b,jD now tg iv a l.length cap aR,T)]/\oU l aR/\(aR.dropping=true->aR.pos<l.length)/\l.length+1<=wS+aR.pos/\iF now tg iv l wS aR i2=(if i2=true/\aF=true then iF now tg iv l n {u with drop:=tL u.drop iv u.count.toNat} i2 else iF now tg iv l n {u with dropping:=false} i2))/\l.length+1 -posOf aU b<l.length+1 -t.pos:=by
     intro aU m6 hn
     refine⟨⟨{u with dropping:=false},n,m6,⟨bD.f0,bD.f1,bD.d0,bD.d1,bD.cW,bD.aK,bD.lF,bD.ca,bD.gO,bD.al,bD.p⟩,λhf=>(by cases hf),by simp;omega,by rw[if_neg hn]⟩,?_⟩
     have:posOf aU b=u.pos:=by unfold posOf;rw[m6.cell (o:=10) 0 rfl rfl];rfl
     rw[this];omega
    refine bH (λc7=>?_) λc7=>?_
    ·(refine Mem.store m 0 rfl (by simp only[List.length];decide) ?_;clear m;intro _ m;simp only[List.set_cons_zero,List.set_cons_succ]at m)
     exact R1 _ m (by simp at c7;simp[c7])
    ·refine bH (λeK=>?_) λeK=>?_
     ·(refine Mem.store m 0 rfl (by simp only[List.length];decide) ?_;clear m;intro _ m;simp only[List.set_cons_zero,List.set_cons_succ]at m)
      exact R1 _ m (by simp at eK;simp[eK])
     ·refine⟨_,Mem.cell m 0 rfl rfl,?_⟩
      refine⟨_,Mem.cell m 0 rfl rfl,?_⟩
      refine⟨_,Mem.cell m 0 rfl rfl,?_⟩
      refine(TQ _ _ _ _ bD.cW bD.aK).ret ⟨_,rfl,?_⟩
      (refine Mem.store m 0 rfl (by simp only[List.length];decide) ?_;clear m;intro _ m;simp only[List.set_cons_zero,List.set_cons_succ]at m)
      obtain⟨z0,cN⟩:=LV u.drop iv u.count.toNat
      have tv:i2=true:=by simpa using c7
      refine⟨⟨{u with drop:=tL u.drop iv u.count.toNat},n,m,⟨bD.f0,bD.f1,z0,cN,bD.cW,bD.aK,bD.lF,bD.ca,bD.gO,bD.al,bD.p⟩,λ_=>?_,by simp;omega,by rw[if_pos (by simp at c7 eK;simp[c7,eK])]⟩,?_⟩
      ·rw[tv]at ez;simp at ez⊢;omega
      ·have:posOf ‹_› b=u.pos:=by unfold posOf;rw[m.cell (o:=10) 0 rfl rfl];rfl
       rw[this];omega
  ·rw[fin (by simp[aG])]
   exact⟨rfl,m⟩
 ·rw[fin (by simp;omega)]
  exact⟨rfl,m⟩
theorem wrap_u32 (n:Int):IntKind.u32.wrap n=wrap32 n:=by
 unfold IntKind.wrap wrap32
 rw[show IntKind.u32.signed=false from rfl];rfl
theorem Qq (now iv:Int) (t:e6):0<=uw now iv t/\uw now iv t<4294967296:=by
 unfold uw wrap32;split<;>omega
theorem Y5 (hE:oT now tg iv l) (hb:cT h b (jD now tg iv a l.length cap s) T) (hs:q3 h a l) (b6:l≠[]->b∉lT a) (I:oU l s) (hp:s.pos<l.length):
 aj Tryz.prog 303 #[.pointer (some ⟨b,0,none⟩)] h λv h'=>
  v= .bool (re now tg iv l s).2/\Mem h h' [b] [(b,jD now tg iv a l.length cap (re now tg iv l s).1,T)]:=by
 refine anO _ _ _ ?_
 simp only[eu,Nat.zero_add]
 have m:=Mem.H2 hb
 have len:=hE.len
 unfold jD at m
 refine⟨_,Mem.cell m 0 rfl rfl,?_⟩
 refine⟨by simp only[fits];omega,?_⟩
 (refine Mem.store m 0 rfl (by simp only[List.length];decide) ?_;clear m;intro _ m;simp only[List.set_cons_zero,List.set_cons_succ]at m)
 have gO:=I.gO
 have al:=I.al
 replace m:Mem h _ [b] [(b,jD now tg iv a l.length cap {s with pos:=s.pos+1},T)]:=m
 refine(LG hE (m.da 0 rfl) (hs.mem m (B1 b6)) b6 I.f0 I.f1 (by simp;omega) (by simp;omega)).mono ?_
 rintro _ aA ⟨rfl,ax⟩
 replace m:=m.zO 0 rfl ax 0 rfl
 clear ax
 simp only[List.set_cons_zero]at m
 unfold re
 obtain⟨af,ag,aI,cx,cy⟩:=sJ now tg iv l {s with pos:=s.pos+1}
 generalize eD now tg iv l {s with pos:=s.pos+1}=r at*
 obtain⟨t,i2,aF⟩:=r
 dsimp only at*
 refine⟨_,_,rfl,?_⟩
 unfold jD at m
 (refine Mem.store m 0 rfl (by simp only[List.length];decide) ?_;clear m;intro _ m;simp only[List.set_cons_zero,List.set_cons_succ]at m)
 refine⟨_,Mem.cell m 0 rfl rfl,?_⟩
 refine⟨_,Mem.cell m 0 rfl rfl,?_⟩
 rw[wrap_u32]
 (refine Mem.store m 0 rfl (by simp only[List.length];decide) ?_;clear m;intro _ m;simp only[List.set_cons_zero,List.set_cons_succ]at m)
 have d0:=I.d0
 have d1:=I.d1
 have cp:=hE.cp
 have bC:=hE.bC
 have i0:=hE.i0
 have uX:=hE.uX
 refine⟨λh'=>Mem h h' [b] [(b,jD now tg iv a l.length cap {t with dropping:=true,count:=uw now iv t},T)],?_,λ_=>?_⟩
 ·unfold uw
  refine aC (λc=>?_) λc=>?_
  ·refine⟨_,Mem.cell m 0 rfl rfl,?_⟩
   refine⟨_,Mem.cell m 0 rfl rfl,?_⟩
   refine⟨by simp only[fits];omega,?_⟩
   refine⟨_,Mem.cell m 0 rfl rfl,?_⟩
   refine⟨by simp only[fits];omega,?_⟩
   refine aC (λaG=>?_) λaG=>?_
   ·(refine Mem.store m 0 rfl (by simp only[List.length];decide) ?_;clear m;intro _ m;simp only[List.set_cons_zero,List.set_cons_succ]at m)
    rw[if_pos ⟨c,aG⟩];exact m
   ·rw[if_neg (by omega)];exact m
  ·rw[if_neg (by omega)];exact m
 ·clear m
  intro aU m
  unfold jD at m
  obtain⟨z0,cN⟩:=Qq now iv t
  refine⟨_,Mem.cell m 0 rfl rfl,?_⟩
  (refine Mem.store m 0 rfl (by simp only[List.length];decide) ?_;clear m;intro _ m;simp only[List.set_cons_zero,List.set_cons_succ]at m)
  refine⟨_,Mem.cell m 0 rfl rfl,?_⟩
  refine⟨_,Mem.cell m 0 rfl rfl,?_⟩
  refine⟨_,Mem.cell m 0 rfl rfl,?_⟩
  refine(TQ _ _ _ _ z0 cN).ret ⟨_,rfl,?_⟩
  (refine Mem.store m 0 rfl (by simp only[List.length];decide) ?_;clear m;intro _ m;simp only[List.set_cons_zero,List.set_cons_succ]at m)
  exact⟨rfl,m⟩
theorem oU.first (hE:oT now tg iv l) (f0:0<=s.first) (f1:s.first<=2251799813685248) (d0:0<=s.drop) (d1:s.drop<=2251799813685248) (cW:0<=s.count) (aK:s.count<4294967296) (lF:0<=s.last) (ca:s.last<4294967296)
 (gO:0<=s.bytes) (al:s.bytes<=1099511627776) (hp:s.pos=0):oU l (eD now tg iv l s).1:=by
 obtain⟨af,ag,aI,cx,cy⟩:=sJ now tg iv l s
 obtain⟨g0,g1⟩:=LF (s:=s) hE f0 f1
 obtain⟨av,k1⟩:=Tx (s:=s) hE
 exact⟨g0,g1,by rw[af];exact d0,by rw[af];exact d1,by rw[ag];exact cW,by rw[ag];exact aK,by rw[aI];exact lF,by rw[aI];exact ca,by rw[cy];omega,by omega,by rw[cy];omega⟩
structure xw (s:e6):Prop where
 f0:0<=s.first
 f1:s.first<=2251799813685248
 d0:0<=s.drop
 d1:s.drop<=2251799813685248
 cW:0<=s.count
 aK:s.count<4294967296
 lF:0<=s.last
 ca:s.last<4294967296
 gO:0<=s.bytes
 al:s.bytes<=1099511627776
 p:s.pos=0
theorem xw.ok (hE:oT now tg iv l) (I:xw s):oU l (eD now tg iv l s).1:=oU.first hE I.f0 I.f1 I.d0 I.d1 I.cW I.aK I.lF I.ca I.gO I.al I.p
theorem akd (hE:oT now tg iv l) (hb:cT h b (jD now tg iv a l.length cap s) T) (hs:q3 h a l) (b6:l≠[]->b∉lT a) (I:xw s):
 aj Tryz.prog 300 #[.pointer (some ⟨b,0,none⟩)] h λv h'=>
  v= .bool (n2 now tg iv l s).2/\Mem h h' [b] [(b,jD now tg iv a l.length cap (n2 now tg iv l s).1,T)]:=by
 refine anR _ _ _ ?_
 simp only[eu,Nat.zero_add]
 have m:=Mem.H2 hb
 have len:=hE.len
 have gO:=I.gO
 have al:=I.al
 refine(LG hE (m.da 0 rfl) (hs.mem m (B1 b6)) b6 I.f0 I.f1 (by omega) (by omega)).mono ?_
 rintro _ aA ⟨rfl,ax⟩
 replace m:=m.zO 0 rfl ax 0 rfl
 clear ax
 simp only[List.set_cons_zero]at m
 unfold n2
 have bD:=I.ok hE
 obtain⟨af,ag,aI,cx,cy⟩:=sJ now tg iv l s
 have ez:=wP now tg iv l s
 generalize eD now tg iv l s=r at*
 obtain⟨t,i2,aF⟩:=r
 dsimp only at*
 refine⟨_,_,rfl,?_⟩
 refine bH (λc=>?_) λc=>?_
 ·unfold jD at m
  (refine Mem.store m 0 rfl (by simp only[List.length];decide) ?_;clear m;intro _ m;simp only[List.set_cons_zero,List.set_cons_succ]at m)
  rw[if_pos (by simpa using c)]
  exact⟨rfl,m⟩
 ·have tv:i2=true:=by simpa using c
  rw[if_neg (by simp[tv])]
  have cn:t.pos<l.length:=by rw[tv]at ez;simp at ez;omega
  have more:t.dropping=true->aF=true->aj Tryz.prog 302 #[.pointer (some ⟨b,0,none⟩)] aA λr2 h4=>∃t5:Bool,r2=(.bool t5)/\
   (Value.bool t5=Value.bool (if t.dropping=true then if aF=false then({t with dropping:=false},true)else iF now tg iv l (l.length+1) t true else if aF=true then re now tg iv l t else(t,true)).2/\
    Mem h h4 [b] [(b,jD now tg iv a l.length cap (if t.dropping=true then if aF=false then({t with dropping:=false},true)else iF now tg iv l (l.length+1) t true else if aF=true then re now tg iv l t else(t,true)).1,T)]):=by
   intro hd hl
   refine(agS hE (m.da 0 rfl) (hs.mem m (B1 b6)) b6 bD cn).mono ?_
   rintro _ h4 ⟨rfl,ax⟩
   replace m:=m.zO 0 rfl ax 0 rfl
   simp only[List.set_cons_zero]at m
   rw[if_pos hd,if_neg (by simp[hl])]
   exact⟨_,rfl,rfl,m⟩
  have fin:t.dropping=false->ec aF (aj Tryz.prog 303 #[.pointer (some ⟨b,0,none⟩)] aA λr2 h4=>∃t5:Bool,r2=(.bool t5)/\
   (Value.bool t5=Value.bool (if t.dropping=true then if aF=false then({t with dropping:=false},true)else iF now tg iv l (l.length+1) t true else if aF=true then re now tg iv l t else(t,true)).2/\
    Mem h h4 [b] [(b,jD now tg iv a l.length cap (if t.dropping=true then if aF=false then({t with dropping:=false},true)else iF now tg iv l (l.length+1) t true else if aF=true then re now tg iv l t else(t,true)).1,T)]))
   (Value.bool true=Value.bool (if t.dropping=true then if aF=false then({t with dropping:=false},true)else iF now tg iv l (l.length+1) t true else if aF=true then re now tg iv l t else(t,true)).2/\
    Mem h aA [b] [(b,jD now tg iv a l.length cap (if t.dropping=true then if aF=false then({t with dropping:=false},true)else iF now tg iv l (l.length+1) t true else if aF=true then re now tg iv l t else(t,true)).1,T)]):=by
   intro hd
   rw[if_neg (by simp[hd])]
   refine bH (λbd=>?_) λbd=>?_
   ·refine(Y5 hE (m.da 0 rfl) (hs.mem m (B1 b6)) b6 bD cn).mono ?_
    rintro _ h4 ⟨rfl,ax⟩
    replace m:=m.zO 0 rfl ax 0 rfl
    simp only[List.set_cons_zero]at m
    rw[if_pos bd]
    exact⟨_,rfl,rfl,m⟩
   ·rw[if_neg (by simp[bd])]
    exact⟨rfl,m⟩
  have m2:=m
  unfold jD at m
  refine⟨_,Mem.cell m 0 rfl rfl,?_⟩
  refine bH (λaG=>?_) λaG=>?_
  ·refine bH (λbd=>?_) λbd=>?_
   ·(refine Mem.store m 0 rfl (by simp only[List.length];decide) ?_;clear m;intro _ m;simp only[List.set_cons_zero,List.set_cons_succ]at m)
    rw[if_pos aG,if_pos (by simpa using bd)]
    exact⟨rfl,m⟩
   ·refine⟨_,Mem.cell m 0 rfl rfl,?_⟩
    exact df aG (more aG (by simpa using bd))
  ·refine⟨_,Mem.cell m 0 rfl rfl,?_⟩
   exact aZ aG (fin aG)
def sc (s:e6):List Value:=[.int .i64 s.first, .int .i64 s.drop, .int .u32 s.count, .int .u32 s.last, .bool s.dropping]
end
def aiA (t:e6) (pos:Int) (is:Bool):Value:= .tuple #[.agg (sc t).toArray, .int .i64 pos, .bool is]
section
variable{now target interval bytes:Int} {a:Option Addr} {cap:Nat} {l:List (Int×Int)} {c:e6} {h:J}
theorem ajk (hE:oT now (k9 target 1073741824) (k9 interval 1073741824) l) (hs:q3 h a l) (I:xw {c with bytes:=bytes,pos:=0}):
 aj Tryz.prog 299 #[.agg (sc c).toArray, .int .i64 now, .int .i64 target, .int .i64 interval, .int .i64 bytes, .slice a l.length cap] h λv h'=>
  v=aiA (n2 now (k9 target 1073741824) (k9 interval 1073741824) l {c with bytes:=bytes,pos:=0}).1
   (n2 now (k9 target 1073741824) (k9 interval 1073741824) l {c with bytes:=bytes,pos:=0}).1.pos
   (n2 now (k9 target 1073741824) (k9 interval 1073741824) l {c with bytes:=bytes,pos:=0}).2/\Kept h h':=by
 refine anN _ _ _ _ _ _ _ _ _ _ ?_
 intro al h1 af ag aP h2 aI cx
 have m:=((Mem.start h).push ag af).push cx aI
 unfold sc at m
 refine⟨_,(m.da 1 rfl).HL rfl (Nat.le_of_ble_eq_true rfl),rfl,?_⟩
 intro bx h3 cy dP
 replace m:=m.push dP cy
 have CP:=m.da 0 rfl
 have arJ:h.size<=bx:=by subst af ag aI cx cy;simp;omega
 have b6:l≠[]->bx∉lT a:= λhl hb=>by have:=hs.lt hl _ hb;omega
 refine(akd hE (s:={c with bytes:=bytes,pos:=0}) (cap:=cap) (T:=_) CP (hs.mem m (by simp)) b6 I).mono ?_
 rintro _ h4 ⟨rfl,ax⟩
 replace m:=m.zO 0 rfl ax 0 rfl
 clear ax CP
 generalize n2 now (k9 target 1073741824) (k9 interval 1073741824) l {c with bytes:=bytes,pos:=0}=r at*
 obtain⟨t,is⟩:=r
 dsimp only at*
 simp only[List.set_cons_zero]at m
 unfold jD at m
 refine⟨_,rfl,_,(m.da 0 rfl).HL rfl (Nat.le_of_ble_eq_true rfl),?_⟩
 refine⟨_,Mem.cell m 0 rfl rfl,?_⟩
 refine⟨⟨rfl,(m.da 1 rfl).c0 (by decide),by simp[Value.oneCell']⟩,?_⟩
 intro aA h8
 replace m:=m.bm 1 rfl h8
 simp only[List.set_cons_zero,List.set_cons_succ,bG,List.drop_zero,List.take_succ_cons,List.take_zero]at m
 refine⟨m.cell 0 rfl rfl,_,(m.da 1 rfl).HL rfl (Nat.le_of_ble_eq_true rfl),?_⟩
 exact⟨rfl,m.kept⟩
end
end Go.Proofs.YtjlkfjnfnonekaaGreatDoor.Pl
namespace Go.Proofs.YtjlkfjnfnonekaaGreatDoor.Pl
open Go.Vc
theorem abL (a b:List (Int×Int)):p8 (a++b)=p8 a++p8 b:=by
 induction a with
 |nil=>rfl
 |cons x a b9=>simp only[List.cons_append,p8,b9]
theorem Re:∀(l:List (Int×Int)) (i:Nat),(p8 l).drop (i*2)=p8 (l.drop i)
 |l,0=>by simp
 |[],i+1=>by simp[p8]
 |x::r,i+1=>by
  rw[show(i+1)*2=i*2+2 by omega]
  simp only[p8,List.drop_succ_cons]
  exact Re r i
def calm (short:Bool) (t:Int) (x:Int×Int):Prop:=(short=true/\x=(0,30))\/(short=false/\x.1=t/\0<=x.2/\x.2<3000)
structure xv (s:e6):Prop where
 f0:0<=s.first
 f1:s.first<=2251799813685248
 d0:0<=s.drop
 d1:s.drop<=2251799813685248
 cW:0<=s.count
 aK:s.count<4294967296
 lF:0<=s.last
 ca:s.last<4294967296
theorem oU.nb {l:List (Int×Int)} {s:e6} (h:oU l s):xv s:=⟨h.f0,h.f1,h.d0,h.d1,h.cW,h.aK,h.lF,h.ca⟩
theorem agU {now tg iv:Int} {l:List (Int×Int)} {n:Nat} {s:e6} {is:Bool} (h:¬(s.drop<=now/\s.dropping=true)):iF now tg iv l n s is=(s,is):=by
 cases n with
 |zero=>rfl
 |succ n=>show(if _ then _ else _)=_;rw[if_neg h]
theorem agT {now tg iv:Int} {l:List (Int×Int)} {n:Nat} {s t:e6} {is i2 aF:Bool} (h:s.drop<=now/\s.dropping=true) (e:eD now tg iv l {s with pos:=s.pos+1,count:=kR s.count}=(t,i2,aF)):
 iF now tg iv l (n+1) s is=if i2=true/\aF=true then iF now tg iv l n {t with drop:=tL t.drop iv t.count.toNat} i2 else iF now tg iv l n {t with dropping:=false} i2:=by
 show(if _ then _ else _)=_
 rw[if_pos h,e]
theorem LQ {now tg iv:Int} {l:List (Int×Int)} (hE:oT now tg iv l):∀(n:Nat) (s:e6) (is:Bool),oU l s->(s.dropping=true->s.pos<l.length)->xv (iF now tg iv l n s is).1
 |0,s,is,h1,h2=>h1.nb
 |n+1,s,is,h1,h2=>by
  by_cases hc:s.drop<=now/\s.dropping=true
  ·have cn:=h2 hc.2
   have bD:=h1.look hE (by omega)
   obtain⟨af,ag,aI,cx,cy⟩:=sJ now tg iv l {s with pos:=s.pos+1,count:=kR s.count}
   have ez:=wP now tg iv l {s with pos:=s.pos+1,count:=kR s.count}
   generalize U:eD now tg iv l {s with pos:=s.pos+1,count:=kR s.count}=r at*
   obtain⟨t,i2,aF⟩:=r
   dsimp only at*
   rw[agT hc U]
   by_cases hb:i2=true/\aF=true
   ·rw[if_pos hb]
    obtain⟨z0,cN⟩:=LV t.drop iv t.count.toNat
    exact LQ hE n _ _ ⟨bD.f0,bD.f1,z0,cN,bD.cW,bD.aK,bD.lF,bD.ca,bD.gO,bD.al,bD.p⟩ (λ_=>by rw[hb.1]at ez;simp at ez⊢;omega)
   ·rw[if_neg hb]
    exact LQ hE n _ _ ⟨bD.f0,bD.f1,bD.d0,bD.d1,bD.cW,bD.aK,bD.lF,bD.ca,bD.gO,bD.al,bD.p⟩ (λh=>by cases h)
  ·rw[agU hc];exact h1.nb
theorem akb {now tg iv:Int} {l:List (Int×Int)} {s:e6} (hE:oT now tg iv l) (I:xw s):xv (n2 now tg iv l s).1:=by
 have bD:=I.ok hE
 unfold n2
 obtain⟨af,ag,aI,cx,cy⟩:=sJ now tg iv l s
 have ez:=wP now tg iv l s
 have hp:=I.p
 generalize eD now tg iv l s=r at*
 obtain⟨t,i2,aF⟩:=r
 dsimp only at*
 by_cases h1:i2=false
 ·rw[if_pos h1];exact⟨bD.f0,bD.f1,bD.d0,bD.d1,bD.cW,bD.aK,bD.lF,bD.ca⟩
 ·rw[if_neg h1]
  have h1:i2=true:=by simpa using h1
  rw[h1]at ez
  simp at ez
  by_cases h2:t.dropping=true
  ·rw[if_pos h2]
   by_cases h3:aF=false
   ·rw[if_pos h3];exact⟨bD.f0,bD.f1,bD.d0,bD.d1,bD.cW,bD.aK,bD.lF,bD.ca⟩
   ·rw[if_neg h3];exact LQ hE _ _ _ bD (λ_=>by omega)
  ·rw[if_neg h2]
   by_cases h3:aF=true
   ·rw[if_pos h3]
    unfold re
    obtain⟨g1,g2,g3,g4,g5⟩:=sJ now tg iv l {t with pos:=t.pos+1}
    obtain⟨f0,f1⟩:=LF (s:={t with pos:=t.pos+1}) hE bD.f0 bD.f1
    generalize eD now tg iv l {t with pos:=t.pos+1}=r at*
    obtain⟨u,i3,dw⟩:=r
    dsimp only at*
    obtain⟨z0,cN⟩:=Qq now iv u
    obtain⟨aqM,b0⟩:=LV now iv (uw now iv u).toNat
    exact⟨f0,f1,aqM,b0,z0,cN,z0,cN⟩
   ·rw[if_neg h3];exact bD.nb
theorem S7 {h:J} {a:Option Addr} {N:Nat} {its:List (Int×Int)} (hs:src h a N (p8 its)):q3 h a its:=by
 intro j x hx
 have ah:=(List.getElem?_eq_some_iff.1 hx).1
 obtain⟨b,o,rfl,U⟩:=mK (k:=j*2) (n:=2) hs (by rw[Rf];omega) (by decide) rfl
 refine⟨b,o,rfl,?_⟩
 rw[U,Re,List.drop_eq_getElem_cons ah,(List.getElem?_eq_some_iff.1 hx).2]
 rfl
end Go.Proofs.YtjlkfjnfnonekaaGreatDoor.Pl
namespace Go.Proofs.YtjlkfjnfnonekaaGreatDoor.Pl
def TM (a b:BitVec 32):BitVec 32:=
 let x:=a^^^b
 let x:=(x^^^x>>>16)*73244475#32
 let x:=(x^^^x>>>16)*73244475#32
 x^^^x>>>16
def AY (a b:Int):Int:=((TM (BitVec.ofInt 32 a) (BitVec.ofInt 32 b)).toNat:Int)
theorem agN (a b:Int):0<=AY a b/\AY a b<4294967296:=by
 unfold AY;have:=(TM (BitVec.ofInt 32 a) (BitVec.ofInt 32 b)).isLt;omega
theorem Zc (a b:Int):bits .xor .u32 a b=((BitVec.ofInt 32 a^^^BitVec.ofInt 32 b).toNat:Int):=by
 unfold bits
 show IntKind.u32.wrap ((BitVec.ofInt 32 a^^^BitVec.ofInt 32 b).toNat:Int)=_
 have h:=(BitVec.ofInt 32 a^^^BitVec.ofInt 32 b).isLt
 generalize (BitVec.ofInt 32 a^^^BitVec.ofInt 32 b).toNat=n at*
 unfold IntKind.wrap
 simp[IntKind.bits,IntKind.signed]
 omega
theorem ah5 (x:BitVec 32):BitVec.ofInt 32 (x.toNat:Int)=x:=by
 apply BitVec.eq_of_toNat_eq;rw[BitVec.toNat_ofInt];have:=x.isLt;omega
theorem ah4 (x:BitVec 32):BitVec.ofInt 32 ((x.toNat:Int)/65536)=x>>>16:=by
 apply BitVec.eq_of_toNat_eq;rw[BitVec.toNat_ofInt,BitVec.toNat_ushiftRight,Nat.shiftRight_eq_div_pow];have:=x.isLt;omega
theorem ofInt_mul (x:BitVec 32):(x.toNat:Int)*73244475%4294967296=((x*73244475#32).toNat:Int):=by
 rw[BitVec.toNat_mul];simp
theorem agP (a b:Int):bits .xor .u32
 (bits .xor .u32 (bits .xor .u32 (bits .xor .u32 a b) (bits .xor .u32 a b/65536)*73244475%4294967296)
   (bits .xor .u32 (bits .xor .u32 a b) (bits .xor .u32 a b/65536)*73244475%4294967296/65536)*73244475%4294967296)
 (bits .xor .u32 (bits .xor .u32 (bits .xor .u32 a b) (bits .xor .u32 a b/65536)*73244475%4294967296)
   (bits .xor .u32 (bits .xor .u32 a b) (bits .xor .u32 a b/65536)*73244475%4294967296/65536)*73244475%4294967296/65536)=AY a b:=by
 simp only[Zc,ofInt_mul,ah4,ah5]
 rfl
end Go.Proofs.YtjlkfjnfnonekaaGreatDoor.Pl
namespace Go.Proofs.YtjlkfjnfnonekaaGreatDoor.Pl
open Go.Vc
theorem aqC (n:Int):IntKind.u32.wrap n=n%4294967296:=by simp[IntKind.wrap,IntKind.bits,IntKind.signed]
def db (ad bf:Int):Int:=AY ad bf%16
theorem zJ (f s:Int):0<=db f s/\db f s<16:=by unfold db;omega
theorem agO (a b:Int) (h:J):aj Tryz.prog 288 #[.int .u32 a, .int .u32 b] h λv h'=>v= .int .u32 (AY a b)/\h'=h:=by
 refine aow _ _ _ _ ⟨by decide,by decide,by decide,?_,rfl⟩
 simp only[aqC];rw[agP]
theorem Zn (a b:Int) (h:J):aj Tryz.prog 263 #[.int .u32 a, .int .u32 b] h λv h'=>v= .int .i64 (db a b)/\h'=h:=by
 obtain⟨h1,h2⟩:=agN a b
 exact aov _ _ _ _ ((agO a b h).ret ⟨_,rfl,⟨h1,by decide⟩,by simp only[fits];omega,rfl,rfl⟩)
end Go.Proofs.YtjlkfjnfnonekaaGreatDoor.Pl
