import Derived.Test.YtjlkfjnfnonekaaGreatDoorFq
import Derived.Test.YtjlkfjnfnonekaaGreatDoorPoolPlain
import Derived.Test.YtjlkfjnfnonekaaGreatDoorM16
set_option linter.all false
set_option maxRecDepth 20000
namespace Go.Proofs.YtjlkfjnfnonekaaGreatDoor.Pl
open Go.Vc
section
variable{W W':Wd} {h h' h1:J} {G R:List ao} {L E xx eQ eP:ao} {B:ao} {Es:List ao} {css:List (List Value)} {q:az} {f g:cU} {k d:Int} {b n:Nat} {cs:List Value} {p:bh} {r:List bh}
theorem LU (m:ai W h R) (bf tg iv:Int):aj Tryz.prog 176 #[.int .u32 bf, .int .i64 tg, .int .i64 iv] h λv h'=>∃b L,v= .pointer (some ⟨b,0,none⟩)/\dq W b (pC bf tg iv) L/\ai W h' (L::R):=by
 refine aoh _ _ _ _ _ ?_
 intro b h1 af ag
 replace m:=m.push ag af
 have hc:oe W (pC bf tg iv) (List.replicate 16 (.slice none 0 0:: .int .i64 0:: .int .i64 0::sc o2)) (List.replicate 16 []):=by
  refine⟨rfl,rfl,λk f hf=>?_,λc hc=>by rw[List.mem_replicate]at hc;rw[hc.2];rfl⟩
  simp only[pC,List.getElem?_replicate]at hf⊢
  split at hf
  ·rename_i I;cases hf
   rw[if_pos I]
   exact⟨_,_,rfl,by rw[if_pos I],none,0,[],rfl,au.nil,rfl⟩
  ·cases hf
 exact⟨b,_,rfl,⟨_,_,none,0,none,0,[],[],_,hc,au.nil,au.nil,rfl⟩,m⟩
theorem aiD (hp:dF (Wd.of h) p cs) (hl:p.body.length<=1099511627776):
 aj Tryz.prog 262 #[.agg cs.toArray] h λv h'=>∃a c E,v= .agg #[.int .i64 p.id, .int .u32 p.ad, .int .i64 p.tid, .int .i64 p.at_, .slice a p.body.length c]/\ai (Wd.of h) h' [E]/\au a p.body.length c 1 (ints .u8 p.body) E:=by
 obtain⟨a,c,rfl,acI⟩:=hp
 refine aor _ _ _ ?_
 intro al h1 af ag aP h2 aI cx
 have m:=((ai.start h).push ag af).push cx aI
 clear af ag aI cx
 have k:=m.kept (Wd.le.refl _)
 obtain⟨ha,Sc⟩:=(acI.le k.le).src
 refine⟨_,_,_,m.cell 1 rfl rfl,(Cf ha (by simp[ints]) dM (by omega)).mono ?_⟩
 rintro _ h3 ⟨ay,c',E,rfl,mk,o⟩
 replace m:=m.beside mk
 refine⟨_,_,_,rfl,m.NO 2 rfl rfl,?_⟩
 intro h4 af
 replace m:=m.b3 2 rfl af
 refine⟨_,m.lH 2 rfl rfl rfl,⟨rfl,m.dR 1 rfl rfl,by simp[Value.oneCell']⟩,?_⟩
 intro aA ag
 replace m:=m.bm 1 rfl ag
 exact⟨_,m.lH 1 rfl rfl rfl,ay,c',E,rfl,(m.free 1 rfl).free 1 rfl,o⟩
theorem aiE (m:ai W h G) (hp:dF W p cs) (hl:p.body.length<=1099511627776):
 aj Tryz.prog 262 #[.agg cs.toArray] h λv h'=>∃W' ds,W.le W'/\v= .agg ds.toArray/\dF W' p ds/\ai W' h' G:=by
 refine(aiD (hp.le m.Tp) hl).mono ?_
 rintro _ h1 ⟨a,c,E,rfl,mk,o⟩
 obtain⟨W',hle,hE,ax⟩:=(m.beside mk).give
 exact⟨W',_,hle,rfl,⟨a,c,rfl,o.uq rfl hE⟩,ax⟩
theorem ac2 (m:ai W h (L::R)) (hv:dq W b q L) (hq:c1 q):aj Tryz.prog 289 #[.pointer (some ⟨b,0,none⟩), .int .i64 k] h λv h'=>
 ∃W' cs,W.le W'/\v= .tuple #[.agg cs.toArray, .bool (q.head k).isSome]/\dF W' ((q.head k).getD pv) cs/\ai W' h' (L::R):=by
 refine aol _ _ _ _ ?_
 (intro k7 qb fs ft;replace m:=m.push ft fs;clear fs ft)
 have none:q.head k=none->∀{h:J} {G:List ao} {T:TypeId},ai W h ([(k7,[.int .i64 0, .int .u32 0, .int .i64 0, .int .i64 0, .slice none 0 0],T)]::L::R)->
  ((([(.int .i64 (0:Int)),(.int .u32 (0:Int)),(.int .i64 (0:Int)),(.int .i64 (0:Int)),(.slice none 0 0)]:List Value)).length=5/\c0 h k7 0 5/\∀u∈(([(.int .i64 (0:Int)),(.int .u32 (0:Int)),(.int .i64 (0:Int)),(.int .i64 (0:Int)),(.slice none 0 0)]:List Value):List Value),u.oneCell'=true)/\
  ∀h3:J,h3=bm h k7 0 ([(.int .i64 (0:Int)),(.int .u32 (0:Int)),(.int .i64 (0:Int)),(.int .i64 (0:Int)),(.slice none 0 0)]:List Value)->∃zW:List Value,row h3 k7 0 5=some zW/\
  ∃W' cs,W.le W'/\Value.tuple #[(.agg (zW).toArray),(.bool false)]= .tuple #[.agg cs.toArray, .bool (q.head k).isSome]/\dF W' ((q.head k).getD pv) cs/\ai W' h3 (L::R):= λe {h G T} m=>by
  refine⟨⟨rfl,m.dR 0 rfl rfl,by simp[Value.oneCell']⟩,λh3 aI=>?_⟩
  replace m:=m.bm 0 rfl aI
  rw[e]
  exact⟨_,m.lH 0 rfl rfl rfl,W,_,Wd.le.refl _,rfl,dF.zero,m.aB⟩
 refine aC (λq1=>none (by unfold az.head;rw[if_neg (by omega)]) (G:=[]) m) λq1=>aC (λq2=>none (by unfold az.head;rw[if_neg (by omega)]) (G:=[]) m) λq2=>?_
 have av:0<=k:=by omega
 have k1:k<16:=by omega
 have hh:q.head k=(q.ad k).l.head?:=by unfold az.head;rw[if_pos ⟨av,k1⟩]
 have agY:=m.focus 1 rfl
 obtain⟨a,c,vs,c9,sy,hs⟩:=hv.Rg agY hq av k1
 refine⟨⟨by omega,by omega⟩,_,_,_,c9,?_⟩
 refine aC (λaE=>none (by rw[hh,List.eq_nil_of_length_eq_zero (l:=(q.ad k).l) (by omega)];rfl) (G:=[]) m) λaE=>?_
 clear none
 obtain⟨p,r,hp⟩:=List.exists_cons_of_ne_nil (l:=(q.ad k).l) (by rintro e;rw[e]at aE;simp at aE)
 obtain⟨cs,dT,gE,wD⟩:=hs.get (λ_ _=>dF.len) (i:=0) (x:=p) (by rw[hp];rfl)
 rw[Nat.zero_mul]at gE wD
 obtain⟨b1,mH,rfl,U⟩:=mK (k:=0) (n:=5) sy (by omega) (by decide) gE
 have hle:=((hq.ad av k1).2.p p (by rw[hp];simp)).2.2
 refine⟨⟨by omega,by omega⟩,_,_,_,c9,⟨by omega,by rw[hp];simp⟩,_,U,(aiE m dT (by omega)).mono ?_⟩
 rintro _ aA ⟨W',ds,hle,rfl,Kx,m⟩
 obtain⟨fT,fH,rfl,dK⟩:=Kx
 refine⟨_,rfl,⟨rfl,m.dR 0 rfl rfl,by simp[Value.oneCell']⟩,?_⟩
 intro aU aI
 replace m:=m.bm 0 rfl aI
 rw[hh,hp]
 exact⟨_,m.lH 0 rfl rfl rfl,W',_,hle,rfl,⟨fT,fH,rfl,dK⟩,m.aB⟩
theorem aaA (m:ai W h (L::R)) (hv:dq W b q L) (hq:c1 q):aj Tryz.prog 270 #[.pointer (some ⟨b,0,none⟩), .int .i64 k] h λv h'=>
 ∃W' cs L',W.le W'/\v= .tuple #[.agg cs.toArray, .bool (q.kF k).2.isSome]/\dF W' ((q.kF k).2.getD pv) cs/\dq W' b (q.kF k).1 L'/\ai W' h' (L'::R):=by
 refine aoj _ _ _ _ ?_
 (intro k7 qb fs ft;replace m:=m.push ft fs;clear fs ft)
 refine(ac2 (m.focus 1 rfl) hv hq).mono ?_
 rintro _ h2 ⟨W',cs,hle,rfl,dT,m⟩
 refine⟨_,_,rfl,?_⟩
 intro aP h3 af ag
 replace m:=m.push ag af
 clear af ag
 obtain⟨fT,fH,rfl,dK⟩:=dT
 refine⟨⟨rfl,m.dR 0 rfl rfl,by simp[Value.oneCell']⟩,?_⟩
 intro h4 aI
 replace m:=m.bm 0 rfl aI
 replace m:=m.aB
 clear aI
 simp only[List.eraseIdx_cons_zero,List.eraseIdx_cons_succ]at m
 cases hh:q.head k with
 |none=>
  have e:q.kF k=(q,none):=by unfold az.kF;rw[hh]
  rw[e]
  refine df rfl ⟨⟨rfl,m.dR 1 rfl rfl,by simp[Value.oneCell']⟩,λaA aI=>?_⟩
  replace m:=m.bm 1 rfl aI
  exact⟨_,m.lH 1 rfl rfl rfl,W',_,L,hle,rfl,dF.zero,hv.le hle,m.free 1 rfl⟩
 |some p=>
  have I:0<=k/\k<16:=by
   unfold az.head at hh
   by_cases I:0<=k/\k<16
   ·exact I
   ·rw[if_neg I]at hh;cases hh
  obtain⟨av,k1⟩:=I
  have hp:(q.ad k).l=p::(q.ad k).l.tail:=by
   unfold az.head at hh
   rw[if_pos ⟨av,k1⟩]at hh
   cases he:(q.ad k).l with
   |nil=>rw[he]at hh;cases hh
   |cons x r=>rw[he]at hh;simp at hh;subst hh;rfl
  have e:q.kF k=(q.aX k ((q.ad k).bG (q.ad k).l.tail),some p):=by unfold az.kF;rw[hh]
  rw[e]
  refine aZ rfl ((HW m (hv.le hle) hq av k1 hp).mono ?_)
  rintro _ aU ⟨cs,L',rfl,dT,hv',m⟩
  obtain⟨fT,fH,rfl,dK⟩:=dT
  refine⟨_,rfl,⟨rfl,m.dR 1 rfl rfl,by simp[Value.oneCell']⟩,λaA aI=>?_⟩
  replace m:=m.bm 1 rfl aI
  exact⟨_,m.lH 1 rfl rfl rfl,W',_,L',hle,rfl,⟨fT,fH,rfl,dK⟩,hv',m.free 1 rfl⟩
theorem abD (m:ai W h (L::R)) (hv:dq W b q L) (hq:c1 q):aj Tryz.prog 269 #[.pointer (some ⟨b,0,none⟩)] h λv h'=>v= .tuple #[.int .i64 q.gU.1, .int .i64 q.gU.2]/\h'=h:=by
 refine aok _ _ _ ?_
 refine⟨λJo most x h'=>h'=h/\∃k:Nat,x=k/\k<=16/\ni (q.a6.drop k) k (Jo,most)=ni q.a6 0 (0,-1),λ_ _ x _=>(16 -x).toNat,⟨rfl,0,rfl,by omega,rfl⟩,λ_=>?_⟩
 rintro Jo most _ h1 ⟨rfl,k,rfl,I,hf⟩
 refine aC (λq1=>?_) λq1=>?_
 ·have pc:k<16:=by omega
  have gp:=Kg hq pc
  rw[abA gp]at hf
  obtain⟨a,c,vs,c9,sy,hs⟩:=hv.Rg m hq (k:=(k:Int)) (by omega) (by omega)
  have hb:=hv.abN m hq (k:=(k:Int)) (by omega) (by omega)
  have next:∀s,s=(if(q.ad (k:Int)).l≠[]/\most<c5 (q.ad (k:Int)).l then((k:Int),c5 (q.ad (k:Int)).l)else(Jo,most))->ni (q.a6.drop (k+1)) ((k:Int)+1) s=ni q.a6 0 (0,-1):= λs e=>by rw[e];exact hf
  refine⟨⟨by omega,by omega⟩,_,_,_,c9,aC (λq2=>⟨_,hb,aC (λaE=>⟨_,hb,?_⟩) λaE=>?_⟩) λq2=>?_⟩
  ·refine⟨by simp only[fits];omega,⟨rfl,k+1,by omega,by omega,next _ ?_⟩,by dsimp only;omega⟩
   rw[if_pos ⟨λe=>by rw[e]at q2;simp at q2,aE⟩]
  ·refine⟨by simp only[fits];omega,⟨rfl,k+1,by omega,by omega,next _ ?_⟩,by dsimp only;omega⟩
   rw[if_neg (λhc=>aE hc.2)]
  ·refine⟨by simp only[fits];omega,⟨rfl,k+1,by omega,by omega,next _ ?_⟩,by dsimp only;omega⟩
   rw[if_neg (λhc=>q2 (by have:=List.length_pos_iff.2 hc.1;omega))]
 ·obtain rfl:k=16:=by omega
  rw[List.drop_of_length_le (by rw[hq.len];omega)]at hf
  refine⟨?_,rfl⟩
  unfold az.gU
  rw[<-hf]
  rfl
def sZ:List bh->List Value->List ao->Prop
 |[],vs,Fs=>vs=[]/\Fs=[]
 |p::ps,vs,Fs=>∃a c F r xA,vs=[.int .i64 p.id, .int .u32 p.ad, .int .i64 p.tid, .int .i64 p.at_, .slice a p.body.length c]++r/\Fs=F::xA/\au a p.body.length c 1 (ints .u8 p.body) F/\sZ ps r xA
theorem sZ.snoc {p:bh} {a:Option Addr} {c:Nat} {F:ao} (aw:au a p.body.length c 1 (ints .u8 p.body) F):∀{ps:List bh} {vs:List Value} {Fs:List ao},sZ ps vs Fs->sZ (ps++[p]) (vs++[.int .i64 p.id, .int .u32 p.ad, .int .i64 p.tid, .int .i64 p.at_, .slice a p.body.length c]) (Fs++[F])
 |[],_,_,⟨h1,h2⟩=>by subst h1 h2;exact⟨a,c,F,[],[],by simp,rfl,aw,rfl,rfl⟩
 |x::ps,_,_,⟨a1,aK,tZ,r,xA,h1,h2,h3,h4⟩=>by subst h1 h2;exact⟨a1,aK,tZ,_,_,by simp,by simp,h3,h4.snoc aw⟩
theorem sZ.len:∀{ps:List bh} {vs:List Value} {Fs:List ao},sZ ps vs Fs->Fs.length=ps.length
 |[],_,_,⟨h1,h2⟩=>by subst h2;rfl
 |x::ps,_,_,⟨a1,aK,tZ,r,xA,h1,h2,h3,h4⟩=>by subst h2;simp[h4.len]
theorem sZ.get:∀{ps:List bh} {vs:List Value} {Fs:List ao} {i:Nat} {p:bh},sZ ps vs Fs->ps[i]?=some p->∃a c F,Fs[i]?=some F/\au a p.body.length c 1 (ints .u8 p.body) F/\
 (vs.drop (i*5)).take 5=[.int .i64 p.id, .int .u32 p.ad, .int .i64 p.tid, .int .i64 p.at_, .slice a p.body.length c]/\i*5+5<=vs.length
 |[],_,_,_,_,_,h=>by simp at h
 |x::ps,_,_,0,p,⟨a1,aK,tZ,r,xA,h1,h2,h3,h4⟩,h=>by
  simp at h;subst h h1 h2
  exact⟨a1,aK,tZ,rfl,h3,by simp,by simp⟩
 |x::ps,_,_,i+1,p,⟨a1,aK,tZ,r,xA,h1,h2,h3,h4⟩,h=>by
  subst h1 h2
  obtain⟨a,c,F,g1,g2,g3,g4⟩:=h4.get (i:=i) (p:=p) (by simpa using h)
  refine⟨a,c,F,by simpa using g1,g2,?_,by simp;omega⟩
  rw[show(i+1)*5=5+i*5 by omega,<-List.drop_drop]
  exact g3
theorem sZ.sq {W:Wd}:∀{ps:List bh} {vs:List Value} {Fs:List ao},sZ ps vs Fs->(∀x∈Fs.flatten,W x.1=some (.cells x.2.1.toArray x.2.2))->bX (dF W) ps vs
 |[],_,_,⟨h1,h2⟩,_=>h1
 |x::ps,_,_,⟨a1,aK,tZ,r,xA,h1,h2,h3,h4⟩,hW=>by
  subst h1 h2
  exact⟨_,r,rfl,⟨a1,aK,rfl,h3.uq rfl λy hy=>hW y (by simp[hy])⟩,h4.sq λy hy=>hW y (by simp only[List.flatten_cons,List.mem_append];exact .inr hy)⟩
end
end Go.Proofs.YtjlkfjnfnonekaaGreatDoor.Pl
set_option maxRecDepth 20000
namespace Go.Proofs.YtjlkfjnfnonekaaGreatDoor.Pl
open Go.Vc
section
variable{W W':Wd} {h h' h1:J} {G R:List ao} {L E xx eQ eP:ao} {B:ao} {Es:List ao} {css:List (List Value)} {q:az} {f g:cU} {k d:Int} {b n:Nat} {cs:List Value} {p:bh} {r:List bh}
structure IA (W:Wd) (q:az) (css x1:List (List Value)) (zs:List ao) (j:Nat):Prop where
 bC:x1.length=16
 eE:zs.length=16
 hT:∀c∈x1,c.length=8
 done:∀k,k<j->∀f,q.a6[k]?=some f->∃cs E,x1[k]?=some cs/\zs[k]?=some E/\xz W f cs E
 rest:∀k,j<=k->k<16->x1[k]?=css[k]?/\zs[k]?=some []
theorem IA.le {x1:List (List Value)} {zs:List ao} {j:Nat} (hl:W.le W') (hc:IA W q css x1 zs j):IA W' q css x1 zs j:=
 ⟨hc.bC,hc.eE,hc.hT,λk I f hf=>by obtain⟨cs,E,h1,h2,h3⟩:=hc.done k I f hf;exact⟨cs,E,h1,h2,h3.le hl⟩,hc.rest⟩
end
end Go.Proofs.YtjlkfjnfnonekaaGreatDoor.Pl
set_option maxRecDepth 8000
namespace Go.Proofs.YtjlkfjnfnonekaaGreatDoor.Pl
open Go.Vc
structure gL (V:Wd->Nat->az->ao->Prop) (W:Wd) (mE:List az) (bs:List Nat) (cV:List ao):Prop where
 bC:bs.length=mE.length
 eE:cV.length=mE.length
 v:∀(k:Nat) (q:az),mE[k]?=some q->∃b L,bs[k]?=some b/\cV[k]?=some L/\V W b q L
def hY (bs:List Nat):List Value:=bs.map λb=> .pointer (some ⟨b,0,none⟩)
def jL (P:bL):List Value:=[.int .u32 P.bf, .int .i64 P.tg, .int .i64 P.iv, .int .i64 P.mp, .int .i64 P.cF]
def iu (W:Wd) (b:Nat) (P:bL) (L:ao):Prop:=∃(bs:List Nat) (cV:List ao) (T:TypeId),gL dq W P.q bs cV/\L=cV.flatten++[(b,jL P++hY bs,T)]
section
variable{V:Wd->Nat->az->ao->Prop} {W W':Wd} {h h' h1:J} {G R:List ao} {L L' E:ao} {P kX:bL} {q q':az} {mE HF:List az} {bs zI:List Nat} {cV ET:List ao} {b b' k n i:Nat} {p:bh} {cs:List Value} {T:TypeId} {v:Value}
theorem gL.le (hV:∀b q L,V W b q L->V W' b q L) (hq:gL V W mE bs cV):gL V W' mE bs cV:=
 ⟨hq.bC,hq.eE,λk q I=>by obtain⟨b,L,h1,h2,h3⟩:=hq.v k q I;exact⟨b,L,h1,h2,hV _ _ _ h3⟩⟩
theorem gL.set (hq:gL V W mE bs cV) (hv:V W b' q' L') (k:Nat):gL V W (mE.set k q') (bs.set k b') (cV.set k L'):=by
 have af:=hq.bC
 have ag:=hq.eE
 refine⟨by simp[af],by simp[ag],λj q ah=>?_⟩
 have cn:=(List.getElem?_eq_some_iff.1 ah).1
 rw[List.length_set]at cn
 rw[List.getElem?_set]at ah⊢
 rw[List.getElem?_set]
 by_cases e:k=j
 ·rw[if_pos e,if_pos (by omega)]at ah
  rw[if_pos e,if_pos (by omega),if_pos e,if_pos (by omega)]
  cases ah
  exact⟨_,_,rfl,rfl,hv⟩
 ·rw[if_neg e]at ah
  rw[if_neg e,if_neg e]
  exact hq.v j q ah
theorem gL.nil:gL V W [] [] []:=⟨rfl,rfl,λk q I=>by simp at I⟩
theorem gL.one (hv:V W b q L):gL V W [q] [b] [L]:=⟨rfl,rfl,λk q' I=>by
 cases k with
 |zero=>simp at I;subst I;exact⟨_,_,rfl,rfl,hv⟩
 |succ k=>simp at I⟩
theorem gL.app (h1:gL V W mE bs cV) (h2:gL V W HF zI ET):gL V W (mE++HF) (bs++zI) (cV++ET):=by
 have a1:=h1.bC
 have a2:=h1.eE
 refine⟨by simp[h1.bC,h2.bC],by simp[h1.eE,h2.eE],λk q I=>?_⟩
 by_cases hl:k<mE.length
 ·rw[List.getElem?_append_left hl]at I
  rw[List.getElem?_append_left (by omega),List.getElem?_append_left (by omega)]
  exact h1.v k q I
 ·rw[List.getElem?_append_right (by omega)]at I
  rw[List.getElem?_append_right (by omega),List.getElem?_append_right (by omega),a1,a2]
  exact h2.v _ q I
theorem gL.take (hq:gL V W mE bs cV) (n:Nat):gL V W (mE.take n) (bs.take n) (cV.take n):=by
 refine⟨by simp[hq.bC],by simp[hq.eE],λk q I=>?_⟩
 rw[List.getElem?_take]at I⊢
 rw[List.getElem?_take]
 by_cases e:k<n
 ·rw[if_pos e]at I⊢
  rw[if_pos e]
  exact hq.v k q I
 ·rw[if_neg e]at I;cases I
theorem gL.drop (hq:gL V W mE bs cV) (n:Nat):gL V W (mE.drop n) (bs.drop n) (cV.drop n):=by
 refine⟨by simp[hq.bC],by simp[hq.eE],λk q I=>?_⟩
 rw[List.getElem?_drop]at I⊢
 rw[List.getElem?_drop]
 exact hq.v _ q I
theorem ajf (hb:bs[k]?=some b):(hY bs)[k]?=some (.pointer (some ⟨b,0,none⟩)):=by simp[hY,hb]
theorem w7:(hY bs).length=bs.length:=by simp[hY]
theorem Uy:hY (bs++zI)=hY bs++hY zI:=by simp[hY]
theorem ai2 {xs:List Value}:(jL P++xs)[5+k]?=xs[k]?:=by
 rw[List.getElem?_append_right (by simp[jL])]
 congr 1
 simp[jL]
theorem ai3 {xs:List Value}:(jL P++xs).set (5+k) v=jL P++xs.set k v:=by
 rw[List.set_append_right _ _ (by simp[jL])]
 congr 2
 simp[jL]
theorem iu.dd (hv:iu W b P L) (m:ai W h (L::R)):∃(bs:List Nat) (cV:List ao) (T:TypeId),gL dq W P.q bs cV/\L=cV.flatten++[(b,jL P++hY bs,T)]/\ai W h (cV.flatten::[(b,jL P++hY bs,T)]::R):=by
 obtain⟨bs,cV,T,hq,rfl⟩:=hv
 exact⟨bs,cV,T,hq,rfl,m.split⟩
theorem iu.shut (hq:gL dq W P.q bs cV) (m:ai W h (cV.flatten::[(b,jL P++hY bs,T)]::R)):∃L,iu W b P L/\ai W h (L::R):=⟨_,⟨bs,cV,T,hq,rfl⟩,m.join⟩
theorem iu.le (hl:W.le W') (hv:iu W b P L):iu W' b P L:=by
 obtain⟨bs,cV,T,hq,rfl⟩:=hv
 exact⟨bs,cV,T,hq.le λ_ _ _=>dq.le hl,rfl⟩
theorem Jy {P:Program} {g:FuncId} {first captured:Array Value} {args:List Value} {K:Value->J->Prop} (hb:pV P g=true) (U:aj P g (first.toList++(args++captured.toList)).toArray h K):
 er P (.func (.func g) first captured) args h K:=by
 unfold er;simp only[hb];exact U
theorem Zy {P:Program} {f:Value} {args:List Value} {K bS:Value->J->Prop} (I:∀r h,K r h->bS r h):er P f args h K->er P f args h bS:=by
 unfold er
 split
 ·split
  ·exactλhc=>hc.mono I
  ·exact False.elim
 ·exact False.elim
theorem Mr (aid tid:Int):aj Tryz.prog 205 #[.int .i64 aid, .int .i64 tid] h λv h'=>v= .bool (iY aid tid)/\h'=h:=by
 have no:¬(1<=aid/\aid<=16/\0<=tid/\tid<8)->Value.bool false= .bool (iY aid tid):= λh=>by
  have:iY aid tid=false:=by simpa[iY]using h
  rw[this]
 refine apd _ _ _ _ (aC (λq1=>aC (λq2=>aC (λaE=>⟨?_,rfl⟩) λq=>⟨no λh=>q h.2.2.1,rfl⟩) λq=>⟨no λh=>q h.2.1,rfl⟩) λq=>⟨no λh=>q h.1,rfl⟩)
 have:iY aid tid=decide (tid<8):=by simp[iY,q1,q2,aE]
 rw[this]
theorem JY {f:Value} (i7:Nat->J->Prop) (h0:i7 0 h) (hc:∀(k:Nat) (h1:J),k<128->i7 k h1->∃p,cell h1 b (5+k)=some (.pointer p)/\er Tryz.prog f [.pointer p] h1 λ_ h2=>i7 (k+1) h2):
 aj Tryz.prog 264 #[.pointer (some ⟨b,0,none⟩),f] h λv h'=>v= .tuple #[]/\i7 128 h':=by
 refine ao9 _ _ _ _ ⟨λx h'=>∃i:Nat,x=i/\i<=16/\i7 (i*8) h',λx _=>(16 -x).toNat,⟨0,rfl,by omega,h0⟩,λ_=>?_⟩
 rintro _ h1 ⟨i,rfl,hi,ah⟩
 refine aC (λq=>?_) λq=>?_
 ·refine⟨λx h'=>∃t:Nat,x=t/\t<=8/\i7 (i*8+t) h',λx _=>(8 -x).toNat,⟨0,rfl,by omega,ah⟩,λ_=>?_⟩
  rintro _ h2 ⟨t,rfl,ht,ah⟩
  refine aC (λq2=>?_) λq2=>?_
  ·obtain⟨p,hp,dT⟩:=hc (i*8+t) h2 (by omega) ah
   refine⟨⟨by omega,by omega⟩,⟨by omega,by omega⟩,p,?_,?_⟩
   ·rw[show 5+(i:Int).toNat*8+(t:Int).toNat=5+(i*8+t) by omega];exact hp
   ·refine Zy (λr h3 adn=>?_) dT
    exact⟨by simp only[fits];omega,⟨t+1,by omega,by omega,adn⟩,by(try dsimp only);omega⟩
  ·obtain rfl:t=8:=by omega
   exact⟨by simp only[fits];omega,⟨i+1,by omega,by omega,by rw[show(i+1)*8=i*8+8 by omega];exact ah⟩,by(try dsimp only);omega⟩
 ·obtain rfl:i=16:=by omega
  exact⟨rfl,ah⟩
theorem gL.cellAt {j:Nat} (hq:gL V W P.q bs cV) (I:P.q[k]?=some q) (m:ai W h G) (ah:G[j]?=some [(b,jL P++hY bs,T)]):∃bk ku,bs[k]?=some bk/\cV[k]?=some ku/\V W bk q ku/\cell h b (5+k)=some (.pointer (some ⟨bk,0,none⟩)):=by
 obtain⟨bk,ku,h1,h2,h3⟩:=hq.v k q I
 exact⟨bk,ku,h1,h2,h3,m.cell j ah (by rw[ai2];exact ajf h1)⟩
theorem ai5 (m:ai W h (L::R)) (hv:iu W b P L) (b5:eT P) (hl:P.len<=1048576):aj Tryz.prog 210 #[.pointer (some ⟨b,0,none⟩)] h λv h'=>v= .int .i64 (P.len:Int)/\ai W h' (L::R):=by
 (obtain⟨bs,cV,T,hq,rfl,kl⟩:=hv.dd m;replace m:=kl;clear kl)
 refine ao5 _ _ _ ?_
 (intro k7 qb fs ft;replace m:=m.push ft fs;clear fs ft)
 (refine m.store 0 rfl (Nat.le_of_ble_eq_true rfl) ?_;clear m;intro _ m;simp only[List.set_cons_zero,List.set_cons_succ]at m)
 refine(JY (λk h'=>ai W h' ([(k7,[.int .i64 (j0 (P.q.take k):Int)],3)]::cV.flatten::[(b,jL P++hY bs,T)]::R)) (by simpa[j0]using m) ?_).mono ?_
 ·clear m
  intro k h1 I m
  obtain⟨bk,ku,af,ag,ns,hc⟩:=hq.cellAt (b5.b7 I).1 m (j:=2) rfl
  refine⟨_,hc,Jy (by kernel_rfl) ?_⟩
  have hm:=(m.focus 1 rfl).pick k ag
  have hle:=Qj P.q (k+1)
  have ih:=Qi (b5.b7 I).1
  have hlen:P.len=j0 P.q:=rfl
  refine ao6 _ _ _ _ ?_
  refine⟨_,m.cell 0 rfl rfl,(yH hm ns).mono ?_⟩
  rintro _ h2 ⟨rfl,rfl⟩
  refine⟨_,rfl,m.cell 0 rfl rfl,by simp only[fits];omega,?_⟩
  (refine m.store 0 rfl (Nat.le_of_ble_eq_true rfl) ?_;clear m;intro _ m;simp only[List.set_cons_zero,List.set_cons_succ]at m)
  rw[ih]
  simpa using m
 ·rintro _ h1 ⟨rfl,m⟩
  refine⟨_,m.cell 0 rfl rfl,?_,m.aB.join⟩
  rw[List.take_of_length_le (by rw[b5.n];omega)]
  rfl
theorem ai1 (m:ai W h (L::R)) (hv:iu W b P L) (b5:eT P) (hl:P.len<=1048576):aj Tryz.prog 211 #[.pointer (some ⟨b,0,none⟩)] h λv h'=>v= .int .i64 P.e9/\ai W h' (L::R):=by
 (obtain⟨bs,cV,T,hq,rfl,kl⟩:=hv.dd m;replace m:=kl;clear kl)
 have qd:=b5.Ju
 refine ao2 _ _ _ ?_
 (intro k7 qb fs ft;replace m:=m.push ft fs;clear fs ft)
 (refine m.store 0 rfl (Nat.le_of_ble_eq_true rfl) ?_;clear m;intro _ m;simp only[List.set_cons_zero,List.set_cons_succ]at m)
 refine(JY (λk h'=>ai W h' ([(k7,[.int .i64 (lU (P.q.take k))],3)]::cV.flatten::[(b,jL P++hY bs,T)]::R)) (by simpa[lU]using m) ?_).mono ?_
 ·clear m
  intro k h1 I m
  obtain⟨bk,ku,af,ag,ns,hc⟩:=hq.cellAt (b5.b7 I).1 m (j:=2) rfl
  refine⟨_,hc,Jy (by kernel_rfl) ?_⟩
  have hm:=(m.focus 1 rfl).pick k ag
  have hle:=PK P.q (k+1)
  have rv:=Jt (P.q.take (k+1))
  have ih:=PJ (b5.b7 I).1
  have hlen:P.e9=lU P.q:=rfl
  refine ao3 _ _ _ _ ?_
  refine⟨_,m.cell 0 rfl rfl,(Zq hm ns).mono ?_⟩
  rintro _ h2 ⟨rfl,rfl⟩
  refine⟨_,rfl,m.cell 0 rfl rfl,by simp only[fits];omega,?_⟩
  (refine m.store 0 rfl (Nat.le_of_ble_eq_true rfl) ?_;clear m;intro _ m;simp only[List.set_cons_zero,List.set_cons_succ]at m)
  rw[ih]
  exact m
 ·rintro _ h1 ⟨rfl,m⟩
  refine⟨_,m.cell 0 rfl rfl,?_,m.aB.join⟩
  rw[List.take_of_length_le (by rw[b5.n];omega)]
  rfl
theorem ai4 (m:ai W h (L::R)) (hv:iu W b P L) (b5:eT P) (aid tid:Int):aj Tryz.prog 188 #[.pointer (some ⟨b,0,none⟩), .int .i64 aid, .int .i64 tid] h λv h'=>
 v= .bool (iY aid tid&&decide (0<(P.b7 (dJ aid tid)).bB))/\h'=h:=by
 (obtain⟨bs,cV,T,hq,rfl,kl⟩:=hv.dd m;replace m:=kl;clear kl)
 refine ao4 _ _ _ _ _ ((Mr aid tid).mono ?_)
 rintro _ h1 ⟨rfl,rfl⟩
 refine⟨_,rfl,bH (λht=>?_) λht=>⟨by rw[ht];rfl,rfl⟩⟩
 have hz:=vp.1 ht
 obtain⟨bk,ku,af,ag,ns,hc⟩:=hq.cellAt (b5.b7 (Mn ht)).1 m (j:=1) rfl
 refine⟨by simp only[fits];omega,⟨by omega,by omega⟩,⟨by omega,by omega⟩,_,?_,(yH (m.pick _ ag) ns).mono ?_⟩
 ·rw[show 5+(aid -1).toNat*8+tid.toNat=5+dJ aid tid by unfold dJ;omega];exact hc
 ·rintro _ h2 ⟨rfl,rfl⟩
  refine⟨_,rfl,?_,rfl⟩
  rw[ht]
  simp
end
end Go.Proofs.YtjlkfjnfnonekaaGreatDoor.Pl
set_option maxRecDepth 8000
namespace Go.Proofs.YtjlkfjnfnonekaaGreatDoor.Pl
open Go.Vc
theorem Ml {α:Type} {a b:List α} (h:∀c:List α->Nat,c []=0->(∀x y,c (x++y)=c x+c y)->c a=c b):a.Perm b:=by
 classical
 exact List.perm_iff_count.2 λx=>h (List.count x) rfl λu v=>List.count_append ..
def Cw (bs:List Nat):Option Nat->Option Addr
 |none=>none
 |some k=>(bs[k]?).map λb=>⟨b,0,none⟩
theorem Bj {α:Type} {l:List α} {k:Nat} {x:α} (h:l[k]?=some x):l.set k x=l:=by
 obtain⟨h1,h2⟩:=List.getElem?_eq_some_iff.1 h
 rw[<-h2,List.set_getElem_self]
section
variable{V:Wd->Nat->az->ao->Prop} {W W':Wd} {h h' h1:J} {G R:List ao} {L L' E:ao} {P kX:bL} {q q':az} {mE HF:List az} {bs zI:List Nat} {cV ET:List ao} {b b' k n i:Nat} {p:bh} {cs:List Value} {T:TypeId} {v jh:Value}
theorem gL.shut (hq:gL dq W P.q bs cV) (hb:bs[k]?=some b') (hL:cV[k]?=some E) (hle:W.le W') (hv:dq W' b' q' L') (m:ai W' h (L'::(cV.eraseIdx k).flatten::[(b,jL P++hY bs,T)]::R)):
 ∃L,iu W' b (P.set k q') L/\ai W' h (L::R):=by
 have h1:=(hq.le λ_ _ _=>dq.le hle).set hv k
 rw[Bj hb]at h1
 exact iu.shut (P:=P.set k q') h1 (m.n9 k hL)
theorem iu.mp (hv:iu W b P L) (m:ai W h (L::R)):cell h b 3=some (.int .i64 P.mp):=by
 (obtain⟨bs,cV,T,hq,rfl,kl⟩:=hv.dd m;replace m:=kl;clear kl)
 exact m.cell 1 rfl rfl
theorem iu.cF (hv:iu W b P L) (m:ai W h (L::R)):cell h b 4=some (.int .i64 P.cF):=by
 (obtain⟨bs,cV,T,hq,rfl,kl⟩:=hv.dd m;replace m:=kl;clear kl)
 exact m.cell 1 rfl rfl
theorem ai8 (m:ai W h (L::R)) (hv:iu W b P L) (b5:eT P) (sw:0<P.len):aj Tryz.prog 212 #[.pointer (some ⟨b,0,none⟩)] h λv h'=>
 ∃W' cs L',W.le W'/\v= .agg cs.toArray/\dF W' P.shrink.2 cs/\iu W' b P.shrink.1 L'/\ai W' h' (L'::R):=by
 (obtain⟨bs,cV,T,hq,rfl,kl⟩:=hv.dd m;replace m:=kl;clear kl)
 refine apb _ _ _ ?_
 intro al h1 af ag
 replace m:=m.push ag af
 clear af ag
 intro aP h2 af ag
 replace m:=m.push ag af
 clear af ag
 intro bx h3 af ag
 replace m:=m.push ag af
 clear af ag
 intro dO h4 af ag
 replace m:=m.push ag af
 clear af ag
 (refine m.store 1 rfl (Nat.le_of_ble_eq_true rfl) ?_;clear m;intro _ m;simp only[List.set_cons_zero,List.set_cons_succ]at m)
 (refine m.store 0 rfl (Nat.le_of_ble_eq_true rfl) ?_;clear m;intro _ m;simp only[List.set_cons_zero,List.set_cons_succ]at m)
 refine(JY (λk h'=>∃s:r4,p7 (P.q.drop k) k s=P.x7/\ai W h' ([(dO,[.int .i64 s.2.2],3)]::[(bx,[.int .i64 s.2.1],3)]::[(aP,[.pointer (Cw bs s.1)],184)]::[(al,[.int .i64 0, .int .u32 0, .int .i64 0, .int .i64 0, .slice none 0 0],213)]::cV.flatten::[(b,jL P++hY bs,T)]::R))
  ⟨(none,0,-1),rfl,m⟩ ?_).mono ?_
 ·clear m
  rintro k h1 I ⟨s,hs,m⟩
  have Gc:=(b5.b7 I).1
  have eX:=(b5.b7 I).2.ok
  obtain⟨bk,ku,af,ag,ns,hc⟩:=hq.cellAt Gc m (j:=5) rfl
  refine⟨_,hc,Jy (by kernel_rfl) ?_⟩
  have hm:=(m.focus 4 rfl).pick k ag
  rw[abB Gc]at hs
  refine apc _ _ _ _ _ _ ((abD hm ns eX).mono ?_)
  rintro _ h2 ⟨rfl,rfl⟩
  refine⟨_,_,rfl,(yH hm ns).mono ?_⟩
  rintro _ h3 ⟨rfl,rfl⟩
  clear hm
  refine⟨_,rfl,aC (λq1=>?_) λq1=>?_⟩
  ·refine⟨_,m.cell 0 rfl rfl,aC (λq2=>?_) λq2=>?_⟩
   ·(refine m.store 2 rfl (Nat.le_of_ble_eq_true rfl) ?_;clear m;intro _ m;simp only[List.set_cons_zero,List.set_cons_succ]at m)
    (refine m.store 1 rfl (Nat.le_of_ble_eq_true rfl) ?_;clear m;intro _ m;simp only[List.set_cons_zero,List.set_cons_succ]at m)
    (refine m.store 0 rfl (Nat.le_of_ble_eq_true rfl) ?_;clear m;intro _ m;simp only[List.set_cons_zero,List.set_cons_succ]at m)
    have fO:o8 k (P.b7 k) s=(some k,(P.b7 k).gU.1,(P.b7 k).gU.2):=by unfold o8;rw[if_pos ⟨by omega,q2⟩]
    rw[fO]at hs
    refine⟨_,hs,?_⟩
    have aI:Cw bs (some k)=some ⟨bk,0,none⟩:=by simp[Cw,af]
    rw[aI]
    exact m
   ·have fO:o8 k (P.b7 k) s=s:=by unfold o8;rw[if_neg (λhc=>q2 hc.2)]
    rw[fO]at hs
    exact⟨s,hs,m⟩
  ·have fO:o8 k (P.b7 k) s=s:=by unfold o8;rw[if_neg (λhc=>q1 (by omega))]
   rw[fO]at hs
   exact⟨s,hs,m⟩
 clear m
 rintro _ bW ⟨rfl,s,hs,m⟩
 rw[List.drop_of_length_le (by rw[b5.n];omega)]at hs
 replace hs:s=P.x7:=hs
 subst hs
 obtain⟨k,p,I,hf,Sy,rr,_⟩:=M1 b5 sw
 have Gc:=(b5.b7 I).1
 have eX:=(b5.b7 I).2.ok
 obtain⟨bk,ku,af,ag,ns,hc⟩:=hq.cellAt Gc m (j:=5) rfl
 have aI:Cw bs (some k)=some ⟨bk,0,none⟩:=by simp[Cw,af]
 rw[hf]at m
 dsimp only at m
 rw[aI]at m
 refine⟨_,m.cell 2 rfl rfl,aZ rfl ⟨_,m.cell 2 rfl rfl,_,m.cell 1 rfl rfl,?_⟩⟩
 refine(aaA ((m.focus 4 rfl).pick k ag) ns eX).mono ?_
 rintro _ ct ⟨aQ,cs,jF,hle,rfl,dT,ij,m1⟩
 clear m
 refine⟨_,_,rfl,?_⟩
 rw[rr]at dT
 simp only[Option.getD_some]at dT
 obtain⟨fT,fH,rfl,dK⟩:=dT
 simp only[List.eraseIdx_cons_zero,List.eraseIdx_cons_succ]at m1
 intro fh dS f1 f2
 replace m1:=m1.push f2 f1
 refine⟨⟨rfl,m1.dR 0 rfl rfl,by simp[Value.oneCell']⟩,?_⟩
 intro fD f3
 replace m1:=m1.bm 0 rfl f3
 simp only[bG,List.set_cons_zero,List.set_cons_succ]at m1
 refine⟨_,m1.lH 0 rfl rfl rfl,⟨rfl,m1.dR 6 rfl rfl,by simp[Value.oneCell']⟩,?_⟩
 intro fu f4
 replace m1:=m1.bm 6 rfl f4
 simp only[bG,List.set_cons_zero,List.set_cons_succ]at m1
 refine⟨_,m1.lH 6 rfl rfl rfl,?_⟩
 replace m1:=((((m1.aB).focus 2 rfl).aB.focus 2 rfl).aB.focus 2 rfl).aB.focus 2 rfl
 replace m1:=m1.aB
 simp only[List.eraseIdx_cons_zero,List.eraseIdx_cons_succ,List.set_cons_zero,List.set_cons_succ]at m1
 obtain⟨e7,dc,m2⟩:=hq.shut af ag hle ij m1
 rw[Sy]
 exact⟨aQ,_,e7,hle,rfl,⟨fT,fH,rfl,dK⟩,dc,m2⟩
def bL.jl (P:bL) (aid:Int) (p:bh):bL×List bh:=if iY aid p.tid=true then P.put (dJ aid p.tid) p else(P,[])
def IK (W:Wd) (R:List ao) (b s9:Nat) (xs:List Value) (T:TypeId) (res:bL×List bh) (n:Nat) (out:Option Addr) (ol cJ:Nat) (h':J):Prop:=
 ∃(P:bL) (d:List bh) (vs:List Value) (bu:Wd) (E L:ao),j7 n P d=res/\P.len<=n/\eT P/\P.len+d.length<=1048576/\W.le bu/\ol=d.length/\au out ol cJ 5 vs E/\bX (dF bu) d vs/\iu bu b P L/\ai bu h' (L::[(s9,xs,T)]::E::R)
theorem ai7 {aid:Int} (m:ai W h (L::R)) (hv:iu W b P L) (b5:eT P) (hl:P.len<1048576) (hp:dF W p cs) (h0:0<=p.at_) (h1:p.at_<=1125899906842624) (hlen:p.body.length<=1048576) (hg:bT W 0 0=some jh):
 aj Tryz.prog 138 #[.pointer (some ⟨b,0,none⟩), .int .i64 aid, .agg cs.toArray] h λv h'=>∃a c vs E W' L',v= .tuple #[.slice a (P.jl aid p).2.length c,if iY aid p.tid=true then .nilIface else jh]/\
  au a (P.jl aid p).2.length c 5 vs E/\W.le W'/\bX (dF W') (P.jl aid p).2 vs/\iu W' b (P.jl aid p).1 L'/\ai W' h' (E::L'::R):=by
 have nT:=hp
 obtain⟨fT,fH,rfl,dK⟩:=hp
 refine ao7 _ _ _ _ _ ?_
 intro s9 h1 af ag
 replace m:=m.push ag af
 clear af ag
 refine⟨_,m.cell 0 rfl rfl,(Mr aid p.tid).mono ?_⟩
 rintro _ h2 ⟨rfl,rfl⟩
 refine⟨_,rfl,?_⟩
 by_cases ht:iY aid p.tid=true
 case neg=>
  have gu:iY aid p.tid=false:=by simpa using ht
  refine df (by rw[gu];rfl) ⟨_,m.bT hg,?_⟩
  unfold bL.jl
  rw[if_neg ht,if_neg ht]
  exact⟨none,0,[],[],W,L,rfl,au.nil,Wd.le.refl _,rfl,hv,m.aB.hU⟩
 have hz:=vp.1 ht
 have I:=Mn ht
 refine aZ (by rw[ht];rfl) ⟨by simp only[fits];omega,_,m.cell 0 rfl rfl,⟨by omega,by omega⟩,⟨by omega,by omega⟩,?_⟩
 replace m:=m.focus 1 rfl
 simp only[List.eraseIdx_cons_zero,List.eraseIdx_cons_succ]at m
 unfold bL.jl
 rw[if_pos ht,if_pos ht]
 have uK:=b5.bB I
 obtain⟨a1,a2,a3,a4⟩:=UJ b5 I (p:=p) h0 h1 hlen (by omega)
 have aD:5+(aid -1).toNat*8+p.tid.toNat=5+dJ aid p.tid:=by unfold dJ;omega
 rw[aD]
 unfold bL.put
 (obtain⟨bs,cV,T,hq,rfl,kl⟩:=hv.dd m;replace m:=kl;clear kl)
 obtain⟨bk,ku,af,ag,ns,hc⟩:=hq.cellAt (b5.b7 I).1 m (j:=1) rfl
 refine⟨_,hc,_,m.lH 2 rfl rfl rfl,(ajm (m.pick _ ag) ns (b5.b7 I).2.ok nT hlen (by omega)).mono ?_⟩
 rintro _ h3 ⟨rfl,aQ,N2,hle,Gx,m1⟩
 clear m hc
 refine⟨_,rfl,?_⟩
 obtain⟨jF,ij,m1⟩:=hq.shut af ag hle Gx m1
 clear ns Gx hq af ag hv
 have ij:iu aQ b (P.qJ (dJ aid p.tid) p) jF:=ij
 have R2:=rR hle hg
 have arw:=dK.le hle
 generalize P.qJ (dJ aid p.tid) p=zw at*
 obtain⟨T,m1⟩:∃T,ai aQ h3 (jF::[(s9,[.int .i64 p.id, .int .u32 p.ad, .int .i64 p.tid, .int .i64 p.at_, .slice fT p.body.length fH],T)]::R):=⟨_,m1⟩
 have CF:IK aQ R b s9 [.int .i64 p.id, .int .u32 p.ad, .int .i64 p.tid, .int .i64 p.at_, .slice fT p.body.length fH] T (j7 zw.len zw []) zw.len none 0 0 h3:=
  ⟨zw,[],[],aQ,[],jF,rfl,Nat.le_refl _,a1,by simp only[List.length_nil];omega,Wd.le.refl _,rfl,au.nil,rfl,ij,(m1.hU.focus 2 rfl).focus 2 rfl⟩
 generalize j7 zw.len zw []=res at*
 generalize [Value.int .i64 p.id, .int .u32 p.ad, .int .i64 p.tid, .int .i64 p.at_, .slice fT p.body.length fH]=xs at*
 refine⟨λsf dl o3 h'=>∃n,IK aQ R b s9 xs T res n sf dl o3 h',λsf dl o3 h'=>u0 λn=>IK aQ R b s9 xs T res n sf dl o3 h',⟨_,CF⟩,λ_=>?_⟩
 clear m1 ij CF a1 a2 a3 a4 b5
 intro sf dl o3 h4 CE
 obtain⟨n,⟨EV,d,Im,bu,zr,e7,gX,hn,tq,hC,j2,rfl,wU,qm,dc,m⟩,rv⟩:=Tq CE
 clear CE
 refine⟨λh'=>(EV.mp<EV.len\/EV.cF<EV.e9)/\ai bu h' (e7::[(s9,xs,T)]::zr::R),?_,λ_=>?_⟩
 ·refine⟨_,dc.mp m,(ai5 m dc tq (by omega)).mono ?_⟩
  rintro _ aA ⟨rfl,m⟩
  refine⟨_,rfl,dc.mp m,aC (λq1=>⟨.inl q1,m⟩) λq1=>?_⟩
  refine⟨_,dc.cF m,(ai1 m dc tq (by omega)).mono ?_⟩
  rintro _ aU ⟨rfl,m⟩
  refine⟨_,rfl,dc.cF m,aC (λq2=>⟨.inr q2,m⟩) λq2=>?_⟩
  rw[VC (λhc=>hc.elim q1 q2)]at gX
  rw[<-gX]
  exact⟨_,_,Im,zr,bu,e7,rfl,wU,hle.trans j2,qm,dc,(m.focus 2 rfl).focus 2 rfl|>.aB|> λm=>by
   simp only[List.eraseIdx_cons_zero,List.eraseIdx_cons_succ]at m;exact m⟩
 clear m
 rintro bW ⟨yq,m⟩
 have sw:=TN tq yq
 obtain⟨n,rfl⟩:∃k,n=k+1:=⟨n -1,by omega⟩
 rw[akP yq]at gX
 obtain⟨k,x,_,_,Sy,_,uM,_,_,arG,_⟩:=M1 tq sw
 refine(ai8 m dc tq sw).mono ?_
 rintro _ bJ ⟨eJ,cs,ja,yn,rfl,dT,fE,m⟩
 refine⟨_,rfl,dT.len,?_⟩
 have c9:=dT.len
 have C8:=dT.one
 refine wU.um (us:=cs++[]) m 2 rfl (by simp[c9]) (by simpa using C8) (by omega) (by decide) λay c' bn h' ax o'=>?_
 rw[List.append_nil]at o'
 refine AR rv (k:=n) ⟨_,_,_,eJ,bn,ja,gX,by omega,uM,by rw[List.length_append];simp only[List.length_singleton];omega,j2.trans yn,by simp,o',(qm.mono λ_ _=>dF.le yn).snoc dT,fE,ax⟩ (by omega)
def bL.gy (P:bL) (aid tid now:Int):bL×List bh×Option bh:=if iY aid tid=true then P.take (dJ aid tid) now else(P,[],none)
theorem ai9 {aid tid now:Int} (m:ai W h (L::R)) (hv:iu W b P L) (b5:eT P) (cp:0<=now) (bC:now<=1125899906842624):
 aj Tryz.prog 283 #[.pointer (some ⟨b,0,none⟩), .int .i64 aid, .int .i64 tid, .int .i64 now] h λv h'=>∃a c vs E L' cs,v= .tuple #[.agg cs.toArray, .slice a (P.gy aid tid now).2.1.length c, .bool (P.gy aid tid now).2.2.isSome]/\
  dF W ((P.gy aid tid now).2.2.getD pv) cs/\au a (P.gy aid tid now).2.1.length c 5 vs E/\bX (dF W) (P.gy aid tid now).2.1 vs/\iu W b (P.gy aid tid now).1 L'/\ai W h' (E::L'::R):=by
 refine ao8 _ _ _ _ _ _ ?_
 intro s9 h1 af ag
 replace m:=m.push ag af
 clear af ag
 refine(Mr aid tid).mono ?_
 rintro _ h2 ⟨rfl,rfl⟩
 refine⟨_,rfl,?_⟩
 unfold bL.gy
 by_cases ht:iY aid tid=true
 case neg=>
  have gu:iY aid tid=false:=by simpa using ht
  refine df (by rw[gu];rfl) ⟨⟨rfl,m.dR 0 rfl rfl,by simp[Value.oneCell']⟩,?_⟩
  intro h3 aI
  replace m:=m.bm 0 rfl aI
  rw[if_neg ht]
  exact⟨_,m.lH 0 rfl rfl rfl,none,0,[],[],L,_,rfl,dF.zero,au.nil,rfl,hv,m.aB.hU⟩
 have hz:=vp.1 ht
 have I:=Mn ht
 rw[if_pos ht]
 refine aZ (by rw[ht];rfl) ⟨by simp only[fits];omega,⟨by omega,by omega⟩,⟨by omega,by omega⟩,?_⟩
 have aD:5+(aid -1).toNat*8+tid.toNat=5+dJ aid tid:=by unfold dJ;omega
 rw[aD]
 replace m:=m.focus 1 rfl
 simp only[List.eraseIdx_cons_zero,List.eraseIdx_cons_succ]at m
 (obtain⟨bs,cV,T,hq,rfl,kl⟩:=hv.dd m;replace m:=kl;clear kl)
 obtain⟨bk,ku,af,ag,ns,hc⟩:=hq.cellAt (b5.b7 I).1 m (j:=1) rfl
 refine⟨_,hc,(alH (m.pick _ ag) ns (b5.b7 I).2.ok cp bC).mono ?_⟩
 rintro _ h3 ⟨a,c,vs,E,N2,cs,rfl,dT,o,hs,Gx,m1⟩
 clear m
 refine⟨_,_,_,_,_,rfl,?_⟩
 obtain⟨fT,fH,rfl,dK⟩:=dT
 refine⟨⟨rfl,m1.dR 4 rfl rfl,by simp[Value.oneCell']⟩,?_⟩
 intro h4 aI
 replace m1:=m1.bm 4 rfl aI
 refine⟨_,m1.lH 4 rfl rfl rfl,?_⟩
 have m2:ai W h4 (N2::(cV.eraseIdx (dJ aid tid)).flatten::[(b,jL P++hY bs,T)]::E::R):=(m1.free 4 rfl).perm (by
  simp only[List.eraseIdx_cons_zero,List.eraseIdx_cons_succ,List.set_cons_zero,List.set_cons_succ,List.flatten_cons]
  exact Ml λc h0 hc=>by simp only[hc,h0];omega)
 obtain⟨e7,dc,m3⟩:=hq.shut (R:=E::R) af ag (Wd.le.refl _) Gx m2
 exact⟨_,_,vs,E,e7,_,rfl,⟨fT,fH,rfl,dK⟩,o,hs,dc,m3.focus 1 rfl⟩
end
end Go.Proofs.YtjlkfjnfnonekaaGreatDoor.Pl
set_option maxRecDepth 8000
namespace Go.Proofs.YtjlkfjnfnonekaaGreatDoor.Pl
open Go.Vc
theorem akC {xs us:List Value} {o:Nat} {v:Value} (h:o+us.length<xs.length):(bG xs o us).set (o+us.length) v=bG xs o (us++[v]):=by
 rw[n3 (by omega),n3 (by simp;omega),List.set_append_right _ _ (by simp;omega),List.drop_eq_getElem_cons h]
 have e:o+us.length -(xs.take o++us).length=0:=by simp;omega
 rw[e,List.set_cons_zero]
 simp[Nat.add_assoc]
theorem zc {xs us:List Value} {o:Nat} (h:o+us.length<=xs.length):(bG xs o us).length=xs.length:=by
 rw[n3 h];simp;omega
section
variable{V:Wd->Nat->az->ao->Prop} {W W':Wd} {h h' h1:J} {G R:List ao} {L L' E:ao} {P kX:bL} {q q':az} {mE HF:List az} {bs zI:List Nat} {cV ET:List ao} {b b' k n i:Nat} {p:bh} {cs xs:List Value} {T:TypeId} {v jh:Value}
theorem ajQ {ii:Int} (m:ai W h ([(b,jL P++xs,T)]::R)) (hx:xs.length=128) (adi:ii=(i:Int)) (hi:i<16):aj Tryz.prog 85 #[.pointer (some ⟨b,0,none⟩), .int .i64 ii] h λv h'=>
 ∃bs cV,v= .tuple #[]/\gL dq W (List.replicate 8 P.new) bs cV/\ai W h' (cV.flatten::[(b,jL P++bG xs (i*8) (hY bs),T)]::R):=by
 subst adi
 refine apa _ _ _ _ ⟨λx h'=>∃(t:Nat) (bs:List Nat) (cV:List ao),x=t/\t<=8/\bs.length=t/\gL dq W (List.replicate t P.new) bs cV/\ai W h' (cV.flatten::[(b,jL P++bG xs (i*8) (hY bs),T)]::R),λx _=>(8 -x).toNat,
  ⟨0,[],[],rfl,by omega,rfl,gL.nil,m.hU⟩,λ_=>?_⟩
 clear m
 rintro _ h1 ⟨t,bs,cV,rfl,ht,qd,hq,m⟩
 have dW:∀v (j:Nat),(jL P)[j]?=some v->(jL P++bG xs (i*8) (hY bs))[j]?=some v:= λv j ah=>by
  rw[List.getElem?_append_left (List.getElem?_eq_some_iff.1 ah).1];exact ah
 refine aC (λq1=>?_) λq1=>?_
 ·refine⟨_,m.cell 1 rfl (dW _ 0 rfl),_,m.cell 1 rfl (dW _ 1 rfl),_,m.cell 1 rfl (dW _ 2 rfl),⟨by omega,by omega⟩,(LU m P.bf P.tg P.iv).mono ?_⟩
  rintro _ h2 ⟨b',L,rfl,hv,m⟩
  refine⟨_,rfl,⟨by omega,by omega⟩,?_⟩
  have qn:(bG xs (i*8) (hY bs)).length=128:=by rw[zc (by rw[w7];omega)];exact hx
  refine m.store 2 rfl (by simp only[List.length_append,qn,jL,List.length_cons,List.length_nil];omega) λh3 m=>?_
  rw[show 5+(i:Int).toNat*8+(t:Int).toNat=5+(i*8+(hY bs).length) by rw[w7];omega,ai3,akC (by rw[w7];omega)]at m
  simp only[List.set_cons_zero,List.set_cons_succ]at m
  refine⟨by simp only[fits];omega,⟨t+1,bs++[b'],cV++[L],by omega,by omega,by simp[qd],?_,?_⟩,by(try dsimp only);omega⟩
  ·rw[List.replicate_succ'];exact hq.app (gL.one hv)
  ·have af:hY (bs++[b'])=hY bs++[.pointer (some ⟨b',0,none⟩)]:=Uy
   rw[af]
   exact m.perm (by simp only[List.flatten_cons,List.flatten_append,List.flatten_nil];exact Ml λc h0 hc=>by simp only[hc,h0];omega)
 ·obtain rfl:t=8:=by omega
  exact⟨bs,cV,rfl,hq,m⟩
theorem ai6 (m:ai W h R) (hg:bT W 0 0=some jh) (bf tg iv mp cF:Int):aj Tryz.prog 31 #[.int .u32 bf, .int .i64 tg, .int .i64 iv, .int .i64 mp, .int .i64 cF] h λv h'=>
 (¬(1<=mp/\mp<=512/\1<=cF/\cF<=1048576)->v= .tuple #[.pointer none,jh]/\ai W h' R)/\
 ((1<=mp/\mp<=512/\1<=cF/\cF<=1048576)->∃b L,v= .tuple #[.pointer (some ⟨b,0,none⟩), .nilIface]/\iu W b (ln bf tg iv mp cF) L/\ai W h' (L::R)):=by
 have he:=m.bT hg
 refine ao1 _ _ _ _ _ _ _ (aC (λq=>⟨_,he,λ_=>⟨rfl,m⟩,λhc=>absurd hc (by omega)⟩) λq1=>aC (λq=>⟨_,he,λ_=>⟨rfl,m⟩,λhc=>absurd hc (by omega)⟩) λq2=>
  aC (λq=>⟨_,he,λ_=>⟨rfl,m⟩,λhc=>absurd hc (by omega)⟩) λaE=>aC (λq=>⟨_,he,λ_=>⟨rfl,m⟩,λhc=>absurd hc (by omega)⟩) λbP=>?_)
 intro b h1 af ag
 replace m:=m.push ag af
 clear af ag
 obtain⟨T,m⟩:∃T,ai W h1 ([(b,jL (ln bf tg iv mp cF)++List.replicate 128 (.pointer none),T)]::R):=⟨_,m⟩
 refine⟨λx h'=>∃(i:Nat) (bs:List Nat) (cV:List ao),x=i/\i<=16/\bs.length=i*8/\gL dq W (List.replicate (i*8) (ln bf tg iv mp cF).new) bs cV/\ai W h' (cV.flatten::[(b,jL (ln bf tg iv mp cF)++(hY bs++List.replicate (128 -i*8) (Value.pointer none)),T)]::R),λx _=>(16 -x).toNat,
  ⟨0,[],[],rfl,by omega,rfl,gL.nil,m.hU⟩,λ_=>?_⟩
 clear m he
 rintro _ h2 ⟨i,bs,cV,rfl,hi,qd,hq,m⟩
 refine aC (λq=>?_) λq=>?_
 ·have Dg:(hY bs++List.replicate (128 -i*8) (Value.pointer none)).length=128:=by simp[w7,qd];omega
  refine(ajQ (m.focus 1 rfl) Dg rfl (by omega)).mono ?_
  rintro _ h3 ⟨Fm,W5,rfl,Su,m⟩
  have bJ:Fm.length=8:=by rw[Su.bC];exact List.length_replicate
  refine⟨by simp only[fits];omega,⟨i+1,bs++Fm,cV++W5,by omega,by omega,by rw[List.length_append];omega,?_,?_⟩,by(try dsimp only);omega⟩
  ·have e:List.replicate ((i+1)*8) (ln bf tg iv mp cF).new=List.replicate (i*8) (ln bf tg iv mp cF).new++List.replicate 8 (ln bf tg iv mp cF).new:=by
    rw[List.replicate_append_replicate];congr 1;omega
   rw[e];exact hq.app Su
  ·have e:bG (hY bs++List.replicate (128 -i*8) (Value.pointer none)) (i*8) (hY Fm)=hY (bs++Fm)++List.replicate (128 -(i+1)*8) (Value.pointer none):=by
    rw[n3 (by rw[Dg,w7,bJ];omega),Uy]
    have ca:(hY bs).length=i*8:=by rw[w7,qd]
    rw[List.take_append_of_le_length (by omega),List.take_of_length_le (by omega),List.append_assoc,List.append_assoc]
    congr 2
    rw[List.drop_append,List.drop_of_length_le (by omega),List.nil_append,List.drop_replicate]
    congr 1
    rw[w7,w7,qd,bJ];omega
   rw[e]at m
   exact m.perm (by simp only[List.flatten_cons,List.flatten_append,List.eraseIdx_cons_zero,List.eraseIdx_cons_succ];exact Ml λc h0 hc=>by simp only[hc,h0];omega)
 ·obtain rfl:i=16:=by omega
  refine⟨λhc=>absurd ⟨by omega,by omega,by omega,by omega⟩ hc,λ_=>?_⟩
  simp only[Nat.reduceMul,Nat.sub_self,List.replicate_zero,List.append_nil]at m hq
  obtain⟨L,hv,m⟩:=iu.shut (P:=ln bf tg iv mp cF) hq m
  exact⟨b,L,rfl,hv,m⟩
end
end Go.Proofs.YtjlkfjnfnonekaaGreatDoor.Pl
