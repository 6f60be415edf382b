import Derived.Test.YtjlkfjnfnonekaaGreatDoorM30
import Derived.Test.YtjlkfjnfnonekaaGreatDoorM20
import Derived.Test.YtjlkfjnfnonekaaGreatDoorM29
import Derived.Test.YtjlkfjnfnonekaaGreatDoorM15
set_option linter.all false
set_option maxRecDepth 20000
namespace Go.Proofs.YtjlkfjnfnonekaaGreatDoor.Pl
open Go.Vc
def xz (W:Wd) (f:cU) (cs:List Value) (E:ao):Prop:=
 ∃a c vs,cs= .slice a f.l.length c:: .int .i64 (c5 f.l):: .int .i64 f.cE::sc f.c/\au a f.l.length c 5 vs E/\bX (dF W) f.l vs
structure oe (W:Wd) (q:az) (css:List (List Value)) (Es:List ao):Prop where
 bC:css.length=16
 eE:Es.length=16
 f:∀(k:Nat) (f:cU),q.a6[k]?=some f->∃(cs:List Value) (E:ao),css[k]?=some cs/\Es[k]?=some E/\xz W f cs E
 hT:∀c∈css,c.length=8
def aE (q:az):List Value:=[.int .u32 q.bf, .int .i64 q.tg, .int .i64 q.iv]
def bP (q:az) (e1:Option Addr) (e2:Nat) (dn:Option Addr) (cP:Nat):List Value:=[.slice e1 q.fresh.length e2, .slice dn q.b2.length cP, .int .i64 q.bB, .int .i64 q.e9]
def dq (W:Wd) (b:Nat) (q:az) (L:ao):Prop:=
 ∃(css:List (List Value)) (Es:List ao) (e1:Option Addr) (e2:Nat) (dn:Option Addr) (cP:Nat) (eQ eP:ao) (T:TypeId),oe W q css Es/\au e1 q.fresh.length e2 1 (ints .i64 q.fresh) eQ/\au dn q.b2.length cP 1 (ints .i64 q.b2) eP/\
  L=[(b,fi (aE q) css (bP q e1 e2 dn cP),T)]++(eQ++(eP++Es.flatten))
section
variable{W W':Wd} {h h':J} {G R:List ao} {L E xx eQ eP:ao} {B:ao} {Es:List ao} {css:List (List Value)} {q:az} {f g:cU} {k:Int} {b n:Nat} {cs:List Value} {p:bh} {r:List bh}
theorem xz.le (hl:W.le W') (hf:xz W f cs E):xz W' f cs E:=by
 obtain⟨a,c,vs,h1,h2,h3⟩:=hf;exact⟨a,c,vs,h1,h2,h3.mono λ_ _ h=>h.le hl⟩
theorem oe.le (hl:W.le W') (hc:oe W q css Es):oe W' q css Es:=
 ⟨hc.bC,hc.eE,λk f h=>by obtain⟨cs,E,h1,h2,h3⟩:=hc.f k f h;exact⟨cs,E,h1,h2,h3.le hl⟩,hc.hT⟩
theorem dq.le (hl:W.le W') (hv:dq W b q L):dq W' b q L:=by
 obtain⟨css,Es,e1,e2,dn,cP,eQ,eP,T,hc,of,hX,e⟩:=hv
 exact⟨css,Es,e1,e2,dn,cP,eQ,eP,T,hc.le hl,of,hX,e⟩
theorem oe.dd (hc:oe W q css Es) (hq:c1 q) (av:0<=k) (k1:k<16):
 ∃a c vs E,Es[k.toNat]?=some E/\css=css.set k.toNat (.slice a (q.ad k).l.length c:: .int .i64 (c5 (q.ad k).l):: .int .i64 (q.ad k).cE::sc (q.ad k).c)/\
  au a (q.ad k).l.length c 5 vs E/\bX (dF W) (q.ad k).l vs/\k.toNat<css.length:=by
 obtain⟨cs,E,h1,h2,a,c,vs,rfl,h3,h4⟩:=hc.f _ _ (hq.ad av k1).1
 have cn:=(List.getElem?_eq_some_iff.1 h1).1
 refine⟨a,c,vs,E,h2,?_,h3,h4,cn⟩
 apply List.ext_getElem?
 intro i
 rw[List.getElem?_set]
 split
 ·rename_i e;subst e;exact h1
 ·rfl
theorem oe.cls (hc:oe W q css Es) (hq:c1 q) (I:k.toNat<css.length) (hg:xz W g cs E) (hl:cs.length=8):oe W (q.aX k g) (css.set k.toNat cs) (Es.set k.toNat E):=by
 have h1:=hc.bC
 have h2:=hc.eE
 refine⟨by simp[h1],by simp[h2],λj f ah=>?_,lv hc.hT hl⟩
 simp only[az.aX]at ah
 rw[List.getElem?_set]at ah
 rw[List.getElem?_set,List.getElem?_set]
 by_cases e:k.toNat=j
 ·subst e
  rw[if_pos rfl,if_pos (by rw[hq.len];omega)]at ah
  cases ah
  rw[if_pos rfl,if_pos rfl,if_pos I,if_pos (by omega)]
  exact⟨cs,E,rfl,rfl,hg⟩
 ·rw[if_neg e]at ah
  rw[if_neg e,if_neg e]
  exact hc.f j f ah
theorem _root_.Go.Vc.ai.yR (m:ai W h ((B++(eQ++(eP++Es.flatten)))::R)) (I:Es[n]?=some E):ai W h (B::E::eQ::eP::(Es.eraseIdx n).flatten::R):=
 m.perm (by
  simp only[List.flatten_cons,List.append_assoc]
  refine List.Perm.append_left _ ?_
  have h1:=List.perm_append_comm_assoc (eQ++eP) E ((Es.eraseIdx n).flatten++R.flatten)
  simp only[List.append_assoc]at h1
  refine List.Perm.trans ?_ h1
  have h2:=(((Cr I).append_right R.flatten).append_left eP).append_left eQ
  simpa only[List.append_assoc]using h2)
theorem _root_.Go.Vc.ai.Z5 (m:ai W h (B::E::eQ::eP::(Es.eraseIdx n).flatten::R)) (I:Es[n]?=some xx):ai W h ((B++(eQ++(eP++(Es.set n E).flatten)))::R):=
 m.perm (by
  simp only[List.flatten_cons,List.append_assoc]
  refine List.Perm.append_left _ ?_
  have h1:=List.perm_append_comm_assoc E (eQ++eP) ((Es.eraseIdx n).flatten++R.flatten)
  simp only[List.append_assoc]at h1
  refine h1.trans ?_
  have h2:=(((Cp (B:=E) I).append_right R.flatten).append_left eP).append_left eQ
  simpa only[List.append_assoc]using h2)
theorem c1.nb (hq:c1 q):q.e9<=1152921504606846976/\0<=q.e9:=by
 have h1:∀l:List cU,(∀f∈l,pM f)->iP l<=1048576*et l:= λl=>by
  induction l with
  |nil=>simp[iP,et]
  |cons f r b9=>
   intro hf
   have h1:=b9 λf h=>hf f (by simp[h])
   have h2:=zM (N:=1048576) λp hp=>((hf f (by simp)).p p hp).2.2
   simp only[iP,et];omega
 have h2:=h1 _ hq.f
 have h3:=hq.bB
 unfold az.e9 az.bB at*
 exact⟨by omega,PH _⟩
theorem yH (m:ai W h (L::R)) (hv:dq W b q L):aj Tryz.prog 251 #[.pointer (some ⟨b,0,none⟩)] h λv h'=>v= .int .i64 q.bB/\h'=h:=by
 obtain⟨css,Es,e1,e2,dn,cP,eQ,eP,T,hc,of,hX,rfl⟩:=hv
 replace m:=m.split
 exact aom _ _ _ ⟨_,m.pt 0 rfl hc.hT hc.bC 2 rfl rfl,rfl,rfl⟩
theorem Zq (m:ai W h (L::R)) (hv:dq W b q L):aj Tryz.prog 267 #[.pointer (some ⟨b,0,none⟩)] h λv h'=>v= .int .i64 q.e9/\h'=h:=by
 obtain⟨css,Es,e1,e2,dn,cP,eQ,eP,T,hc,of,hX,rfl⟩:=hv
 replace m:=m.split
 exact aoi _ _ _ ⟨_,m.pt 0 rfl hc.hT hc.bC 3 rfl rfl,rfl,rfl⟩
theorem xb {l:List Value} {q':az} {e1 dn:Option Addr} {e2 cP n eE:Nat} {x y:Int} (h:l=[.slice e1 n e2, .slice dn eE cP, .int .i64 x, .int .i64 y]) (h1:n=q'.fresh.length) (h2:eE=q'.b2.length) (h3:x=q'.bB) (h4:y=q'.e9):l=bP q' e1 e2 dn cP:=by
 subst h1 h2 h3 h4 h;rfl
theorem za (q:az) (k:Int) (g:cU):(q.aX k g).bB=et (q.a6.set k.toNat g):=rfl
theorem Eb (q:az) (k:Int) (g:cU):(q.aX k g).e9=iP (q.a6.set k.toNat g):=rfl
theorem Eh {q':az} {e1 dn:Option Addr} {e2 cP:Nat} {post:List Value} {T:TypeId} (hc:oe W q css Es) (hq:c1 q) (I:k.toNat<css.length) (hE:Es[k.toNat]?=some xx) (hg:xz W g cs E) (hl:cs.length=8)
 (of:au e1 q'.fresh.length e2 1 (ints .i64 q'.fresh) eQ) (hX:au dn q'.b2.length cP 1 (ints .i64 q'.b2) eP) (h3:aE q'=aE q) (gp:q'.a6=q.a6.set k.toNat g)
 (m:ai W h ([(b,fi (aE q) (css.set k.toNat cs) post,T)]::E::eQ::eP::(Es.eraseIdx k.toNat).flatten::R)) (KW:post=bP q' e1 e2 dn cP):∃L',dq W b q' L'/\ai W h (L'::R):=by
 have h1:=hc.cls hq I hg hl
 have h2:oe W q' (css.set k.toNat cs) (Es.set k.toNat E):=⟨h1.bC,h1.eE,by rw[gp];exact h1.f,h1.hT⟩
 refine⟨_,⟨_,_,e1,e2,dn,cP,eQ,eP,T,h2,of,hX,rfl⟩,?_⟩
 have:=m.Z5 hE
 rw[KW]at this
 rw[h3];exact this
theorem HW (m:ai W h (L::R)) (hv:dq W b q L) (hq:c1 q) (av:0<=k) (k1:k<16) (hp:(q.ad k).l=p::r):
 aj Tryz.prog 290 #[.pointer (some ⟨b,0,none⟩), .int .i64 k] h λv h'=>∃cs L',v= .agg cs.toArray/\dF W p cs/\dq W b (q.aX k ((q.ad k).bG r)) L'/\ai W h' (L'::R):=by
 obtain⟨css,Es,e1,e2,dn,cP,eQ,eP,T,hc,of,hX,rfl⟩:=hv
 obtain⟨a,c,vs,E,hE,cz,o,hs,I⟩:=hc.dd hq av k1
 have hn:=hc.hT
 have iB:=hc.bC
 have uK:=hq.bB
 obtain⟨gn,fj⟩:=hq.nb
 have Ab:q.bB=et q.a6:=rfl
 have z8:q.e9=iP q.a6:=rfl
 have wq:=vP (hq.ad av k1).1
 have fk:=te (hq.ad av k1).1
 have hle:=((hq.ad av k1).2.p p (by rw[hp];simp)).2.2
 have af:=pZ (g:=(q.ad k).bG r) (hq.ad av k1).1
 have ag:=zL (g:=(q.ad k).bG r) (hq.ad av k1).1
 have gO:=oZ r
 rw[hp]at o hs cz wq fk af ag
 simp only[List.length_cons,c5,Ed]at o cz wq fk af ag
 replace m:=m.yR hE
 rw[cz]at m
 obtain⟨cs,dT,gE,wD⟩:=hs.get (λ_ _=>dF.len) (i:=0) (x:=p) rfl
 obtain⟨fT,fH,rfl,dK⟩:=dT
 rw[Nat.zero_mul]at gE
 refine aoq _ _ _ _ ?_
 (intro k7 qb fs ft;replace m:=m.push ft fs;clear fs ft)
 refine⟨⟨av,by omega⟩,?_⟩
 refine⟨_,_,_,m.sj 1 rfl hn I rfl 0 rfl rfl,?_⟩
 refine⟨⟨by omega,by omega⟩,?_⟩
 obtain⟨b1,mH,rfl,U⟩:=mK (k:=0) (n:=5) (o.src m 2 rfl) (by omega) (by decide) gE
 refine⟨_,U,?_⟩
 (intro k7 qb fs ft;replace m:=m.push ft fs;clear fs ft)
 refine⟨⟨rfl,m.dR 0 rfl rfl,by simp[Value.oneCell']⟩,?_⟩
 intro h3 aI
 replace m:=m.bm 0 rfl aI
 clear aI
 simp only[List.set_cons_zero,List.set_cons_succ,bG]at m
 refine⟨_,_,_,m.sj 2 rfl hn I rfl 0 rfl rfl,?_⟩
 refine⟨⟨by omega,by omega⟩,?_⟩
 have n0:=o.tail 1 (by omega)
 have ih:=hs.drop (λ_ _=>dF.len) 1
 simp only[List.drop_succ_cons,List.drop_zero]at ih
 refine(Z3 (n0.src m 3 rfl) n0.len (ih.all λ_ _=>dF.one) (by omega)).mono ?_
 rintro _ h4 ⟨ay,c',bn,rfl,mk,o'⟩
 replace m:=m.beside mk
 refine⟨_,_,_,rfl,?_⟩
 simp only[List.cons_append,List.nil_append]at m
 (refine m.ye 3 rfl hn I rfl 0 rfl rfl ?_;clear m;intro _ m;simp only[List.set_cons_zero,List.set_cons_succ]at m)
 refine⟨_,m.sj 3 rfl hn I rfl 1 rfl rfl,?_⟩
 refine⟨_,_,_,m.cell 1 rfl rfl,?_⟩
 refine⟨by simp only[fits];omega,?_⟩
 (refine m.ye 3 rfl hn I rfl 1 rfl rfl ?_;clear m;intro _ m;simp only[List.set_cons_zero,List.set_cons_succ]at m)
 refine⟨_,m.pt 3 rfl (lv hn rfl) (List.length_set.trans iB) 2 rfl rfl,?_⟩
 refine⟨by simp only[fits];omega,?_⟩
 (refine m.w9 3 rfl (lv hn rfl) (List.length_set.trans iB) 2 rfl (Nat.le_of_ble_eq_true rfl) ?_;clear m;intro _ m;simp only[List.set_cons_zero,List.set_cons_succ]at m)
 refine⟨_,m.pt 3 rfl (lv hn rfl) (List.length_set.trans iB) 3 rfl rfl,?_⟩
 refine⟨_,_,_,m.cell 1 rfl rfl,?_⟩
 refine⟨by simp only[fits];omega,?_⟩
 (refine m.w9 3 rfl (lv hn rfl) (List.length_set.trans iB) 3 rfl (Nat.le_of_ble_eq_true rfl) ?_;clear m;intro _ m;simp only[List.set_cons_zero,List.set_cons_succ]at m)
 refine⟨_,m.lH 1 rfl rfl rfl,?_⟩
 refine⟨⟨rfl,m.dR 2 rfl rfl,by simp[Value.oneCell']⟩,?_⟩
 intro ct aI
 replace m:=m.bm 2 rfl aI
 refine⟨_,m.lH 2 rfl rfl rfl,?_⟩
 clear aI
 have m2:=((((m.free 4 rfl).free 1 rfl).free 1 rfl).focus 1 rfl)
 rw[show p.body.length+c5 r -p.body.length=c5 r by omega]at m2
 have aK:=za q k ((q.ad k).bG r)
 have aG:=Eb q k ((q.ad k).bG r)
 obtain⟨L',hv',ax⟩:=Eh (q':=q.aX k ((q.ad k).bG r)) (g:=(q.ad k).bG r) hc hq I hE (E:=bn) ⟨ay,c',_,rfl,by simpa using o',by simpa using ih⟩ rfl of hX rfl rfl m2 (xb rfl rfl rfl (by omega) (by omega))
 exact⟨_,L',rfl,⟨fT,fH,rfl,dK⟩,hv',ax⟩
theorem ajn (m:ai W h (L::R)) (hv:dq W b q L) (hq:c1 q) (hp:dF (Wd.of h) p cs) (hlen:p.body.length<=1048576) (mu:q.bB<1048576):
 aj Tryz.prog 209 #[.pointer (some ⟨b,0,none⟩), .agg cs.toArray] h λv h'=>v= .int .i64 (db p.ad q.bf)/\∃W' L',W.le W'/\dq W' b (q.put p) L'/\ai W' h' (L'::R):=by
 obtain⟨av,k1⟩:=zJ p.ad q.bf
 obtain⟨k,Ga⟩:∃k,k=db p.ad q.bf:=⟨_,rfl⟩
 rw[<-Ga]at av k1
 (obtain⟨css,Es,e1,e2,dn,cP,eQ,eP,T,hc,of,hX,rfl⟩:=hv;obtain⟨a,c,vs,E,hE,cz,o,hs,I⟩:=hc.dd hq av k1;have hn:=hc.hT;have iB:=hc.bC;have uK:=hq.bB;obtain⟨gn,fj⟩:=hq.nb;have Ab:q.bB=et q.a6:=rfl;have z8:q.e9=iP q.a6:=rfl;have wq:=vP (hq.ad av k1).1;have fk:=te (hq.ad av k1).1;have hfn:=oZ (q.ad k).l;replace m:=m.yR hE;rw[cz]at m)
 have af:=pZ (g:=(q.ad k).bG ((q.ad k).l++[p])) (hq.ad av k1).1
 have ag:=zL (g:=(q.ad k).bG ((q.ad k).l++[p])) (hq.ad av k1).1
 have aI:=pZ (g:=((q.ad k).bG ((q.ad k).l++[p])).e3 300) (hq.ad av k1).1
 have cx:=zL (g:=((q.ad k).bG ((q.ad k).l++[p])).e3 300) (hq.ad av k1).1
 have cy:=B6 (q.ad k).l [p]
 simp only[Ed,MS,List.length_append,List.length_cons,List.length_nil,c5]at af ag aI cx cy
 obtain⟨fT,fH,rfl,dK⟩:=hp
 refine aon _ _ _ _ ?_
 intro k7 qb fs ft
 have fl:=((ai.start h).push ft fs).kept (Wd.le.refl _)
 replace m:=m.push ft fs
 clear fs ft
 refine⟨_,m.cell 0 rfl rfl,?_⟩
 refine⟨_,m.KC 1 rfl (Nat.le_of_ble_eq_true rfl) rfl,?_⟩
 refine(Zn _ _ _).ret ⟨_,rfl,?_⟩
 rw[<-Ga]
 refine⟨⟨av,by omega⟩,?_⟩
 refine⟨_,_,_,m.cell 0 rfl rfl,?_⟩
 obtain⟨nQ,yf⟩:=(dK.le fl.le).src
 refine(Cf nQ (by simp[ints]) dM (by omega)).mono ?_
 rintro _ h3 ⟨ay,c',bn,rfl,mk,o'⟩
 replace m:=m.beside mk
 refine⟨_,_,_,rfl,?_⟩
 simp only[List.cons_append,List.nil_append]at m
 obtain⟨W',hle,adf,ax⟩:=m.give
 have acK:=o'.uq rfl adf
 clear m mk
 have m:=ax
 clear ax
 (refine m.store 0 rfl (Nat.le_of_ble_eq_true rfl) ?_;clear m;intro _ m;simp only[List.set_cons_zero,List.set_cons_succ]at m)
 refine⟨_,_,_,m.sj 1 rfl hn I rfl 0 rfl rfl,?_⟩
 refine⟨_,m.lH 0 rfl rfl rfl,?_⟩
 refine⟨rfl,?_⟩
 refine o.um m 2 rfl rfl (by simp[Value.oneCell']) (by omega) (by decide) λa2 aG cD aU ax aM=>?_
 clear m
 have m:=ax
 clear ax
 simp only[List.set_cons_zero,List.set_cons_succ]at m
 (refine m.ye 1 rfl hn I rfl 0 rfl rfl ?_;clear m;intro _ m;simp only[List.set_cons_zero,List.set_cons_succ]at m)
 refine⟨_,m.sj 1 rfl hn I rfl 1 rfl rfl,?_⟩
 refine⟨_,_,_,m.cell 0 rfl rfl,?_⟩
 refine⟨by simp only[fits];omega,?_⟩
 (refine m.ye 1 rfl hn I rfl 1 rfl rfl ?_;clear m;intro _ m;simp only[List.set_cons_zero,List.set_cons_succ]at m)
 refine⟨_,m.pt 1 rfl (lv hn rfl) (List.length_set.trans iB) 2 rfl rfl,?_⟩
 refine⟨by simp only[fits];omega,?_⟩
 (refine m.w9 1 rfl (lv hn rfl) (List.length_set.trans iB) 2 rfl (Nat.le_of_ble_eq_true rfl) ?_;clear m;intro _ m;simp only[List.set_cons_zero,List.set_cons_succ]at m)
 refine⟨_,m.pt 1 rfl (lv hn rfl) (List.length_set.trans iB) 3 rfl rfl,?_⟩
 refine⟨_,_,_,m.cell 0 rfl rfl,?_⟩
 refine⟨by simp only[fits];omega,?_⟩
 (refine m.w9 1 rfl (lv hn rfl) (List.length_set.trans iB) 3 rfl (Nat.le_of_ble_eq_true rfl) ?_;clear m;intro _ m;simp only[List.set_cons_zero,List.set_cons_succ]at m)
 rename_i dS
 refine⟨_,_,_,m.pt 1 rfl (lv hn rfl) (List.length_set.trans iB) 0 rfl rfl,?_⟩
 have Aw:=hq.lens
 refine(Cg (of.oL m 3 rfl) rfl (by omega)).ret ⟨_,rfl,?_⟩
 have RS:=hc.le hle
 have iS:bX (dF W') ((q.ad k).l++[p]) (vs++[.int .i64 p.id, .int .u32 p.ad, .int .i64 p.tid, .int .i64 p.at_, .slice ay p.body.length c']):=(hs.mono λ_ _ h=>h.le hle).snoc ⟨ay,c',rfl,acK⟩
 have dP:((q.ad k).l++[p]).length=(q.ad k).l.length+1:=by simp
 rw[show c5 (q.ad k).l+p.body.length=c5 ((q.ad k).l++[p]) by omega,<-dP]at m
 rw[<-dP]at aM
 have fin:(k∈q.fresh\/k∈q.b2)->∃W' L',W.le W'/\dq W' b (q.put p) L'/\ai W' dS (L'::R):= λjw=>by
  have J5:q.put p=q.aX k ((q.ad k).bG ((q.ad k).l++[p])):=by unfold az.put;rw[<-Ga];exact if_pos jw
  have aK:=za q k ((q.ad k).bG ((q.ad k).l++[p]))
  have Zs:=Eb q k ((q.ad k).bG ((q.ad k).l++[p]))
  rw[J5]
  obtain⟨L',h1,h2⟩:=Eh (q':=q.aX k ((q.ad k).bG ((q.ad k).l++[p]))) RS hq I hE (E:=cD) ⟨a2,aG,_,rfl,aM,iS⟩ rfl of hX rfl rfl m.aB (xb rfl rfl rfl (by omega) (by omega))
  exact⟨W',L',hle,h1,h2⟩
 refine bH (λq1=>?_) (λq1=>⟨rfl,fin (.inl (by simpa using q1))⟩)
 refine⟨_,_,_,m.pt 1 rfl (lv hn rfl) (List.length_set.trans iB) 1 rfl rfl,?_⟩
 refine(Cg (hX.oL m 4 rfl) rfl (by omega)).ret ⟨_,rfl,?_⟩
 refine bH (λq2=>?_) (λq2=>⟨rfl,fin (.inr (by simpa using q2))⟩)
 clear fin
 (refine m.ye 1 rfl hn I rfl 2 rfl rfl ?_;clear m;intro _ m;simp only[List.set_cons_zero,List.set_cons_succ]at m)
 refine⟨_,_,_,m.pt 1 rfl (lv hn rfl) (List.length_set.trans iB) 0 rfl rfl,?_⟩
 refine of.um m 3 rfl rfl (by simp[Value.oneCell']) (by omega) (by decide) λa3 bd mT pa ax cb=>?_
 clear m
 have m:=ax
 clear ax
 simp only[List.set_cons_zero,List.set_cons_succ]at m
 (refine m.w9 1 rfl (lv hn rfl) (List.length_set.trans iB) 0 rfl (Nat.le_of_ble_eq_true rfl) ?_;clear m;intro _ m;simp only[List.set_cons_zero,List.set_cons_succ]at m)
 refine⟨rfl,?_⟩
 have J5:q.put p=(q.aX k (((q.ad k).bG ((q.ad k).l++[p])).e3 300)).zB k:=by
  unfold az.put;rw[<-Ga];exact if_neg (by rintro(h|h);exact absurd h (by simpa using q1);exact absurd h (by simpa using q2))
 have aK:=za q k (((q.ad k).bG ((q.ad k).l++[p])).e3 300)
 have Zs:=Eb q k (((q.ad k).bG ((q.ad k).l++[p])).e3 300)
 rw[J5]
 have hF:au a3 (q.fresh++[k]).length bd 1 (ints .i64 (q.fresh++[k])) mT:=by rw[kI];show au a3 _ bd 1 (ints .i64 q.fresh++[.int .i64 k]) mT;simpa using cb
 obtain⟨L',h1,h2⟩:=Eh (q':=(q.aX k (((q.ad k).bG ((q.ad k).l++[p])).e3 300)).zB k) RS hq I hE (E:=cD) ⟨a2,aG,_,rfl,aM,iS⟩ rfl hF hX rfl rfl m.aB
  (xb rfl (by show _=(q.fresh++[k]).length;simp) rfl (by show _=((q.aX k (((q.ad k).bG ((q.ad k).l++[p])).e3 300)).bB:Int);omega) (by show _=(q.aX k (((q.ad k).bG ((q.ad k).l++[p])).e3 300)).e9;omega))
 exact⟨W',L',hle,h1,h2⟩
theorem ajm (m:ai W h (L::R)) (hv:dq W b q L) (hq:c1 q) (hp:dF W p cs) (hlen:p.body.length<=1048576) (mu:q.bB<1048576):
 aj Tryz.prog 209 #[.pointer (some ⟨b,0,none⟩), .agg cs.toArray] h λv h'=>v= .int .i64 (db p.ad q.bf)/\∃W' L',W.le W'/\dq W' b (q.put p) L'/\ai W' h' (L'::R):=ajn m hv hq (hp.le m.Tp) hlen mu
def Ix (b:Nat) (q:az) (k:Int) (css:List (List Value)) (a:Option Addr) (c:Nat) (e1:Option Addr) (e2:Nat) (dn:Option Addr) (cP:Nat) (T:TypeId):ao:=
 [(b,fi (aE q) (css.set k.toNat (.slice a (q.ad k).l.length c:: .int .i64 (c5 (q.ad k).l):: .int .i64 (q.ad k).cE::sc (q.ad k).c)) (bP q e1 e2 dn cP),T)]
theorem Rk {now:Int} (m:ai W h (L::R)) (hv:dq W b q L) (hq:c1 q) (av:0<=k) (k1:k<16) (cp:0<=now) (bC:now<=1125899906842624):
 aj Tryz.prog 297 #[.pointer (some ⟨b,0,none⟩), .int .i64 k, .int .i64 now] h λv h'=>∃a c vs E L',v= .tuple #[.slice a (kE q.tg q.iv now (q.ad k)).length c, .bool (qv q.tg q.iv now (q.ad k))]/\
  au a (kE q.tg q.iv now (q.ad k)).length c 5 vs E/\bX (dF W) (kE q.tg q.iv now (q.ad k)) vs/\dq W b (q.aX k (dN q.tg q.iv now (q.ad k))) L'/\ai W h' (E::L'::R):=by
 (obtain⟨css,Es,e1,e2,dn,cP,eQ,eP,T,hc,of,hX,rfl⟩:=hv;obtain⟨a,c,vs,E,hE,cz,o,hs,I⟩:=hc.dd hq av k1;have hn:=hc.hT;have iB:=hc.bC;have uK:=hq.bB;obtain⟨gn,fj⟩:=hq.nb;have Ab:q.bB=et q.a6:=rfl;have z8:q.e9=iP q.a6:=rfl;have wq:=vP (hq.ad av k1).1;have fk:=te (hq.ad av k1).1;have hfn:=oZ (q.ad k).l;replace m:=m.yR hE;rw[cz]at m)
 obtain⟨RC,uE,hC,sw,ez⟩:=DV (tg:=q.tg) (iv:=q.iv) (hq.ad av k1).2 (by omega) cp bC
 have cS:=(hq.ad av k1).2
 refine aop _ _ _ _ _ ⟨⟨av,by omega⟩,?_⟩
 refine⟨_,_,_,m.sj 0 rfl hn I rfl 0 rfl rfl,?_⟩
 have gq:(nu (q.ad k).l).length=(q.ad k).l.length:=by simp[nu]
 replace m:ai W h (Ix b q k css a c e1 e2 dn cP T::E::eQ::eP::(Es.eraseIdx k.toNat).flatten::R):=m
 refine⟨λDl jx Lk x h'=>∃(j:Nat) (IE:ao),x=j/\j<=(q.ad k).l.length/\jx=j/\au Dl jx Lk 2 (p8 (nu ((q.ad k).l.take j))) IE/\ai W h' (IE::Ix b q k css a c e1 e2 dn cP T::E::eQ::eP::(Es.eraseIdx k.toNat).flatten::R),λ_ _ _ x _=>(((q.ad k).l.length:Int) -x).toNat,
  ⟨0,[],rfl,by omega,rfl,au.nil,m.hU⟩,λ_=>?_⟩
 clear m
 rintro Dl jx Lk _ h1 ⟨j,IE,rfl,ah,arC,rF,m⟩
 subst jx
 refine aC (λq1=>?_) λq1=>?_
 ·obtain⟨x,hx⟩:∃x,(q.ad k).l[j]?=some x:=⟨_,List.getElem?_eq_getElem (by omega)⟩
  obtain⟨cs,dT,gE,wD⟩:=hs.get (λ_ _=>dF.len) hx
  obtain⟨fT,fH,rfl,dK⟩:=dT
  obtain⟨b1,mH,rfl,U⟩:=mK (k:=j*5) (n:=5) (o.src m 2 rfl) wD (by decide) gE
  refine⟨⟨by omega,by omega⟩,_,U,?_⟩
  (intro k7 qb fs ft;replace m:=m.push ft fs;clear fs ft)
  refine⟨⟨rfl,m.dR 0 rfl rfl,by simp[Value.oneCell']⟩,?_⟩
  intro h3 aI
  replace m:=m.bm 0 rfl aI
  clear aI
  simp only[List.set_cons_zero,List.set_cons_succ,bG]at m
  refine⟨_,m.cell 0 rfl rfl,?_⟩
  refine⟨_,_,_,m.cell 0 rfl rfl,?_⟩
  refine⟨rfl,?_⟩
  refine rF.um m 1 rfl rfl (by simp[Value.oneCell']) (by omega) (by decide) λa2 aG cD aU ax aM=>?_
  clear m
  simp only[List.set_cons_zero,List.set_cons_succ]at ax
  refine⟨by simp only[fits];omega,⟨j+1,cD,by omega,by omega,rfl,?_,ax.aB⟩,by dsimp only;omega⟩
  rw[<-V3 hx]
  simp only[nu,List.map_append,abL]at aM⊢
  exact aM
 ·obtain rfl:j=(q.ad k).l.length:=by omega
  rw[List.take_length]at rF
  clear q1 ah
  refine⟨λx n is h'=>∃(ep:Nat) (BP:TypeId),x=some ⟨ep,0,none⟩/\n=((ea q.tg q.iv now (q.ad k)).1.pos:Nat)/\is=(ea q.tg q.iv now (q.ad k)).2/\
   ai W h' ([(ep,sc (ea q.tg q.iv now (q.ad k)).1,BP)]::Ix b q k css a c e1 e2 dn cP T::E::eQ::eP::(Es.eraseIdx k.toNat).flatten::R),?_,λ_=>?_⟩
  ·refine⟨_,m.ab1 1 rfl hn I rfl 3 rfl rfl rfl,?_⟩
   refine⟨_,m.KC 1 rfl (Nat.le_of_ble_eq_true rfl) rfl,?_⟩
   refine⟨_,m.KC 1 rfl (Nat.le_of_ble_eq_true rfl) rfl,?_⟩
   refine⟨_,m.sj 1 rfl hn I rfl 1 rfl rfl,?_⟩
   have p1:= λ(h1:J) (hi:q3 h1 Dl (nu (q.ad k).l))=>ajk (cap:=Lk) (c:=(q.ad k).c) RC hi uE
   rw[gq]at p1
   refine⟨?_,?_⟩
   ·refine(p1 _ (S7 (rF.src m 0 rfl))).mono ?_
    rintro _ aU ⟨rfl,fl⟩
    replace m:=m.on fl
    refine⟨_,_,_,rfl,?_⟩
    (intro k7 qb fs ft;replace m:=m.push ft fs;clear fs ft)
    refine⟨⟨rfl,m.dR 0 rfl rfl,by simp[sc,Value.oneCell']⟩,?_⟩
    intro bJ aI
    replace m:=m.bm 0 rfl aI
    exact⟨_,_,rfl,rfl,rfl,m.free 1 rfl⟩
   ·(intro k7 qb fs ft;replace m:=m.push ft fs;clear fs ft)
    refine(p1 _ (S7 (rF.src m 1 rfl))).mono ?_
    rintro _ aU ⟨rfl,fl⟩
    replace m:=m.on fl
    refine⟨_,_,_,rfl,?_⟩
    refine⟨⟨rfl,m.dR 0 rfl rfl,by simp[sc,Value.oneCell']⟩,?_⟩
    intro bJ aI
    replace m:=m.bm 0 rfl aI
    exact⟨_,_,rfl,rfl,rfl,m.free 1 rfl⟩
  ·clear m
   rintro _ _ _ fu ⟨ep,BP,rfl,rfl,rfl,m⟩
   refine⟨_,m.lH 0 rfl rfl rfl,?_⟩
   refine⟨⟨rfl,m.Rr 1 rfl hn I rfl 3 rfl rfl,by simp[sc,Value.oneCell']⟩,?_⟩
   intro fQ aI
   replace m:=m.Rq 1 rfl hn I rfl 3 rfl (Nat.le_of_ble_eq_true rfl) aI
   clear aI
   simp only[List.set_cons_zero,List.set_cons_succ]at m
   have aK:=za q k ⟨(q.ad k).l,(q.ad k).cE,(ea q.tg q.iv now (q.ad k)).1.rest⟩
   have aG:=Eb q k ⟨(q.ad k).l,(q.ad k).cE,(ea q.tg q.iv now (q.ad k)).1.rest⟩
   have bd:=pZ (g:=⟨(q.ad k).l,(q.ad k).cE,(ea q.tg q.iv now (q.ad k)).1.rest⟩) (hq.ad av k1).1
   have c7:=zL (g:=⟨(q.ad k).l,(q.ad k).cE,(ea q.tg q.iv now (q.ad k)).1.rest⟩) (hq.ad av k1).1
   dsimp only at bd c7
   obtain⟨jF,ij,m1⟩:=Eh (q':=q.aX k ⟨(q.ad k).l,(q.ad k).cE,(ea q.tg q.iv now (q.ad k)).1.rest⟩) (g:=⟨(q.ad k).l,(q.ad k).cE,(ea q.tg q.iv now (q.ad k)).1.rest⟩) hc hq I hE (E:=E) ⟨a,c,_,rfl,o,hs⟩ rfl of hX rfl rfl m.aB (xb (x:=q.bB) (y:=q.e9) rfl rfl rfl (by omega) (by omega))
   clear m aK aG bd c7 cz RC uE
   have adV:kE q.tg q.iv now (q.ad k)=(q.ad k).l.take (ea q.tg q.iv now (q.ad k)).1.pos:=rfl
   have adM:dN q.tg q.iv now (q.ad k)=⟨(q.ad k).l.drop (ea q.tg q.iv now (q.ad k)).1.pos,(q.ad k).cE,(ea q.tg q.iv now (q.ad k)).1.rest⟩:=rfl
   have KH:qv q.tg q.iv now (q.ad k)=(ea q.tg q.iv now (q.ad k)).2:=rfl
   rw[adV,adM,KH]
   generalize ea q.tg q.iv now (q.ad k)=aJ at*
   obtain⟨t,is⟩:=aJ
   dsimp only at*
   have eX:∀j,c1 (q.aX k ⟨(q.ad k).l.drop j,(q.ad k).cE,t.rest⟩):= λj=>
    hq.aX av k1 ⟨U5 hC,λp hp=>cS.p p (List.mem_of_mem_drop hp),cS.d0,cS.d1⟩ (by simp)
   have gp:∀j,(q.aX k ⟨(q.ad k).l.drop j,(q.ad k).cE,t.rest⟩).ad k=⟨(q.ad k).l.drop j,(q.ad k).cE,t.rest⟩:= λj=>mh hq av k1
   refine⟨λar ol cJ x h'=>∃(j:Nat) (vs:List Value) (E L':ao),x=j/\j<=t.pos/\ol=j/\au ar j cJ 5 vs E/\bX (dF W) ((q.ad k).l.take j) vs/\dq W b (q.aX k ⟨(q.ad k).l.drop j,(q.ad k).cE,t.rest⟩) L'/\ai W h' (E::L'::R),
    λ_ _ _ x _=>((t.pos:Int) -x).toNat,⟨0,[],[],jF,rfl,by omega,rfl,au.nil,rfl,ij,m1.hU⟩,λ_=>?_⟩
   clear ij m1 hs o
   rintro ar ol cJ _ iA ⟨j,vs,E,L',rfl,ah,pe,o,hs,hv,m⟩
   subst ol
   refine aC (λq1=>?_) λq1=>?_
   ·obtain⟨x,hx⟩:∃x,(q.ad k).l[j]?=some x:=⟨_,List.getElem?_eq_getElem (by omega)⟩
    have hd:(q.ad k).l.drop j=x::(q.ad k).l.drop (j+1):=by
     rw[List.drop_eq_getElem_cons (List.getElem?_eq_some_iff.1 hx).1,(List.getElem?_eq_some_iff.1 hx).2]
    refine(HW (m.focus 1 rfl) hv (eX j) av k1 (p:=x) (r:=(q.ad k).l.drop (j+1)) (by rw[gp];exact hd)).mono ?_
    rintro _ pa ⟨cs,e7,rfl,dT,dc,m2⟩
    rw[gp,Ec]at dc
    refine⟨_,rfl,dT.len,?_⟩
    refine o.um m2 1 rfl (by simp[dT.len]) (by simpa using dT.one) (by omega) (by decide) λa2 aG cD aU ax aM=>?_
    rw[List.append_nil]at aM
    refine⟨by simp only[fits];omega,⟨j+1,_,cD,e7,by omega,by omega,rfl,aM,?_,dc,ax.focus 1 rfl⟩,by dsimp only;omega⟩
    rw[<-V3 hx]
    exact hs.snoc dT
   ·obtain rfl:j=t.pos:=by omega
    have e:((q.ad k).l.take t.pos).length=t.pos:=by simp;omega
    exact⟨ar,cJ,vs,E,L',by rw[e],by rw[e];exact o,hs,hv,m⟩
end
section
variable{W W':Wd} {h h' h1:J} {G R:List ao} {L E xx eQ eP:ao} {B:ao} {Es:List ao} {css:List (List Value)} {q:az} {f g:cU} {k d:Int} {b n:Nat} {cs:List Value} {p:bh} {r:List bh}
theorem M3 {q':az} {e1 dn:Option Addr} {e2 cP:Nat} {post:List Value} {T:TypeId} (hc:oe W q css Es) (of:au e1 q'.fresh.length e2 1 (ints .i64 q'.fresh) eQ) (hX:au dn q'.b2.length cP 1 (ints .i64 q'.b2) eP) (h3:aE q'=aE q) (gp:q'.a6=q.a6)
 (m:ai W h ([(b,fi (aE q) css post,T)]::eQ::eP::Es.flatten::R)) (KW:post=bP q' e1 e2 dn cP):∃L',dq W b q' L'/\ai W h (L'::R):=by
 have h2:oe W q' css Es:=⟨hc.bC,hc.eE,by rw[gp];exact hc.f,hc.hT⟩
 refine⟨_,⟨_,_,e1,e2,dn,cP,eQ,eP,T,h2,of,hX,rfl⟩,?_⟩
 rw[KW]at m
 rw[h3]
 exact m.perm (by simp)
theorem dq.elim (hv:dq W b q L) (m:ai W h (L::R)):∃(css:List (List Value)) (Es:List ao) (e1:Option Addr) (e2:Nat) (dn:Option Addr) (cP:Nat) (eQ eP:ao) (T:TypeId),oe W q css Es/\au e1 q.fresh.length e2 1 (ints .i64 q.fresh) eQ/\au dn q.b2.length cP 1 (ints .i64 q.b2) eP/\
 ai W h ([(b,fi (aE q) css (bP q e1 e2 dn cP),T)]::eQ::eP::Es.flatten::R):=by
 obtain⟨css,Es,e1,e2,dn,cP,eQ,eP,T,hc,of,hX,rfl⟩:=hv
 exact⟨css,Es,e1,e2,dn,cP,eQ,eP,T,hc,of,hX,m.perm (by simp)⟩
theorem dq.cE (hv:dq W b q L) (m:ai W h (L::R)) (hq:c1 q) (av:0<=k) (k1:k<16):cell h b (3+k.toNat*8+2)=some (.int .i64 (q.ad k).cE):=by
 (obtain⟨css,Es,e1,e2,dn,cP,eQ,eP,T,hc,of,hX,rfl⟩:=hv;obtain⟨a,c,vs,E,hE,cz,o,hs,I⟩:=hc.dd hq av k1;have hn:=hc.hT;have iB:=hc.bC;have uK:=hq.bB;obtain⟨gn,fj⟩:=hq.nb;have Ab:q.bB=et q.a6:=rfl;have z8:q.e9=iP q.a6:=rfl;have wq:=vP (hq.ad av k1).1;have fk:=te (hq.ad av k1).1;have hfn:=oZ (q.ad k).l;replace m:=m.yR hE;rw[cz]at m)
 exact m.sj 0 rfl hn I rfl 2 rfl rfl
theorem dq.Rg (hv:dq W b q L) (m:ai W h (L::R)) (hq:c1 q) (av:0<=k) (k1:k<16):∃a c vs,cell h b (3+k.toNat*8)=some (.slice a (q.ad k).l.length c)/\src h a ((q.ad k).l.length*5) vs/\bX (dF W) (q.ad k).l vs:=by
 (obtain⟨css,Es,e1,e2,dn,cP,eQ,eP,T,hc,of,hX,rfl⟩:=hv;obtain⟨a,c,vs,E,hE,cz,o,hs,I⟩:=hc.dd hq av k1;have hn:=hc.hT;have iB:=hc.bC;have uK:=hq.bB;obtain⟨gn,fj⟩:=hq.nb;have Ab:q.bB=et q.a6:=rfl;have z8:q.e9=iP q.a6:=rfl;have wq:=vP (hq.ad av k1).1;have fk:=te (hq.ad av k1).1;have hfn:=oZ (q.ad k).l;replace m:=m.yR hE;rw[cz]at m)
 exact⟨a,c,vs,m.sj 0 rfl hn I rfl 0 rfl rfl,o.src m 1 rfl,hs⟩
theorem dq.abN (hv:dq W b q L) (m:ai W h (L::R)) (hq:c1 q) (av:0<=k) (k1:k<16):cell h b (3+k.toNat*8+1)=some (.int .i64 (c5 (q.ad k).l)):=by
 (obtain⟨css,Es,e1,e2,dn,cP,eQ,eP,T,hc,of,hX,rfl⟩:=hv;obtain⟨a,c,vs,E,hE,cz,o,hs,I⟩:=hc.dd hq av k1;have hn:=hc.hT;have iB:=hc.bC;have uK:=hq.bB;obtain⟨gn,fj⟩:=hq.nb;have Ab:q.bB=et q.a6:=rfl;have z8:q.e9=iP q.a6:=rfl;have wq:=vP (hq.ad av k1).1;have fk:=te (hq.ad av k1).1;have hfn:=oZ (q.ad k).l;replace m:=m.yR hE;rw[cz]at m)
 exact m.sj 0 rfl hn I rfl 1 rfl rfl
theorem dq.e3 (hv:dq W b q L) (m:ai W h (L::R)) (hq:c1 q) (av:0<=k) (k1:k<16) {Q:J->Prop} (x:∀h1 L',dq W b (q.aX k ((q.ad k).e3 d)) L'->ai W h1 (L'::R)->Q h1):
 wr h b (3+k.toNat*8+2)/\∀h1,h1=b3 h b (3+k.toNat*8+2) (.int .i64 d)->Q h1:=by
 (obtain⟨css,Es,e1,e2,dn,cP,eQ,eP,T,hc,of,hX,rfl⟩:=hv;obtain⟨a,c,vs,E,hE,cz,o,hs,I⟩:=hc.dd hq av k1;have hn:=hc.hT;have iB:=hc.bC;have uK:=hq.bB;obtain⟨gn,fj⟩:=hq.nb;have Ab:q.bB=et q.a6:=rfl;have z8:q.e9=iP q.a6:=rfl;have wq:=vP (hq.ad av k1).1;have fk:=te (hq.ad av k1).1;have hfn:=oZ (q.ad k).l;replace m:=m.yR hE;rw[cz]at m)
 refine m.ye 0 rfl hn I rfl 2 rfl rfl λh1 ax=>?_
 have aK:=za q k ((q.ad k).e3 d)
 have aG:=Eb q k ((q.ad k).e3 d)
 have bd:=pZ (g:=(q.ad k).e3 d) (hq.ad av k1).1
 have c7:=zL (g:=(q.ad k).e3 d) (hq.ad av k1).1
 simp only[MS]at bd c7
 obtain⟨L',hv',m2⟩:=Eh (q':=q.aX k ((q.ad k).e3 d)) (g:=(q.ad k).e3 d) hc hq I hE (E:=E) ⟨a,c,vs,rfl,o,hs⟩ rfl of hX rfl rfl ax (xb (x:=q.bB) (y:=q.e9) rfl rfl rfl (by omega) (by omega))
 exact x _ _ hv' m2
theorem dq.fresh (hv:dq W b q L) (m:ai W h (L::R)):∃a c,cell h b 131=some (.slice a q.fresh.length c)/\src h a q.fresh.length (ints .i64 q.fresh):=by
 obtain⟨css,Es,e1,e2,dn,cP,eQ,eP,T,hc,of,hX,m⟩:=hv.elim m
 exact⟨e1,e2,m.pt 0 rfl hc.hT hc.bC 0 rfl rfl,of.oL m 1 rfl⟩
theorem dq.b2 (hv:dq W b q L) (m:ai W h (L::R)):∃a c,cell h b 132=some (.slice a q.b2.length c)/\src h a q.b2.length (ints .i64 q.b2):=by
 obtain⟨css,Es,e1,e2,dn,cP,eQ,eP,T,hc,of,hX,m⟩:=hv.elim m
 exact⟨dn,cP,m.pt 0 rfl hc.hT hc.bC 1 rfl rfl,hX.oL m 2 rfl⟩
theorem Uu (hf:q.fresh≠[]):q.cr={q with fresh:=q.fresh.tail}:=if_neg hf
theorem ajb (hf:q.fresh=[]):q.cr={q with b2:=q.b2.tail}:=if_pos hf
theorem S1 {k:IntKind} {l:List Int}:(ints k l).drop (1*1)=ints k l.tail:=by cases l<;>simp[ints]
theorem dq.Ut (hv:dq W b q L) (m:ai W h (L::R)) (hf:q.fresh≠[]) {Q:J->Prop} (x:∀h1 L',dq W b q.cr L'->ai W h1 (L'::R)->Q h1):
 ∃(s:Option Addr) (iX bZ:Nat),cell h b 131=some (.slice s iX bZ)/\(0<=(1:Int)/\(1:Int)<=((iX:Nat):Int))/\wr h b 131/\∀h1:J,h1=b3 h b 131 (.slice (en s 1 bZ 1) (iX -1) (bZ -1))->Q h1:=by
 obtain⟨css,Es,e1,e2,dn,cP,eQ,eP,T,hc,of,hX,m⟩:=hv.elim m
 have hl:0<q.fresh.length:=List.length_pos_iff.2 hf
 refine⟨_,_,_,m.pt 0 rfl hc.hT hc.bC 0 rfl rfl,⟨by omega,by omega⟩,m.w9 0 rfl hc.hT hc.bC 0 rfl (Nat.le_of_ble_eq_true rfl) λh1 ax=>?_⟩
 have n0:=of.tail 1 hl
 rw[S1]at n0
 rw[Uu hf]at x
 obtain⟨L',hv',m2⟩:=M3 (q':={q with fresh:=q.fresh.tail}) hc (by simpa using n0) hX rfl rfl ax (xb rfl (by simp) rfl rfl rfl)
 exact x _ _ hv' m2
theorem dq.Us (hv:dq W b q L) (m:ai W h (L::R)) (hf:q.fresh=[]) (he:q.b2≠[]) {Q:J->Prop} (x:∀h1 L',dq W b q.cr L'->ai W h1 (L'::R)->Q h1):
 ∃(s:Option Addr) (iX bZ:Nat),cell h b 132=some (.slice s iX bZ)/\(0<=(1:Int)/\(1:Int)<=((iX:Nat):Int))/\wr h b 132/\∀h1:J,h1=b3 h b 132 (.slice (en s 1 bZ 1) (iX -1) (bZ -1))->Q h1:=by
 obtain⟨css,Es,e1,e2,dn,cP,eQ,eP,T,hc,of,hX,m⟩:=hv.elim m
 have hl:0<q.b2.length:=List.length_pos_iff.2 he
 refine⟨_,_,_,m.pt 0 rfl hc.hT hc.bC 1 rfl rfl,⟨by omega,by omega⟩,m.w9 0 rfl hc.hT hc.bC 1 rfl (Nat.le_of_ble_eq_true rfl) λh1 ax=>?_⟩
 have n0:=hX.tail 1 hl
 rw[S1]at n0
 rw[ajb hf]at x
 obtain⟨L',hv',m2⟩:=M3 (q':={q with b2:=q.b2.tail}) hc of (by simpa using n0) rfl rfl ax (xb rfl rfl (by simp) rfl rfl)
 exact x _ _ hv' m2
theorem dq.My (hv:dq W b q L) (m:ai W h (L::R)) (hl:q.b2.length<=1048576) {Q:J->Prop} (x:∀h1 L',dq W b (q.gN k) L'->ai W h1 (L'::R)->Q h1) {e:TypeId}:
 ∃(s:Option Addr) (iX bZ:Nat),cell h b 132=some (.slice s iX bZ)/\∀(bx:Nat) (aU:J),bx=h.size->aU=h.push (.cells ([(.int .i64 k)]:List Value).toArray e)->
  ∃oF:List Value,(row aU bx 0 1=some oF/\∀u∈oF,u.oneCell'=true)/\e8 aU s iX bZ 1 1 e 8 oF λ(a1:Option Addr) (ur:Nat) (bW:J)=>wr bW b 132/\∀bJ:J,bJ=b3 bW b 132 (.slice a1 (iX+1) ur)->Q bJ:=by
 obtain⟨css,Es,e1,e2,dn,cP,eQ,eP,T,hc,of,hX,m⟩:=hv.elim m
 refine⟨_,_,_,m.pt 0 rfl hc.hT hc.bC 1 rfl rfl,?_⟩
 refine hX.um m 2 rfl rfl (by simp[Value.oneCell']) (by omega) (by decide) λay c' bn h' ax o'=>?_
 refine ax.w9 0 rfl hc.hT hc.bC 1 rfl (Nat.le_of_ble_eq_true rfl) λh1 m2=>?_
 have aM:au ay (q.b2++[k]).length c' 1 (ints .i64 (q.b2++[k])) bn:=by rw[kI];show au ay _ c' 1 (ints .i64 q.b2++[.int .i64 k]) bn;simpa using o'
 obtain⟨L',hv',m3⟩:=M3 (q':=q.gN k) hc of aM rfl rfl m2 (xb rfl rfl (by simp[az.gN]) rfl rfl)
 exact x _ _ hv' m3
def IQ (W:Wd) (R:List ao) (b al:Nat) (now:Int) (res:az×List bh×Option bh) (n:Nat) (sf:Option Addr) (dl o3:Nat) (h':J):Prop:=
 ∃(q:az) (d:List bh) (vs:List Value) (E L:ao) (T:TypeId),takeN now n q d=res/\q.hQ<n/\c1 q/\dl=d.length/\d.length+q.bB<=1048576/\au sf dl o3 5 vs E/\bX (dF W) d vs/\dq W b q L/\
  ai W h' (L::[(al,[.int .i64 0, .int .u32 0, .int .i64 0, .int .i64 0, .slice none 0 0],T)]::E::R)
theorem alH {now:Int} {q0:az} (m:ai W h (L::R)) (hv:dq W b q0 L) (hq:c1 q0) (cp:0<=now) (bC:now<=1125899906842624):
 aj Tryz.prog 292 #[.pointer (some ⟨b,0,none⟩), .int .i64 now] h λv h'=>∃a c vs E L' cs,v= .tuple #[.agg cs.toArray, .slice a (q0.take now).2.1.length c, .bool (q0.take now).2.2.isSome]/\
  dF W ((q0.take now).2.2.getD pv) cs/\au a (q0.take now).2.1.length c 5 vs E/\bX (dF W) (q0.take now).2.1 vs/\dq W b (q0.take now).1 L'/\ai W h' (E::L'::R):=by
 refine aoo _ _ _ _ ?_
 (intro k7 qb fs ft;replace m:=m.push ft fs;clear fs ft)
 have CF:IQ W R b k7 now (q0.take now) (q0.hQ+1) none 0 0 qb:=⟨q0,[],[],[],L,_,rfl,by omega,hq,rfl,by simpa using hq.bB,au.nil,rfl,hv,(m.hU.focus 1 rfl).focus 2 rfl⟩
 generalize q0.take now=res at*
 refine⟨λsf dl o3 h'=>∃n,IQ W R b k7 now res n sf dl o3 h',λsf dl o3 h'=>u0 λn=>IQ W R b k7 now res n sf dl o3 h',⟨_,CF⟩,λ_=>?_⟩
 clear m hv hq CF
 intro sf dl o3 h2 CE
 obtain⟨n,⟨q,d,Im,zr,L,T,dH,Gf,hq,Ao,Sz,wU,qm,hv,m⟩,hn⟩:=Tq CE
 subst dl
 obtain⟨n,rfl⟩:∃k,n=k+1:=⟨n -1,by omega⟩
 clear CE
 have Aw:=hq.lens
 obtain⟨e1,e2,eN,adb⟩:=hv.fresh m
 obtain⟨dn,cP,CV,ac5⟩:=hv.b2 m
 refine⟨_,_,_,eN,?_⟩
 by_cases hf:q.fresh=[]
 ·refine fB (by rw[hf];rfl) ⟨_,_,_,CV,?_⟩
  by_cases he:q.b2=[]
  ·refine fB (by rw[he];rfl) ⟨⟨rfl,m.dR 1 rfl rfl,by simp[Value.oneCell']⟩,?_⟩
   intro h3 aI
   replace m:=m.bm 1 rfl aI
   refine⟨_,m.lH 1 rfl rfl rfl,?_⟩
   rw[H9 (by unfold az.turn;rw[hf,he];rfl)]at dH
   rw[<-dH]
   exact⟨_,_,_,zr,L,_,rfl,dF.zero,wU,qm,hv,(m.free 1 rfl).focus 1 rfl⟩
  ·obtain⟨k,ajJ,tx⟩:=List.exists_cons_of_ne_nil he
   have ht:q.turn=some k:=by unfold az.turn;rw[hf,tx];rfl
   obtain⟨av,k1⟩:=hq.b k (rM ht)
   have cS:=(hq.ad av k1).2
   have hl:0<q.b2.length:=List.length_pos_iff.2 he
   refine bF (by omega) ⟨_,_,_,CV,⟨by omega,by omega⟩,?_⟩
   obtain⟨b1,mH,rfl,U⟩:=fW (k:=0) (v:= .int .i64 k) ac5 (by rw[tx];rfl)
   refine⟨_,U,⟨av,by omega⟩,_,hv.cE m hq av k1,?_⟩
   by_cases hd:(q.ad k).cE<=0
   ·refine fB hd ⟨_,hv.cE m hq av k1,?_⟩
    have nk:=cS.d0
    refine⟨by simp only[fits];omega,hv.e3 m hq av k1 λh4 jF ij m1=>?_⟩
    have tA:=hq.aX av k1 (Ea cS (d:=(q.ad k).cE+300) (by omega) (by omega)) (by simp)
    refine ij.Us m1 hf he λaA e7 dc m2=>?_
    refine dc.My m2 ?_ λbJ ja fE m3=>?_
    ·have:=(tA.cr).lens;omega
    rw[Et ht hd]at dH
    have yr:=sO tA (k:=k) ht
    exact AR hn (k:=n) ⟨_,d,Im,zr,ja,T,dH,by have:=DF hq ht hd;omega,(tA.cr).gN yr av k1,rfl,by rw[IW,DT,Vu hq av k1];exact Sz,wU,qm,fE,m3⟩ (by omega)
   ·refine bF hd ?_
    refine(Rk m hv hq av k1 cp bC).mono ?_
    rintro _ ct ⟨ay,c',zi,bn,e7,rfl,o',uO,dc,m2⟩
    clear m hv
    have cS:=(hq.ad av k1).2
    have fk:=hq.FJ av k1
    have ox:=hq.aX av k1 (xa (tg:=q.tg) (iv:=q.iv) cS fk cp bC) (by simp[dN])
    have As:=Lo (tg:=q.tg) (iv:=q.iv) cS fk cp bC
    have acT:(kE q.tg q.iv now (q.ad k)).length+(q.aX k (dN q.tg q.iv now (q.ad k))).bB<=q.bB:=by
     have bd:=pZ (g:=dN q.tg q.iv now (q.ad k)) (hq.ad av k1).1
     have aK:=za q k (dN q.tg q.iv now (q.ad k))
     have e:q.bB=et q.a6:=rfl
     simp only[dN,List.length_drop]at bd
     simp only[kE,List.length_take]
     have:=(DV (tg:=q.tg) (iv:=q.iv) cS fk cp bC).2.2.2.1
     simp only[dN]at aK
     simp only[dN]
     omega
    have CY:(dN q.tg q.iv now (q.ad k)).cE=(q.ad k).cE:=rfl
    refine⟨_,_,_,_,rfl,zi,⟨o'.src m2 0 rfl,uO.all λ_ _=>dF.one⟩,?_⟩
    refine wU.app m2 3 rfl o'.len (by omega) (by decide) λa2 aG cD dS ax wV=>?_
    clear m2
    simp only[List.set_cons_zero,List.set_cons_succ]at ax
    have m:=ax.aB
    clear ax
    have AB:=qm.app uO
    rw[<-List.length_append]at wV⊢
    refine bH (λez=>?_) λez=>?_
    ·obtain⟨p,r,hp⟩:=As.1 ez
     have CW:=mh (g:=dN q.tg q.iv now (q.ad k)) hq av k1
     refine(HW m dc ox av k1 (p:=p) (r:=r) (by rw[CW];exact hp)).mono ?_
     rintro _ fD ⟨cs,ja,rfl,dT,fE,m⟩
     rw[CW,Ec]at fE
     have adN:p.body.length<=1048576:=(cS.p p (List.mem_of_mem_drop (by unfold dN at hp;dsimp only at hp;rw[hp];simp))).2.2
     have uM:c1 (q.aX k ((dN q.tg q.iv now (q.ad k)).bG r)):=hq.aX av k1 ⟨(xa (tg:=q.tg) (iv:=q.iv) cS fk cp bC).c,λx hx=>(xa (tg:=q.tg) (iv:=q.iv) cS fk cp bC).p x (by rw[hp];simp at hx;simp[hx]),cS.d0,cS.d1⟩ (by
      have:(dN q.tg q.iv now (q.ad k)).l.length<=(q.ad k).l.length:=by simp[dN]
      rw[hp]at this;simp at this⊢;omega)
     refine⟨_,rfl,?_⟩
     (intro k7 qb fs ft;replace m:=m.push ft fs;clear fs ft)
     rename_i Zk adK
     obtain⟨fT,fH,rfl,dK⟩:=dT
     refine⟨⟨rfl,m.dR 0 rfl rfl,by simp[Value.oneCell']⟩,?_⟩
     intro fQ aI
     replace m:=m.bm 0 rfl aI
     clear aI
     simp only[List.set_cons_zero,List.set_cons_succ,bG]at m
     replace m:=m.focus 1 rfl
     simp only[List.eraseIdx_cons_zero,List.eraseIdx_cons_succ]at m
     have CX:=mh (g:=(dN q.tg q.iv now (q.ad k)).bG r) hq av k1
     have CU:=fE.cE m uM av k1
     rw[CX]at CU
     refine⟨_,CU,?_⟩
     refine⟨_,_,_,m.cell 1 rfl rfl,?_⟩
     have nk:=cS.d0
     have qf:=cS.d1
     refine⟨by simp only[fits,akA];omega,?_⟩
     refine fE.e3 m uM av k1 λiA ub qq m=>?_
     rw[CX,Ec]at qq
     refine⟨_,m.lH 1 rfl rfl rfl,⟨rfl,m.dR 2 rfl rfl,by simp[Value.oneCell']⟩,?_⟩
     intro pa aI
     replace m:=m.bm 2 rfl aI
     refine⟨_,m.lH 2 rfl rfl rfl,?_⟩
     rw[Er ht hd ez hp]at dH
     rw[<-dH]
     exact⟨_,_,_,cD,ub,_,rfl,⟨fT,fH,rfl,dK⟩,wV,AB,qq,(((m.free 1 rfl).free 1 rfl).focus 1 rfl)⟩
    ·have nS:=DE hq ht hd CY
     refine dc.Us m hf he λrn ja fE m3=>?_
     rw[Ep ht hd ez (λhc=>hc.1 hf)]at dH
     exact AR hn (k:=n) ⟨_,_,_,cD,ja,T,dH,by have:=nS.1;omega,ox.cr,rfl,by rw[DT,List.length_append];omega,wV,AB,fE,m3⟩ (by omega)
 ·obtain⟨k,ajJ,tx⟩:=List.exists_cons_of_ne_nil hf
  have ht:q.turn=some k:=by unfold az.turn;rw[tx]
  obtain⟨av,k1⟩:=hq.b k (rM ht)
  have cS:=(hq.ad av k1).2
  have hl:0<q.fresh.length:=List.length_pos_iff.2 hf
  refine bF (by omega) ⟨_,_,_,eN,bF (by omega) ⟨_,_,_,eN,⟨by omega,by omega⟩,?_⟩⟩
  obtain⟨b1,mH,rfl,U⟩:=fW (k:=0) (v:= .int .i64 k) adb (by rw[tx];rfl)
  refine⟨_,U,⟨av,by omega⟩,_,hv.cE m hq av k1,?_⟩
  by_cases hd:(q.ad k).cE<=0
  ·refine fB hd ⟨_,hv.cE m hq av k1,?_⟩
   have nk:=cS.d0
   refine⟨by simp only[fits];omega,hv.e3 m hq av k1 λh4 jF ij m1=>?_⟩
   have tA:=hq.aX av k1 (Ea cS (d:=(q.ad k).cE+300) (by omega) (by omega)) (by simp)
   refine ij.Ut m1 hf λaA e7 dc m2=>?_
   refine dc.My m2 ?_ λbJ ja fE m3=>?_
   ·have:=(tA.cr).lens;omega
   rw[Et ht hd]at dH
   have yr:=sO tA (k:=k) ht
   exact AR hn (k:=n) ⟨_,d,Im,zr,ja,T,dH,by have:=DF hq ht hd;omega,(tA.cr).gN yr av k1,rfl,by rw[IW,DT,Vu hq av k1];exact Sz,wU,qm,fE,m3⟩ (by omega)
  ·refine bF hd ?_
   refine(Rk m hv hq av k1 cp bC).mono ?_
   rintro _ ct ⟨ay,c',zi,bn,e7,rfl,o',uO,dc,m2⟩
   clear m hv
   have cS:=(hq.ad av k1).2
   have fk:=hq.FJ av k1
   have ox:=hq.aX av k1 (xa (tg:=q.tg) (iv:=q.iv) cS fk cp bC) (by simp[dN])
   have As:=Lo (tg:=q.tg) (iv:=q.iv) cS fk cp bC
   have acT:(kE q.tg q.iv now (q.ad k)).length+(q.aX k (dN q.tg q.iv now (q.ad k))).bB<=q.bB:=by
    have bd:=pZ (g:=dN q.tg q.iv now (q.ad k)) (hq.ad av k1).1
    have aK:=za q k (dN q.tg q.iv now (q.ad k))
    have e:q.bB=et q.a6:=rfl
    simp only[dN,List.length_drop]at bd
    simp only[kE,List.length_take]
    have:=(DV (tg:=q.tg) (iv:=q.iv) cS fk cp bC).2.2.2.1
    simp only[dN]at aK
    simp only[dN]
    omega
   have CY:(dN q.tg q.iv now (q.ad k)).cE=(q.ad k).cE:=rfl
   refine⟨_,_,_,_,rfl,zi,⟨o'.src m2 0 rfl,uO.all λ_ _=>dF.one⟩,?_⟩
   refine wU.app m2 3 rfl o'.len (by omega) (by decide) λa2 aG cD dS ax wV=>?_
   clear m2
   simp only[List.set_cons_zero,List.set_cons_succ]at ax
   have m:=ax.aB
   clear ax
   have AB:=qm.app uO
   rw[<-List.length_append]at wV⊢
   refine bH (λez=>?_) λez=>?_
   ·obtain⟨p,r,hp⟩:=As.1 ez
    have CW:=mh (g:=dN q.tg q.iv now (q.ad k)) hq av k1
    refine(HW m dc ox av k1 (p:=p) (r:=r) (by rw[CW];exact hp)).mono ?_
    rintro _ fD ⟨cs,ja,rfl,dT,fE,m⟩
    rw[CW,Ec]at fE
    have adN:p.body.length<=1048576:=(cS.p p (List.mem_of_mem_drop (by unfold dN at hp;dsimp only at hp;rw[hp];simp))).2.2
    have uM:c1 (q.aX k ((dN q.tg q.iv now (q.ad k)).bG r)):=hq.aX av k1 ⟨(xa (tg:=q.tg) (iv:=q.iv) cS fk cp bC).c,λx hx=>(xa (tg:=q.tg) (iv:=q.iv) cS fk cp bC).p x (by rw[hp];simp at hx;simp[hx]),cS.d0,cS.d1⟩ (by
     have:(dN q.tg q.iv now (q.ad k)).l.length<=(q.ad k).l.length:=by simp[dN]
     rw[hp]at this;simp at this⊢;omega)
    refine⟨_,rfl,?_⟩
    (intro k7 qb fs ft;replace m:=m.push ft fs;clear fs ft)
    rename_i Zk adK
    obtain⟨fT,fH,rfl,dK⟩:=dT
    refine⟨⟨rfl,m.dR 0 rfl rfl,by simp[Value.oneCell']⟩,?_⟩
    intro fQ aI
    replace m:=m.bm 0 rfl aI
    clear aI
    simp only[List.set_cons_zero,List.set_cons_succ,bG]at m
    replace m:=m.focus 1 rfl
    simp only[List.eraseIdx_cons_zero,List.eraseIdx_cons_succ]at m
    have CX:=mh (g:=(dN q.tg q.iv now (q.ad k)).bG r) hq av k1
    have CU:=fE.cE m uM av k1
    rw[CX]at CU
    refine⟨_,CU,?_⟩
    refine⟨_,_,_,m.cell 1 rfl rfl,?_⟩
    have nk:=cS.d0
    have qf:=cS.d1
    refine⟨by simp only[fits,akA];omega,?_⟩
    refine fE.e3 m uM av k1 λiA ub qq m=>?_
    rw[CX,Ec]at qq
    refine⟨_,m.lH 1 rfl rfl rfl,⟨rfl,m.dR 2 rfl rfl,by simp[Value.oneCell']⟩,?_⟩
    intro pa aI
    replace m:=m.bm 2 rfl aI
    refine⟨_,m.lH 2 rfl rfl rfl,?_⟩
    rw[Er ht hd ez hp]at dH
    rw[<-dH]
    exact⟨_,_,_,cD,ub,_,rfl,⟨fT,fH,rfl,dK⟩,wV,AB,qq,(((m.free 1 rfl).free 1 rfl).focus 1 rfl)⟩
   ·have nS:=DE hq ht hd CY
    refine dc.Ut m hf λrn ja fE m3=>?_
    obtain⟨JX,aq6,RX,arA⟩:=fE.b2 m3
    have mr:((q.aX k (dN q.tg q.iv now (q.ad k))).cr).b2=q.b2:=by rw[Uu (q:=q.aX k (dN q.tg q.iv now (q.ad k))) hf];rfl
    rw[mr]at RX
    refine⟨_,_,_,RX,?_⟩
    by_cases he:q.b2=[]
    ·refine bF (by rw[he];simp) ?_
     rw[Ep ht hd ez (λhc=>hc.2 he)]at dH
     exact AR hn (k:=n) ⟨_,_,_,cD,ja,T,dH,by have:=nS.1;omega,ox.cr,rfl,by rw[DT,List.length_append];omega,wV,AB,fE,m3⟩ (by omega)
    ·have hle:0<q.b2.length:=List.length_pos_iff.2 he
     refine fB (by omega) ?_
     refine fE.My m3 (by rw[mr];omega) λard ub qq m4=>?_
     rw[H8 ht hd ez ⟨hf,he⟩]at dH
     have yr:=sO ox (k:=k) ht
     exact AR hn (k:=n) ⟨_,_,_,cD,ub,T,dH,by have:=nS.2 hf;omega,(ox.cr).gN yr av k1,rfl,by rw[IW,DT,List.length_append];omega,wV,AB,qq,m4⟩ (by omega)
end
end Go.Proofs.YtjlkfjnfnonekaaGreatDoor.Pl
