import Derived.Test.YtjlkfjnfnonekaaGreatDoorM34
import Derived.Test.YtjlkfjnfnonekaaGreatDoorM17
import Derived.Test.YtjlkfjnfnonekaaGreatDoorM20
import Derived.Test.YtjlkfjnfnonekaaGreatDoorM12
import Derived.Test.YtjlkfjnfnonekaaGreatDoorM27
import Derived.Test.YtjlkfjnfnonekaaGreatDoorM18
set_option linter.all false
set_option maxRecDepth 8000
namespace Go.Proofs.YtjlkfjnfnonekaaGreatDoor.Tn
open Go.Vc
def w4:Option bN->Value
 |none=> .pointer none
 |some e=>ev e.b
def jN (st:List (Option bN)):List Value:=st.map w4
def pN:Option bN->ao->Prop
 |none,g=>g=[]
 |some e,g=>if e.on=true then g=[]else∃p,g=gm e p
structure gM (W:Wd) (h:J) (b:Nat) (st:List (Option bN)) (bt:Nat) (T:TypeId) (l:List bN) (ga:ao) (dV:List ao) (R:List ao):Prop where
 m:ai W h (ga::dV.flatten::[(b,jN st++[ev bt],T)]::R)
 v:el bt l ga
 aT:st.length=16
 jx:dV.length=16
 iv:∀(k:Nat) (o:Option bN),st[k]?=some o->∃g,dV[k]?=some g/\pN o g
 aid:∀(k:Nat) (e:bN),st[k]?=some (some e)->e.aid=(k:Int)+1
 pm:l.Perm (jJ st)
def lR (b:Nat) (S:dm) (L:ao):Prop:=∃(st:List (Option bN)) (bt:Nat) (T:TypeId) (l:List bN) (ga:ao) (dV:List ao),
 st.map strip=S/\fp l.length l/\el bt l ga/\st.length=16/\dV.length=16/\(∀(k:Nat) (o:Option bN),st[k]?=some o->∃g,dV[k]?=some g/\pN o g)/\
 (∀(k:Nat) (e:bN),st[k]?=some (some e)->e.aid=(k:Int)+1)/\l.Perm (jJ st)/\L=ga++(dV.flatten++[(b,jN st++[ev bt],T)])
section
variable{W:Wd} {h h':J} {R:List ao} {b bt n i j k:Nat} {st:List (Option bN)} {l bI:List bN} {e e':bN} {L ga:ao} {dV:List ao} {T:TypeId} {S:dm} {K:Value->J->Prop} {Q:J->Prop}
theorem lR.dd (hv:lR b S L) (m:ai W h (L::R)):∃st bt T l ga dV,st.map strip=S/\fp l.length l/\gM W h b st bt T l ga dV R:=by
 obtain⟨st,bt,T,l,ga,dV,h1,h2,h3,h4,aA,aU,bW,bJ,rfl⟩:=hv
 exact⟨st,bt,T,l,ga,dV,h1,h2,⟨m.perm (by simp),h3,h4,aA,aU,bW,bJ⟩⟩
theorem gM.shut (s:gM W h b st bt T l ga dV R) (hh:fp l.length l):∃L,lR b (st.map strip) L/\ai W h (L::R):=
 ⟨_,⟨st,bt,T,l,ga,dV,rfl,hh,s.v,s.aT,s.jx,s.iv,s.aid,s.pm,rfl⟩,s.m.perm (by simp)⟩
theorem Ej:(jN st).length=st.length:=by simp[jN]
theorem akZ {o:Option bN} (h:st[k]?=some o):(jN st++[ev bt])[k]?=some (w4 o):=by
 rw[List.getElem?_append_left (by rw[Ej];exact(List.getElem?_eq_some_iff.1 h).1)]
 simp[jN,h]
theorem Ei (h:st.length=16):(jN st++[ev bt])[16]?=some (ev bt):=by
 rw[List.getElem?_append_right (by rw[Ej];omega),Ej,h];rfl
theorem gM.ZC {o:Option bN} (s:gM W h b st bt T l ga dV R) (I:st[k]?=some o):cell h b k=some (w4 o):=s.m.cell 2 rfl (akZ I)
theorem gM.Jz (s:gM W h b st bt T l ga dV R):cell h b 16=some (ev bt):=s.m.cell 2 rfl (Ei s.aT)
theorem Ur (pm:l.Perm (jJ st)) (hn:st.length=16):l.length<=16:=by
 have h1:=pm.length_eq
 have h2:∀(st:List (Option bN)),(jJ st).length<=st.length:=by
  intro st
  induction st with
  |nil=>simp[jJ]
  |cons o r b9=>
   have:jJ (o::r)=lj o++jJ r:=rfl
   rw[this,List.length_append]
   have:(lj o).length<=1:=by
    cases o with
    |none=>simp[lj]
    |some e=>unfold lj;dsimp only;split<;>simp
   simp;omega
 have:=h2 st
 omega
theorem gM.len (s:gM W h b st bt T l ga dV R):l.length<=16:=Ur s.pm s.aT
theorem gM.J4 (s:gM W h b st bt T l ga dV R) (I:st[k]?=some (some e)):∃p:Int,(∀(o:Nat) (v:Value),(iR e p)[o]?=some v->cell h e.b o=some v)/\row h e.b 0 5=some (iR e p)/\(e.on=true->∃j:Nat,p=(j:Int)/\j<l.length/\gt l j=e):=by
 obtain⟨g,hg,hi⟩:=s.iv k _ I
 unfold pN at hi;dsimp only at hi
 by_cases aw:e.on=true
 ·have hm:e∈l:=s.pm.mem_iff.2 (xK.2 ⟨k,I,aw⟩)
  obtain⟨j,ah⟩:=List.getElem?_of_mem hm
  have fv:=(List.getElem?_eq_some_iff.1 ah).1
  have qg:=tp ah
  obtain⟨a,c,E,q7,o',m⟩:=s.v.dd s.m
  have m2:=(m.focus 2 rfl).pick j (pT fv)
  rw[qg,Nat.zero_add]at m2
  exact⟨j,λo v hv=>m2.cell 0 rfl hv,m2.row 0 rfl (by simp[iR]) (by simp[iR]),λ_=>⟨j,rfl,fv,qg⟩⟩
 ·rw[if_neg aw]at hi
  obtain⟨p,rfl⟩:=hi
  have m2:=(s.m.focus 1 rfl).pick k hg
  exact⟨p,λo v hv=>m2.cell 0 rfl hv,m2.row 0 rfl (by simp[iR]) (by simp[iR]),λq=>absurd q aw⟩
theorem abn (h:e'.b=(gt l j).b) (ah:j<l.length):lz (l.set j e')=lz l:=by
 unfold lz
 rw[List.map_set,h]
 have:=si (l:=l) ah
 unfold lz at this
 obtain⟨h1,h2⟩:=List.getElem?_eq_some_iff.1 this
 rw[<-h2,List.set_getElem_self]
theorem el.store (m:ai W h (L::R)) (hv:el bt l L) (ah:j<l.length) {o:Nat} {v:Value} (hb:e'.b=(gt l j).b) (nO:e'.T=(gt l j).T) (hc:(iR (gt l j) j).set o v=iR e' j) (aw:o<5)
 (q:∀h1 jF,el bt (l.set j e') jF->ai W h1 (jF::R)->Q h1):wr h (gt l j).b o/\∀h1,h1=b3 h (gt l j).b o v->Q h1:=by
 obtain⟨a,c,E,q7,o',m⟩:=hv.dd m
 have m2:=(m.focus 2 rfl).pick j (pT ah)
 rw[Nat.zero_add]at m2
 refine m2.store 0 rfl (by simpa[iR]using aw) λh1 m3=>?_
 have af:[((gt l j).b,(iR (gt l j) j).set o v,(gt l j).T)]=gm e' ((0+j:Nat):Int):=by rw[hc,Nat.zero_add];unfold gm;rw[hb,nO]
 simp only[List.set_cons_zero]at m3
 rw[af]at m3
 have m4:=ai.n9 (Es:=jf l 0) j (pT ah) m3
 rw[Fi]at m4
 have ag:(l.set j e').length=l.length:=by simp
 rw[<-ag,<-abn hb ah]at o'
 rw[<-ag]at m4
 obtain⟨jF,h2,h3⟩:=el.shut (bt:=bt) (T:=q7) (R:=R) o' (m4.perm (by
  classical
  refine List.perm_iff_count.2 λx=>?_
  simp only[List.eraseIdx_cons_succ,List.eraseIdx_cons_zero,List.flatten_cons,List.count_append];omega))
 exact q h1 jF h2 h3
theorem tm {α:Type} {l:List α} {k i:Nat} {x:α} (I:k<l.length):(l.set k x)[i]?=if i=k then some x else l[i]?:=by
 by_cases h:i=k
 ·subst h;rw[if_pos rfl,List.getElem?_set_self I]
 ·rw[if_neg h,List.getElem?_set_ne (Ne.symm h)]
theorem M7 {o:Option bN} (I:st[k]?=some (some e)) (hb:e'.b=e.b):jN (st.set k (some e'))=jN st:=by
 unfold jN
 rw[List.map_set]
 have h1:(st.map w4)[k]?=some (w4 (some e')):=by rw[List.getElem?_map,I];simp[w4,hb]
 obtain⟨h2,h3⟩:=List.getElem?_eq_some_iff.1 h1
 rw[<-h3,List.set_getElem_self]
theorem gM.put (s:gM W h b st bt T l ga dV R) (I:st[k]?=some (some e)) {o:Nat} {v:Value} (hb:e'.b=e.b) (nO:e'.T=e.T) (ha:e'.aid=e.aid) (Sq:e'.on=e.on) (hc:∀p,(iR e p).set o v=iR e' p) (aw:o<5)
 (q:∀h1 ca IG EP,gM W h1 b (st.set k (some e')) bt T ca IG EP R->(e.on=false->ca=l)->(e.on=true->∃j,j<l.length/\gt l j=e/\ca=l.set j e')->Q h1):wr h e.b o/\∀h1,h1=b3 h e.b o v->Q h1:=by
 have bY:=(List.getElem?_eq_some_iff.1 I).1
 obtain⟨g,hg,hi⟩:=s.iv k _ I
 have Ap:=(List.getElem?_eq_some_iff.1 hg).1
 unfold pN at hi;dsimp only at hi
 have CL:∀(i:Nat) (x:bN),(st.set k (some e'))[i]?=some (some x)->x.aid=(i:Int)+1:= λi x hx=>by
  rw[tm bY]at hx
  split at hx
  ·rename_i q;subst q;cases hx;rw[ha];exact s.aid _ _ I
  ·exact s.aid _ _ hx
 have wi:=EZ (o':=some e') I
 have nU:=M7 (o:=none) I hb
 by_cases so:e.on=true
 ·rw[if_pos so]at hi
  subst hi
  have CG:e'.on=true:=by rw[Sq];exact so
  have hm:e∈l:=s.pm.mem_iff.2 (xK.2 ⟨k,I,so⟩)
  obtain⟨j,ah⟩:=List.getElem?_of_mem hm
  have fv:=(List.getElem?_eq_some_iff.1 ah).1
  have qg:=tp ah
  have:=el.store (Q:=Q) (e':=e') (o:=o) (v:=v) s.m s.v fv (by rw[qg];exact hb) (by rw[qg];exact nO) (by rw[qg];exact hc _) aw λh1 jF ij m1=>by
   refine q h1 (l.set j e') jF dV ⟨by rw[nU];exact m1,ij,by rw[List.length_set];exact s.aT,s.jx,λi x hx=>?_,CL,?_⟩ (λc=>by rw[so]at c;cases c) λ_=>⟨j,fv,qg,rfl⟩
   ·rw[tm bY]at hx
    split at hx
    ·rename_i q;subst q;cases hx
     exact⟨[],hg,by unfold pN;dsimp only;rw[if_pos CG]⟩
    ·exact s.iv _ _ hx
   ·have p1:=set_perm (y:=e') ah
    unfold lj at wi
    dsimp only at wi
    rw[if_pos so,if_pos CG]at wi
    have p2:(e::jJ (st.set k (some e'))).Perm (e'::jJ st):=(List.perm_append_singleton e _).symm.trans (wi.trans (List.perm_append_singleton e' _))
    exact(p1.trans ((s.pm.cons e').trans p2.symm)).cons_inv
  rw[qg]at this
  exact this
 ·rw[if_neg so]at hi
  obtain⟨p,rfl⟩:=hi
  have CG:¬e'.on=true:=by rw[Sq];exact so
  have m2:=(s.m.focus 1 rfl).pick k hg
  refine m2.store 0 rfl (by simpa[iR]using aw) λh1 m3=>?_
  simp only[List.set_cons_zero]at m3
  have af:[(e.b,(iR e p).set o v,e.T)]=gm e' p:=by rw[hc];unfold gm;rw[hb,nO]
  rw[af]at m3
  have m4:=ai.n9 (Es:=dV) k hg m3
  simp only[List.eraseIdx_cons_succ,List.eraseIdx_cons_zero]at m4
  refine q h1 l ga (dV.set k (gm e' p)) ⟨by rw[nU];exact m4.focus 1 rfl,s.v,by rw[List.length_set];exact s.aT,by rw[List.length_set];exact s.jx,λi x hx=>?_,CL,?_⟩ (λ_=>rfl) λc=>absurd c so
  ·rw[tm bY]at hx
   rw[tm Ap]
   split at hx
   ·rename_i q;subst q;cases hx
    exact⟨_,if_pos rfl,by unfold pN;dsimp only;rw[if_neg CG];exact⟨p,rfl⟩⟩
   ·rename_i q;rw[if_neg q];exact s.iv _ _ hx
  ·unfold lj at wi
   dsimp only at wi
   rw[if_neg so,if_neg CG,List.append_nil,List.append_nil]at wi
   exact s.pm.trans wi.symm
end
end Go.Proofs.YtjlkfjnfnonekaaGreatDoor.Tn
set_option maxRecDepth 8000
namespace Go.Proofs.YtjlkfjnfnonekaaGreatDoor.Tn
open Go.Vc
def p9 (st:List (Option bN)) (a:Int):Option bN:=if nE a=true then(st[fF a]?).getD none else none
section
variable{W:Wd} {h h':J} {R:List ao} {G:List ao} {b bt n i j k:Nat} {st:List (Option bN)} {l bI:List bN} {e e':bN} {L ga:ao} {dV:List ao} {T:TypeId} {S:dm} {K:Value->J->Prop} {Q:J->Prop} {a w air:Int} {ads:List Addr} {uy:lO} {s:eU}
theorem Vr (a:Int):aj Tryz.prog 126 #[.int .i64 a] h λv h'=>v= .bool (nE a)/\h'=h:=by
 refine apC _ _ _ (aC (λq=>⟨?_,rfl⟩) λq=>⟨?_,rfl⟩)
 ·unfold nE;simp[q]
 ·unfold nE;simp[q]
theorem akq (a:Int):aj Tryz.prog 127 #[.int .i64 a] h λv h'=>v= .bool (tj a)/\h'=h:=by
 refine apB _ _ _ (aC (λq=>⟨?_,rfl⟩) λq=>⟨?_,rfl⟩)
 ·unfold tj;simp[q]
 ·unfold tj;simp[q]
theorem Kl (hn:st.length=16):hB (st.map strip) a=strip (p9 st a):=by
 unfold hB p9
 by_cases h:nE a=true
 ·rw[if_pos h,if_pos h,List.getElem?_map]
  cases st[fF a]?with
  |none=>rfl
  |some o=>rfl
 ·rw[if_neg h,if_neg h];rfl
theorem Rt (h:p9 st a=some e):(1<=a/\a<=16)/\st[fF a]?=some (some e):=by
 unfold p9 at h
 by_cases ht:nE a=true
 ·rw[if_pos ht]at h
  refine⟨Br.1 ht,?_⟩
  cases hx:st[fF a]?with
  |none=>rw[hx]at h;cases h
  |some o=>rw[hx]at h;simp at h;rw[h]
 ·rw[if_neg ht]at h;cases h
theorem ab8 (h:p9 st a=none) (hn:st.length=16) (h1:1<=a) (h2:a<=16):st[fF a]?=some none:=by
 unfold p9 at h
 rw[if_pos (Br.2 ⟨h1,h2⟩)]at h
 have hl:fF a<st.length:=by unfold fF;omega
 rw[List.getElem?_eq_getElem hl]at h⊢
 simp at h;rw[h]
theorem L1 (s:gM W h b st bt T l ga dV R) (a:Int):aj Tryz.prog 128 #[ev b, .int .i64 a] h λv h'=>v=w4 (p9 st a)/\h'=h:=by
 refine apA _ _ _ _ ((Vr a).mono ?_)
 rintro _ _ ⟨rfl,rfl⟩
 refine⟨_,rfl,?_⟩
 by_cases ht:nE a=true
 ·have h1:=Br.1 ht
  refine aZ (by simp[ht]) ?_
  have hl:fF a<st.length:=by unfold fF;rw[s.aT];omega
  have hc:=s.ZC (List.getElem?_eq_getElem hl)
  have dW:0+(a -1).toNat=fF a:=by unfold fF;omega
  have af:p9 st a=st[fF a]:=by unfold p9;rw[if_pos ht,List.getElem?_eq_getElem hl];rfl
  refine⟨by simp only[fits];omega,⟨by omega,by omega⟩,?_⟩
  rw[dW,af]
  cases hx:st[fF a]with
  |none=>rw[hx]at hc;exact⟨_,hc,rfl,rfl⟩
  |some e=>rw[hx]at hc;exact⟨_,hc,rfl,rfl⟩
 ·refine df (by simp[ht]) ⟨?_,rfl⟩
  unfold p9;rw[if_neg ht];rfl
theorem LU (m:ai W h R):aj Tryz.prog 37 #[] h λv h'=>∃b L,v=ev b/\lR b c3 L/\ai W h' (L::R):=by
 refine apv _ _ ?_
 intro al h1 af ag
 replace m:=m.push ag af
 clear af ag
 intro aP h2 af ag
 replace m:=m.push ag af
 clear af ag
 generalize aaU:(207:TypeId)=W9 at m
 generalize FC:(203:TypeId)=ue at m
 refine⟨aP,_,rfl,⟨List.replicate 16 none,al,W9,[],[(al,[.slice none 0 0],ue)],List.replicate 16 [],rfl,λk a b=>?_,⟨none,0,[],ue,au.nil,by simp[jf]⟩,rfl,rfl,λk o I=>?_,λk e I=>?_, .refl _,rfl⟩,m.perm ?_⟩
 ·simp at b
 ·rw[List.getElem?_replicate]at I
  split at I
  ·rename_i q;cases I;exact⟨[],by rw[List.getElem?_replicate,if_pos q],rfl⟩
  ·cases I
 ·rw[List.getElem?_replicate]at I
  split at I<;>cases I
 ·simp[jN,w4,ev]
  exact List.Perm.swap _ _ _
theorem IY (m:ai W h (L::R)) (hv:lR b S L) (gS:zq W ads (iO S a w).2):aj Tryz.prog 49 #[ev b, .int .i64 a, .int .i64 w] h λv h'=>
 ∃L',v=gC ads (iO S a w).2/\lR b (iO S a w).1 L'/\ai W h' (L'::R):=by
 refine apx _ _ _ _ _ ((Vr a).mono ?_)
 rintro _ _ ⟨rfl,rfl⟩
 refine⟨_,rfl,?_⟩
 unfold iO at gS⊢
 by_cases ht:nE a=true
 case neg=>
  have hn:¬(nE a=true/\tj w=true):= λq=>ht q.1
  rw[if_neg hn]at gS⊢
  exact df (by simp[ht]) ⟨_,m.bT (gS 2 rfl),L,rfl,hv,m⟩
 refine aZ (by simp[ht]) ((akq w).mono ?_)
 rintro _ _ ⟨rfl,rfl⟩
 refine⟨_,rfl,?_⟩
 by_cases hf:tj w=true
 case neg=>
  have hn:¬(nE a=true/\tj w=true):= λq=>hf q.2
  rw[if_neg hn]at gS⊢
  exact df (by simp[hf]) ⟨_,m.bT (gS 2 rfl),L,rfl,hv,m⟩
 refine aZ (by simp[hf]) ?_
 rw[if_pos ⟨ht,hf⟩]at gS⊢
 have Gu:=Br.1 ht
 obtain⟨st,bt,T,l,ga,dV,rfl,hh,s⟩:=hv.dd m
 refine(L1 s a).mono ?_
 rintro _ _ ⟨rfl,rfl⟩
 rw[Kl s.aT]at gS⊢
 cases hx:p9 st a with
 |some e=>
  rw[hx]at gS
  exact⟨_,rfl,df rfl ⟨_,m.bT (gS 7 rfl),L,rfl,hv,m⟩⟩
 |none=>
  refine⟨_,rfl,aZ rfl ⟨by simp only[fits];omega,?_⟩⟩
  have I:=ab8 hx s.aT Gu.1 Gu.2
  have bY:=(List.getElem?_eq_some_iff.1 I).1
  intro al h4 af ag
  have m4:=s.m.push ag af
  clear af ag
  have dW:0+(a -1).toNat=fF a:=by unfold fF;omega
  rw[dW]
  refine⟨⟨by omega,by omega⟩,m4.store 3 rfl (by rw[List.length_append,Ej,s.aT];unfold fF;omega) λaA m5=>?_⟩
  simp only[List.set_cons_succ,List.set_cons_zero]at m5
  generalize aaU:(223:TypeId)=BO at m5
  obtain⟨g,hg,hi⟩:=s.iv _ _ I
  have hi:g=[]:=hi
  subst hi
  have Ap:=(List.getElem?_eq_some_iff.1 hg).1
  have bZ:gM W aA b (st.set (fF a) (some ⟨al,a,w,0,false,BO⟩)) bt T l ga (dV.set (fF a) (gm ⟨al,a,w,0,false,BO⟩ 0)) R:=by
   refine⟨m5.perm ?_,s.v,by rw[List.length_set];exact s.aT,by rw[List.length_set];exact s.jx,λi x hx=>?_,λi x hx=>?_,?_⟩
   ·have p:=Cq (A:=gm ⟨al,a,w,0,false,BO⟩ 0) hg
    rw[List.append_nil]at p
    have af:(jN st++[ev bt]).set (fF a) (.pointer (some ⟨al,0,none⟩))=jN (st.set (fF a) (some ⟨al,a,w,0,false,BO⟩))++[ev bt]:=by
     rw[List.set_append_left _ _ (by rw[Ej];exact bY)]
     unfold jN;rw[List.map_set];rfl
    rw[af]
    classical
    refine List.perm_iff_count.2 λx=>?_
    have:=p.count_eq x
    simp only[List.flatten_cons,List.count_append,gm,iR]at this⊢
    omega
   ·rw[tm bY]at hx
    rw[tm Ap]
    split at hx
    ·rename_i q;subst q;cases hx
     exact⟨_,if_pos rfl,⟨0,rfl⟩⟩
    ·rename_i q;rw[if_neg q];exact s.iv _ _ hx
   ·rw[tm bY]at hx
    split at hx
    ·rename_i q;subst q;cases hx
     show a=_
     unfold fF;omega
    ·exact s.aid _ _ hx
   ·have:=EZ (o':=some ⟨al,a,w,0,false,BO⟩) I
    simp only[lj,Bool.false_eq_true,if_false,List.append_nil]at this
    exact s.pm.trans this.symm
  obtain⟨L',hv',ax⟩:=bZ.shut hh
  rw[List.map_set]at hv'
  exact⟨L',rfl,hv',ax⟩
end
end Go.Proofs.YtjlkfjnfnonekaaGreatDoor.Tn
set_option maxRecDepth 8000
namespace Go.Proofs.YtjlkfjnfnonekaaGreatDoor.Tn
open Go.Vc
section
variable{W:Wd} {h h':J} {R:List ao} {G:List ao} {b bt n i j k:Nat} {st:List (Option bN)} {l bI:List bN} {e e':bN} {L ga:ao} {dV:List ao} {T:TypeId} {S:dm} {K:Value->J->Prop} {Q:J->Prop} {a w air:Int} {ads:List Addr} {uy:lO} {s:eU}
theorem el.cellAt (m:ai W h (L::R)) (hv:el bt l L) (ah:j<l.length) {o:Nat} {v:Value} (hc:(iR (gt l j) j)[o]?=some v):cell h (gt l j).b o=some v:=by
 obtain⟨a,c,E,q7,o',m⟩:=hv.dd m
 have m2:=(m.focus 2 rfl).pick j (pT ah)
 rw[Nat.zero_add]at m2
 exact m2.cell 0 rfl hc
theorem QZ {α:Type} {x:α}:∀{l:List α} {j:Nat},(l.set j x).eraseIdx j=l.eraseIdx j
 |[],j=>rfl
 |y::r,0=>rfl
 |y::r,j+1=>by simp only[List.set_cons_succ,List.eraseIdx_cons_succ];rw[QZ]
theorem Ov {o:Option bN} (ha:∀(k:Nat) (e:bN),st[k]?=some (some e)->e.aid=(k:Int)+1) (I:k<st.length) (aw:∀e,o=some e->e.aid=(k:Int)+1):∀(i:Nat) (e:bN),(st.set k o)[i]?=some (some e)->e.aid=(i:Int)+1:= λi x hx=>by
 rw[tm I]at hx
 split at hx
 ·rename_i q;subst q;exact aw _ (Option.some.inj hx)
 ·exact ha _ _ hx
theorem S8 {o:Option bN} {g:ao} (adl:∀(k:Nat) (o:Option bN),st[k]?=some o->∃g,dV[k]?=some g/\pN o g) (I:k<st.length) (uE:k<dV.length) (aw:pN o g):∀(i:Nat) (o':Option bN),(st.set k o)[i]?=some o'->∃g',(dV.set k g)[i]?=some g'/\pN o' g':= λi x hx=>by
 rw[tm I]at hx
 rw[tm uE]
 split at hx
 ·rename_i q;subst q;cases hx
  exact⟨_,if_pos rfl,aw⟩
 ·rename_i q;rw[if_neg q];exact adl _ _ hx
theorem TW (h:e.on=true):lj (some e)=[e]:=if_pos h
theorem TV (h:e.on=false):lj (some e)=[]:=by unfold lj;dsimp only;rw[h];rfl
theorem gM.afs (s:gM W h b st bt T l ga dV R) (I:st[k]?=some (some e)) (aw:e.on=true):dV[k]?=some []:=by
 obtain⟨g,hg,hi⟩:=s.iv _ _ I
 unfold pN at hi;dsimp only at hi
 rw[if_pos aw]at hi
 rw[hg,hi]
theorem gM.idle (s:gM W h b st bt T l ga dV R) (I:st[k]?=some (some e)) (aw:e.on=false):∃p,dV[k]?=some (gm e p):=by
 obtain⟨g,hg,hi⟩:=s.iv _ _ I
 unfold pN at hi;dsimp only at hi
 rw[if_neg (by simp[aw])]at hi
 obtain⟨p,rfl⟩:=hi
 exact⟨p,hg⟩
theorem gM.turn (s:gM W h b st bt T l ga dV R) (I:st[k]?=some (some e)) (aw:e.on=true):∃j,j<l.length/\gt l j=e:=by
 have hm:e∈l:=s.pm.mem_iff.2 (xK.2 ⟨k,I,aw⟩)
 obtain⟨j,ah⟩:=List.getElem?_of_mem hm
 exact⟨j,(List.getElem?_eq_some_iff.1 ah).1,tp ah⟩
theorem acb (pm:l.Perm (jJ st)) (I:st[k]?=some (some e)) (aw:e.on=true) (ah:j<l.length) (hg:gt l j=e) {o:Option bN} (Ay:lj o=[]):(l.eraseIdx j).Perm (jJ (st.set k o)):=by
 have p1:=J8 ah
 rw[hg]at p1
 have p2:=EZ (o':=o) I
 rw[TW aw,Ay,List.append_nil]at p2
 exact(p1.trans (pm.trans (p2.symm.trans (List.perm_append_singleton e _)))).cons_inv
theorem gM.least (s:gM W h b st bt T l ga dV R) (hh:fp l.length l):sI (st.map strip)=if l.length=0 then none else some (gt l 0).t:=by
 have jw:∀x,x∈l->∃n:Nat,(st.map strip)[n]?=some (some ⟨x.w,x.t,x.on⟩)/\x.on=true:= λx hx=>by
  obtain⟨n,hn,aw⟩:=xK.1 (s.pm.mem_iff.1 hx)
  exact⟨n,VQ hn,aw⟩
 rcases Dz (S:=st.map strip)with⟨h1,h2⟩|⟨m,h1,⟨k,x,h3,h4,aA⟩,aU⟩
 ·rw[h1]
  by_cases hl:l.length=0
  ·rw[if_pos hl]
  ·have hm:gt l 0∈l:=List.mem_of_getElem? (uD (by omega))
   obtain⟨n,hn,aw⟩:=jw _ hm
   have:=h2 n _ hn
   rw[show(⟨(gt l 0).w,(gt l 0).t,(gt l 0).on⟩:eU).on=(gt l 0).on from rfl,aw]at this
   cases this
 ·rw[h1]
  obtain⟨e,he,rfl⟩:=VP h3
  have hm:e∈l:=s.pm.mem_iff.2 (xK.2 ⟨k,he,h4⟩)
  obtain⟨j,ah⟩:=List.getElem?_of_mem hm
  have fv:=(List.getElem?_eq_some_iff.1 ah).1
  rw[if_neg (by omega)]
  have R4:=hh.head j fv
  rw[tp ah]at R4
  obtain⟨n,hn,aw⟩:=jw _ (List.mem_of_getElem? (uD (l:=l) (k:=0) (by omega)))
  have:=aU n _ hn aw
  simp only[bN.lt]at R4
  dsimp only at*
  congr 1
  omega
theorem gM.lift (s:gM W h b st bt T l ga dV R) (I:st[k]?=some (some e)) (aw:e.on=false):∃p,ai W h (gm e p::ga::(dV.set k []).flatten::[(b,jN st++[ev bt],T)]::R):=by
 obtain⟨p,uE⟩:=s.idle I aw
 refine⟨p,s.m.perm ?_⟩
 have p:=Cq (A:=[]) uE
 rw[List.append_nil]at p
 classical
 refine List.perm_iff_count.2 λx=>?_
 have:=p.count_eq x
 simp only[List.flatten_cons,List.count_append]at this⊢
 omega
theorem gM.Wz (s:gM W h b st bt T l ga dV R) (I:st[k]?=some (some e)) (aw:e.on=false) (hh:fp l.length l):
 wr h e.b 3/\∀h1,h1=b3 h e.b 3 (.bool true)->cell h1 b 16=some (ev bt)/\aj Tryz.prog 98 #[pG bt, .iface 204 (ev e.b)] h1 λv h2=>
  ∃L',lR b ((st.map strip).set k (some ⟨e.w,e.t,true⟩)) L'/\ai W h2 (L'::R):=by
 obtain⟨p,m⟩:=s.lift I aw
 have bY:=(List.getElem?_eq_some_iff.1 I).1
 have gr:=s.len
 refine m.store 0 rfl (by simp[iR]) λh1 m1=>?_
 simp only[List.set_cons_zero]at m1
 replace m1:ai W h1 (gm {e with on:=true} p::ga::(dV.set k []).flatten::[(b,jN st++[ev bt],T)]::R):=m1
 refine⟨m1.cell 3 rfl (Ei s.aT),?_⟩
 have m2:=m1.focus 1 rfl
 simp only[List.eraseIdx_cons_succ,List.eraseIdx_cons_zero]at m2
 refine(UH (e:={e with on:=true}) m2 s.v hh (by omega)).mono ?_
 rintro _ h2 ⟨bI,L',rfl,pm,C0,hv',m3⟩
 have af:jN (st.set k (some {e with on:=true}))=jN st:=M7 (o:=none) I rfl
 have bZ:gM W h2 b (st.set k (some {e with on:=true})) bt T bI L' (dV.set k []) R:=by
  refine⟨by rw[af];exact m3,hv',by rw[List.length_set];exact s.aT,by rw[List.length_set];exact s.jx,S8 s.iv bY (by rw[s.jx];rw[s.aT]at bY;exact bY) (by unfold pN;dsimp only;rw[if_pos rfl]),Ov s.aid bY (λx c=>by cases c;exact s.aid _ e I),?_⟩
  have p2:=EZ (o':=some {e with on:=true}) I
  rw[TV aw,TW (e:={e with on:=true}) rfl,List.append_nil]at p2
  exact pm.trans ((s.pm.append_right _).trans p2.symm)
 obtain⟨e7,dc,ax⟩:=bZ.shut C0
 rw[List.map_set]at dc
 exact⟨e7,dc,ax⟩
theorem gM.aaw (s:gM W h b st bt T l ga dV R) (I:st[k]?=some (some e)) (aw:e.on=true) (hh:fp l.length l):
 wr h e.b 3/\∀h1,h1=b3 h e.b 3 (.bool false)->cell h1 b 16=some (ev bt)/\∃n:Int,cell h1 e.b 4=some (.int .i64 n)/\aj Tryz.prog 100 #[pG bt, .int .i64 n] h1 λv h2=>
  cell h2 b 16=some (ev bt)/\∃L',lR b ((st.map strip).set k (some ⟨e.w,e.t,false⟩)) L'/\ai W h2 (L'::R):=by
 obtain⟨j,ah,hg⟩:=s.turn I aw
 have bY:=(List.getElem?_eq_some_iff.1 I).1
 have gr:=s.len
 have key:=el.store (Q:= λh1=>cell h1 b 16=some (ev bt)/\∃n:Int,cell h1 e.b 4=some (.int .i64 n)/\aj Tryz.prog 100 #[pG bt, .int .i64 n] h1 λv h2=>
  cell h2 b 16=some (ev bt)/\∃L',lR b ((st.map strip).set k (some ⟨e.w,e.t,false⟩)) L'/\ai W h2 (L'::R)) (e':={e with on:=false}) (o:=3) (v:= .bool false) s.m s.v ah (by rw[hg]) (by rw[hg]) (by rw[hg];rfl) (by decide) λh1 jF ij m1=>by
  have qg:gt (l.set j {e with on:=false}) j={e with on:=false}:=tp (List.getElem?_set_self ah)
  have fv:j<(l.set j {e with on:=false}).length:=by rw[List.length_set];exact ah
  refine⟨m1.cell 2 rfl (Ei s.aT),(j:Int),?_,?_⟩
  ·have:=ij.cellAt m1 fv (o:=4) (v:= .int .i64 (j:Int)) rfl
   rw[qg]at this
   exact this
  ·refine(U3 m1 ij (by rw[List.length_set];exact fp.same hh ah (by rw[hg]) (by rw[hg])) fv (by rw[List.length_set];omega)).mono ?_
   rintro _ h2 ⟨bI,L',p,pm,C0,hv',m2⟩
   rw[qg]at m2
   rw[QZ]at pm
   refine⟨m2.cell 3 rfl (Ei s.aT),?_⟩
   have af:jN (st.set k (some {e with on:=false}))=jN st:=M7 (o:=none) I rfl
   have bZ:gM W h2 b (st.set k (some {e with on:=false})) bt T bI L' (dV.set k (gm {e with on:=false} p)) R:=by
    refine⟨m2.perm ?_,hv',by rw[List.length_set];exact s.aT,by rw[List.length_set];exact s.jx,S8 s.iv bY (by rw[s.jx];rw[s.aT]at bY;exact bY) (by unfold pN;dsimp only;rw[if_neg (by simp)];exact⟨p,rfl⟩),Ov s.aid bY (λx c=>by cases c;exact s.aid _ e I),pm.trans (acb s.pm I aw ah hg (TV rfl))⟩
    rw[af]
    have p:=Cq (A:=gm {e with on:=false} p) (s.afs I aw)
    rw[List.append_nil]at p
    classical
    refine List.perm_iff_count.2 λx=>?_
    have:=p.count_eq x
    simp only[List.flatten_cons,List.count_append]at this⊢
    omega
   obtain⟨e7,dc,ax⟩:=bZ.shut C0
   rw[List.map_set]at dc
   exact⟨e7,dc,ax⟩
 rw[hg]at key
 exact key
theorem Xo {on:Bool} (m:ai W h (L::R)) (hv:lR b S L) (gS:zq W ads (jX S a on).2):aj Tryz.prog 97 #[ev b, .int .i64 a, .bool on] h λv h'=>
 ∃L',v=gC ads (jX S a on).2/\lR b (jX S a on).1 L'/\ai W h' (L'::R):=by
 obtain⟨st,bt,T,l,ga,dV,rfl,hh,s⟩:=hv.dd m
 refine apw _ _ _ _ _ ((L1 s a).mono ?_)
 rintro _ _ ⟨rfl,rfl⟩
 unfold jX at gS⊢
 rw[Kl s.aT]at gS⊢
 cases hx:p9 st a with
 |none=>
  rw[hx]at gS
  exact⟨_,rfl,df rfl ⟨_,m.bT (gS 6 rfl),L,rfl,hv,m⟩⟩
 |some e=>
  refine⟨_,rfl,aZ rfl ?_⟩
  obtain⟨Gu,I⟩:=Rt hx
  have gr:=s.len
  obtain⟨p,hc,-,hp⟩:=s.J4 I
  dsimp only[strip,Option.map]
  cases on with
  |true=>
   refine df rfl ⟨_,hc 3 _ rfl,?_⟩
   cases aw:e.on with
   |true=>exact aZ rfl (aZ rfl ⟨L,rfl,hv,m⟩)
   |false=>
    rw[if_pos ⟨rfl,rfl⟩]
    refine df rfl ⟨_,s.Jz,(yH s.m s.v).mono ?_⟩
    rintro _ _ ⟨rfl,rfl⟩
    have Aw:=s.least hh
    refine⟨_,rfl,aC (λq=>?_) λq=>?_⟩
    ·rw[if_neg (by omega)]at Aw
     obtain⟨eb,h6,E,ue,o',m2⟩:=s.v.dd s.m
     obtain⟨iN,BZ,rfl,nR⟩:=fW (o'.oL m2 1 rfl) (si (k:=0) (by omega))
     refine⟨_,hc 2 _ rfl,_,s.Jz,_,_,_,m2.cell 0 rfl rfl,⟨by omega,by omega⟩,_,nR,_,s.v.cellAt s.m (j:=0) (by omega) rfl,?_⟩
     refine s.put (e':={e with t:=max e.t (gt l 0).t}) I (o:=2) (v:= .int .i64 (max e.t (gt l 0).t)) rfl rfl rfl rfl (λp=>rfl) (by decide) λh3 ca IG EP s1 g1 g2=>?_
     obtain rfl:=g1 aw
     have bY:=(List.getElem?_eq_some_iff.1 I).1
     have pc:(st.set (fF a) (some {e with t:=max e.t (gt ca 0).t}))[fF a]?=some (some {e with t:=max e.t (gt ca 0).t}):=List.getElem?_set_self bY
     obtain⟨w1,w2⟩:=s1.Wz pc aw hh
     refine⟨w1,λh4 cx=>?_⟩
     obtain⟨kb,vu⟩:=w2 h4 cx
     refine⟨_,kb,vu.mono ?_⟩
     rintro _ aA ⟨L',hv',ax⟩
     rw[List.map_set,List.set_set]at hv'
     unfold xY
     rw[Aw]
     exact⟨L',rfl,hv',ax⟩
    ·rw[if_pos (by omega)]at Aw
     obtain⟨w1,w2⟩:=s.Wz I aw hh
     refine⟨w1,λh4 cx=>?_⟩
     obtain⟨kb,vu⟩:=w2 h4 cx
     refine⟨_,kb,vu.mono ?_⟩
     rintro _ aA ⟨L',hv',ax⟩
     unfold xY
     rw[Aw]
     exact⟨L',rfl,hv',ax⟩
  |false=>
   refine aZ rfl (df rfl ⟨_,hc 3 _ rfl,?_⟩)
   cases aw:e.on with
   |false=>exact aZ rfl ⟨L,rfl,hv,m⟩
   |true=>
    obtain⟨w1,w2⟩:=s.aaw I aw hh
    refine df rfl ⟨w1,λh4 cx=>?_⟩
    obtain⟨kb,n,vu,Wx⟩:=w2 h4 cx
    refine⟨_,kb,_,vu,Wx.mono ?_⟩
    rintro _ aA ⟨asF,L',hv',ax⟩
    exact⟨_,rfl,L',rfl,hv',ax⟩
theorem ZN (m:ai W h (L::R)) (hv:lR b S L) (ok:eH S) (gS:zq W ads (o1 S a air).2):aj Tryz.prog 120 #[ev b, .int .i64 a, .int .i64 air] h λv h'=>
 ∃L',v=gC ads (o1 S a air).2/\lR b (o1 S a air).1 L'/\ai W h' (L'::R):=by
 obtain⟨st,bt,T,l,ga,dV,rfl,hh,s⟩:=hv.dd m
 refine apy _ _ _ _ _ ((L1 s a).mono ?_)
 rintro _ _ ⟨rfl,rfl⟩
 unfold o1 at gS⊢
 have eX:∀x,hB (st.map strip) a=some x->1<=x.w/\x.w<=100/\0<=x.t/\x.t<=1152921504606846976:= λx hx=>ok.get hx
 rw[Kl s.aT]at gS eX⊢
 cases hx:p9 st a with
 |none=>
  rw[hx]at gS
  exact⟨_,rfl,df rfl ⟨_,m.bT (gS 6 rfl),L,rfl,hv,m⟩⟩
 |some e=>
  rw[hx]at gS eX
  refine⟨_,rfl,aZ rfl ?_⟩
  obtain⟨Gu,I⟩:=Rt hx
  have bY:=(List.getElem?_eq_some_iff.1 I).1
  have gr:=s.len
  obtain⟨p,hc,-,hp⟩:=s.J4 I
  dsimp only[strip,Option.map]at gS eX⊢
  obtain⟨eg,aM,cb,hF⟩:=eX _ rfl
  dsimp only at eg aM cb hF
  by_cases h0:0<=air/\air<=1099511627776
  case neg=>
   rw[if_neg h0]at gS⊢
   refine aC (λ_=>⟨_,m.bT (gS 2 rfl),L,rfl,hv,m⟩) λq=>aC (λ_=>⟨_,m.bT (gS 2 rfl),L,rfl,hv,m⟩) λq2=>absurd ⟨by omega,by omega⟩ h0
  rw[if_pos h0]
  obtain⟨h0,h1'⟩:=h0
  have nk:0<=10000*air/e.w:=Int.ediv_nonneg (by omega) (by omega)
  have qf:10000*air/e.w<=10000*air:=Int.ediv_le_self _ (by omega)
  refine bF (by omega) (bF (by omega) ⟨_,hc 2 _ rfl,by simp only[fits];omega,_,hc 1 _ rfl,⟨by omega,by omega,by simp only[fits];omega⟩,by simp only[fits];omega,?_⟩)
  refine s.put (e':={e with t:=min (e.t+10000*air/e.w) 1152921504606846976}) I (o:=2) (v:= .int .i64 (min (e.t+10000*air/e.w) 1152921504606846976)) rfl rfl rfl rfl (λp=>rfl) (by decide) λh3 ca IG EP s1 g1 g2=>?_
  have pc:(st.set (fF a) (some {e with t:=min (e.t+10000*air/e.w) 1152921504606846976}))[fF a]?=some (some {e with t:=min (e.t+10000*air/e.w) 1152921504606846976}):=List.getElem?_set_self bY
  obtain⟨p1,lV,-,Gi⟩:=s1.J4 pc
  refine⟨_,lV 3 _ rfl,?_⟩
  cases aw:e.on with
  |false=>
   refine aZ (by simp[aw]) ?_
   obtain rfl:=g1 aw
   obtain⟨L',hv',ax⟩:=s1.shut hh
   rw[List.map_set]at hv'
   rw[show strip (some {e with t:=min (e.t+10000*air/e.w) 1152921504606846976})=some ⟨e.w,td ⟨e.w,e.t,e.on⟩ air,e.on⟩from rfl,aw]at hv'
   exact⟨L',rfl,hv',ax⟩
  |true=>
   refine df (by simp[aw]) ?_
   obtain⟨j,ah,hg,rfl⟩:=g2 aw
   have qg:gt (l.set j {e with t:=min (e.t+10000*air/e.w) 1152921504606846976}) j={e with t:=min (e.t+10000*air/e.w) 1152921504606846976}:=tp (List.getElem?_set_self ah)
   have fv:j<(l.set j {e with t:=min (e.t+10000*air/e.w) 1152921504606846976}).length:=by rw[List.length_set];exact ah
   have eA:=s1.v.cellAt s1.m fv (o:=4) (v:= .int .i64 (j:Int)) rfl
   rw[qg]at eA
   refine⟨_,s1.Jz,_,eA,(abJ s1.m s1.v (by rw[List.length_set];exact fp.ZQ hh ah) fv (by rw[List.length_set];omega)).mono ?_⟩
   rintro _ h4 ⟨bI,L',pm,C0,hv',m4⟩
   have bZ:gM W h4 b (st.set (fF a) (some {e with t:=min (e.t+10000*air/e.w) 1152921504606846976})) bt T bI L' EP R:=⟨m4,hv',s1.aT,s1.jx,s1.iv,s1.aid,pm.trans s1.pm⟩
   obtain⟨e7,dc,ax⟩:=bZ.shut C0
   rw[List.map_set]at dc
   rw[show strip (some {e with t:=min (e.t+10000*air/e.w) 1152921504606846976})=some ⟨e.w,td ⟨e.w,e.t,e.on⟩ air,e.on⟩from rfl,aw]at dc
   exact⟨e7,rfl,dc,ax⟩
end
end Go.Proofs.YtjlkfjnfnonekaaGreatDoor.Tn
set_option maxRecDepth 8000
namespace Go.Vc
def key (e:bN):Int×Int:=(e.t,e.aid)
def AP (x y:Int×Int):Prop:=x.1<y.1\/x.1=y.1/\x.2<=y.2
section
variable{st:List (Option bN)} {gZ:List (Int×Int)} {e x y:bN}
theorem afE (h:¬y.lt x):AP (key x) (key y):=by simp only[AP,key,bN.lt]at*;omega
theorem Om:∀{st:List (Option bN)} {c:Int},(∀(k:Nat) (e:bN),st[k]?=some (some e)->e.aid=(k:Int)+1+c)->(jJ st).Pairwise (λx y=>x.aid<y.aid)/\∀x∈jJ st,c<x.aid
 |[],c,_=>⟨List.Pairwise.nil,λx hx=>by cases hx⟩
 |o::r,c,h=>by
  obtain⟨h1,h2⟩:=Om (st:=r) (c:=c+1) λk e I=>by have:=h (k+1) e (by simpa using I);omega
  have af:jJ (o::r)=lj o++jJ r:=rfl
  rw[af]
  cases o with
  |none=>exact⟨h1,λx hx=>by have:=h2 x hx;omega⟩
  |some e=>
   have he:=h 0 e rfl
   unfold lj
   dsimp only
   split
   ·refine⟨List.pairwise_cons.2 ⟨λy hy=>by have:=h2 y hy;omega,h1⟩,λx hx=>?_⟩
    rcases List.mem_cons.1 hx with rfl|hx
    ·omega
    ·have:=h2 x hx;omega
   ·exact⟨h1,λx hx=>by have:=h2 x hx;omega⟩
theorem afp (ha:∀(k:Nat) (e:bN),st[k]?=some (some e)->e.aid=(k:Int)+1) (hn:st.length=16) (hp:gZ.Perm ((jJ st).map key)) (hs:gZ.Pairwise AP):BH (st.map strip) (gZ.map Prod.snd):=by
 have jw:∀x∈gZ,∃e,key e=x/\e.on=true/\hB (st.map strip) x.2=some ⟨e.w,e.t,e.on⟩:= λx hx=>by
  obtain⟨e,he,rfl⟩:=List.mem_map.1 (hp.mem_iff.1 hx)
  obtain⟨n,h1,h2⟩:=xK.1 he
  refine⟨e,rfl,h2,?_⟩
  have:=ab9 (VQ h1) (by simpa using hn)
  rw[show(key e).2=e.aid from rfl,ha _ _ h1]
  exact this
 refine⟨by rw[<-On,List.length_map];simpa using hp.length_eq,λa=>⟨λhm=>?_,λ⟨s,h1,h2⟩=>?_⟩,?_⟩
 ·obtain⟨x,hx,rfl⟩:=List.mem_map.1 hm
  obtain⟨e,rfl,h1,h2⟩:=jw x hx
  exact⟨_,h2,h1⟩
 ·obtain⟨h3,h4⟩:=Cz.1 h1
  obtain⟨e,aA,rfl⟩:=VP h4
  have I:key e∈gZ:=hp.mem_iff.2 (List.mem_map.2 ⟨e,xK.2 ⟨_,aA,h2⟩,rfl⟩)
  refine List.mem_map.2 ⟨key e,I,?_⟩
  have:=ha _ _ aA
  show e.aid=a
  rw[this];unfold fF;omega
 ·have h1:=(Om (st:=st) (c:=0) λk e I=>by rw[ha k e I];omega).1
  have h2:((jJ st).map key).Pairwise λx y=>x.2≠y.2:=List.pairwise_map.2 (h1.imp λh=>by show _≠_;simp only[key];omega)
  have h3:gZ.Pairwise λx y=>x.2≠y.2:=(hp.pairwise_iff (λh=>Ne.symm h)).2 h2
  refine List.pairwise_map.2 ((hs.and h3).imp_of_mem ?_)
  intro x y hx hy ⟨h4,aA⟩
  obtain⟨e,rfl,_,aU⟩:=jw x hx
  obtain⟨f,rfl,_,bW⟩:=jw y hy
  refine⟨_,_,aU,bW,?_⟩
  simp only[AP,key]at h4 aA⊢
  omega
end
end Go.Vc
namespace Go.Proofs.YtjlkfjnfnonekaaGreatDoor.Tn
open Go.Vc
section
variable{W:Wd} {h h':J} {R:List ao} {G:List ao} {b bt n i j k:Nat} {st:List (Option bN)} {l bI:List bN} {e e':bN} {L ga:ao} {dV:List ao} {T:TypeId} {S:dm}
theorem aiw (m:ai W h (L::R)) (hv:lR b S L):aj Tryz.prog 42 #[ev b] h λv h'=>
 ∃a c o E,v= .slice a o.length c/\au a o.length c 1 (ints .i64 o) E/\BH S o/\ai W h' (E::L::R):=by
 have qp:=hv
 obtain⟨st,bt,T,l,ga,dV,rfl,hh,⟨eb,h6,BN,ue,o,rfl⟩,h4,aA,aU,bW,bJ,rfl⟩:=hv
 have gr:=Ur bJ h4
 have back:∀{h:J} {E:ao},ai W h (E::[(bt,[.slice eb l.length h6],ue)]::BN::(jf l 0).flatten::dV.flatten::[(b,jN st++[ev bt],T)]::R)->ai W h (E::([(bt,[.slice eb l.length h6],ue)]++(BN++(jf l 0).flatten)++(dV.flatten++[(b,jN st++[ev bt],T)]))::R):= λm=>m.perm (by simp)
 have m0:ai W h ([(bt,[.slice eb l.length h6],ue)]::BN::(jf l 0).flatten::dV.flatten::[(b,jN st++[ev bt],T)]::R):=m.perm (by simp)
 refine apz _ _ _ ?_
 intro al h1 af ag
 replace m0:=m0.push ag af
 clear af ag m
 generalize FC:(203:TypeId)=ek at m0
 clear FC
 refine⟨_,m0.cell 5 rfl (Ei h4),_,_,_,m0.cell 1 rfl rfl,?_⟩
 refine⟨λx h'=>∃(i:Nat) (aF:List bN) (e7:ao),x=i/\i<=l.length/\el al aF e7/\fp aF.length aF/\(aF.map key).Perm ((l.take i).map key)/\ai W h' (e7::[(bt,[.slice eb l.length h6],ue)]::BN::(jf l 0).flatten::dV.flatten::[(b,jN st++[ev bt],T)]::R),λx _=>((l.length:Int) -x).toNat,
  ⟨0,[],[(al,[.slice none 0 0],ek)],rfl,by omega,⟨none,0,[],ek,au.nil,by simp[jf]⟩,λk a b=>by simp at b,by simp,m0⟩,λ_=>?_⟩
 clear m0
 rintro _ h2 ⟨i,aF,e7,rfl,hi,dc,Aq,hp,m⟩
 have dv:aF.length=i:=by have:=hp.length_eq;simp at this;omega
 refine aC (λq=>?_) λq=>?_
 ·have gq:i<l.length:=by omega
  obtain⟨iN,BZ,rfl,nR⟩:=fW (o.oL m 2 rfl) (si gq)
  have m2:=(m.focus 3 rfl).pick i (pT gq)
  rw[Nat.zero_add]at m2
  refine⟨⟨by omega,by omega⟩,_,nR,iR (gt l i) (i:Int),m2.row 0 rfl (by simp[iR]) (by simp[iR]),?_⟩
  intro fh h3 af ag
  replace m:=m.push ag af
  clear af ag m2
  refine⟨⟨rfl,m.dR 0 rfl rfl,by simp[iR,Value.oneCell']⟩,?_⟩
  intro arh af
  replace m:=m.bm 0 rfl af
  generalize FC:(223:TypeId)=zy at m
  clear af FC
  have aI:(fh,bG [.int .i64 0, .int .i64 0, .int .i64 0, .bool false, .int .i64 0] 0 (iR (gt l i) (i:Int)),zy)=((fh,iR {gt l i with b:=fh,T:=zy} (i:Int),zy):EK):=rfl
  simp only[List.set_cons_zero]at m
  rw[aI]at m
  have m3:=m.focus 1 rfl
  simp only[List.eraseIdx_cons_succ,List.eraseIdx_cons_zero]at m3
  refine(UH (e:={gt l i with b:=fh,T:=zy}) m3 dc Aq (by omega)).mono ?_
  rintro _ ari ⟨dw,ja,rfl,pm,KF,fE,m4⟩
  refine⟨by simp only[fits];omega,⟨i+1,dw,ja,by omega,by omega,fE,KF,?_,m4⟩,by(try dsimp only);omega⟩
  have cx:l.take (i+1)=l.take i++[gt l i]:=by
   rw[List.take_add_one,uD gq];rfl
  have p1:=pm.map key
  rw[List.map_append]at p1
  rw[cx,List.map_append]
  exact p1.trans (hp.append_right _)
 ·obtain rfl:i=l.length:=by omega
  rw[List.take_length]at hp
  refine⟨λar ol cJ h'=>∃(gZ:List (Int×Int)) (aF:List bN) (e7 E:ao),ol=gZ.length/\au ar ol cJ 1 (ints .i64 (gZ.map Prod.snd)) E/\el al aF e7/\fp aF.length aF/\(gZ++aF.map key).Perm (l.map key)/\gZ.Pairwise AP/\(∀x∈gZ,∀y∈aF,AP x (key y))/\ai W h' (e7::E::[(bt,[.slice eb l.length h6],ue)]::BN::(jf l 0).flatten::dV.flatten::[(b,jN st++[ev bt],T)]::R),λ_ ol _ _=>l.length -ol,
   ⟨[],aF,e7,[],rfl,au.nil,dc,Aq,by simpa using hp,List.Pairwise.nil,λx hx=>(by cases hx),m.perm (by simp)⟩,λ_=>?_⟩
  clear m dc Aq hp dv
  rintro ar _ cJ ark ⟨gZ,aF,e7,E,rfl,sN,dc,Aq,hp,hs,hb,m⟩
  have bY:gZ.length+aF.length=l.length:=by have:=hp.length_eq;simpa using this
  refine(yH m dc).mono ?_
  rintro _ _ ⟨rfl,rfl⟩
  refine⟨_,rfl,aC (λq2=>?_) λq2=>?_⟩
  ·obtain⟨kc,jS,aq0,aq1,tO,po⟩:=dc.dd m
   obtain⟨iN,BZ,rfl,nR⟩:=fW (tO.oL po 1 rfl) (si (k:=0) (by omega))
   refine⟨_,_,_,po.cell 0 rfl rfl,⟨by omega,by omega⟩,_,nR,_,dc.cellAt m (j:=0) (by omega) rfl,?_⟩
   refine sN.um (us:=[.int .i64 (gt aF 0).aid]) (bytes:=8) m 1 rfl rfl (by simp[Value.oneCell']) (by omega) (by decide) ?_
   intro ay c' bn ct m9 nz
   simp only[List.set_cons_succ,List.set_cons_zero]at m9
   refine(U3 (i:=0) m9 dc Aq (by omega) (by omega)).mono ?_
   rintro v1 dS ⟨dw,ja,p,pm,KF,fE,m10⟩
   refine⟨v1,rfl,⟨gZ++[key (gt aF 0)],dw,ja,bn,by simp,?_,fE,KF,?_,?_,?_,m10.free 1 rfl⟩,by(try dsimp only);omega⟩
   ·have af:ints .i64 ((gZ++[key (gt aF 0)]).map Prod.snd)=ints .i64 (gZ.map Prod.snd)++[.int .i64 (gt aF 0).aid]:=by simp[ints,key]
    rw[af];exact nz
   ·rw[List.append_assoc]
    refine List.Perm.trans (List.Perm.append_left _ ?_) hp
    have p1:=(J8 (l:=aF) (i:=0) (by omega)).map key
    exact((pm.map key).cons (key (gt aF 0))).trans p1
   ·refine List.pairwise_append.2 ⟨hs,List.pairwise_singleton _ _,λx hx y hy=>?_⟩
    rw[List.mem_singleton]at hy
    subst hy
    exact hb x hx _ (List.mem_of_getElem? (uD (by omega)))
   ·intro x hx y hy
    have Di:y∈aF:=List.mem_of_mem_eraseIdx (pm.mem_iff.1 hy)
    rcases List.mem_append.1 hx with hx|hx
    ·exact hb x hx y Di
    ·rw[List.mem_singleton]at hx
     subst hx
     obtain⟨j,ah⟩:=List.getElem?_of_mem Di
     have:=Aq.head j (List.getElem?_eq_some_iff.1 ah).1
     rw[tp ah]at this
     exact afE this
  ·have wy:aF=[]:=List.eq_nil_of_length_eq_zero (by omega)
   subst wy
   rw[List.map_nil,List.append_nil]at hp
   refine⟨ar,cJ,gZ.map Prod.snd,E,by simp,by simpa using sN,afp bW h4 (hp.trans (bJ.map key)) hs,back (m.free 0 rfl)⟩
end
end Go.Proofs.YtjlkfjnfnonekaaGreatDoor.Tn
set_option maxRecDepth 8000
namespace Go.Proofs.YtjlkfjnfnonekaaGreatDoor
open Go.Vc
def Mx (o:Option Nat):Value:= .pointer (o.map λb=>⟨b,0,none⟩)
section
variable{W:Wd} {h:J} {R:List aL} {a:Nat} {asz:List (Option Nat)} {aid:Int} {t:Option TypeId}
def fA (tid:Int):Int:=xR [1,0,0,1,2,2,3,3] tid
theorem OI {tid:Int} (ht:0<=tid/\tid<=7) (m:aa W h R):aj Tryz.prog 104 #[.int .i64 tid] h λv h'=>v= .int .i64 (fA tid)/\aa W h' R:=by
 refine am3 _ _ _ (m.bb λal h1 m1=>⟨⟨by omega,by omega⟩,fA tid,?_,rfl,m1.aB⟩)
 have:tid=0\/tid=1\/tid=2\/tid=3\/tid=4\/tid=5\/tid=6\/tid=7:=by omega
 rcases this with rfl|rfl|rfl|rfl|rfl|rfl|rfl|rfl
 ·exact m1.cell 0 rfl 0 rfl
 ·exact m1.cell 0 rfl 1 rfl
 ·exact m1.cell 0 rfl 2 rfl
 ·exact m1.cell 0 rfl 3 rfl
 ·exact m1.cell 0 rfl 4 rfl
 ·exact m1.cell 0 rfl 5 rfl
 ·exact m1.cell 0 rfl 6 rfl
 ·exact m1.cell 0 rfl 7 rfl
theorem XH (m:aa W h R):aj Tryz.prog 107 #[] h λv h'=>v= .agg (cK oK).toArray/\aa W h' R:=by
 refine am5 _ _ (m.bb λal h1 m1=>m1.c8 0 rfl rfl rfl (by intro u hu;simp at hu;rcases hu with rfl|rfl|rfl|rfl|rfl<;>rfl) λh2 m2=>⟨cK oK,m2.bE 0 rfl rfl,rfl,m2.aB⟩)
end
end Go.Proofs.YtjlkfjnfnonekaaGreatDoor
set_option maxRecDepth 8000
namespace Go.Proofs.YtjlkfjnfnonekaaGreatDoor
open Go.Vc
def pA (bs:List Nat):List Value:=bs.map λb=> .pointer (some ⟨b,0,none⟩)
section
variable{h:J} {a:Option Addr} {c al:Nat} {bs:List Nat} {asc:List Int} {num:Int}
end
end Go.Proofs.YtjlkfjnfnonekaaGreatDoor
