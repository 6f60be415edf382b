import Derived.Test.YtjlkfjnfnonekaaGreatDoorM19
import Derived.Test.YtjlkfjnfnonekaaGreatDoorM18
import Derived.Test.YtjlkfjnfnonekaaGreatDoorRows
import Derived.Test.YtjlkfjnfnonekaaGreatDoorM14
set_option linter.all false
set_option maxRecDepth 8000
namespace Go.Proofs.YtjlkfjnfnonekaaGreatDoor
open Go.Vc
structure eV where
 st:Int
 dD:Int
 sz:Int
 out:List Int
def eV.room (w:eV):Int:=max (w.sz -cC w.st w.dD) 0
def eV.next (w:eV):eV:=⟨w.st,fz w.dD 1,w.sz,w.out++[w.dD]⟩
def eV.drop (w:eV) (s:Int):eV:=⟨(w.out.erase s).headD w.dD,w.dD,w.sz,w.out.erase s⟩
def eV.done (w:eV) (s:Int):eV:=if s∈w.out then w.drop s else w
def eV.size (w:eV) (n:Int):eV:=⟨w.st,w.dD,n,w.out⟩
def qR (w:eV) (a:Option Addr) (c:Nat):List Value:=[.int .i64 w.st, .int .i64 w.dD, .int .i64 w.sz, .slice a w.out.length c]
def iM (b:Nat) (w:eV) (L:ao):Prop:=∃a c E,L=(b,qR w a c,312)::E/\au a w.out.length c 1 (ints .i64 w.out) E
structure s0 (w:eV):Prop where
 rK:1<=w.sz
 s1:w.sz<=64
 n:w.out.length<=64
section
variable{W W':Wd} {h h':J} {R:List aL} {L:ao} {w:eV} {b:Nat} {jh:Value}
theorem iM.dd (hv:iM b w L) (m:aa W h (ae L::R)):∃a c E,au a w.out.length c 1 (ints .i64 w.out) E/\aa W h ([⟨b,0,qR w a c,some 312⟩]::ae E::R):=by
 obtain⟨a,c,E,rfl,o⟩:=hv
 exact⟨a,c,E,o,aa.split (A:=[⟨b,0,qR w a c,some 312⟩]) (B:=ae E) m⟩
theorem iM.shut {a:Option Addr} {c:Nat} {E:ao} (o:au a w.out.length c 1 (ints .i64 w.out) E) (m:aa W h ([⟨b,0,qR w a c,some 312⟩]::ae E::R)):∃L,iM b w L/\aa W h (ae L::R):=
 ⟨_,⟨a,c,E,rfl,o⟩,m.join⟩
theorem WH (hv:iM b w L) (m:aa W h (ae L::R)):aj Tryz.prog 191 #[.pointer (some ⟨b,0,none⟩)] h λv h'=>v= .int .i64 w.st/\h'=h:=by
 obtain⟨a,c,E,o,m⟩:=hv.dd m
 exact aqf _ _ _ ⟨_,m.cell 0 rfl 0 rfl,rfl,rfl⟩
theorem aqu (hv:iM b w L) (m:aa W h (ae L::R)):aj Tryz.prog 192 #[.pointer (some ⟨b,0,none⟩)] h λv h'=>v= .int .i64 w.sz/\h'=h:=by
 obtain⟨a,c,E,o,m⟩:=hv.dd m
 exact aqe _ _ _ ⟨_,m.cell 0 rfl 2 rfl,rfl,rfl⟩
theorem aqq (hv:iM b w L) (m:aa W h (ae L::R)):aj Tryz.prog 195 #[.pointer (some ⟨b,0,none⟩)] h λv h'=>v= .int .i64 w.dD/\h'=h:=by
 obtain⟨a,c,E,o,m⟩:=hv.dd m
 exact aqa _ _ _ ⟨_,m.cell 0 rfl 1 rfl,rfl,rfl⟩
theorem WG (hv:iM b w L) (ok:s0 w) (m:aa W h (ae L::R)):aj Tryz.prog 252 #[.pointer (some ⟨b,0,none⟩)] h λv h'=>v= .int .i64 w.room/\h'=h:=by
 obtain⟨a,c,E,o,m⟩:=hv.dd m
 have:=ok.rK;have:=ok.s1;have:=vW w.st w.dD
 exact aqd _ _ _ ⟨_,m.cell 0 rfl 2 rfl,_,m.cell 0 rfl 0 rfl,_,m.cell 0 rfl 1 rfl,(Fz _ _ _).ret ⟨_,rfl,m.cell 0 rfl 2 rfl,by simp only[fits];omega,rfl,rfl⟩⟩
theorem aqs {st sz:Int} (h1:0<=st/\st<4096) (h2:1<=sz/\sz<=64) (m:aa W h R):aj Tryz.prog 86 #[.int .i64 st, .int .i64 sz] h λv h'=>
 ∃b L,v= .tuple #[.pointer (some ⟨b,0,none⟩), .nilIface]/\iM b ⟨st,st,sz,[]⟩ L/\aa W h' (ae L::R):=by
 refine ap9 _ _ _ _ (bF (by omega) (bF (by omega) (bF (by omega) (bF (by omega) (m.bb λb h1 m1=>?_)))))
 exact⟨b,[(b,qR ⟨st,st,sz,[]⟩ none 0,312)],rfl,⟨none,0,[],rfl,au.nil⟩,m1⟩
theorem WE {n:Int} (hv:iM b w L) (hn:1<=n/\n<=64) (he:w.out=[]) (m:aa W h (ae L::R)):aj Tryz.prog 183 #[.pointer (some ⟨b,0,none⟩), .int .i64 n] h λv h'=>
 ∃L,v= .nilIface/\iM b (w.size n) L/\aa W h' (ae L::R):=by
 obtain⟨a,c,E,o,m⟩:=hv.dd m
 refine NN _ _ _ _ (bF (by omega) (bF (by omega) ⟨_,_,_,m.cell 0 rfl 3 rfl,bF (by rw[he];decide) ?_⟩))
 refine m.store 0 rfl 2 rfl λh1 m1=>?_
 obtain⟨L',hv',ax⟩:=iM.shut (w:=w.size n) o m1
 exact⟨L',rfl,hv',ax⟩
theorem aqt (hv:iM b w L) (ok:s0 w) (m:aa W h (ae L::R)):aj Tryz.prog 293 #[.pointer (some ⟨b,0,none⟩)] h λv h'=>
 ∃L,v=(if w.room=0 then .tuple #[.int .i64 0, .bool false]else .tuple #[.int .i64 w.dD, .bool true])/\iM b (if w.room=0 then w else w.next) L/\aa W h' (ae L::R):=by
 refine aqc _ _ _ ((WG hv ok m).ret ⟨_,rfl,aC (λq=>?_) λq=>?_⟩)
 ·rw[if_pos q,if_pos q];exact⟨L,rfl,hv,m⟩
 rw[if_neg q,if_neg q]
 obtain⟨a,c,E,o,m⟩:=hv.dd m
 have:=ok.n
 refine⟨_,m.cell 0 rfl 1 rfl,(IY _ _ _).ret ⟨_,rfl,?_⟩⟩
 refine m.store 0 rfl 1 rfl λh1 m1=>?_
 refine⟨_,_,_,m1.cell 0 rfl 3 rfl,?_⟩
 refine o.kA m1 1 rfl rfl (by intro u hu;simp at hu;subst hu;rfl) (by omega) (by decide) λay c' bn h2 m2 aM=>?_
 refine m2.store 0 rfl 3 rfl λh3 m3=>?_
 obtain⟨L',hv',ax⟩:=iM.shut (w:=w.next) (a:=ay) (c:=c') (E:=bn) (by simpa[eV.next,ints]using aM) (by simpa[eV.next,qR]using m3)
 exact⟨L',rfl,hv',ax⟩
theorem JH {P:Program} {T e:TypeId} {a:Option Addr} {l c:Nat} {h:J} {K:J->Prop} {z:Value} (nO:P.underlying T=some (.slice e)) (hz:rX P e= λQ=>Q z) (h1:∀u∈z.cells.toList,u.oneCell'=true) (hl:0<l)
 (k:gb a h (cX (List.replicate l z.cells.toList)) K):gR P T (.slice a l c) h K:=by
 obtain⟨l,rfl⟩:∃j,l=j+1:=⟨l -1,by omega⟩
 unfold gR
 rw[nO]
 show rX P e _
 rw[hz]
 exact⟨h1,k⟩
theorem JL {a:Option Addr} {b o:Nat} {h:J} {vs:List Value} {K:J->Prop} (e:a=some ⟨b,o,none⟩) (k:c0 h b o vs.length/\∀h1,h1=bm h b o vs->K h1):gb a h vs K:=by subst e;exact k
theorem XK {a:Option Addr} {b o:Nat} {X:Prop} {K:Nat->Nat->Prop} (e:a=some ⟨b,o,none⟩) (k:K b o):E9 a X K:=by subst e;exact k
theorem Lr {k:Nat} {ck:List Value}:(cX (List.replicate k ck)).length=k*ck.length:=by
 induction k with
 |zero=>simp[cX]
 |succ k b9=>rw[List.replicate_succ];show(ck++cX _).length=_;rw[List.length_append,b9,Nat.add_mul];omega
theorem aap {xs:List Int} {a:Option Addr} {c i:Nat} {E:ao} (o:au a xs.length c 1 (ints .i64 xs) E) (hi:i<xs.length) (hn:xs.length<=1048576) (m:aa W h (ae E::R)):
 aj Tryz.prog 281 #[.slice a xs.length c, .int .i64 (i:Int), .int .i64 ((i:Int)+1)] h λv h'=>∃F,v= .slice a (xs.eraseIdx i).length c/\au a (xs.eraseIdx i).length c 1 (ints .i64 (xs.eraseIdx i)) F/\aa W h' (ae F::R):=by
 have hle:=o.le
 have CV:(xs.eraseIdx i).length=xs.length -1:=List.length_eraseIdx_of_lt hi
 have KA:xs.eraseIdx i=xs.take i++xs.drop (i+1):=List.eraseIdx_eq_take_drop_succ xs i
 have af:((i:Int)+1).toNat=i+1:=by omega
 have jx:(ints .i64 xs).length=xs.length:=dL
 refine apW _ _ _ _ _ _ _ ⟨⟨by omega,by omega,by omega,by omega⟩,bF (by omega) ⟨⟨by omega,by omega,by omega⟩,⟨by omega,by omega⟩,?_⟩⟩
 rw[af,show((i:Nat):Int).toNat=i from rfl]
 have n0:=o.tail (i+1) (by omega)
 have lD:=n0.j8 m 0 rfl
 refine⟨_,⟨lD,λu hu=>dM u (List.mem_of_mem_drop hu)⟩,?_⟩
 have nl:((ints .i64 xs).drop ((i+1)*1)).length=xs.length -(i+1):=by rw[List.length_drop,jx];omega
 obtain⟨b,p,e,hw,I⟩:=o.Bk (k:=i) (us:=(ints .i64 xs).drop ((i+1)*1)) m 0 rfl (by rw[jx,nl];omega) (by omega)
 have dn:en a 0 c 0=a:=by unfold en;rw[if_neg (by omega),e];simp only[Option.map_some,add_eq,Nat.add_zero]
 rw[dn]
 refine⟨λ_=>?_,λcn=>absurd cn (by omega)⟩
 refine XK e ?_
 rw[Nat.mul_one]
 refine⟨hw,λh1 ag=>?_⟩
 obtain⟨mS,m1,eg⟩:=I h1 ag
 have aI:(((i+(xs.length -(i+1)):Nat):Int)).toNat=xs.length -1:=by omega
 have cx:(((xs.length:Nat):Int)).toNat=xs.length:=by omega
 refine⟨⟨by omega,by omega,by omega⟩,?_⟩
 rw[aI,cx]
 have zh:(bG (ints .i64 xs) i ((ints .i64 xs).drop ((i+1)*1))).length=xs.length:=by rw[zc,jx]
 refine JH (e:=3) (z:= .int .i64 0) (by kernel_rfl) (by kernel_rfl) (by intro u hu;simp[Value.cells]at hu;subst hu;rfl) (by omega) ?_
 have WV:(cX (List.replicate (xs.length -(xs.length -1)) (Value.cells (.int .i64 0)).toList)).length=1:=by rw[Lr,show xs.length -(xs.length -1)=1 by omega];rfl
 obtain⟨aP,p2,cy,uQ,bD⟩:=eg.Bk (k:=xs.length -1) (us:=cX (List.replicate (xs.length -(xs.length -1)) (Value.cells (.int .i64 0)).toList)) m1 0 rfl (by rw[WV,zh];omega) (by rw[zh];omega)
 have h8:=e.symm.trans cy
 cases h8
 refine JL (b:=b) (o:=p+(xs.length -1)) ?_ ⟨uQ,λh2 dP=>?_⟩
 ·unfold en;rw[if_neg (by omega)];simp only[Option.map_some,add_eq,Nat.mul_one]
 obtain⟨cD,m2,aM⟩:=bD h2 dP
 have cb:=aM.head (xs.length -1) (by omega)
 have jh:(bG (bG (ints .i64 xs) i ((ints .i64 xs).drop ((i+1)*1))) (xs.length -1) (cX (List.replicate (xs.length -(xs.length -1)) (Value.cells (.int .i64 0)).toList))).take ((xs.length -1)*1)=ints .i64 (xs.eraseIdx i):=by
  rw[n3 (by rw[WV,zh];omega),List.append_assoc,Nat.mul_one,List.take_append_of_le_length (by rw[List.length_take,zh];omega),List.take_take,Nat.min_self,n3 (by rw[jx,nl];omega),nl,show i+(xs.length -(i+1))=xs.length -1 by omega]
  have dA:((ints .i64 xs).take i++(ints .i64 xs).drop ((i+1)*1)).length=xs.length -1:=by
   rw[List.length_append,List.length_take,jx,nl];omega
  rw[List.take_append_of_le_length (by rw[dA];exact Nat.le_refl _),List.take_of_length_le (by rw[dA];exact Nat.le_refl _),Nat.mul_one,KA,kI,S2,S0]
 rw[jh]at cb
 exact⟨cD,by rw[CV,show i+(xs.length -(i+1))=xs.length -1 by omega,e],by rw[CV];exact cb,m2⟩
theorem Z1 {xs:List Int} {a:Option Addr} {c:Nat} (hs:src h a xs.length (ints .i64 xs)) (hn:xs.length<=1048576) (m:aa W h R):aj Tryz.prog 282 #[.slice a xs.length c] h λv h'=>
 ∃ay c' F,v= .slice ay xs.length c'/\au ay xs.length c' 1 (ints .i64 xs) F/\aa W h' (ae F::R):=by
 refine(Z2 hs dL dM (by omega)).mono ?_
 rintro _ h' ⟨ay,c',F,rfl,k,o⟩
 obtain⟨G,m0,bk⟩:=m.nx
 exact⟨ay,c',F,rfl,o,bk.2 (E:=F) (m0.beside k)⟩
theorem aqr {s:Int} (hv:iM b w L) (ok:s0 w) (hg:∃e,bT W 2 0=some e) (m:aa W h (ae L::R)):aj Tryz.prog 249 #[.pointer (some ⟨b,0,none⟩), .int .i64 s] h λv h'=>
 ∃L,((s∈w.out/\v= .nilIface)\/(s∉w.out/\bT W 2 0=some v))/\iM b (w.done s) L/\aa W h' (ae L::R):=by
 have qp:=hv
 obtain⟨a,c,E,hL,o⟩:=qp
 have sN:=o
 have m1:aa W h ([⟨b,0,qR w a c,some 312⟩]::ae E::R):=m.perm (by rw[hL];simp[ae])
 have:=ok.n
 refine aqb _ _ _ _ ⟨_,_,_,m1.cell 0 rfl 3 rfl,(Lm (o.mJ m1 1 rfl) rfl (by omega)).ret ⟨_,rfl,aC (λq=>?_) λq=>?_⟩⟩
 ·have hno:s∉w.out:= λhc=>by unfold sC at q;rw[if_pos hc]at q;omega
  obtain⟨e,he⟩:=hg
  refine⟨_,m1.bT he,L, .inr ⟨hno,he⟩,?_,m⟩
  unfold eV.done;rw[if_neg hno];exact hv
 have jw:s∈w.out:=Classical.byContradiction λhc=>q (by unfold sC;rw[if_neg hc];decide)
 have qh:sC s w.out=((w.out.idxOf s:Nat):Int):=by unfold sC;rw[if_pos jw]
 have gq:w.out.idxOf s<w.out.length:=List.idxOf_lt_length_of_mem jw
 have KA:w.out.erase s=w.out.eraseIdx (w.out.idxOf s):=List.erase_eq_eraseIdx_of_idxOf rfl
 rw[qh]
 refine⟨_,_,_,m1.cell 0 rfl 3 rfl,(Z1 (o.mJ m1 1 rfl) (by omega) m1).mono ?_⟩
 rintro _ h2 ⟨a2,aG,F,rfl,aM,m2⟩
 refine⟨_,_,_,rfl,by simp only[fits];omega,(aap aM gq (by omega) m2).mono ?_⟩
 rintro _ h3 ⟨EO,rfl,cb,m3⟩
 rw[<-KA]at cb⊢
 refine⟨_,_,_,rfl,m3.store 1 rfl 3 rfl λh4 m4=>⟨_,m4.cell 1 rfl 1 rfl,m4.store 1 rfl 0 rfl λaA m5=>⟨_,_,_,m5.cell 1 rfl 3 rfl,?_⟩⟩⟩
 have hd:w.done s=w.drop s:=by unfold eV.done;rw[if_pos jw]
 rw[hd]
 cases aw:w.out.erase s with
 |nil=>
  refine bF (by decide) ?_
  obtain⟨L',hv',m6⟩:=iM.shut (w:=w.drop s) (b:=b) (a:=a2) (c:=aG) (E:=EO) (R:=ae E::R) cb (by
   have e:qR (w.drop s) a2 aG=((qR w a c).set 3 (.slice a2 (w.out.erase s).length aG)).set 0 (.int .i64 w.dD):=by unfold eV.drop qR;rw[aw];rfl
   rw[e]
   exact aa.swap m5)
  exact⟨L', .inl ⟨jw,rfl⟩,hv',(m6.swap).aB⟩
 |cons x r=>
  rw[aw]at cb
  have sw:0<(w.out.erase s).length:=by rw[aw];exact Nat.succ_pos _
  refine fB (by rw[<-aw];omega) ⟨_,_,_,m5.cell 1 rfl 3 rfl,⟨by decide,by omega⟩,?_⟩
  obtain⟨ey,nZ,dP,yh⟩:=fW (k:=0) (v:= .int .i64 x) (cb.mJ m5 0 rfl) rfl
  refine sM dP ⟨_,yh,m5.store 1 rfl 0 rfl λaU m6=>?_⟩
  obtain⟨L',hv',m7⟩:=iM.shut (w:=w.drop s) (b:=b) (a:=a2) (c:=aG) (E:=EO) (R:=ae E::R) (by show au a2 (w.out.erase s).length aG 1 (ints .i64 (w.out.erase s)) EO;rw[aw];exact cb) (by
   have e:qR (w.drop s) a2 aG=(((qR w a c).set 3 (.slice a2 (w.out.erase s).length aG)).set 0 (.int .i64 w.dD)).set 0 (.int .i64 x):=by unfold eV.drop qR;rw[aw];rfl
   rw[e]
   exact aa.swap m6)
  exact⟨L', .inl ⟨jw,rfl⟩,hv',(m7.swap).aB⟩
end
end Go.Proofs.YtjlkfjnfnonekaaGreatDoor
namespace Go.Proofs.YtjlkfjnfnonekaaGreatDoor
open Go.Vc
def errG:List Nat:=[7
 ,6
 ,0
 ,8
 ,5
 ,11
 ,2
 ,1
 ,3
 ,4
 ,9
 ,10
 ]
def p6:Nat:=errG.length
def ptE (a:Addr):Value:= .iface 439 (.pointer (some a))
abbrev lO:=Option Nat
def gC (ads:List Addr):lO->Value
 |none=> .nilIface
 |some i=>match ads[i]?with|some a=>ptE a|none=> .nilIface
structure Snt (W:Wd) (ads:List Addr):Prop where
 n:p6<=ads.length
 fm:ads.Nodup
 v:∀(i:Nat) (a:Addr) (g:Nat),ads[i]?=some a->errG[i]?=some g->bT W g 0=some (ptE a)
 pl:∀a∈ads,∃c t,W a.block=some (.cells c t (0,0))
def zq (W:Wd) (ads:List Addr) (e:lO):Prop:=∀i,e=some i->bT W (errG.getD i 0) 0=some (gC ads (some i))
section
variable{W W':Wd} {h h':J} {L:List aL} {G:List ao} {ads:List Addr} {a b:Addr} {i j:Nat} {e:lO} {c:Bool}
theorem Snt.le (hl:W.le W') (s:Snt W ads):Snt W' ads:=
 ⟨s.n,s.fm,λi a g h1 h2=>rR hl (s.v i a g h1 h2),λa ha=>by obtain⟨c,t,h⟩:=s.pl a ha;exact⟨c,t,hl _ _ h⟩⟩
theorem Snt.get (s:Snt W ads) (hi:i<p6):∃a,ads[i]?=some a/\gC ads (some i)=ptE a:=by
 have cn:i<ads.length:=Nat.lt_of_lt_of_le hi s.n
 refine⟨ads[i],List.getElem?_eq_getElem cn,?_⟩
 unfold gC;dsimp only;rw[List.getElem?_eq_getElem cn]
theorem Snt.vy (s:Snt W ads) (hi:i<p6) {g:Nat} (hg:errG[i]?=some g):bT W g 0=some (gC ads (some i)):=by
 obtain⟨a,h1,h2⟩:=s.get hi
 rw[h2];exact s.v i a g h1 hg
theorem Snt.gS (s:Snt W ads) (he:∀i,e=some i->i<p6):zq W ads e:= λi h=>by
 have hi:=he i h
 exact s.vy hi (by rw[List.getD_eq_getElem?_getD,List.getElem?_eq_getElem (show i<errG.length from hi)];rfl)
theorem zq.none:zq W ads none:= λi h=>by cases h
theorem Snt.var (s:Snt W ads) (m:aa W h L) {g:Nat} (i:Nat) (hg:errG[i]?=some g):cell h g 0=some (gC ads (some i)):=
 m.bT (s.vy (List.getElem?_eq_some_iff.1 hg).1 hg)
theorem Snt.inj (s:Snt W ads) (hi:ads[i]?=some a) (ah:ads[j]?=some a):i=j:=by
 obtain⟨h1,af⟩:=List.getElem?_eq_some_iff.1 hi
 obtain⟨h2,ag⟩:=List.getElem?_eq_some_iff.1 ah
 have hp:=List.pairwise_iff_getElem.1 s.fm
 rcases Nat.lt_trichotomy i j with h|h|h
 ·exact absurd (af.trans ag.symm) (hp i j h1 h2 h)
 ·exact h
 ·exact absurd (ag.trans af.symm) (hp j i h2 h1 h)
theorem Ll:qt Tryz.prog h c (ptE a) .nilIface=some false:=rfl
theorem jk:qt Tryz.prog h true .nilIface .nilIface=some true:=rfl
theorem ae8:pg c (ptE a) .nilIface=some false:=rfl
theorem ae7:pg true .nilIface .nilIface=some true:=rfl
theorem Snt.A4 (s:Snt W ads) (he:∀i,e=some i->i<p6):qt Tryz.prog h true (gC ads e) .nilIface=some e.isNone:=by
 cases e with
 |none=>rfl
 |some i=>obtain⟨a,_,h2⟩:=s.get (he i rfl);rw[h2];rfl
end
end Go.Proofs.YtjlkfjnfnonekaaGreatDoor
namespace Go.Vc
theorem exists_least {P:Nat->Prop} (h:∃n,P n):∃n,P n/\∀k,P k->n<=k:=by
 obtain⟨n,hn⟩:=h
 induction n using Nat.strongRecOn with
 |_ n b9=>
  by_cases hx:∃k,k<n/\P k
  ·obtain⟨k,I,hp⟩:=hx;exact b9 k I hp
  ·exact⟨n,hn,λk hp=>Nat.le_of_not_lt λI=>hx ⟨k,I,hp⟩⟩
open Classical in
noncomputable def u0 (P:Nat->Prop):Nat:=if h:∃n,P n then Classical.choose (exists_least h)else 0
theorem Tq {P:Nat->Prop} (h:∃n,P n):∃n,P n/\u0 P=n:=by
 unfold u0
 rw[dif_pos h]
 exact⟨_,(Classical.choose_spec (exists_least h)).1,rfl⟩
theorem af1 {P:Nat->Prop} {n k:Nat} (hp:P k) (I:k<n):(∃n,P n)/\u0 P<n:=by
 refine⟨⟨k,hp⟩,Nat.lt_of_le_of_lt ?_ I⟩
 unfold u0
 rw[dif_pos ⟨k,hp⟩]
 exact(Classical.choose_spec (exists_least ⟨k,hp⟩)).2 k hp
theorem AR {P kX:Nat->Prop} {n k:Nat} (hn:u0 P=n) (hp:kX k) (I:k<n):(∃n,kX n)/\u0 kX<u0 P:=hn▸af1 hp I
def fi (pre:List Value) (css:List (List Value)) (post:List Value):List Value:=pre++(css.flatten++post)
section
variable{pre post cs us:List Value} {css:List (List Value)} {n k j o m:Nat} {v:Value}
theorem Af (hn:∀c∈css,c.length=n):css.flatten.length=css.length*n:=by
 induction css with
 |nil=>simp
 |cons c r b9=>simp[hn c (by simp),b9 λx hx=>hn x (by simp[hx]),Nat.add_mul,Nat.add_comm]
theorem FM:∀{css:List (List Value)} {k:Nat} {cs:List Value},(∀c∈css,c.length=n)->css[k]?=some cs->css.flatten.drop (k*n)=cs++(css.drop (k+1)).flatten
 |[],k,cs,_,h=>by simp at h
 |c::r,0,cs,hn,h=>by simp at h;subst h;simp
 |c::r,k+1,cs,hn,h=>by
  have b9:=FM (css:=r) (k:=k) (cs:=cs) (λx hx=>hn x (by simp[hx])) (by simpa using h)
  rw[show(k+1)*n=c.length+k*n by rw[hn c (by simp),Nat.add_mul];omega,List.flatten_cons,<-List.drop_drop,List.drop_left,b9]
  simp
theorem Fu (hn:∀c∈css,c.length=n):(fi pre css post).length=pre.length+css.length*n+post.length:=by
 simp[fi,Af hn];omega
theorem Co (I:css[k]?=some cs):k*n+n<=css.length*n:=by
 have:=(List.getElem?_eq_some_iff.1 I).1
 rw[<-Nat.succ_mul];exact Nat.mul_le_mul_right _ this
theorem P9 (hn:∀c∈css,c.length=n) (I:css[k]?=some cs) (aw:o=pre.length+k*n+j) (ah:j<=n):(fi pre css post).drop o=cs.drop j++((css.drop (k+1)).flatten++post):=by
 have hc:=hn cs (List.mem_of_getElem? I)
 have hb:=Co (n:=n) I
 have hf:=Af hn
 subst aw
 unfold fi
 rw[Nat.add_assoc,<-List.drop_drop,List.drop_left,List.drop_append_of_le_length (by omega),<-List.drop_drop,FM hn I,List.drop_append_of_le_length (by omega)]
 simp
theorem ZY (hn:∀c∈css,c.length=n) (I:css[k]?=some cs) (aw:o=pre.length+k*n+j) (ah:j+m<=n) (hu:(cs.drop j).take m=us):((fi pre css post).drop o).take m=us:=by
 have hc:=hn cs (List.mem_of_getElem? I)
 rw[P9 hn I aw (by omega),List.take_append_of_le_length (by simp;omega),hu]
theorem ZV (hn:∀c∈css,c.length=n) (I:css[k]?=some cs) (aw:o=pre.length+k*n+j) (hv:cs[j]?=some v):(fi pre css post)[o]?=some v:=by
 have hc:=hn cs (List.mem_of_getElem? I)
 have ah:=(List.getElem?_eq_some_iff.1 hv).1
 have h1:=P9 (post:=post) hn I aw (by omega)
 have h2:((fi pre css post).drop o)[0]?=some v:=by
  rw[h1,List.getElem?_append_left (by simp;omega),List.getElem?_drop];simpa using hv
 rw[List.getElem?_drop]at h2
 simpa using h2
theorem Kf:∀{css:List (List Value)} {k j:Nat} {cs:List Value},(∀c∈css,c.length=n)->css[k]?=some cs->j<n->css.flatten.set (k*n+j) v=(css.set k (cs.set j v)).flatten
 |[],k,j,cs,_,h,_=>by simp at h
 |c::r,0,j,cs,hn,h,ah=>by
  simp at h;subst h
  have:=hn c (by simp)
  rw[Nat.zero_mul,Nat.zero_add,List.flatten_cons,List.set_append_left _ _ (by omega)];simp
 |c::r,k+1,j,cs,hn,h,ah=>by
  have b9:=Kf (css:=r) (k:=k) (j:=j) (cs:=cs) (λx hx=>hn x (by simp[hx])) (by simpa using h) ah
  have:=hn c (by simp)
  rw[show(k+1)*n+j=c.length+(k*n+j) by rw[this,Nat.add_mul];omega,List.flatten_cons,List.set_append_right _ _ (by omega),Nat.add_sub_cancel_left,b9]
  simp
theorem Qa (hn:∀c∈css,c.length=n) (I:css[k]?=some cs) (aw:o=pre.length+k*n+j) (ah:j<n):(fi pre css post).set o v=fi pre (css.set k (cs.set j v)) post:=by
 have hb:=Co (n:=n) I
 have hf:=Af hn
 subst aw
 unfold fi
 rw[Nat.add_assoc,List.set_append_right _ _ (by omega),Nat.add_sub_cancel_left,List.set_append_left _ _ (by omega),Kf hn I ah]
theorem Qb:∀{us:List Value} {cs:List Value} {css:List (List Value)} {o j:Nat},(∀c∈css,c.length=n)->css[k]?=some cs->o=pre.length+k*n+j->j+us.length<=n->
 bG (fi pre css post) o us=fi pre (css.set k (bG cs j us)) post
 |[],cs,css,o,j,hn,I,aw,ah=>by
  simp only[bG]
  congr 1
  apply List.ext_getElem?
  intro i
  rw[List.getElem?_set]
  split
  ·rename_i e;subst e
   have:=(List.getElem?_eq_some_iff.1 I).1
   simp[this,I]
   exact(List.getElem?_eq_some_iff.1 I).2
  ·rfl
 |u::us,cs,css,o,j,hn,I,aw,ah=>by
  simp only[bG]
  simp only[List.length_cons]at ah
  have hc:=hn cs (List.mem_of_getElem? I)
  have bY:=(List.getElem?_eq_some_iff.1 I).1
  rw[Qa hn I aw (by omega)]
  rw[Qb (us:=us) (cs:=cs.set j u) (css:=css.set k (cs.set j u)) (o:=o+1) (j:=j+1) (λc acM=>?_) (by simp[bY]) (by omega) (by omega)]
  ·rw[List.set_set]
  ·rcases List.mem_or_eq_of_mem_set acM with h|rfl
   ·exact hn c h
   ·simp[hc]
theorem ZW (hn:∀c∈css,c.length=n) (aw:o=pre.length+css.length*n+j):(fi pre css post)[o]?=post[j]?:=by
 have hf:=Af hn
 subst aw
 unfold fi
 rw[Nat.add_assoc,List.getElem?_append_right (by omega),Nat.add_sub_cancel_left,List.getElem?_append_right (by omega),hf,Nat.add_sub_cancel_left]
theorem ZX (hn:∀c∈css,c.length=n) (aw:o=pre.length+css.length*n+j):(fi pre css post).set o v=fi pre css (post.set j v):=by
 have hf:=Af hn
 subst aw
 unfold fi
 rw[Nat.add_assoc,List.set_append_right _ _ (by omega),Nat.add_sub_cancel_left,List.set_append_right _ _ (by omega),hf,Nat.add_sub_cancel_left]
theorem akJ (hn:∀c∈css,c.length=n) (hc:cs.length=n):∀c∈css.set k cs,c.length=n:= λc hm=>by
 rcases List.mem_or_eq_of_mem_set hm with h|rfl
 ·exact hn c h
 ·exact hc
theorem akK {α:Type} {l:List α} {k:Nat} {a b:α} (I:l[k]?=some a):(l.set k b)[k]?=some b:=by
 have:=(List.getElem?_eq_some_iff.1 I).1
 simp[this]
section
variable{W:Wd} {h h':J} {G:List ao} {b i N:Nat} {T:TypeId}
theorem lv (hn:∀c∈css,c.length=n) (hc:cs.length=n):∀c∈css.set k cs,c.length=n:=akJ hn hc
theorem xX (I:k<css.length):(css.set k cs)[k]?=some cs:=by simp[I]
theorem ai.sj (m:ai W h G) (i:Nat) (hi:G[i]?=some [(b,fi pre (css.set k cs) post,T)]) (hn:∀c∈css,c.length=n) (I:k<css.length) (hc:cs.length=n) (j:Nat) (aw:o=pre.length+k*n+j) (hv:cs[j]?=some v):Go.Vc.cell h b o=some v:=
 m.cell i hi (ZV (lv hn hc) (xX I) aw hv)
theorem ai.ab1 {l:Nat} (m:ai W h G) (i:Nat) (hi:G[i]?=some [(b,fi pre (css.set k cs) post,T)]) (hn:∀c∈css,c.length=n) (I:k<css.length) (hc:cs.length=n) (j:Nat) (aw:o=pre.length+k*n+j) (hv:(cs.drop j).take l=us) (ah:Nat.ble (j+l) n=true):Go.Vc.row h b o l=some us:=by
 have ah:=Nat.le_of_ble_eq_true ah
 refine m.row i hi (ZY (lv hn hc) (xX I) aw ah hv) ?_
 have h1:=Co (n:=n) (xX (cs:=cs) I)
 rw[Fu (lv hn hc)];omega
theorem ai.ye (m:ai W h G) (i:Nat) (hi:G[i]?=some [(b,fi pre (css.set k cs) post,T)]) (hn:∀c∈css,c.length=n) (I:k<css.length) (hc:cs.length=n) (j:Nat) (aw:o=pre.length+k*n+j) (ah:Nat.ble (j+1) n=true) {Q:J->Prop}
 (q:∀h1,ai W h1 (G.set i [(b,fi pre (css.set k (cs.set j v)) post,T)])->Q h1):Go.Vc.wr h b o/\∀h1,h1=Go.Vc.b3 h b o v->Q h1:=by
 have ah:=Nat.le_of_ble_eq_true ah
 have h1:=Co (n:=n) (xX (cs:=cs) I)
 refine m.store i hi (by rw[Fu (lv hn hc)];omega) λh1 ax=>q h1 ?_
 rw[Qa (lv hn hc) (xX I) aw (by omega),List.set_set]at ax
 exact ax
theorem ai.Rr {l:Nat} (m:ai W h G) (i:Nat) (hi:G[i]?=some [(b,fi pre (css.set k cs) post,T)]) (hn:∀c∈css,c.length=n) (I:k<css.length) (hc:cs.length=n) (j:Nat) (aw:o=pre.length+k*n+j) (ah:Nat.ble (j+l) n=true):Go.Vc.c0 h b o l:=by
 have ah:=Nat.le_of_ble_eq_true ah
 have h1:=Co (n:=n) (xX (cs:=cs) I)
 exact m.c0 i hi (by rw[Fu (lv hn hc)];omega)
theorem ai.Rq (m:ai W h G) (i:Nat) (hi:G[i]?=some [(b,fi pre (css.set k cs) post,T)]) (hn:∀c∈css,c.length=n) (I:k<css.length) (hc:cs.length=n) (j:Nat) (aw:o=pre.length+k*n+j) (ah:j+us.length<=n) (e:h'=Go.Vc.bm h b o us):
 ai W h' (G.set i [(b,fi pre (css.set k (bG cs j us)) post,T)]):=by
 have ax:=m.bm i hi e
 rw[Qb (lv hn hc) (xX I) aw ah,List.set_set]at ax
 exact ax
theorem ai.pt (m:ai W h G) (i:Nat) (hi:G[i]?=some [(b,fi pre css post,T)]) (hn:∀c∈css,c.length=n) (iB:css.length=N) (j:Nat) (aw:o=pre.length+N*n+j) (hv:post[j]?=some v):Go.Vc.cell h b o=some v:=
 m.cell i hi ((ZW hn (by rw[iB];exact aw)).trans hv)
theorem ai.w9 (m:ai W h G) (i:Nat) (hi:G[i]?=some [(b,fi pre css post,T)]) (hn:∀c∈css,c.length=n) (iB:css.length=N) (j:Nat) (aw:o=pre.length+N*n+j) (ah:j<post.length) {Q:J->Prop}
 (q:∀h1,ai W h1 (G.set i [(b,fi pre css (post.set j v),T)])->Q h1):Go.Vc.wr h b o/\∀h1,h1=Go.Vc.b3 h b o v->Q h1:=by
 refine m.store i hi (by rw[Fu hn,iB];omega) λh1 ax=>q h1 ?_
 rw[ZX hn (by rw[iB];exact aw)]at ax
 exact ax
theorem ai.KC (m:ai W h G) (i:Nat) (hi:G[i]?=some [(b,fi pre css post,T)]) (aw:o<pre.length) (hv:pre[o]?=some v):Go.Vc.cell h b o=some v:=
 m.cell i hi (by unfold fi;rw[List.getElem?_append_left aw];exact hv)
end
end
end Go.Vc
set_option maxRecDepth 8000
namespace Go.Proofs.YtjlkfjnfnonekaaGreatDoor
open Go.Vc
theorem sd {P:Program} {g:FuncId} {first captured:Array Value} {args:List Value} {h:J} {K:Value->J->Prop} (hb:pV P g=true) (U:aj P g (first.toList++(args++captured.toList)).toArray h K):
 er P (.func (.func g) first captured) args h K:=by
 unfold er;simp only[hb];exact U
theorem tb {P:Program} {f:Value} {args:List Value} {h:J} {K bS:Value->J->Prop} (hc:er P f args h K) (I:∀r h,K r h->bS r h):er P f args h bS:=by
 unfold er at hc⊢
 split
 ·split
  ·rename_i hb;simp only[hb]at hc;exact hc.mono I
  ·rename_i hb;simp only[hb]at hc
 ·simp_all
abbrev fZ:=List (Int×Int)
def tP (p:Int×Int):List Value:=[.int .i64 p.1, .int .i64 p.2]
def mD (l:fZ):List Value:=(l.map tP).flatten
def AN (p:Int×Int):Bool:=decide (p.1=3)||decide (p.1=4)
def xT (l:fZ) (id:Int):Option (Int×Int):=if 1<=id then l[(id -1).toNat]?else none
def zH (l:fZ) (id:Int) (p:Int×Int):fZ:=l.set (id -1).toNat p
def tI (p:Int×Int) (c:Int):Bool:=!AN p&&(decide (1<c/\c<=3)&&!(decide (c=3)&&decide (p.1=1)))
def ma (l:fZ) (id c:Int):fZ:=match xT l id with
 |some p=>if tI p c=true then zH l id (c,p.2)else l
 |none=>l
def oj (l:fZ) (id r:Int):fZ:=match xT l id with
 |some p=>if 1<=r/\r<=5/\AN p=false then zH l id (4,r)else l
 |none=>l
def kr (b o:Nat) (t:Option TypeId) (l:fZ) (L:aL):Prop:=∃a c E,L=⟨b,o,[.slice a l.length c],t⟩::ae E/\au a l.length c 2 (mD l) E
section
variable{W W':Wd} {h h':J} {R:List aL} {L:aL} {l:fZ} {b o k:Nat} {t:Option TypeId} {id c r:Int} {p:Int×Int} {ads:List Addr}
theorem Hd:(mD l).length=l.length*2:=by
 unfold mD;rw[Af (n:=2) (by intro c hc;obtain⟨p,_,rfl⟩:=List.mem_map.1 hc;rfl),List.length_map]
theorem Up:∀c∈l.map tP,c.length=2:=by intro c hc;obtain⟨p,_,rfl⟩:=List.mem_map.1 hc;rfl
theorem Uo (I:l[k]?=some p):((mD l).drop (k*2)).take 2=tP p:=by
 unfold mD;rw[FM Up (cs:=tP p) (by rw[List.getElem?_map,I];rfl)];rfl
theorem aiZ:mD (l++[p])=mD l++tP p:=by simp[mD]
theorem Mo (I:l[k]?=some p) {j:Nat} {v:Value} (ah:j<2) {q:Int×Int} (hq:(tP p).set j v=tP q):(mD l).set (k*2+j) v=mD (l.set k q):=by
 unfold mD
 rw[Kf Up (cs:=tP p) (by rw[List.getElem?_map,I];rfl) ah,hq,List.map_set]
theorem ai0 (I:l[k]?=some p) {x y:Int}:bG (mD l) (k*2) [.int .i64 x, .int .i64 y]=mD (l.set k (x,y)):=by
 have h1:=Mo (j:=0) (v:= .int .i64 x) (q:=(x,p.2)) I (by decide) rfl
 have h2:=Mo (l:=l.set k (x,p.2)) (j:=1) (v:= .int .i64 y) (q:=(x,y)) (akK I) (by decide) rfl
 rw[List.set_set]at h2
 rw[Nat.add_zero]at h1
 simp only[bG]
 rw[h1,h2]
theorem kr.dd (hv:kr b o t l L) (m:aa W h (L::R)):∃a c E,au a l.length c 2 (mD l) E/\aa W h ([⟨b,o,[.slice a l.length c],t⟩]::ae E::R):=by
 obtain⟨a,c,E,rfl,w⟩:=hv
 exact⟨a,c,E,w,aa.split (A:=[_]) (B:=ae E) m⟩
theorem kr.shut {a:Option Addr} {c:Nat} {E:ao} (w:au a l.length c 2 (mD l) E) (m:aa W h ([⟨b,o,[.slice a l.length c],t⟩]::ae E::R)):∃L,kr b o t l L/\aa W h (L::R):=
 ⟨_,⟨a,c,E,rfl,w⟩,m.join⟩
theorem Z8 (hv:kr b o t l L) (hl:l.length<=1048576) (m:aa W h (L::R)):aj Tryz.prog 137 #[.pointer (some ⟨b,o,none⟩)] h λv h'=>
 ∃L',v= .int .i64 ((l.length:Int)+1)/\kr b o t (l++[(1,0)]) L'/\aa W h' (L'::R):=by
 obtain⟨a,c,E,w,m⟩:=hv.dd m
 refine anX _ _ _ ⟨_,_,_,m.cell 0 rfl 0 rfl,rfl,?_⟩
 refine w.kA m 1 rfl rfl (by intro u hu;simp at hu;rcases hu with rfl|rfl<;>rfl) (by omega) (by decide) λay c' bn h2 m2 w2=>?_
 refine m2.store 0 rfl 0 rfl λh3 m3=>?_
 refine⟨_,_,_,m3.cell 0 rfl 0 rfl,?_⟩
 obtain⟨L',hv',ax⟩:=kr.shut (l:=l++[(1,0)]) (a:=ay) (c:=c') (E:=bn) (by rw[aiZ,List.length_append];exact w2) (by rw[List.length_append];exact m3)
 exact⟨L',by simp,hv',ax⟩
theorem Qe (hv:kr b o t l L) (hl:l.length<=1048576) (s:Snt W ads) (m:aa W h (L::R)):aj Tryz.prog 245 #[.pointer (some ⟨b,o,none⟩), .int .i64 id] h λv h'=>h'=h/\
 ((xT l id=none/\v= .tuple #[.pointer none,gC ads (some 6)])\/
  ∃(k:Nat) (p:Int×Int) (aP aM:Nat) (a:Option Addr) (c:Nat) (E:ao),id=(k:Int)+1/\l[k]?=some p/\xT l id=some p/\v= .tuple #[.pointer (some ⟨aP,aM+k*2,none⟩), .nilIface]/\a=some ⟨aP,aM,none⟩/\L=⟨b,o,[.slice a l.length c],t⟩::ae E/\au a l.length c 2 (mD l) E):=by
 obtain⟨a,c,E,rfl,w⟩:=hv
 have m2:aa W h ([⟨b,o,[.slice a l.length c],t⟩]::ae E::R):=aa.split (A:=[_]) (B:=ae E) m
 refine an0 _ _ _ _ (aC (λq=>⟨_,s.var m2 6 rfl,rfl, .inl ⟨by unfold xT;rw[if_neg (by omega)],rfl⟩⟩) λq=>?_)
 refine⟨_,_,_,m2.cell 0 rfl 0 rfl,aC (λq2=>⟨_,s.var m2 6 rfl,rfl, .inl ⟨?_,rfl⟩⟩) λq2=>?_⟩
 ·unfold xT;rw[if_pos (by omega),List.getElem?_eq_none (by omega)]
 obtain⟨k,rfl⟩:∃k:Nat,id=(k:Int)+1:=⟨(id -1).toNat,by omega⟩
 have I:k<l.length:=by omega
 obtain⟨aP,aM,e,U⟩:=mK (k:=k*2) (n:=2) (us:=tP l[k]) (w.j8 m2 1 rfl) (by rw[Hd];omega) (by decide) (Uo (List.getElem?_eq_getElem I))
 refine⟨_,_,_,m2.cell 0 rfl 0 rfl,by simp only[fits];omega,⟨by omega,by omega⟩,?_⟩
 rw[e]
 refine⟨rfl, .inr ⟨k,l[k],aP,aM,some ⟨aP,aM,none⟩,c,E,rfl,List.getElem?_eq_getElem I,?_,?_,rfl,?_,e▸w⟩⟩
 ·unfold xT;rw[if_pos (by omega),show((k:Int)+1 -1).toNat=k by omega];exact List.getElem?_eq_getElem I
 ·rw[show((k:Int)+1 -1).toNat=k by omega]
 ·rfl
theorem T8 {aP aM:Nat} (h1:cell h aP aM=some (.int .i64 p.1)):aj Tryz.prog 246 #[.pointer (some ⟨aP,aM,none⟩)] h λv h'=>v= .bool (AN p)/\h'=h:=by
 refine an1 _ _ _ ⟨_,h1,aC (λq=>⟨by simp[AN,q],rfl⟩) λq=>⟨_,h1,by simp[AN,q],rfl⟩⟩
theorem Qd {a:Option Addr} {aP aM dz j:Nat} {E:ao} {v:Value} (w:au a l.length dz 2 (mD l) E) (e:a=some ⟨aP,aM,none⟩) (I:l[k]?=some p) (ah:(tP p)[j]?=some v) (m:aa W h ([⟨b,o,[.slice a l.length dz],t⟩]::ae E::R)):cell h aP (aM+k*2+j)=some v:=by
 have bY:=(List.getElem?_eq_some_iff.1 I).1
 have hs:=w.j8 m 1 rfl
 have fv:j<2:=(List.getElem?_eq_some_iff.1 ah).1
 obtain⟨bx,cb,ag,hc⟩:=fW (k:=k*2+j) (v:=v) hs (by
  have:=Uo I
  have h2:((mD l).drop (k*2))[j]?=some v:=by
   rw[<-ah,<-this,List.getElem?_take_of_lt fv]
  rwa[List.getElem?_drop]at h2)
 rw[e]at ag;cases ag
 rw[Nat.add_assoc];exact hc
theorem aaa (hv:kr b o t l L) (hl:l.length<=1048576) (s:Snt W ads) (m:aa W h (L::R)):aj Tryz.prog 170 #[.pointer (some ⟨b,o,none⟩), .int .i64 id, .int .i64 c] h λv h'=>
 ∃L',kr b o t (ma l id c) L'/\aa W h' (L'::R):=by
 refine anZ _ _ _ _ _ ((Qe hv hl s m).mono ?_)
 rintro _ h1 ⟨rfl,⟨hn,rfl⟩|⟨k,p,aP,aM,a,dz,E,rfl,I,ha,rfl,e,rfl,w⟩⟩
 ·refine⟨_,_,rfl,_,s.A4 (by intro i hi;cases hi;decide),df rfl ⟨L,?_,m⟩⟩
  unfold ma;rw[hn];exact hv
 have m2:aa W h1 ([⟨b,o,[.slice a l.length dz],t⟩]::ae E::R):=aa.split (A:=[_]) (B:=ae E) m
 have bY:=(List.getElem?_eq_some_iff.1 I).1
 have cW:cell h1 aP (aM+k*2)=some (.int .i64 p.1):=Qd (j:=0) w e I rfl m2
 have stay:∀h',tI p c=false->h'=h1->∃L',kr b o t (ma l ((k:Int)+1) c) L'/\aa W h' (L'::R):= λh' hf hh=>by
  subst hh
  refine⟨_,?_,m⟩
  unfold ma;rw[ha];dsimp only;rw[if_neg (by rw[hf];decide)];exact hv
 have go:tI p c=true->wr h1 aP (aM+k*2)/\∀h3:J,h3=b3 h1 aP (aM+k*2) (.int .i64 c)->∃L',kr b o t (ma l ((k:Int)+1) c) L'/\aa W h3 (L'::R):= λhf=>by
  obtain⟨bx,cb,aI,hw,hs⟩:=w.MR (k:=k*2) (v:= .int .i64 c) m2 1 rfl (by rw[Hd];omega)
  rw[e]at aI;cases aI
  refine⟨hw,λh3 cx=>?_⟩
  obtain⟨bn,m3,kb⟩:=hs h3 cx
  have Gq:=Mo (j:=0) (v:= .int .i64 c) (q:=(c,p.2)) I (by decide) rfl
  rw[Nat.add_zero]at Gq
  rw[Gq]at kb
  have hb:ma l ((k:Int)+1) c=l.set k (c,p.2):=by
   unfold ma;rw[ha];dsimp only;rw[if_pos hf];unfold zH;rw[show((k:Int)+1 -1).toNat=k by omega]
  rw[hb]
  exact kr.shut (l:=l.set k (c,p.2)) (a:=a) (c:=dz) (E:=bn) (by rw[List.length_set];exact kb) (by rw[List.length_set];exact m3)
 refine⟨_,_,rfl,_,jk,aZ rfl (aC (λq=>⟨_,s.var m2 2 rfl,stay _ ?_ rfl⟩) λq=>aC (λq2=>⟨_,s.var m2 2 rfl,stay _ ?_ rfl⟩) λq2=>?_)⟩
 ·simp[tI,show¬(1<c) by omega]
 ·simp[tI,show¬(c<=3) by omega]
 refine(T8 cW).ret ⟨_,rfl,bH (λaE=>⟨_,s.var m2 9 rfl,stay _ ?_ rfl⟩) λaE=>aC (λbP=>⟨_,s.var m2 9 rfl,stay _ ?_ rfl⟩) λbP=>aC (λeO=>⟨_,cW,aC (λfI=>⟨_,s.var m2 9 rfl,stay _ ?_ rfl⟩) λfI=>go ?_⟩) λeO=>go ?_⟩
 ·simp[tI,aE]
 ·subst bP;simp[tI]
 ·simp[tI,eO,fI]
 ·simp[tI,aE,fI,show 1<c by omega,show c<=3 by omega]
 ·simp[tI,aE,eO,show 1<c by omega,show c<=3 by omega]
theorem Z9 (hv:kr b o t l L) (hl:l.length<=1048576) (s:Snt W ads) (m:aa W h (L::R)):aj Tryz.prog 180 #[.pointer (some ⟨b,o,none⟩), .int .i64 id, .int .i64 r] h λv h'=>
 ∃L',kr b o t (oj l id r) L'/\aa W h' (L'::R):=by
 refine anY _ _ _ _ _ ((Qe hv hl s m).mono ?_)
 rintro _ h1 ⟨rfl,⟨hn,rfl⟩|⟨k,p,aP,aM,a,dz,E,rfl,I,ha,rfl,e,rfl,w⟩⟩
 ·refine⟨_,_,rfl,_,s.A4 (by intro i hi;cases hi;decide),df rfl ⟨L,?_,m⟩⟩
  unfold oj;rw[hn];exact hv
 have m2:aa W h1 ([⟨b,o,[.slice a l.length dz],t⟩]::ae E::R):=aa.split (A:=[_]) (B:=ae E) m
 have bY:=(List.getElem?_eq_some_iff.1 I).1
 have cW:cell h1 aP (aM+k*2)=some (.int .i64 p.1):=Qd (j:=0) w e I rfl m2
 have stay:∀h',¬(1<=r/\r<=5/\AN p=false)->h'=h1->∃L',kr b o t (oj l ((k:Int)+1) r) L'/\aa W h' (L'::R):= λh' hf hh=>by
  subst hh
  refine⟨_,?_,m⟩
  unfold oj;rw[ha];dsimp only;rw[if_neg hf];exact hv
 refine⟨_,_,rfl,_,jk,aZ rfl (aC (λq=>⟨_,s.var m2 2 rfl,stay _ (by omega) rfl⟩) λq=>aC (λq2=>⟨_,s.var m2 2 rfl,stay _ (by omega) rfl⟩) λq2=>?_)⟩
 refine(T8 cW).ret ⟨_,rfl,bH (λaE=>⟨_,s.var m2 9 rfl,stay _ (by rw[aE];simp) rfl⟩) λaE=>?_⟩
 have hb:oj l ((k:Int)+1) r=l.set k (4,r):=by
  unfold oj;rw[ha];dsimp only;rw[if_pos ⟨by omega,by omega,aE⟩];unfold zH;rw[show((k:Int)+1 -1).toNat=k by omega]
 rw[hb]
 obtain⟨bx,cb,aI,hw,hs⟩:=w.Bk (k:=k*2) (us:=[.int .i64 4, .int .i64 r]) m2 1 rfl (by rw[Hd];simp;omega) (by rw[Hd];omega)
 rw[e]at aI;cases aI
 refine aN ⟨⟨rfl,hw,by intro u hu;simp at hu;rcases hu with rfl|rfl<;>rfl⟩,λh3 cx=>?_⟩
 obtain⟨bn,m3,kb⟩:=hs h3 cx
 rw[ai0 I]at kb
 exact kr.shut (l:=l.set k (4,r)) (a:=a) (c:=dz) (E:=bn) (by rw[List.length_set];exact kb) (by rw[List.length_set];exact m3)
end
end Go.Proofs.YtjlkfjnfnonekaaGreatDoor
namespace Go.Proofs.YtjlkfjnfnonekaaGreatDoor
open Go.Vc
structure bh where
 id:Int
 ad:Int
 tid:Int
 at_:Int
 body:List Int
deriving DecidableEq
def dF (W:Wd) (p:bh) (cs:List Value):Prop:=∃a c,cs=[.int .i64 p.id, .int .u32 p.ad, .int .i64 p.tid, .int .i64 p.at_, .slice a p.body.length c]/\cm W (.slice a p.body.length c) p.body
def pv:bh:=⟨0,0,0,0,[]⟩
section
variable{W W':Wd} {h h':J} {G:List ao} {p q:bh} {cs ds vs us:List Value} {ps mE:List bh} {a b:Option Addr} {l r c d:Nat} {xs ys:List Int} {x:Int}
theorem dF.len (hp:dF W p cs):cs.length=5:=by obtain⟨a,c,rfl,_⟩:=hp;rfl
theorem dF.one (hp:dF W p cs):∀u∈cs,u.oneCell'=true:=by obtain⟨a,c,rfl,_⟩:=hp;simp[Value.oneCell']
theorem dF.le (hl:W.le W') (hp:dF W p cs):dF W' p cs:=by obtain⟨a,c,e,hb⟩:=hp;exact⟨a,c,e,hb.le hl⟩
theorem dF.zero:dF W pv [.int .i64 0, .int .u32 0, .int .i64 0, .int .i64 0, .slice none 0 0]:=⟨none,0,rfl,cm.nil⟩
theorem _root_.Go.Vc.cm.src (hb:cm (Wd.of h) (.slice a l c) xs):src h a l (ints .u8 xs)/\xs.length=l:=by
 obtain⟨ay,c',e,h1,h2⟩:=hb
 cases e
 exact⟨L3.1 h2,rfl⟩
theorem V3 {α:Type} {xs:List α} {k:Nat} {x:α} (hx:xs[k]?=some x):xs.take k++[x]=xs.take (k+1):=by
 rw[List.take_add_one,hx];rfl
end
end Go.Proofs.YtjlkfjnfnonekaaGreatDoor
