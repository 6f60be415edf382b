import Derived.Test.YtjlkfjnfnonekaaGreatDoorM42
import Derived.Test.YtjlkfjnfnonekaaGreatDoorM15
import Derived.Test.YtjlkfjnfnonekaaGreatDoorM24
set_option linter.all false
set_option maxRecDepth 8000
namespace Go.Proofs.YtjlkfjnfnonekaaGreatDoor
open Go.Vc
def cR.x2 (y:cR) (i:Nat):cR:={y with fb:=y.fb.eraseIdx i}
def ab.rO (x:ab) (i:Nat):ab:=x.xq (x.ways.eraseIdx i)
section
variable{W W' aQ:Wd} {h h':J} {R:List aL} {a:Nat} {y:cR} {g:cQ} {x:ab} {i j k t n:Nat} {v:Value} {A B:aL} {s s':ba} {b:Nat} {aid tid ac now air num slots:Int} {ads:List Addr} {u:bR} {vs:List Value} {cg:Option Addr} {bZ:Nat} {E F:ao} {bs:List Int} {z:ra}
theorem WQ:∀{bs:List Nat} {us:List (Option Addr×Nat)} {ws:List bR} {i:Nat},bs.length=ws.length->us.length=ws.length->sW (bs.eraseIdx i) (us.eraseIdx i) (ws.eraseIdx i)=(sW bs us ws).eraseIdx i
 |[],us,[],i,h1,h2=>by
  have ag:=List.length_eq_zero_iff.1 h2
  subst ag;rfl
 |[],us,_::_,i,h1,h2=>by simp at h1
 |gO::bs,us,[],i,h1,h2=>by simp at h1
 |gO::bs,[],w0::ws,i,h1,h2=>by simp at h2
 |gO::bs,i1::us,w0::ws,0,h1,h2=>rfl
 |gO::bs,i1::us,w0::ws,i+1,h1,h2=>by
  simp only[List.eraseIdx_cons_succ,sW]
  rw[WQ (by simpa using h1) (by simpa using h2)]
theorem Uj {α:Type}:∀{l:List α} {i:Nat} {z:α},l[i]?=some z->l.Perm (z::l.eraseIdx i)
 |[],_,_,h=>by simp at h
 |w::l,0,z,h=>by simp at h;subst h;exact List.Perm.refl _
 |w::l,i+1,z,h=>by
  rw[List.eraseIdx_cons_succ]
  exact((Uj (by simpa using h)).cons w).trans (List.Perm.swap _ _ _)
theorem Yx (q:aH W a y g x) (hi:(gA y g x)[i]?=some z) (o:au cg ((gA y g x).eraseIdx i).length bZ 1 (kN ((gA y g x).eraseIdx i)) F) (m:aa W h (ae F::(aq a y g x++R).eraseIdx 14)) {Q:J->Prop}
 (K:∀h1 g1,aH W a (y.x2 i) g1 (x.rO i)->aa W h1 (aq a (y.x2 i) g1 (x.rO i)++cG z.1 z.2.2 z.2.1.1 z.2.1.2::R)->Q h1):wr h a 346/\∀h1,h1=b3 h a 346 (.slice cg ((gA y g x).eraseIdx i).length bZ)->Q h1:=by
 obtain⟨cN,z2,z3,z4⟩:=q.z
 have gq:i<x.ways.length:=by rw[<-q.zm];exact(List.getElem?_eq_some_iff.1 hi).1
 have hlen:((gA y g x).eraseIdx i).length=(x.ways.eraseIdx i).length:=by
  rw[List.length_eraseIdx,List.length_eraseIdx,q.zm]
 have aeo:sW (y.fb.eraseIdx i) (g.us.eraseIdx i) (x.ways.eraseIdx i)=(gA y g x).eraseIdx i:=WQ q.wl q.ul
 have ca:(y.fb.eraseIdx i).length=(x.ways.eraseIdx i).length:=by rw[List.length_eraseIdx,List.length_eraseIdx,q.wl]
 have aF:(g.us.eraseIdx i).length=(x.ways.eraseIdx i).length:=by rw[List.length_eraseIdx,List.length_eraseIdx,q.ul]
 obtain⟨w1,w2,kb,vu⟩:=NQ ca aF
 rw[aeo]at w1 w2 kb vu
 have m2:aa W h ((aq a y g x++R).set 14 (ae F)):=na 14 rfl m
 refine m2.store 9 rfl 0 rfl λh1 m3=>?_
 rw[hlen]at m3
 refine K h1 {g with tX:=cg,vv:=bZ,ED:=F,us:=g.us.eraseIdx i} ⟨q.bk,q.dY,q.bc,q.st,q.lo,?_,ca,aF,?_⟩ ?_
 ·show au cg (x.ways.eraseIdx i).length bZ 1 (pA (y.fb.eraseIdx i)) F
  rw[<-hlen]
  have:kN ((gA y g x).eraseIdx i)=pA (y.fb.eraseIdx i):=by rw[<-w1];unfold kN pA;rw[List.map_map];rfl
  rw[<-this];exact o
 ·intro j w u h1 h2
  replace h1:(x.ways.eraseIdx i)[j]?=some w:=h1
  replace h2:(g.us.eraseIdx i)[j]?=some u:=h2
  rw[List.getElem?_eraseIdx]at h1 h2
  by_cases ah:j<i
  ·rw[if_pos ah]at h1 h2;exact q.us _ w u h1 h2
  ·rw[if_neg ah]at h1 h2;exact q.us _ w u h1 h2
 ·have hp:(ae (jP y.fb g.us x.ways)).Perm (cG z.1 z.2.2 z.2.1.1 z.2.1.2++ae (jP (y.fb.eraseIdx i) (g.us.eraseIdx i) (x.ways.eraseIdx i))):=by
   rw[z4,vu]
   have hm:((gA y g x).map BB)[i]?=some (BB z):=by rw[List.getElem?_map,hi];rfl
   rw[TC]
   exact(Uj hm).map _
  have m4:=aa.focus m3 (A:=ae (jP y.fb g.us x.ways)) 15 rfl
  have m5:aa W h1 ((cG z.1 z.2.2 z.2.1.1 z.2.1.2++ae (jP (y.fb.eraseIdx i) (g.us.eraseIdx i) (x.ways.eraseIdx i)))::(((aq a y g x++R).set 14 (ae F)).set 9 [⟨a,346,[.slice cg (x.ways.eraseIdx i).length bZ],none⟩]).eraseIdx 15):=m4.perm (by
   simp only[List.flatten_cons]
   exact hp.append_right _)
  have m6:=aa.split m5
  have m7:aa W h1 (ae (jP (y.fb.eraseIdx i) (g.us.eraseIdx i) (x.ways.eraseIdx i))::(((aq a y g x++cG z.1 z.2.2 z.2.1.1 z.2.1.2::R).set 14 (ae F)).set 9 [⟨a,346,[.slice cg (x.ways.eraseIdx i).length bZ],none⟩]).eraseIdx 15):=
   aa.jy (Q:=ae (jP (y.fb.eraseIdx i) (g.us.eraseIdx i) (x.ways.eraseIdx i))::(((aq a y g x).set 14 (ae F)).set 9 [⟨a,346,[.slice cg (x.ways.eraseIdx i).length bZ],none⟩]).eraseIdx 15) (R:=R) m6
  exact aa.back 15 rfl m7
end
end Go.Proofs.YtjlkfjnfnonekaaGreatDoor
set_option maxRecDepth 8000
namespace Go.Proofs.YtjlkfjnfnonekaaGreatDoor
open Go.Vc
def ab.lets (x:ab) (now:Int) (i:Nat) (u:bR):ab:=(((x.c6 now).rO i).nF (x.cM.sub u.aid u.air)).aW u.aid u.tid ((x.aT u.aid u.tid).gx false)
def ab.ended (x:ab) (u:bR) (bs:List Int):ab×Bool:=if u.kind=2 then x.vO u bs else if u.kind=3 then x.vH u else x.nf u bs
def ab.zU (u:bR) (r:ab×Bool):ab:=(r.1.l2 (oq r.1.ed u.ac r.2).1).de u.aid u.tid
def ab.done (x:ab) (now num:Int) (bs:List Int):ab×lO:=match x.rQ num with
 |none=>(x,some 6)
 |some i=>match x.ways[i]?with
  |none=>(x,some 6)
  |some u=>if now<x.now then(x,some 2)else(ab.zU u ((x.lets now i u).ended u bs),none)
structure nH (c:jT) (y:dk) (u:bR):Prop where
 b:dB y.s
 r:y.s.cY=c.rt/\y.s.size=c.wn/\y.s.fG=c.iT
 v:0<=y.dy/\y.dy<=16
 n:∀f∈y.s.l,f.m.cZ<=c.rt+1
 a:y.s.st=2->y.dy<=c.rt/\u.kind=3/\y.s.tok=u.tok
 f:u.kind=2\/u.kind=3->∀f∈y.s.l,f.a6=false
 st:y.s.st=1\/y.s.st=2\/y.s.st=3
section
variable{x:ab} {aid tid now:Int} {s s':ba} {k t:Nat} {c:jT} {y z:dk} {u:bR} {bs:List Int} {o:aS} {sq mp:Int} {d:Bool}
theorem RW:(o.heard sq mp).2.st=o.st/\(o.heard sq mp).2.cY=o.cY/\(o.heard sq mp).2.size=o.size/\(o.heard sq mp).2.fG=o.fG:=by
 unfold aS.heard;split<;>exact⟨rfl,rfl,rfl,rfl⟩
theorem RV (h:o.nn sq=true):∀f∈(o.heard sq mp).2.l,f.a6=false/\∃g∈o.l,g.m=f.m:=by
 unfold aS.heard
 rw[if_pos h]
 intro f hf
 obtain⟨g,hg,rfl⟩:=List.mem_map.1 (show f∈((o.take (wu sq mp)).l.map sH)from hf)
 exact⟨rfl,g,(List.mem_filter.1 (show g∈o.l.filter _ from hg)).1,rfl⟩
theorem Tm:∀f∈o.land.l,f.a6=false/\∃g∈o.l,g.m=f.m:=by
 intro f hf
 obtain⟨g,hg,rfl⟩:=List.mem_map.1 (show f∈(o.l.map sH)from hf)
 exact⟨rfl,g,hg,rfl⟩
theorem Y4:(o.iy d).st=o.st/\(o.iy d).cY=o.cY/\(o.iy d).size=o.size/\(o.iy d).fG=o.fG/\(o.iy d).l=o.l:=by
 unfold aS.iy
 split
 ·split<;>exact⟨rfl,rfl,rfl,rfl,rfl⟩
 ·exact⟨rfl,rfl,rfl,rfl,rfl⟩
theorem dB.iy (i:dB o) (h:o.cY<=15):dB (o.iy d):=by
 have:=i.v
 unfold aS.iy
 split
 ·split
  ·exact i.e4 ⟨by decide,by decide⟩
  ·rename_i hn
   exact i.e4 ⟨by omega,by have:¬o.cY<o.dy+1:= λh=>hn (.inr h);omega⟩
 ·exact i
theorem nH.heard (q:nH c y u) (I:u.kind≠3) (h:y.s.nn sq=true) (hu:z=y.dE (y.s.heard sq mp).2):iL c z:=by
 obtain⟨af,ag,aI,cx⟩:=RW (o:=y.s) (sq:=sq) (mp:=mp)
 have hm:=RV (mp:=mp) h
 subst hu
 have h2:y.s.st≠2:= λh=>I (q.a h).2.1
 refine⟨q.b.heard,⟨ag.trans q.r.1,aI.trans q.r.2.1,cx.trans q.r.2.2⟩,q.v,λ_=>⟨?_,λf hf=>(hm f hf).1⟩,λf hf=>?_,λh=>?_,?_⟩
 ·show(y.s.heard sq mp).2.st≠2;rw[af];exact h2
 ·obtain⟨g,hg,e⟩:=(hm f hf).2
  rw[<-e];exact q.n g hg
 ·rw[show(y.dE (y.s.heard sq mp).2).s.st=(y.s.heard sq mp).2.st from rfl,af]at h;exact absurd h h2
 ·show(y.s.heard sq mp).2.st=1\/(y.s.heard sq mp).2.st=2\/(y.s.heard sq mp).2.st=3;rw[af];exact q.st
theorem nH.land (q:nH c y u) (I:u.kind≠3) (hu:z=y.dE y.s.land):iL c z:=by
 have hm:=Tm (o:=y.s)
 subst hu
 have h2:y.s.st≠2:= λh=>I (q.a h).2.1
 refine⟨q.b.land,q.r,q.v,λ_=>⟨h2,λf hf=>(hm f hf).1⟩,λf hf=>?_,λh=>absurd h h2,q.st⟩
 obtain⟨g,hg,e⟩:=(hm f hf).2
 rw[<-e];exact q.n g hg
theorem nH.iy (q:nH c y u) (hc:c.rt<=15) (I:u.kind=2) (hu:z=y.dE (y.s.iy d)):iL c z:=by
 obtain⟨af,ag,aI,cx,cy⟩:=Y4 (o:=y.s) (d:=d)
 subst hu
 have h2:y.s.st≠2:= λh=>by have:=(q.a h).2.1;omega
 refine⟨q.b.iy (by rw[q.r.1];exact hc),⟨ag.trans q.r.1,aI.trans q.r.2.1,cx.trans q.r.2.2⟩,q.v,λ_=>⟨?_,λf hf=>?_⟩,λf hf=>?_,λh=>?_,?_⟩
 ·show(y.s.iy d).st≠2;rw[af];exact h2
 ·replace hf:f∈(y.s.iy d).l:=hf
  rw[cy]at hf;exact q.f (.inl I) f hf
 ·replace hf:f∈(y.s.iy d).l:=hf
  rw[cy]at hf;exact q.n f hf
 ·replace h:(y.s.iy d).st=2:=h
  rw[af]at h;exact absurd h h2
 ·show(y.s.iy d).st=1\/(y.s.iy d).st=2\/(y.s.iy d).st=3;rw[af];exact q.st
theorem nH.dy (q:nH c y u) (hc:c.rt<=15) (I:u.kind=3) (h2:y.s.st=2) (hu:z=y.EC (y.s.answer u.tok 1 0).1):iL c z:=by
 obtain⟨a1,a2,a3⟩:=q.a h2
 have e:(y.s.answer u.tok 1 0).1=y.s.bw 1:=by unfold aS.answer;rw[if_pos ⟨h2,a3.symm⟩];rfl
 subst hu
 rw[e]
 have:=q.v
 exact⟨q.b.bw,q.r,⟨by show 0<=y.dy+1;omega,by show y.dy+1<=16;omega⟩,λ_=>⟨by show(1:Int)≠2;decide,q.f (.inr I)⟩,q.n,λh=>absurd (show(1:Int)=2 from h) (by decide), .inl rfl⟩
theorem nH.calm (q:nH c y u) (I:u.kind=3) (h2:y.s.st≠2):iL c y:=⟨q.b,q.r,q.v,λ_=>⟨h2,q.f (.inr I)⟩,q.n,λh=>absurd h h2,q.st⟩
theorem abj (n:eG x) (hs:x.of u.aid=some s) (eB:u.tid=t) (ht:t<8) (hc:x.c.rt<=15) (q:nH x.c (s.l.getD t ak) u):
 ∃z bk,(x.ended u bs).1=(x.bw u.aid (some (s.aW t z))).dX bk/\bk.length=x.book.length/\iL x.c z/\z.under=(s.l.getD t ak).under:=by
 have h9:x.aT u.aid u.tid=s.l.getD t ak:=by rw[eB];exact ab.hj hs
 have self:x.bw u.aid (some (s.aW t (s.l.getD t ak)))=x:=(congrArg (λz=>x.bw u.aid (some z)) (ba.vm (by rw[(n.lens hs).1];exact ht))).trans (ab.vm n.st hs)
 unfold ab.ended
 by_cases k2:u.kind=2
 ·rw[if_pos k2]
  unfold ab.vO
  refine⟨(s.l.getD t ak).dE ((s.l.getD t ak).s.iy (lB x u bs).isSome),x.book,?_,rfl,q.iy hc k2 rfl,rfl⟩
  show x.aW u.aid u.tid _=x.bw u.aid _
  rw[eB,ab.lJ hs,ab.hj hs]
 rw[if_neg k2]
 by_cases k3:u.kind=3
 ·rw[if_pos k3]
  unfold ab.vH
  rw[h9]
  by_cases h2:(s.l.getD t ak).s.st=2
  ·rw[if_pos h2]
   exact⟨_,x.book,by rw[eB,ab.lJ hs];rfl,rfl,q.dy hc k3 h2 rfl,rfl⟩
  ·rw[if_neg h2]
   exact⟨_,x.book,by rw[self];rfl,rfl,q.calm k3 h2,rfl⟩
 rw[if_neg k3]
 have lost:∃z bk,x.tF u=(x.bw u.aid (some (s.aW t z))).dX bk/\bk.length=x.book.length/\iL x.c z/\z.under=(s.l.getD t ak).under:=
  ⟨_,x.book,by unfold ab.tF;rw[eB,ab.lJ hs,ab.hj hs];rfl,rfl,q.land k3 rfl,rfl⟩
 unfold ab.nf
 cases hh:lB x u bs with
 |none=>exact lost
 |some p=>
  dsimp only
  rw[h9]
  by_cases U:(s.l.getD t ak).s.nn p.1=true
  ·rw[if_pos U]
   exact⟨_,u4 3 x.book ((s.l.getD t ak).s.heard p.1 p.2).1,by rw[eB,ab.lJ hs],GV,q.heard k3 U rfl,rfl⟩
  ·rw[if_neg U];exact lost
end
end Go.Proofs.YtjlkfjnfnonekaaGreatDoor
set_option maxRecDepth 8000
namespace Go.Proofs.YtjlkfjnfnonekaaGreatDoor
open Go.Vc
structure IU (x:ab) (u:bR):Prop where
 ex:∃s,x.of u.aid=some s/\∃t:Nat,u.tid=t/\t<8/\nH x.c (s.l.getD t ak) u
 n:jq u
 air:0<=u.air/\u.air<=20000000
 ac:iV u.ac=true
section
variable{W W' aQ:Wd} {h h':J} {R:List aL} {a:Nat} {y:cR} {g:cQ} {x:ab} {i j k t n:Nat} {v:Value} {A B:aL} {s s':ba} {b:Nat} {aid tid ac now air num slots:Int} {ads:List Addr} {u:bR} {vs:List Value} {cg:Option Addr} {bZ:Nat} {E F:ao} {bs:List Int} {z:ra} {l:eR} {P:ra->Bool}
theorem ajj {al aP:Nat} {aK aG:List Value} {ek T2:TypeId} (h1:cT h al aK ek) (h2:cT h aP aG T2):Go.Vc.ptrEq h (some ⟨al,0,none⟩) (some ⟨aP,0,none⟩)=some (decide (al=aP)):=by
 unfold Go.Vc.ptrEq D8
 dsimp only
 by_cases e:al=aP
 ·subst e;rw[if_pos rfl,decide_eq_true rfl]
 ·rw[if_neg (λhc=>e (Addr.mk.inj hc).1),decide_eq_false e]
  unfold DS
  rw[h1,h2];rfl
theorem agj (ok:bl x) (h0:0<=air/\air<=20000000):mU (x.cM.sub aid air)/\∀z∈(x.cM.sub aid air).l,z<=20000000*x.num:=by
 unfold eR.sub
 split
 ·rename_i hc
  have hn:=ok.nm
  have adH:0<=x.cM.of aid/\x.cM.of aid<=20000000*x.num:=by
   unfold eR.of
   rw[if_pos hc.1]
   rw[List.getD_eq_getElem?_getD]
   cases e:x.cM.l[aD aid]?with
   |none=>exact⟨Int.le_refl 0,by show(0:Int)<=_;omega⟩
   |some z=>exact⟨(ok.lm.b z (List.mem_of_getElem? e)).1,ok.li z (List.mem_of_getElem? e)⟩
  have h3:=hc.2.2
  refine⟨Tu ok.lm ⟨by omega,by omega⟩,λz hz=>?_⟩
  rcases List.mem_or_eq_of_mem_set hz with hz|rfl
  ·exact ok.li z hz
  ·omega
 ·exact⟨ok.lm,ok.li⟩
theorem bl.nF (ok:bl x) (h1:mU l) (h2:∀z∈l.l,z<=20000000*x.num):bl (x.nF l):=⟨⟨ok.st,ok.bc,ok.l,ok.bss,ok.di⟩,ok.aT,ok.dY,ok.pl,ok.eh,ok.eb,ok.pw,h1,ok.mH,ok.ed,ok.bk,ok.now,ok.pF,ok.nm,h2,ok.nd,ok.iN⟩
theorem bl.rO (ok:bl x):bl (x.rO i):=⟨⟨ok.st,ok.bc,ok.l,ok.bss,ok.di⟩,ok.aT,ok.dY,ok.pl,ok.eh,ok.eb,ok.pw,ok.lm,ok.mH,ok.ed,ok.bk,ok.now,ok.pF,ok.nm,ok.li,ok.nd,ok.iN⟩
theorem I9 (q:aH W a y g x) (hz:z∈gA y g x):(⟨z.1,0,fX z.2.2 z.2.1.1 z.2.1.2,some 180⟩:ke)∈ae (jP y.fb g.us x.ways):=by
 rw[q.z.2.2.2];exact DG (x:=BB z) (List.mem_map.2 ⟨z,hz,rfl⟩)
theorem X7 {al:Nat} {T:TypeId} (q:aH W a y g x) (hi:(gA y g x)[i]?=some z) (hw:x.ways.length<=1000000) (m:aa W h (aq a y g x++[⟨al,0,[a8 z.1],some T⟩]::R)):
 aj Tryz.prog 74 #[.slice g.tX x.ways.length g.vv, .func (.func 75) #[] #[.pointer (some ⟨al,0,none⟩)]] h λv h'=>
  ∃ay c' F,v= .slice ay ((gA y g x).eraseIdx i).length c'/\au ay ((gA y g x).eraseIdx i).length c' 1 (kN ((gA y g x).eraseIdx i)) F/\aa W h' (ae F::(aq a y g x++[⟨al,0,[a8 z.1],some T⟩]::R).eraseIdx 14):=by
 have aeq:=List.mem_of_getElem? hi
 have gI:PP (.func (.func 75) #[] #[.pointer (some ⟨al,0,none⟩)]) W ((aq a y g x++[⟨al,0,[a8 z.1],some T⟩]::R).eraseIdx 14) (gA y g x) (λw=>decide (w.1=z.1)):= λh X w m hw=>by
  have jw:∀w∈gA y g x,cT h w.1 (fX w.2.2 w.2.1.1 w.2.1.2) 180:= λw hw=>m.lT (List.mem_flatten.2 ⟨ae (jP y.fb g.us x.ways),List.mem_append_right _ (List.mem_of_getElem? (i:=14) rfl),I9 q hw⟩)
  have hc:cell h al 0=some (a8 z.1):=m.cell (X.length+15) (by rw[List.getElem?_append_right (by omega),Nat.add_sub_cancel_left];rfl) 0 rfl
  exact sd (by kernel_rfl) (amD _ _ _ _ (aN ⟨_,hc,_,ajj (jw w hw) (jw z aeq),rfl,m⟩))
 have hf:((gA y g x).filter λw=>!decide (w.1=z.1))=(gA y g x).eraseIdx i:=Q8 (f:= λw:ra=>w.1) (q.aqQ m) hi
 have o:au g.tX (gA y g x).length g.vv 1 (kN (gA y g x)) g.ED:=by rw[q.zm,q.Iu];exact q.lM
 have:=aaq gI o (by rw[q.zm];exact hw) (kz 14 rfl m)
 rw[hf,q.zm]at this
 exact this
theorem X9 {well:Bool} (ok:bl x) (a7:Snt W ads) (m:aa W h (aq a y g x++R)):aj Tryz.prog 80 #[.pointer (some ⟨a,317,none⟩), .int .i64 ac, .bool well] h λv h'=>v=gC ads (oq x.ed ac well).2/\aa W h' (aq a y g (x.l2 (oq x.ed ac well).1)++R):=by
 refine(aa6 ok.ed a7 (kz 6 rfl m)).mono ?_
 rintro _ h' ⟨rfl,ax⟩
 exact⟨rfl,na (y:=y) (x:=x) (g:=g) 6 rfl ax⟩
theorem Ye (ok:mU x.cM) (a7:Snt W ads) (m:aa W h (aq a y g x++R)):aj Tryz.prog 76 #[a8 y.ik, .int .i64 aid, .int .i64 air] h λv h'=>aa W h' (aq a y g (x.nF (x.cM.sub aid air))++R):=by
 refine(agi ok (a7.vy (i:=2) (by decide) rfl) (a7.vy (i:=9) (by decide) rfl) (kz 11 rfl m)).mono ?_
 rintro _ h' ax
 exact na (y:=y) (x:=x) (g:=g) 11 rfl ax
end
end Go.Proofs.YtjlkfjnfnonekaaGreatDoor
set_option maxRecDepth 8000
namespace Go.Proofs.YtjlkfjnfnonekaaGreatDoor
open Go.Vc
section
variable{W W' aQ:Wd} {h h':J} {R:List aL} {a:Nat} {y:cR} {g:cQ} {x:ab} {i j k t n:Nat} {v:Value} {A B:aL} {s s':ba} {b:Nat} {aid tid ac now air num slots:Int} {ads:List Addr} {u:bR} {vs:List Value} {cg:Option Addr} {bZ:Nat} {E F:ao} {bs:List Int} {z:ra} {l:eR} {P:ra->Bool}
theorem nH.gx {c:jT} {y:dk} {d:Bool} (q:nH c y u):nH c (y.gx d) u:=⟨q.b,q.r,q.v,q.n,q.a,q.f,q.st⟩
def IB (W:Wd) (ads:List Addr) (a:Nat) (R:List aL) (r:ab×lO) (v:Value) (h':J):Prop:=∃W' g' fy,W.le W'/\v=gC ads r.2/\aH W' a fy g' r.1/\aa W' h' (aq a fy g' r.1++R)
theorem X8 {kg:Option Addr} {l8 mY:Nat} (ok:bl x) (K7:∀u∈x.ways,IU x u) (a7:Snt W ads) (q:aH W a y g x) (hN:0<=now/\now<=1125899906842624) (hw:x.ways.length<=1000000) (iD:cm W (.slice kg l8 mY) bs) (hx:∀z∈bs,0<=z/\z<256) (m:aa W h (aq a y g x++R)):
 aj Tryz.prog 26 #[a8 a, .int .i64 now, .int .i64 num, .slice kg l8 mY] h (IB W ads a R (x.done now num bs)):=by
 refine amC _ _ _ _ _ _ _ _ ((Ph q hw m).mono ?_)
 rintro _ h1 ⟨⟨hi,rfl⟩|⟨i,z,hi,hz,rfl⟩,m1⟩
 ·have e:x.done now num bs=(x,some 6):=by unfold ab.done;rw[hi]
  rw[e]
  exact⟨_,rfl,m1.bb λal h2 m2=>m2.store 0 rfl 0 rfl λh3 m3=>⟨_,m3.cell 0 rfl 0 rfl,df rfl ⟨_,a7.var m3 6 rfl,W,g,y,Wd.le.refl _,rfl,q,m3.aB⟩⟩⟩
 obtain⟨u,hu⟩:∃u,u=z.2.2:=⟨_,rfl⟩
 have AG:x.ways[i]?=some u:=by
  rw[<-q.z.2.2.1,List.getElem?_map,hz,hu];rfl
 have Gw:=K7 u (List.mem_of_getElem? AG)
 obtain⟨s,hs,t,eB,ht,iT⟩:=Gw.ex
 have un:=Gw.n
 refine⟨_,rfl,m1.bb λal h2 m2=>m2.store 0 rfl 0 rfl λh3 m3=>?_⟩
 replace m3:=c4 m3
 clear m m1 m2
 refine⟨_,m3.cell 16 rfl 0 rfl,aZ rfl ⟨_,zE m3,aC (λaK=>?_) λaK=>?_⟩⟩
 ·have e:x.done now num bs=(x,some 2):=by unfold ab.done;rw[hi];dsimp only;rw[AG];dsimp only;rw[if_pos aK]
  rw[e]
  exact⟨_,a7.var m3 2 rfl,W,g,y,Wd.le.refl _,rfl,q,cI m3⟩
 have e:x.done now num bs=(ab.zU u ((x.lets now i u).ended u bs),none):=by unfold ab.done;rw[hi];dsimp only;rw[AG];dsimp only;rw[if_neg aK]
 rw[e]
 refine m3.store 1 rfl 0 rfl λh4 m4=>?_
 replace m4:aa W h4 (aq a y g (x.c6 now)++[⟨al,0,[a8 z.1],some _⟩]::R):=m4
 have bP:aH W a y g (x.c6 now):=q.c6
 have pq:=ok.c6 hN
 refine⟨_,_,_,B0 m4,(X7 (i:=i) (z:=z) bP hz hw m4).mono ?_⟩
 rintro _ aA ⟨a5,eK,F,rfl,kL,m5⟩
 clear m3 m4
 refine⟨_,_,_,rfl,Yx (i:=i) (z:=z) bP hz kL m5 λaU g6 fI m6=>?_⟩
 rw[<-hu]at m6
 clear m5 bP q
 refine⟨_,E4 m6,_,m6.cell 17 rfl 0 rfl,aN ⟨_,m6.cell 16 rfl 1 rfl,_,m6.cell 17 rfl 0 rfl,aN ⟨_,m6.cell 16 rfl 8 rfl,(Ye (aid:=u.aid) (air:=u.air) pq.rO.lm a7 m6).mono ?_⟩⟩⟩
 rintro asD bW m7
 obtain⟨eg,aM⟩:=agj (aid:=u.aid) ok Gw.air
 have wY:bl (((x.c6 now).rO i).nF (x.cM.sub u.aid u.air)):=pq.rO.nF eg aM
 have Bb:aH W a (y.x2 i) g6 (((x.c6 now).rO i).nF (x.cM.sub u.aid u.air)):=fI.nF
 replace m7:aa W bW (aq a (y.x2 i) g6 (((x.c6 now).rO i).nF (x.cM.sub u.aid u.air))++cG z.1 u z.2.1.1 z.2.1.2::[⟨al,0,[a8 z.1],some _⟩]::R):=m7
 obtain⟨mQ,GA⟩:∃mQ,mQ=((x.c6 now).rO i).nF (x.cM.sub u.aid u.air):=⟨_,rfl⟩
 have oz:mQ.of u.aid=some s:=by rw[GA];exact hs
 have acP:mQ.c=x.c:=by rw[GA];rfl
 rw[<-GA]at wY Bb m7
 clear m6 fI
 obtain⟨b,hb,-⟩:=Bb.da oz
 obtain⟨z0,qs⟩:∃z0:dk,z0=(s.l.getD t ak).gx false:=⟨_,rfl⟩
 have ou:x.lets now i u=mQ.bw u.aid (some (s.aW t z0)):=by
  unfold ab.lets
  rw[<-GA,qs,show x.aT u.aid u.tid=s.l.getD t ak by rw[eB];exact ab.hj hs,eB,ab.lJ oz]
 refine⟨_,rfl,m7.cell 17 rfl 0 rfl,m7.cell 17 rfl 0 rfl,_,m7.cell 17 rfl 0 rfl,aN ⟨_,m7.cell 16 rfl 1 rfl,(s5 Bb oz hb m7).ret ⟨_,rfl,_,m7.cell 17 rfl 0 rfl,aN ⟨(t:Int),m7.cell 16 rfl 2 (by rw[<-eB];rfl),aN ⟨⟨by omega,by omega⟩,?_⟩⟩⟩⟩⟩
 rw[Int.toNat_natCast,show 0+6+t*5=6+t*5 by omega]
 refine Fe wY.toeG Bb oz hb ht m7 (z:=z0) 4 (by decide) (by rw[qs];rfl) (by rw[qs];rfl) (λbJ g8 vh m8=>?_) rfl
 clear m7 Bb
 have rH:=wY.aW (z:=z0) oz ht (by rw[qs];exact⟨(ok.jz hs ht).s,(ok.jz hs ht).v⟩)
 have pf:(mQ.bw u.aid (some (s.aW t z0))).of u.aid=some (s.aW t z0):=ab.rE wY.st oz
 rw[<-ou]at rH pf vh m8
 have j4:(s.aW t z0).l.getD t ak=z0:=by rw[ba.qz (wY.lens oz).1 ht,if_pos rfl]
 obtain⟨y5,adZ⟩:∃y5,y5=s.aW t z0:=⟨_,rfl⟩
 rw[<-adZ]at pf j4
 obtain⟨fK,uT⟩:∃fK,fK=x.lets now i u:=⟨_,rfl⟩
 have acQ:fK.c=x.c:=by rw[uT,ou];exact acP
 rw[<-uT]at rH pf vh m8⊢
 have Tr:nH fK.c (y5.l.getD t ak) u:=by rw[j4,qs,acQ];exact iT.gx
 have h9:fK.aT u.aid u.tid=y5.l.getD t ak:=by rw[eB];exact ab.hj pf
 obtain⟨z9,bk,uy,rq,li,-⟩:=abj (bs:=bs) rH.toeG pf eB ht rH.nd.rt.2 Tr
 have tail:∀(well:Bool) (fD:J),(∃bu g2,W.le bu/\well=(fK.ended u bs).2/\aH bu a (y.x2 i) g2 (fK.ended u bs).1/\aa bu fD (aq a (y.x2 i) g2 (fK.ended u bs).1++cG z.1 u z.2.1.1 z.2.1.2::[⟨al,0,[a8 z.1],some 136⟩]::R))->
  ∃Mj:Option Addr,cell fD al 0=some (.pointer Mj)/\eu Mj λvM gv=>∃G2:Int,cell fD vM (gv+3)=some (.int .i64 G2)/\
   aj Tryz.prog 80 #[.pointer (some ⟨a,317,none⟩), .int .i64 G2, .bool well] fD λMD fu=>∃v4:Value,MD=v4/\cell fu al 0=some (.pointer Mj)/\∃t2:Bool,qt Tryz.prog fu true v4 .nilIface=some t2/\
    ec (!t2) (IB W ads a R (ab.zU u (fK.ended u bs),none) v4 fu) (aj Tryz.prog 39 #[a8 a, .pointer (some ⟨b,6+t*5,none⟩)] fu λajB fQ=>IB W ads a R (ab.zU u (fK.ended u bs),none) .nilIface fQ):=by
  rintro well fD ⟨bu,g2,dv,rfl,q2,m2⟩
  obtain⟨r,U⟩:∃r,r=fK.ended u bs:=⟨_,rfl⟩
  rw[<-U]at uy q2 m2⊢
  have Ma:bl r.1:=by rw[uy];exact(rH.aW pf ht li.ok).dX (by rw[rq];exact rH.bk)
  have AD:r.1.of u.aid=some (y5.aW t z9):=by rw[uy];exact ab.rE rH.st pf
  have Bm:=a7.le dv
  refine⟨_,m2.cell 17 rfl 0 rfl,aN ⟨_,m2.cell 16 rfl 3 rfl,(X9 Ma Bm m2).mono ?_⟩⟩
  rintro _ fu ⟨rfl,m3⟩
  have x5:(oq r.1.ed u.ac r.2).2=none:=by unfold oq;rw[if_pos Gw.ac]
  rw[x5]
  have G6:bl (r.1.l2 (oq r.1.ed u.ac r.2).1):=Ma.l2 (aa8 Ma.ed)
  have adY:(r.1.l2 (oq r.1.ed u.ac r.2).1).of u.aid=some (y5.aW t z9):=AD
  have SO:(y5.aW t z9).l.getD t ak=z9:=by rw[ba.qz (rH.lens pf).1 ht,if_pos rfl]
  refine⟨_,rfl,m3.cell 17 rfl 0 rfl,true,jk,aZ rfl ((Pe (t:=t) G6 Bm q2.l2 adY hb ht (by rw[SO];exact(li.de).toiL.ok) (by rw[SO];exact li.b.de.ok) m3).mono ?_)⟩
  rintro asC fQ ⟨eJ,g3,fa,aE,m3⟩
  rw[show(t:Int)=u.tid from eB.symm]at aE m3
  exact⟨eJ,g3,y.x2 i,dv.trans fa,rfl,aE,cI (cI m3)⟩
 refine⟨_,m8.cell 17 rfl 0 rfl,aN ⟨_,m8.cell 16 rfl 4 rfl,aC (λd1=>?_) λd1=>aC (λd2=>?_) λd2=>?_⟩⟩
 ·have gl:fK.ended u bs=fK.vO u bs:=by unfold ab.ended;rw[if_pos d1]
  refine⟨_,⟨_,m8.cell 17 rfl 0 rfl,(X0 rH a7 vh pf hb eB ht un iD hx m8).mono ?_⟩,λ_=>tail⟩
  rintro _ ct ⟨bu,g2,dv,rfl,q2,m2⟩
  exact⟨_,rfl,bu,g2,dv,by rw[gl],by rw[gl];exact q2,by rw[gl];exact m2⟩
 ·have gl:fK.ended u bs=fK.vH u:=by unfold ab.ended;rw[if_neg d1,if_pos d2]
  refine⟨_,⟨_,m8.cell 17 rfl 0 rfl,(XT rH (by rw[h9];exact(rH.jz pf ht).v.2|> λh=>by omega) a7 vh pf hb eB ht m8).mono ?_⟩,λ_=>tail⟩
  rintro _ ct ⟨bu,g2,dv,rfl,q2,m2⟩
  exact⟨_,rfl,bu,g2,dv,by rw[gl],by rw[gl];exact q2,by rw[gl];exact m2⟩
 ·have gl:fK.ended u bs=fK.nf u bs:=by unfold ab.ended;rw[if_neg d1,if_neg d2]
  refine⟨_,⟨_,m8.cell 17 rfl 0 rfl,(X5 rH (by rw[h9];exact Tr.b) a7 vh pf hb eB ht un iD hx m8).mono ?_⟩,λ_=>tail⟩
  rintro _ ct ⟨bu,g2,dv,rfl,q2,m2⟩
  exact⟨_,rfl,bu,g2,dv,by rw[gl],by rw[gl];exact q2,by rw[gl];exact m2⟩
end
end Go.Proofs.YtjlkfjnfnonekaaGreatDoor
set_option maxRecDepth 8000
namespace Go.Proofs.YtjlkfjnfnonekaaGreatDoor
open Go.Vc
instance asU (bs:List Int):Decidable (asH bs):=by unfold asH;infer_instance
instance asR (bs:List Int):Decidable (isAdd bs):=by unfold isAdd dx;infer_instance
instance asS (bs:List Int):Decidable (asG bs):=by unfold asG dx;infer_instance
def IF (ads:List Addr) (e:lO) (v:Value):Prop:=match e with
 |none=>v= .nilIface
 |some i=>if i=99 then∃p,v=ptE p else i<p6/\v=gC ads (some i)
def ab.xg (x:ab) (l:List hr):ab:={x with pow:=l}
section
variable{W W' aQ:Wd} {h h':J} {R:List aL} {a:Nat} {y:cR} {g:cQ} {x:ab} {i j k t n:Nat} {v:Value} {A B:aL} {s s':ba} {b:Nat} {aid tid ac now air num slots:Int} {ads:List Addr} {u:bR} {vs:List Value} {cg:Option Addr} {bZ:Nat} {E F:ao} {bs to fr bss:List Int}
theorem aH.xg {l:List hr} (q:aH W a y g x):aH W a y g (x.xg l):=⟨q.bk,q.dY,q.bc,q.st,q.lo,q.lM,q.wl,q.ul,q.us⟩
end
end Go.Proofs.YtjlkfjnfnonekaaGreatDoor
set_option maxRecDepth 8000
namespace Go.Proofs.YtjlkfjnfnonekaaGreatDoor
open Go.Vc
section
variable{W W' aQ:Wd} {h h':J} {R:List aL} {a:Nat} {y:cR} {g:cQ} {x:ab} {i j k t n:Nat} {v:Value} {A B:aL} {s s':ba} {b:Nat} {aid tid ac now air num slots:Int} {ads:List Addr} {u:bR} {vs:List Value} {cg:Option Addr} {bZ:Nat} {E F:ao} {bs to fr bss:List Int} {o:aS} {tok st size:Int}
theorem IF.of {e:lO} (he:∀i,e=some i->i<p6/\i≠99):IF ads e (gC ads e):=by
 cases e with
 |none=>rfl
 |some i=>obtain⟨h1,h2⟩:=he i rfl;unfold IF;dsimp only;rw[if_neg h2];exact⟨h1,rfl⟩
end
end Go.Proofs.YtjlkfjnfnonekaaGreatDoor
set_option maxRecDepth 8000
namespace Go.Proofs.YtjlkfjnfnonekaaGreatDoor
open Go.Vc
def ba.HT (s:ba) (r:bo):ba:=⟨r,s.tok,s.l,s.air⟩
def ab.y0 (x:ab) (aid:Int) (r:bo):ab×lO:=match x.of aid with|none=>(x,some 6)|some s=>if r.ok=true then(x.bw aid (some (s.HT r)),none)else(x,some 2)
def oN (F:dm->dm) (T:List dm) (k:Nat):List dm:=(T.take k).map F++T.drop k
def ab.air (x:ab) (aid ac:Int):Int:=match x.of aid with|none=>0|some s=>if 0<=ac/\ac<4 then s.air.getD ac.toNat 0 else 0
section
variable{W W' aQ:Wd} {h h':J} {R:List aL} {a:Nat} {y:cR} {g:cQ} {x:ab} {i j k t n:Nat} {v:Value} {A B:aL} {s s':ba} {b:Nat} {aid tid ac now air num slots w:Int} {ads:List Addr} {u:bR} {vs:List Value} {cg:Option Addr} {bZ:Nat} {E F:ao} {bs to fr bss:List Int} {on:Bool} {r:bo} {S:dm} {T:List dm} {f:dm->dm}
theorem XX (n:eG x) (q:aH W a y g x) (m:aa W h (aq a y g x++R)):aj Tryz.prog 10 #[a8 a, .int .i64 aid, .int .i64 ac] h λv h'=>v= .int .i64 (x.air aid ac)/\h'=h:=by
 unfold ab.air
 cases hs:x.of aid with
 |none=>exact Wq _ _ _ _ _ ((Jh q hs m).ret ⟨_,rfl,df rfl ⟨rfl,rfl⟩⟩)
 |some s=>
  obtain⟨b,hb,-⟩:=q.da hs
  refine Wq _ _ _ _ _ ((s5 q hs hb m).ret ⟨_,rfl,aZ rfl (aC (λaK=>⟨by dsimp only;rw[if_neg (by omega)],rfl⟩) λaK=>aC (λaG=>⟨by dsimp only;rw[if_neg (by omega)],rfl⟩) λaG=>aN ⟨⟨by omega,by omega⟩,_,OW n hs hb (k:=ac.toNat) (by omega) m|> λe=>(show(0+46+ac.toNat:Nat)=46+ac.toNat by omega)▸e,?_,rfl⟩)⟩)
  dsimp only
  rw[if_pos ⟨by omega,by omega⟩]
theorem Yt (n:eG x) (q:aH W a y g x) (hs:x.of aid=some s) (hb:y.b1 (aD aid)=some b) (r:bo) (m:aa W h (aq a y g x++R)) {Q:J->Prop}
 (K:∀h1,aH W a y g (x.bw aid (some (s.HT r)))->aa W h1 (aq a y g (x.bw aid (some (s.HT r)))++R)->Q h1):((cK r).length=5/\c0 h b 0 5/\∀u∈cK r,u.oneCell'=true)/\∀h1,h1=bm h b 0 (cK r)->Q h1:=by
 have m1:=(xQ n hs hb m).pick 0 (A:=[⟨b,0,cK s.r++[.int .i64 s.tok],none⟩]) rfl
 refine m1.zV 0 rfl 0 rfl (by simp[cK]) (by intro u hu;simp[cK]at hu;rcases hu with rfl|rfl|rfl|rfl|rfl<;>rfl) λh1 m2=>?_
 have m3:=m2.n9 (A0:=[⟨b,0,cK s.r++[.int .i64 s.tok],none⟩]) 0 rfl
 have m4:=E6 (s':=s.HT r) (M:=g.cL (aD aid)) n hs hb m3
 rw[zb]at m4
 exact K h1 (q.Vx n hs λt ht=>rfl) m4
theorem Yr (ok:bl x) (a7:Snt W ads) (q:aH W a y g x) (m:aa W h (aq a y g x++R)):
 aj Tryz.prog 25 #[a8 a, .int .i64 aid, .agg (cK r).toArray] h λv h'=>v=gC ads (x.y0 aid r).2/\aH W a y g (x.y0 aid r).1/\aa W h' (aq a y g (x.y0 aid r).1++R):=by
 unfold ab.y0
 refine amF _ _ _ _ _ (m.bb λal h1 m1=>?_)
 replace m1:=c4 m1
 cases hs:x.of aid with
 |none=>exact(Jh q hs m1).ret ⟨_,rfl,df rfl ⟨_,a7.var m1 6 rfl,rfl,q,cI m1⟩⟩
 |some s=>
  obtain⟨b,hb,-⟩:=q.da hs
  refine(s5 q hs hb m1).ret ⟨_,rfl,aZ rfl ⟨_,m1.bE 16 rfl (by simp[cK]),(vl m1).mono ?_⟩⟩
  rintro _ h2 ⟨rfl,m2⟩
  refine⟨_,rfl,bH (λaK=>?_) λaK=>?_⟩
  ·dsimp only;rw[if_neg (by rw[pU aK];decide)]
   exact⟨_,a7.var m2 2 rfl,rfl,q,cI m2⟩
  ·dsimp only;rw[if_pos (sb aK)]
   exact⟨_,m2.bE 16 rfl (by simp[cK]),aN (Yt ok.toeG q hs hb r m2 λh3 aE m3=>⟨rfl,aE,cI m3⟩)⟩
theorem alU (h:T.length=4):(oN f T k).length=4:=by unfold oN;rw[List.length_append,List.length_map,List.length_take,List.length_drop];omega
theorem alR (h:T.length=4):∃a b c d,T=[a,b,c,d]:=by
 match T,h with
 |[a,b,c,d],_=>exact⟨a,b,c,d,rfl⟩
theorem alT (h:T.length=4) (I:k<4):(oN f T k).getD k c3=T.getD k c3/\(oN f T k).set k (f (T.getD k c3))=oN f T (k+1):=by
 obtain⟨a,b,c,d,rfl⟩:=alR h
 have:k=0\/k=1\/k=2\/k=3:=by omega
 rcases this with rfl|rfl|rfl|rfl<;>exact⟨rfl,rfl⟩
theorem alS (h:T.length=4):oN f T 4=T.map f:=by
 unfold oN
 rw[List.take_of_length_le (by omega),List.drop_of_length_le (by omega),List.append_nil]
theorem alV (m:aa W h (aq a y g x++R)):row h a 313 4=some [a8 (y.dp 0),a8 (y.dp 1),a8 (y.dp 2),a8 (y.dp 3)]:=m.row 5 rfl 2 rfl (Nat.le_refl 6)
theorem alW (I:k<4):([a8 (y.dp 0),a8 (y.dp 1),a8 (y.dp 2),a8 (y.dp 3)]:List Value)[k]?=some (a8 (y.dp k)):=by
 have:k=0\/k=1\/k=2\/k=3:=by omega
 rcases this with rfl|rfl|rfl|rfl<;>rfl
end
end Go.Proofs.YtjlkfjnfnonekaaGreatDoor
set_option maxRecDepth 8000
namespace Go.Proofs.YtjlkfjnfnonekaaGreatDoor
open Go.Vc
section
variable{W W' aQ:Wd} {h h':J} {R:List aL} {a:Nat} {y:cR} {g:cQ} {x:ab} {i j k t n:Nat} {v:Value} {A B:aL} {s s':ba} {b:Nat} {aid tid ac now air num slots w:Int} {ads:List Addr} {u:bR} {vs:List Value} {cg:Option Addr} {bZ:Nat} {E F:ao}
theorem Pg (q:aH W a y g x) (hw:x.ways.length<=1000000) (m:aa W h (aq a y g x++R)):aj Tryz.prog 56 #[a8 a] h λv h'=>∃ay c',v= .slice ay x.ways.length c'/\aa W h' (aq a y g x++R):=by
 have j4:=q.zm
 refine amI _ _ _ ⟨_,_,_,B0 m,λar ol cJ z h1=>∃(k:Nat) (l:List Int) (F:ao),z=k/\k<=x.ways.length/\ol=k/\l.length=k/\au ar ol cJ 1 (ints .i64 l) F/\aa W h1 (aq a y g x++ae F::R),λ_ _ _ z _=>((x.ways.length:Int) -z).toNat,
  ⟨0,[],[],rfl,by omega,rfl,rfl,au.nil,c4 m.hU⟩,λ_=>?_⟩
 clear m
 rintro ar ol cJ _ h1 ⟨k,l,F,rfl,I,pe,yo,o,m⟩
 refine aC (λaK=>?_) λaK=>?_
 ·have Sa:k<(gA y g x).length:=by omega
  have hz:=List.getElem?_eq_getElem Sa
  have AD:src h1 g.tX x.ways.length (pA y.fb):=q.lM.mJ m 14 rfl
  have hp:(pA y.fb)[k]?=some (a8 (gA y g x)[k].1):=by rw[<-q.Iu];exact HA hz
  obtain⟨ju,nB,e,hcell⟩:=fW AD hp
  have hb:cT h1 _ _ _:=m.lT (List.mem_flatten.2 ⟨ae (jP y.fb g.us x.ways),List.mem_append_left _ (List.mem_of_getElem? (i:=15) rfl),I9 q (List.getElem_mem Sa)⟩)
  rw[e]
  refine⟨⟨by omega,by omega⟩,aN ⟨_,by rw[Int.toNat_natCast];exact hcell,aN ⟨_,hb.vR (o:=0) rfl,?_⟩⟩⟩
  refine o.kA m 16 rfl (us:=[.int .i64 _]) rfl (by intro u hu;simp at hu;subst hu;rfl) (by omega) (by decide) λhJ gB i6 bW m7 gv=>?_
  refine⟨by simp only[fits];omega,⟨k+1,l++[(gA y g x)[k].2.2.num],i6,by omega,by omega,by omega,by simp;omega,?_,m7⟩,by dsimp only;omega⟩
  rw[kI];exact gv
 ·obtain rfl:k=x.ways.length:=by omega
  exact⟨ar,cJ,by rw[pe],cI m⟩
def kq (u:bR):List Value:=ints .u8 u.bss++(ints .u8 u.to++(cK u.r++[.int .i64 u.start, .int .i64 u.size, .int .i64 u.most, .int .i64 u.ticks, .bool u.HQ]))
theorem y3 (n:jq u):(kq u).length=22:=by unfold kq;simp[ints,n.bss,n.to,cK]
theorem MN:∀v∈kq u,v.oneCell'=true:=by
 intro v hv
 unfold kq at hv
 rcases List.mem_append.1 hv with hv|hv
 ·exact dM v hv
 rcases List.mem_append.1 hv with hv|hv
 ·exact dM v hv
 simp[cK]at hv
 rcases hv with rfl|rfl|rfl|rfl|rfl|rfl|rfl|rfl|rfl|rfl<;>rfl
theorem Pc (q:aH W a y g x) (hn:∀u∈x.ways,jq u) (hw:x.ways.length<=1000000) (m:aa W h (aq a y g x++R)):aj Tryz.prog 58 #[a8 a, .int .i64 num] h λv h'=>
 (∀i u,x.rQ num=some i->x.ways[i]?=some u->v= .tuple #[.agg (kq u).toArray, .bool true])/\aa W h' (aq a y g x++R):=by
 refine amG _ _ _ _ (m.bb λal h1 m1=>(Ph q hw (c4 m1)).mono ?_)
 rintro _ h2 ⟨⟨hi,rfl⟩|⟨i,z,hi,hz,rfl⟩,m2⟩
 ·exact⟨_,rfl,df rfl (m2.c8 16 rfl rfl rfl (by decide) λh3 m3=>⟨_,m3.bE 16 rfl rfl,λi u tv=>(by rw[hi]at tv;cases tv),cI m3⟩)⟩
 ·have AG:x.ways[i]?=some z.2.2:=by rw[<-q.z.2.2.1,List.getElem?_map,hz];rfl
  have un:=hn _ (List.mem_of_getElem? AG)
  have hb:cT h2 _ _ _:=m2.lT (List.mem_flatten.2 ⟨ae (jP y.fb g.us x.ways),List.mem_append_left _ (List.mem_of_getElem? (i:=15) rfl),I9 q (List.mem_of_getElem? hz)⟩)
  have U:row h2 z.1 (0+11) 22=some (kq z.2.2):=Px hb (show((kq z.2.2).take 22)=_ from by rw[<-y3 un,List.take_length]) (by rw[xo un];decide)
  refine⟨_,rfl,aZ rfl (aN ⟨_,U,m2.c8 16 rfl (y3 un) rfl MN λh3 m3=>⟨_,m3.bE 16 rfl (y3 un).symm,λj u ah hu=>?_,cI m3⟩⟩)⟩
  rw[hi]at ah;cases ah
  rw[AG]at hu;cases hu
  rfl
end
end Go.Proofs.YtjlkfjnfnonekaaGreatDoor
set_option maxRecDepth 8000
namespace Go.Proofs.YtjlkfjnfnonekaaGreatDoor
open Go.Vc
section
variable{W:Wd} {h:J} {R L:List aL} {u:bR} {f:bQ} {v x:Value} {ads:List Addr} {es bytes b:Nat} {T:TypeId}
theorem Vb (n:jq u):(((kq u).drop 0).take 6=ints .u8 u.bss/\((kq u).drop 6).take 6=ints .u8 u.to/\((kq u).drop 12).take 5=cK u.r)/\(kq u)[17]?=some (.int .i64 u.start)/\(kq u)[18]?=some (.int .i64 u.size)/\(kq u)[21]?=some (.bool u.HQ):=by
 obtain⟨_,_,_,_,_,_,af⟩:=fV n.bss
 obtain⟨_,_,_,_,_,_,ag⟩:=fV n.to
 unfold kq;rw[af,ag];exact⟨⟨rfl,rfl,rfl⟩,rfl,rfl,rfl⟩
theorem Ct (k:gK f):(((ef f v).drop 0).take 6=ints .u8 f.to/\((ef f v).drop 6).take 6=ints .u8 f.bss/\((ef f v).drop 12).take 6=ints .u8 f.fr)/\(ef f v)[18]?=some (.int .i64 f.tid)/\(ef f v)[19]?=some (.int .i64 f.sq)/\(ef f v)[20]?=some (.bool f.rt)/\(ef f v)[21]?=some (.bool f.hR)/\(ef f v)[22]?=some (.bool f.fC)/\(ef f v)[23]?=some v/\(ef f v).length=24:=by
 obtain⟨_,_,_,_,_,_,af⟩:=fV k.ca
 obtain⟨_,_,_,_,_,_,ag⟩:=fV k.aF
 obtain⟨_,_,_,_,_,_,aI⟩:=fV k.dw
 unfold ef;rw[af,ag,aI];exact⟨⟨rfl,rfl,rfl⟩,rfl,rfl,rfl,rfl,rfl,rfl,rfl⟩
theorem ab6 (n:jq u) (k:gK f) (h1:f.to=u.to) (h2:f.bss=u.bss) (h3:f.fr=u.bss) (hs:cC u.start f.sq<u.size) (m:aa W h R):
 aj Tryz.prog 141 #[.agg (kq u).toArray, .agg (ef f v).toArray, .pointer none] h λr h'=>r= .nilIface/\aa W h' R:=by
 have hl:=y3 n
 obtain⟨⟨a1,a2,-⟩,a4,a5,-⟩:=Vb n
 obtain⟨⟨aK,aG,bd⟩,-,eK,-,-,-,-,cW⟩:=Ct (v:=v) k
 refine aot _ _ _ _ _ (m.bb λal _ m1=>m1.bb λaP _ m2=>⟨_,m2.row 0 rfl 0 aK (by omega),_,m2.row 1 rfl 6 a2 (by omega),_,_,rfl,rfl,⟨k.ca,n.to⟩,aZ (by rw[h1];simp) ⟨_,m2.row 0 rfl 6 aG (by omega),_,m2.row 1 rfl 0 a1 (by omega),_,_,rfl,rfl,⟨k.aF,n.bss⟩,aZ (by rw[h2];simp)
  ⟨_,m2.row 0 rfl 12 bd (by omega),_,m2.row 1 rfl 0 a1 (by omega),_,_,rfl,rfl,⟨k.dw,n.bss⟩,aZ (by rw[h3];simp) (aZ rfl ⟨_,m2.cell 1 rfl 17 a4,_,m2.cell 1 rfl 18 a5,_,m2.cell 0 rfl 19 eK,apK _ _ _ _ _ ((Fz _ _ _).ret ⟨_,rfl,_,rfl,aZ (by rw[decide_eq_true hs];rfl) (aZ rfl (aZ rfl ⟨rfl,m2.aB.aB⟩))⟩)⟩)⟩⟩⟩)
theorem ab7 {n:Int} (A5:jq u) (hz:1<=u.size) (U:u.r.ok=true) (hn:u.r.kp n<=54840) (m:aa W h R):aj Tryz.prog 142 #[.agg (kq u).toArray, .bool false, .int .i64 1, .int .i64 n] h λr h'=>r= .nilIface/\aa W h' R:=by
 have hl:=y3 A5
 obtain⟨⟨-,-,a3⟩,-,a5,-⟩:=Vb A5
 refine aou _ _ _ _ _ _ (m.bb λal _ m1=>⟨_,m1.cell 0 rfl 18 a5,bF (by omega) (aZ rfl ⟨_,m1.row 0 rfl 12 a3 (by omega),(vl m1).mono ?_⟩)⟩)
 rintro _ h2 ⟨rfl,m2⟩
 refine⟨_,rfl,aZ (by rw[U];rfl) ⟨_,m2.row 0 rfl 12 a3 (by omega),(D5 m2).mono ?_⟩⟩
 rintro _ h3 ⟨rfl,m3⟩
 exact⟨_,rfl,bF (by omega) (aZ rfl ⟨rfl,m3.aB⟩)⟩
theorem LW {us:List Value} {sz:Nat} {Q:Option Addr->Nat->J->Prop} (m:aa W h L) (hu:us.length=sz) (hb:bytes<=1000) (fj:0<bytes) (K:∀a c h',aa W h' L->Q a c h'):e8 h none 0 0 1 sz es bytes us Q:=
 (au.nil (sz:=sz)).Fa m.hU 0 rfl (by simpa using hu) (by omega) fj λa c E h' ax _=>K a c h' ax.aB
theorem DQ {x:Value} (hx:x.oneCell'=true):∀u∈[x],u.oneCell'=true:= λu hu=>by simp at hu;subst hu;exact hx
def W0 (W:Wd) (R:List aL) (f:bQ) (r:Value) (h':J):Prop:=∃W' a1 aK a2 aG a3 bd,W.le W'/\r= .tuple #[.agg #[.int .i64 f.tid, .slice a1 1 aK, .slice a2 1 aG, .bool f.hR, .bool f.fC, .slice a3 1 bd], .nilIface]/\aa W' h' R
set_option maxHeartbeats 4000000 in
theorem ab5 {a:Option Addr} {n c:Nat} (A5:jq u) (k:gK f) (h1:f.to=u.to) (h2:f.bss=u.bss) (h3:f.fr=u.bss) (hs:cC u.start f.sq<u.size) (hz:1<=u.size) (U:u.r.ok=true) (hn:u.r.kp (gg f).length<=54840) (hb:cm W (.slice a n c) (gg f)) (m:aa W h R):
 aj Tryz.prog 59 #[.agg (kq u).toArray, .bool false, .slice a n c] h (W0 W R f):=by
 have hl:=y3 A5
 obtain⟨-,Am,-⟩:=kC hb
 refine aos _ _ _ _ _ _ _ (m.bb λal _ m1=>m1.bb λaP _ m2=>m2.bb λbx h3 m3=>⟨λfT pl fH h'=>fT=some ⟨bx,0,none⟩/\pl=1/\fH=1/\h'=h3,aZ rfl ⟨rfl,rfl,rfl,rfl⟩,λ_=>?_⟩)
 rintro _ _ _ _ ⟨rfl,rfl,rfl,rfl⟩
 refine m3.bb λdO bJ m4=>?_
 obtain⟨ek,T2,q8,vE,m4⟩:∃ek T2 q8 vE,aa W bJ ([⟨dO,0,[.int .i64 0, .slice none 0 0, .slice none 0 0, .bool false, .bool false, .slice none 0 0],some vE⟩]::[⟨bx,0,[.slice a n c],some q8⟩]::[⟨aP,0,[.int .i64 0, .slice none 0 0, .slice none 0 0, .bool false, .bool false, .slice none 0 0],some T2⟩]::[⟨al,0,kq u,some ek⟩]::R):=⟨_,_,_,_,m4⟩
 clear m m1 m2 m3
 refine⟨λl i h=>(i=0/\l=none/\h=bJ)\/(i=1/\∃W' a1 aK a2 aG a3 bd,W.le W'/\aa W' h ([⟨dO,0,[.int .i64 f.tid, .slice a1 1 aK, .slice a2 1 aG, .bool f.hR, .bool f.fC, .slice a3 1 bd],some vE⟩]::[⟨bx,0,[.slice a n c],some q8⟩]::[⟨aP,0,[.int .i64 0, .slice none 0 0, .slice none 0 0, .bool false, .bool false, .slice none 0 0],some T2⟩]::[⟨al,0,kq u,some ek⟩]::R)),λ_ i _=>(1 -i).toNat, .inl ⟨rfl,rfl,rfl⟩,λ_=>?_⟩
 rintro l i ct (⟨rfl,rfl,rfl⟩|⟨rfl,W',a1,aK,a2,aG,a3,bd,hle,m5⟩)
 ·refine fB (by decide) ⟨⟨by decide,by decide⟩,aN ⟨_,_,_,m4.cell 1 rfl 0 rfl,?_⟩⟩
  obtain⟨G,me,bk⟩:=m4.nx
  refine(ajy me hb k).mono ?_
  rintro _ dS ⟨aQ,cs,hle,rfl,⟨v,rfl,hv⟩,ny⟩
  have m5:=bk.1 ny
  clear me ny bk m4
  obtain⟨zg,kS,rfl,-,-⟩:=hv
  obtain⟨-,wL,uY,wM,Te,Lt,AO,uZ⟩:=Ct (v:= .slice zg f.body.length kS) k
  refine⟨_,_,rfl,m5.bb λey fD m6=>m6.c8 0 rfl uZ rfl (wa _ _ _ _) λfu m7=>?_⟩
  refine⟨λe h'=>e= .nilIface/\aa aQ h' ([⟨ey,0,ef f (.slice zg f.body.length kS),some _⟩]::[⟨dO,0,[.int .i64 0, .slice none 0 0, .slice none 0 0, .bool false, .bool false, .slice none 0 0],some vE⟩]::[⟨bx,0,[.slice a n c],some q8⟩]::[⟨aP,0,[.int .i64 0, .slice none 0 0, .slice none 0 0, .bool false, .bool false, .slice none 0 0],some T2⟩]::[⟨al,0,kq u,some ek⟩]::R),
   ⟨true,jk,df rfl ⟨_,m7.bE 4 rfl hl.symm,_,m7.bE 0 rfl uZ.symm,(ab6 A5 k h1 h2 h3 hs m7).mono λr h' q=>⟨_,rfl,q⟩⟩⟩,λ_=>?_⟩
  clear m5 m6 m7
  rintro _ iA ⟨rfl,m8⟩
  refine⟨true,jk,aZ rfl ⟨λh'=>aa aQ h' ([⟨ey,0,ef f (.slice zg f.body.length kS),some _⟩]::[⟨dO,0,[.int .i64 f.tid, .slice none 0 0, .slice none 0 0, .bool f.hR, .bool f.fC, .slice none 0 0],some vE⟩]::[⟨bx,0,[.slice a n c],some q8⟩]::[⟨aP,0,[.int .i64 0, .slice none 0 0, .slice none 0 0, .bool false, .bool false, .slice none 0 0],some T2⟩]::[⟨al,0,kq u,some ek⟩]::R),
   ⟨_,m8.cell 0 rfl 18 wL,_,m8.cell 0 rfl 21 Te,_,m8.cell 0 rfl 22 Lt,m8.store 1 rfl 0 rfl λ_ m9=>⟨m9.cell 0 rfl 22 Lt,m9.cell 0 rfl 21 Te,m9.store 1 rfl 3 rfl λ_ m10=>⟨m10.cell 0 rfl 22 Lt,m10.store 1 rfl 4 rfl λ_ m11=>m11⟩⟩⟩,λ_=>?_⟩⟩
  clear m8
  intro qa m12
  refine⟨λh'=>∃a1 aK a2 aG a3 bd,aa aQ h' ([⟨dO,0,[.int .i64 f.tid, .slice a1 1 aK, .slice a2 1 aG, .bool f.hR, .bool f.fC, .slice a3 1 bd],some vE⟩]::[⟨bx,0,[.slice a n c],some q8⟩]::[⟨aP,0,[.int .i64 0, .slice none 0 0, .slice none 0 0, .bool false, .bool false, .slice none 0 0],some T2⟩]::[⟨al,0,kq u,some ek⟩]::R),
   ⟨_,_,_,m12.cell 1 rfl 1 rfl,_,m12.cell 0 rfl 19 uY,_,_,_,m12.cell 1 rfl 2 rfl,_,m12.cell 0 rfl 20 wM,_,_,_,m12.cell 1 rfl 5 rfl,_,_,_,m12.cell 0 rfl 23 AO,?_⟩,λ_=>?_⟩
  ·repeat' first
    |exact⟨_,_,_,_,_,_,aa.aB (aa.aB (aa.aB (aa.aB ‹_›)))⟩
    |refine aa.store ‹_› 4 rfl 1 rfl λ_ _=>?_
    |refine aa.store ‹_› 4 rfl 2 rfl λ_ _=>?_
    |refine aa.store ‹_› 4 rfl 5 rfl λ_ _=>?_
    |refine aa.bb ‹_› λ_ _ _=>?_
    |refine⟨_,⟨aa.bE ‹_› 0 rfl rfl,DQ rfl⟩,LW ‹_› rfl (by decide) (by decide) λ_ _ _ _=>?_⟩
    |refine⟨_,⟨aa.bE ‹_› 1 rfl rfl,DQ rfl⟩,LW ‹_› rfl (by decide) (by decide) λ_ _ _ _=>?_⟩
    |refine⟨_,⟨aa.bE ‹_› 2 rfl rfl,DQ rfl⟩,LW ‹_› rfl (by decide) (by decide) λ_ _ _ _=>?_⟩
    |refine⟨aa.cell ‹_› 1 rfl 23 AO,?_⟩
    |refine⟨aa.cell ‹_› 2 rfl 23 AO,?_⟩
    |refine⟨aa.cell ‹_› 3 rfl 23 AO,?_⟩
    |refine⟨aa.cell ‹_› 1 rfl 20 wM,?_⟩
    |refine⟨aa.cell ‹_› 2 rfl 20 wM,?_⟩
    |refine⟨aa.cell ‹_› 3 rfl 20 wM,?_⟩
    |refine⟨aa.cell ‹_› 1 rfl 19 uY,?_⟩
    |refine⟨aa.cell ‹_› 2 rfl 19 uY,?_⟩
    |refine⟨aa.cell ‹_› 2 rfl 1 rfl,?_⟩
    |refine⟨aa.cell ‹_› 3 rfl 1 rfl,?_⟩
    |refine⟨aa.cell ‹_› 2 rfl 2 rfl,?_⟩
    |refine⟨aa.cell ‹_› 3 rfl 2 rfl,?_⟩
    |refine⟨aa.cell ‹_› 4 rfl 2 rfl,?_⟩
    |refine⟨aa.cell ‹_› 2 rfl 5 rfl,?_⟩
    |refine⟨aa.cell ‹_› 3 rfl 5 rfl,?_⟩
    |refine⟨aa.cell ‹_› 4 rfl 5 rfl,?_⟩
    |refine⟨?_,?_⟩
  rintro aq8 ⟨a1,aK,a2,aG,a3,bd,m13⟩
  exact⟨by simp only[fits];decide, .inr ⟨rfl,aQ,a1,aK,a2,aG,a3,bd,hle,m13⟩,by dsimp only;decide⟩
 ·refine bF (by decide) ⟨_,m5.bE 3 rfl hl.symm,(ab7 A5 hz U (by rw[<-Am];exact hn) m5).mono ?_⟩
  rintro _ aU ⟨rfl,m6⟩
  exact⟨_,rfl,true,jk,aZ rfl ⟨_,m6.bE 0 rfl rfl,m6.c8 2 rfl rfl rfl (by intro u hu;simp at hu;rcases hu with rfl|rfl|rfl|rfl|rfl|rfl<;>rfl) λbW m7=>⟨_,m7.bE 2 rfl rfl,W',a1,aK,a2,aG,a3,bd,hle,rfl,m7.aB.aB.aB.aB⟩⟩⟩
end
end Go.Proofs.YtjlkfjnfnonekaaGreatDoor
