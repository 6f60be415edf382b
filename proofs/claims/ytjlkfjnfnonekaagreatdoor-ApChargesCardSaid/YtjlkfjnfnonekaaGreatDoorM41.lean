import Derived.Test.YtjlkfjnfnonekaaGreatDoorM40
import Derived.Test.YtjlkfjnfnonekaaGreatDoorM36
set_option linter.all false
namespace Go.Proofs.YtjlkfjnfnonekaaGreatDoor
open Go.Vc
def fL (P:dk->Prop) (x:ab):Prop:=∀k s,x.st.getD k none=some s->∀t,t<8->P (s.l.getD t ak)
structure iL (c:jT) (y:dk):Prop where
 b:dB y.s
 r:y.s.cY=c.rt/\y.s.size=c.wn/\y.s.fG=c.iT
 v:0<=y.dy/\y.dy<=16
 u:y.under=false->y.s.st≠2/\∀f∈y.s.l,f.a6=false
 n:∀f∈y.s.l,f.m.cZ<=c.rt+1
 a:y.s.st=2->y.dy<=c.rt
 st:y.s.st=1\/y.s.st=2\/y.s.st=3
structure kx (c:jT) (y:dk):Prop extends iL c y where
 w:y.under=false->∀f∈y.s.l,f.m.cZ<=c.rt
structure vz (x:ab):Prop extends bl x where
 aO:fL (iL x.c) x
 dp:∀k,k<16->((x.st.getD k none).isSome=true↔((k:Int)+1)∈cc x.dh 0)
 al9:∀j,j<4->∀k,k<16->((x.bc.getD j c3).getD k none).isSome=(x.st.getD k none).isSome
section
variable{x:ab} {aid tid now:Int} {s s':ba} {k t:Nat} {P Q:dk->Prop} {c:jT} {y z:dk} {p:bh}
theorem fL.at (h:fL P x) (hs:x.of aid=some s) (ht:t<8):P (s.l.getD t ak):=h _ _ (ab.iU hs).2 t ht
theorem fL.set (n:eG x) (h:fL P x) (hs:x.of aid=some s) (ht:t<8) (hz:P z):fL P (x.bw aid (some (s.aW t z))):=by
 obtain⟨h1,h2⟩:=ab.iU hs
 intro k s' I aR gu
 replace I:(x.st.set (aD aid) (some (s.aW t z))).getD k none=some s':=I
 rw[fg (by rw[n.st];exact my h1)]at I
 split at I
 ·cases I
  rw[ba.qz (n.lens hs).1 ht]
  split
  ·exact hz
  ·exact h.at hs gu
 ·exact h k s' I aR gu
theorem aly {u:aS}:(u.de now).st=u.st/\(u.de now).cY=u.cY/\(u.de now).size=u.size/\(u.de now).fG=u.fG:=by
 unfold aS.de;split<;>exact⟨rfl,rfl,rfl,rfl⟩
theorem abi {u:aS}:u.gT.1.l=u.l/\u.gT.1.cY=u.cY/\u.gT.1.size=u.size/\u.gT.1.fG=u.fG/\(u.gT.1.st=u.st\/u.gT.1.st=1):=by
 unfold aS.gT
 split
 ·exact⟨rfl,rfl,rfl,rfl, .inl rfl⟩
 ·split
  ·exact⟨rfl,rfl,rfl,rfl, .inr rfl⟩
  ·exact⟨rfl,rfl,rfl,rfl, .inl rfl⟩
theorem iL.de (h:iL c y):kx c (lq now y):=by
 obtain⟨s1,s2,sR,Bg⟩:=aly (u:=y.s) (now:=now)
 have hl:∀f∈(y.s.de now).l,f∈y.s.l/\kJ y.s.cY now f=false:= λf hf=>by
  rw[aS.alx]at hf
  obtain⟨h1,h2⟩:=List.mem_filter.1 hf
  exact⟨h1,by simpa using h2⟩
 have hb:=h.b.de (now:=now)
 have base:kx c (y.dE (y.s.de now)):=by
  refine⟨⟨hb,⟨s2.trans h.r.1,sR.trans h.r.2.1,Bg.trans h.r.2.2⟩,h.v,λhu=>⟨by show(y.s.de now).st≠2;rw[s1];exact(h.u hu).1,λf hf=>(h.u hu).2 f (hl f hf).1⟩,λf hf=>h.n f (hl f hf).1,λh2=>h.a (by rw[<-s1];exact h2),?_⟩,λhu f hf=>?_⟩
  ·show(y.s.de now).st=1\/_;rw[show(y.dE (y.s.de now)).s.st=(y.s.de now).st from rfl,s1];exact h.st
  ·obtain⟨h1,h2⟩:=hl f hf
   have gp:=(h.u hu).2 f h1
   unfold kJ qQ at h2
   rw[gp]at h2
   by_cases hg:y.s.cY<f.m.cZ
   ·simp[hg]at h2
   ·rw[<-h.r.1];omega
 unfold lq
 split
 ·rename_i hc
  obtain⟨af,ag,aI,cx,cy⟩:=abi (u:=y.s.de now)
  have ld:(y.s.de now).gT.1.l=[]:=by rw[af];exact hc.2
  refine⟨⟨hb.gT,⟨ag.trans (s2.trans h.r.1),aI.trans (sR.trans h.r.2.1),cx.trans (Bg.trans h.r.2.2)⟩,h.v,λhu=>⟨?_,λf hf=>?_⟩,λf hf=>?_,λh2=>?_,?_⟩,λhu f hf=>?_⟩
  ·show(y.s.de now).gT.1.st≠2
   rcases cy with cy|cy
   ·rw[cy,s1];exact(h.u hu).1
   ·rw[cy];decide
  ·replace hf:f∈(y.s.de now).gT.1.l:=hf
   rw[ld]at hf;cases hf
  ·replace hf:f∈(y.s.de now).gT.1.l:=hf
   rw[ld]at hf;cases hf
  ·replace h2:(y.s.de now).gT.1.st=2:=h2
   rcases cy with cy|cy
   ·rw[cy,s1]at h2;exact h.a h2
   ·rw[cy]at h2;exact absurd h2 (by decide)
  ·show(y.s.de now).gT.1.st=1\/(y.s.de now).gT.1.st=2\/(y.s.de now).gT.1.st=3
   rcases cy with cy|cy
   ·rw[cy,s1];exact h.st
   ·exact .inl cy
  ·replace hf:f∈(y.s.de now).gT.1.l:=hf
   rw[ld]at hf;cases hf
 ·exact base
theorem iL.ok (h:iL c y):r6 y:=⟨h.b.ok,by have:=h.v;omega,by have:=h.v;omega⟩
theorem VX (hs:x.of aid=some s) (hu:(s.l.getD t ak).under=false):x.l4 aid t=(x.bw aid (some (s.aW t (lq x.now (s.l.getD t ak))))).dX (nD x.now (s.l.getD t ak) x.book):=by
 unfold ab.l4
 rw[ab.hj hs,if_neg (by rw[hu];decide)]
 unfold ab.de
 rw[ab.lJ hs,ab.hj hs]
theorem Nk (hs:x.of aid=some s) (hu:(s.l.getD t ak).under=true):x.l4 aid t=x:=by
 unfold ab.l4
 rw[ab.hj hs,if_pos hu]
structure oX (x y:ab):Prop where
 c:y.c=x.c
 now:y.now=x.now
 dh:y.dh=x.dh
 pow:y.pow=x.pow
 bK:y.bK=x.bK
 cM:y.cM=x.cM
 bc:y.bc=x.bc
 ed:y.ed=x.ed
 num:y.num=x.num
 ways:y.ways=x.ways
 some:∀k,(y.st.getD k none).isSome=(x.st.getD k none).isSome
theorem oX.mF:oX x x:=⟨rfl,rfl,rfl,rfl,rfl,rfl,rfl,rfl,rfl,rfl,λ_=>rfl⟩
theorem oX.trans {x y z:ab} (h:oX x y) (k:oX y z):oX x z:=⟨k.c.trans h.c,k.now.trans h.now,k.dh.trans h.dh,k.pow.trans h.pow,k.bK.trans h.bK,k.cM.trans h.cM,k.bc.trans h.bc,k.ed.trans h.ed,k.num.trans h.num,k.ways.trans h.ways,λi=>(k.some i).trans (h.some i)⟩
theorem MU (n:x.st.length=16) (hs:x.of aid=some s):∀k,((x.bw aid (some s')).st.getD k none).isSome=(x.st.getD k none).isSome:=by
 obtain⟨h1,h2⟩:=ab.iU hs
 intro k
 show((x.st.set (aD aid) (some s')).getD k none).isSome=_
 rw[fg (by rw[n];exact my h1)]
 split
 ·rename_i e;subst e;rw[h2];rfl
 ·rfl
theorem VY (n:x.st.length=16):oX x (x.l4 aid t):=by
 cases hs:x.of aid with
 |none=>
  have e:x.aT aid t=ak:=by unfold ab.aT;rw[hs]
  unfold ab.l4 ab.de
  rw[e,if_neg (by decide)]
  have ag:∀z,x.aW aid t z=x:= λz=>by unfold ab.aW;rw[hs]
  rw[ag];exact⟨rfl,rfl,rfl,rfl,rfl,rfl,rfl,rfl,rfl,rfl,λ_=>rfl⟩
 |some s=>
  cases hu:(s.l.getD t ak).under with
  |true=>rw[Nk hs hu];exact oX.mF
  |false=>rw[VX hs hu];exact⟨rfl,rfl,rfl,rfl,rfl,rfl,rfl,rfl,rfl,rfl,MU n hs⟩
theorem ah7 {y:ab} (h:∀k,(y.st.getD k none).isSome=(x.st.getD k none).isSome):(y.of aid).isSome=(x.of aid).isSome:=by
 unfold ab.of
 split
 ·exact h _
 ·rfl
theorem wW {y:ab} (h:∀k,(y.st.getD k none).isSome=(x.st.getD k none).isSome) (hs:∃s,x.of aid=some s):∃s,y.of aid=some s:=by
 obtain⟨s,hs⟩:=hs
 have:=ah7 (aid:=aid) h
 rw[hs]at this
 exact Option.isSome_iff_exists.1 this
def IP (x:ab) (aid:Int) (n:Nat):Prop:=∀s,x.of aid=some s->∀t,t<n->t<8->kx x.c (s.l.getD t ak)
theorem alu (ok:bl x) (aO:fL (iL x.c) x) (hs:x.of aid=some s) (ht:t<8):bl (x.l4 aid t)/\fL (iL x.c) (x.l4 aid t)/\(∀s',(x.l4 aid t).of aid=some s'->kx x.c (s'.l.getD t ak)/\∀j,j<8->j≠t->s'.l.getD j ak=s.l.getD j ak)/\∀b,b≠aid->(x.l4 aid t).of b=x.of b:=by
 have hl:=aO.at hs ht
 cases hu:(s.l.getD t ak).under with
 |true=>
  rw[Nk hs hu]
  exact⟨ok,aO,λs' h=>by rw[hs]at h;cases h;exact⟨⟨hl,λh=>by rw[hu]at h;cases h⟩,λj _ _=>rfl⟩,λb _=>rfl⟩
 |false=>
  rw[VX hs hu]
  have yx:=hl.de (now:=x.now)
  refine⟨(ok.aW hs ht yx.toiL.ok).dX (by unfold nD;rw[FA];exact ok.bk),?_,λs' h=>?_,λb hb=>?_⟩
  ·exact fL.set ok.toeG aO hs ht yx.toiL
  ·have h2:(x.bw aid (some (s.aW t (lq x.now (s.l.getD t ak))))).of aid=some s':=h
   rw[ab.rE ok.st hs]at h2
   cases h2
   refine⟨by rw[ba.qz (ok.lens hs).1 ht,if_pos rfl];exact yx,λj ah b6=>by rw[ba.qz (ok.lens hs).1 ht,if_neg b6]⟩
  ·show(x.bw aid (some (s.aW t (lq x.now (s.l.getD t ak))))).of b=x.of b
   unfold ab.of
   split
   ·rename_i nQ
    show(x.st.set (aD aid) _).getD (aD b) none=_
    obtain⟨h1,-⟩:=ab.iU hs
    rw[fg (by rw[ok.st];exact my h1),if_neg (by unfold aD;omega)]
   ·rfl
theorem Np (ok:bl x) (aO:fL (iL x.c) x) (hs:∃s,x.of aid=some s):∀n,n<=8->bl (x.kQ aid n)/\fL (iL x.c) (x.kQ aid n)/\oX x (x.kQ aid n)/\IP (x.kQ aid n) aid n/\∀b,b≠aid->(x.kQ aid n).of b=x.of b
 |0,_=>⟨ok,aO,oX.mF,λs _ t ht=>by omega,λb _=>rfl⟩
 |n+1,hn=>by
  obtain⟨h1,h2,h3,h4,aA⟩:=Np ok aO hs n (by omega)
  obtain⟨s,hs⟩:=wW h3.some hs
  have cP:=h3.c
  obtain⟨k1,k2,k3,k4⟩:=alu (t:=n) h1 (by rw[cP];exact h2) hs (by omega)
  rw[cP]at k2 k3
  refine⟨k1,k2,h3.trans (VY h1.st),λs' uO t ht eY=>?_,λb hb=>(k4 b hb).trans (aA b hb)⟩
  rw[show((x.kQ aid (n+1)).c)=x.c from(h3.trans (VY h1.st)).c]
  obtain⟨m1,m2⟩:=k3 s' uO
  by_cases e:t=n
  ·subst e;exact m1
  ·rw[m2 t eY e]
   have:=h4 s hs t (by omega) eY
   rwa[cP]at this
theorem VZ {l:List Int} {b:Int}:x.lL (l++[b])=(x.lL l).kQ b 8:=by unfold ab.lL;rw[List.foldl_append];rfl
theorem Nl (ok:bl x) (aO:fL (iL x.c) x) {l:List Int} (hl:∀b∈l,∃s,x.of b=some s):∀n,n<=l.length->bl (x.lL (l.take n))/\fL (iL x.c) (x.lL (l.take n))/\oX x (x.lL (l.take n))/\∀b∈l.take n,IP (x.lL (l.take n)) b 8
 |0,_=>⟨ok,aO,oX.mF,λb hb=>by cases hb⟩
 |n+1,hn=>by
  obtain⟨h1,h2,h3,h4⟩:=Nl ok aO hl n (by omega)
  rw[Ib (by omega),VZ]
  obtain⟨k1,k2,k3,k4,j6⟩:=Np (aid:=l[n]) h1 (by rw[h3.c];exact h2) (wW h3.some (hl _ (List.getElem_mem _))) 8 (Nat.le_refl _)
  rw[h3.c]at k2
  refine⟨k1,k2,h3.trans k3,λc hc=>?_⟩
  by_cases e:c=l[n]
  ·subst e;exact k4
  ·rcases List.mem_append.1 hc with hc|hc
   ·intro s hs t ht eY
    rw[j6 c e]at hs
    rw[k3.c]
    exact h4 c hc s hs t ht eY
   ·simp at hc;exact absurd hc e
theorem alv (ok:bl x) (aO:fL (iL x.c) x) {l:List Int} (hl:∀b∈l,∃s,x.of b=some s):bl (x.lL l)/\fL (iL x.c) (x.lL l)/\oX x (x.lL l)/\∀b∈l,IP (x.lL l) b 8:=by
 have:=Nl ok aO hl l.length (Nat.le_refl _)
 rwa[List.take_length]at this
end
end Go.Proofs.YtjlkfjnfnonekaaGreatDoor
namespace Go.Proofs.YtjlkfjnfnonekaaGreatDoor
open Go.Vc
theorem Uc {α:Type} {R:α->α->Prop} (yC:∀a,¬R a a) (OV:∀a b,R a b->¬R b a):∀{l bI:List α},l.Pairwise R->bI.Pairwise R->(∀a,a∈l↔a∈bI)->l=bI
 |[],[],_,_,_=>rfl
 |[],b::r,_,_,h=>by have:=(h b).2 (List.mem_cons_self ..);cases this
 |a::r,[],_,_,h=>by have:=(h a).1 (List.mem_cons_self ..);cases this
 |a::r,b::asg,h1,h2,h=>by
  obtain⟨p1,p2⟩:=List.pairwise_cons.1 h1
  obtain⟨q1,q2⟩:=List.pairwise_cons.1 h2
  have e:a=b:=by
   rcases List.mem_cons.1 ((h a).1 (List.mem_cons_self ..))with e|e
   ·exact e
   ·rcases List.mem_cons.1 ((h b).2 (List.mem_cons_self ..))with ag|ag
    ·exact ag.symm
    ·exact absurd (p1 b ag) (OV _ _ (q1 a e))
  subst e
  congr 1
  refine Uc yC OV p2 q2 λc=>⟨λhc=>?_,λhc=>?_⟩
  ·rcases List.mem_cons.1 ((h c).1 (List.mem_cons_of_mem _ hc))with e|e
   ·subst e;exact absurd (p1 c hc) (yC c)
   ·exact e
  ·rcases List.mem_cons.1 ((h c).2 (List.mem_cons_of_mem _ hc))with e|e
   ·subst e;exact absurd (q1 c hc) (yC c)
   ·exact e
section
variable{S:dm} {a b c:Int} {l:List Int}
theorem agp (a:Int):¬oC S a a:=by
 rintro⟨x,y,h1,h2,h⟩
 rw[h1]at h2;cases h2;omega
theorem ago (a b:Int) (h:oC S a b):¬oC S b a:=by
 obtain⟨x,y,h1,h2,h⟩:=h
 rintro⟨z,w,k1,k2,k⟩
 rw[h1]at k2;rw[h2]at k1;cases k1;cases k2;omega
theorem agr (h:oC S a b) (k:oC S b c):oC S a c:=by
 obtain⟨x,y,h1,h2,h⟩:=h
 obtain⟨z,w,k1,k2,k⟩:=k
 rw[h2]at k1;cases k1
 exact⟨x,w,h1,k2,by omega⟩
theorem Ty:LH S a b=true↔oC S a b:=by
 unfold LH oC
 constructor
 ·intro h
  split at h
  ·rename_i x y h1 h2;refine⟨x,y,h1,h2,?_⟩;simp at h;exact h
  ·cases h
 ·rintro⟨x,y,h1,h2,h⟩
  rw[h1,h2];simp;exact h
theorem agq (ha:∃x,hB S a=some x) (hb:∃x,hB S b=some x) (b6:a≠b) (h:¬oC S a b):oC S b a:=by
 obtain⟨x,hx⟩:=ha
 obtain⟨y,hy⟩:=hb
 refine⟨y,x,hy,hx,?_⟩
 have:¬(x.t<y.t\/x.t=y.t/\a<b):= λk=>h ⟨x,y,hx,hy,k⟩
 omega
theorem Ln:∀{l:List Int},b∈qu S a l↔b=a\/b∈l
 |[]=>by simp[qu]
 |c::l=>by
  unfold qu
  split
  ·simp
  ·simp only[List.mem_cons,Ln (l:=l)]
   constructor
   ·rintro(h|h|h)
    ·exact .inr (.inl h)
    ·exact .inl h
    ·exact .inr (.inr h)
   ·rintro(h|h|h)
    ·exact .inr (.inl h)
    ·exact .inl h
    ·exact .inr (.inr h)
theorem SZ (ha:∃x,hB S a=some x):∀{l:List Int},(∀b∈l,(∃x,hB S b=some x)/\b≠a)->l.Pairwise (oC S)->(qu S a l).Pairwise (oC S)
 |[],_,_=>by simp[qu]
 |c::l,hl,hp=>by
  obtain⟨p1,p2⟩:=List.pairwise_cons.1 hp
  have hc:=hl c (List.mem_cons_self ..)
  unfold qu
  split
  ·rename_i h
   have h:=Ty.1 h
   refine List.pairwise_cons.2 ⟨λb hb=>?_,hp⟩
   rcases List.mem_cons.1 hb with rfl|hb
   ·exact h
   ·exact agr h (p1 b hb)
  ·rename_i h
   have h2:oC S c a:=agq ha hc.1 hc.2.symm λk=>h (Ty.2 k)
   refine List.pairwise_cons.2 ⟨λb hb=>?_,SZ ha (λb hb=>hl b (List.mem_cons_of_mem _ hb)) p2⟩
   rcases Ln.1 hb with rfl|hb
   ·exact h2
   ·exact p1 b hb
theorem Kh:∀{l:List Int},l.Nodup->(∀b∈l,∃x,hB S b=some x)->(∀b,b∈l.foldr (qu S) []↔b∈l)/\(l.foldr (qu S) []).Pairwise (oC S)
 |[],_,_=>⟨λb=>Iff.rfl,List.Pairwise.nil⟩
 |a::l,hn,hg=>by
  obtain⟨bC,eE⟩:=List.nodup_cons.1 hn
  obtain⟨h1,h2⟩:=Kh eE λb hb=>hg b (List.mem_cons_of_mem _ hb)
  refine⟨λb=>?_,?_⟩
  ·simp only[List.foldr_cons,List.mem_cons];rw[Ln,h1]
  ·refine SZ (hg a (List.mem_cons_self ..)) (λb hb=>⟨hg b (List.mem_cons_of_mem _ ((h1 b).1 hb)),λe=>?_⟩) h2
   subst e;exact bC ((h1 b).1 hb)
theorem G7:a∈DP S↔∃s,hB S a=some s/\s.on=true:=by
 unfold DP
 rw[List.mem_filter]
 constructor
 ·rintro⟨-,h⟩
  cases e:hB S a with
  |none=>rw[e]at h;cases h
  |some s=>rw[e]at h;exact⟨s,rfl,h⟩
 ·rintro⟨s,h,hs⟩
  refine⟨?_,by rw[h];exact hs⟩
  unfold hB nE at h
  split at h
  ·rename_i hc;simp at hc⊢;omega
  ·cases h
theorem SY:∀{l:List Int},(qu S a l).length=l.length+1
 |[]=>rfl
 |c::l=>by
  unfold qu
  split
  ·rfl
  ·simp only[List.length_cons,SY (l:=l)]
theorem ait:(rJ S).length<=16:=by
 have key:∀l:List Int,(l.foldr (qu S) []).length=l.length:= λl=>by
  induction l with
  |nil=>rfl
  |cons z l b9=>rw[List.foldr_cons,SY,b9];rfl
 unfold rJ
 rw[key]
 exact List.length_filter_le _ _
theorem aiv {o:List Int} (h:BH S o):o=rJ S:=by
 have hn:(DP S).Nodup:=List.Pairwise.sublist List.filter_sublist (show([1,2,3,4,5,6,7,8,9,10,11,12,13,14,15,16]:List Int).Nodup by decide)
 obtain⟨h1,h2⟩:=Kh hn λb hb=>by obtain⟨s,hs,-⟩:=G7.1 hb;exact⟨s,hs⟩
 refine Uc agp ago h.p h2 λa=>?_
 rw[h.m a];unfold rJ;rw[h1 a,G7]
end
end Go.Proofs.YtjlkfjnfnonekaaGreatDoor
namespace Go.Proofs.YtjlkfjnfnonekaaGreatDoor
open Go.Vc
section
variable{x:ab} {aid tid now ticks:Int} {s s':ba} {k t n:Nat} {P Q:dk->Prop} {c:jT} {y z:dk} {p:bh} {all l:List cq} {r:bo} {mm:lP} {alone:Bool} {f:cq} {u:bR}
theorem fL.ah8 {x y:ab} (h:fL P x) (e:y.st=x.st):fL P y:=by
 intro k s I;rw[e]at I;exact h k s I
structure jV (x y:ab):Prop where
 some:∀k,(y.st.getD k none).isSome=(x.st.getD k none).isSome
 un:∀aid (t:Int),(y.aT aid t).under=(x.aT aid t).under
theorem jV.mF:jV x x:=⟨λ_=>rfl,λ_ _=>rfl⟩
theorem jV.trans {x y z:ab} (h:jV x y) (k:jV y z):jV x z:=⟨λi=>(k.some i).trans (h.some i),λa t=>(k.un a t).trans (h.un a t)⟩
theorem TY {b:Int} {o:Option ba} (n:x.st.length=16) (hs:x.of aid=some s) (hb:b≠aid):(x.bw aid o).of b=x.of b:=by
 unfold ab.of
 split
 ·rename_i nQ
  show(x.st.set (aD aid) _).getD (aD b) none=_
  obtain⟨h1,-⟩:=ab.iU hs
  rw[fg (by rw[n];exact my h1),if_neg (by unfold aD;omega)]
 ·rfl
theorem MW (n:eG x) (hs:x.of aid=some s) (ht:t<8) (hz:z.under=(s.l.getD t ak).under):jV x (x.bw aid (some (s.aW t z))):=by
 refine⟨MU n.st hs,λb aR=>?_⟩
 unfold ab.aT
 by_cases e:b=aid
 ·subst e
  rw[ab.rE n.st hs,hs]
  show((s.aW t z).l.getD aR.toNat ak).under=(s.l.getD aR.toNat ak).under
  rw[ba.qz (n.lens hs).1 ht]
  split
  ·rename_i ag;rw[hz,ag]
  ·rfl
 ·rw[TY n.st hs e]
theorem Rn (c:ej x aid t s l) (h:fL (kx x.c) x) (ht:t<8) (U:(s.l.getD t ak).s.w.room≠0):fL (kx x.c) (x.fresh aid t).1/\jV x (x.fresh aid t).1:=by
 cases e:(x.bK.gy aid t x.now).2.2 with
 |none=>rw[Ag e];exact⟨h,⟨λ_=>rfl,λ_ _=>rfl⟩⟩
 |some p=>
  rw[yd e]
  obtain⟨CH,tq,wg,-⟩:=Eu (aid:=aid) (tid:=t) c.ok.dY c.ok.now
  have uN:=c.ok.eh p (wg p (List.mem_append_right _ (by rw[e];simp)))
  have lX:(x.take aid t).of aid=some s:=c.hs
  have FF:(x.take aid t).sk aid t p=((x.take aid t).bw aid (some (s.aW t ((s.l.getD t ak).dE ((s.l.getD t ak).s.fresh p x.now))))).dX (ma (x.take aid t).book p.id 2):=by
   unfold ab.sk
   rw[ab.lJ lX,ab.hj lX];rfl
  rw[FF]
  have hl:=h.at c.hs ht
  have hz:kx x.c ((s.l.getD t ak).dE ((s.l.getD t ak).s.fresh p x.now)):=by
   have mem:∀f,f∈((s.l.getD t ak).s.fresh p x.now).l->f∈(s.l.getD t ak).s.l\/(f.a6=false/\f.m.cZ=0):= λf hf=>by
    rcases List.mem_append.1 (show f∈(s.l.getD t ak).s.l++[_]from hf)with hf|hf
    ·exact .inl hf
    ·simp at hf;subst hf;exact .inr ⟨rfl,rfl⟩
   have adW:=c.ok.nd.rt
   refine⟨⟨hl.b.fresh U uN,hl.r,hl.v,λhu=>⟨(hl.u hu).1,λf hf=>(mem f hf).elim ((hl.u hu).2 f) λk=>k.1⟩,λf hf=>(mem f hf).elim (hl.n f) λk=>by rw[k.2];omega,hl.a,hl.st⟩,λhu f hf=>(mem f hf).elim (hl.w hu f) λk=>by rw[k.2];omega⟩
  have lD:=MW (x:=x.take aid t) (z:=(s.l.getD t ak).dE ((s.l.getD t ak).s.fresh p x.now)) c.ok.take.toeG lX ht rfl
  refine⟨?_,⟨lD.some,lD.un⟩⟩
  exact fL.set (x:=x.take aid t) c.ok.take.toeG h lX ht hz
theorem P1 (ht:t<8):∀n (x:ab) (s:ba) (l:List cq),ej x aid t s l->fL (kx x.c) x->fL (kx x.c) (ab.k8 r mm aid t n x l).1/\jV x (ab.k8 r mm aid t n x l).1
 |0,x,s,l,c,h=>⟨h,jV.mF⟩
 |n+1,x,s,l,c,h=>by
  by_cases hn:0<(x.aT aid t).s.w.room/\ib r mm (c2 l++[1526])=true
  ·have U:=MK c hn.1
   obtain⟨h1,h2⟩:=Rn c h ht U
   have cP:(x.fresh aid t).1.c=x.c:=Ah.c
   obtain⟨s',f,k1|⟨k2,k3,-⟩⟩:=c.fresh ht U
   ·rw[Ca hn k1.1];exact⟨h1,h2⟩
   ·rw[Cb hn k2]
    obtain⟨g1,g2⟩:=P1 ht n _ s' _ k3 (by rw[cP];exact h1)
    rw[cP]at g1
    exact⟨g1,h2.trans g2⟩
  ·rw[zS hn];exact⟨h,jV.mF⟩
theorem P4 (ht:t<8) (c:ej x aid t s l) (h:fL (kx x.c) x):fL (kx x.c) (x.jZ r mm aid t alone l).1/\jV x (x.jZ r mm aid t alone l).1:=by
 unfold ab.jZ
 split
 ·exact⟨h,jV.mF⟩
 ·split
  ·exact⟨h,jV.mF⟩
  ·exact P1 ht 64 x s l c h
theorem P8 (ht:t<8) (c:ej x aid t s all) (h:fL (kx x.c) x):fL (kx x.c) (x.choose r aid t ticks alone).1/\jV x (x.choose r aid t ticks alone).1:=by
 by_cases hd:(x.aT aid t).s.due.length=0
 ·have ld:all=[]:=by rw[ab.hj c.hs,c.due]at hd;exact List.length_eq_zero_iff.1 hd
  subst ld
  obtain⟨h1,h2⟩:=Rn c h ht c.xf
  have cP:(x.fresh aid t).1.c=x.c:=Ah.c
  obtain⟨s',f,k1|⟨k2,k3,-⟩⟩:=c.fresh ht c.xf
  ·rw[Cd hd k1.1];exact⟨h1,h2⟩
  ·rw[Ce hd k2]
   obtain⟨g1,g2⟩:=P4 (r:=r) (mm:=⟨(x.aT aid t).s.w.sz,x.c.ix,ticks⟩) (alone:=alone) ht k3 (by rw[cP];exact h1)
   rw[cP]at g1
   exact⟨g1,h2.trans g2⟩
 ·rw[Cc hd,ab.hj c.hs,c.due];exact P4 ht c h
theorem kx.agk (ok:bl x) (h:fL (kx x.c) x) (hs:x.of aid=some s) (ht:t<8) (hu:(s.l.getD t ak).under=false):xC x aid t s:=by
 have hl:=h.at hs ht
 have adW:=ok.nd.rt
 exact⟨ok,hs,hl.b,(hl.u hu).1,(hl.u hu).2,λf hf=>by have:=hl.w hu f hf;omega⟩
theorem agH (c:xC x aid t s) (h:fL (kx x.c) x) (ht:t<8) (hn:(x.make aid t).2=none):fL (kx x.c) (x.make aid t).1/\jn x (x.make aid t).1/\jV x (x.make aid t).1:=by
 have gr:s.aT (t:Int)=s.l.getD t ak:=by unfold ba.aT;rw[Int.toNat_natCast]
 unfold ab.make at hn⊢
 rw[c.hs]at hn⊢
 dsimp only at hn⊢
 rw[gr]at hn⊢
 by_cases hq:(s.l.getD t ak).s.asks=true
 ·rw[if_pos hq]at hn;cases hn
 ·rw[if_neg hq]at hn⊢
  have hq:(s.l.getD t ak).s.asks=false:=by simpa using hq
  split
  ·rename_i hc
   rw[if_pos hc]at hn
   split
   ·rename_i I;rw[if_pos I]at hn;cases hn
   ·exact⟨h,jn.mF,jV.mF⟩
  ·rename_i hc
   rw[if_neg hc]at hn
   unfold ab.data at hn⊢
   have AE:(x.mO aid t (s.l.getD t ak)).aid=aid:=rfl
   have AF:(x.mO aid t (s.l.getD t ak)).tid=(t:Int):=rfl
   rw[AE,AF]at hn⊢
   split
   ·obtain⟨g1,g2⟩:=P8 (r:=s.r) (ticks:=(x.mO aid t (s.l.getD t ak)).ticks) (alone:=decide ((s.l.getD t ak).s.st=1)||tR x.pow aid) ht (c.ch hq) h
    exact⟨g1,JG,g2⟩
   ·rename_i h0;rw[if_neg h0]at hn;cases hn
end
end Go.Proofs.YtjlkfjnfnonekaaGreatDoor
namespace Go.Proofs.YtjlkfjnfnonekaaGreatDoor
open Go.Vc
section
variable{x:ab} {aid tid now ticks slots ac:Int} {s s':ba} {k t n:Nat} {P Q:dk->Prop} {c:jT} {y z:dk} {p:bh} {all l:List cq} {r:bo} {mm:lP} {alone:Bool} {f:cq} {u:bR}
structure vD (x y:ab):Prop where
 c:y.c=x.c
 now:y.now=x.now
 dh:y.dh=x.dh
 cM:y.cM=x.cM
 bc:y.bc=x.bc
 ed:y.ed=x.ed
 num:y.num=x.num
 ways:y.ways=x.ways
theorem jn.m {x y:ab} (h:jn x y):vD x y:=⟨h.c,h.now,h.dh,h.cM,h.bc,h.ed,h.num,h.ways⟩
theorem vD.trans {x y z:ab} (h:vD x y) (k:vD y z):vD x z:=⟨k.c.trans h.c,k.now.trans h.now,k.dh.trans h.dh,k.cM.trans h.cM,k.bc.trans h.bc,k.ed.trans h.ed,k.num.trans h.num,k.ways.trans h.ways⟩
structure W6 (x:ab) (aid:Int) (t:Nat) (y:ab) (u:bR):Prop where
 Ou:u.aid=aid
 gz:u.tid=t
 Oi:u.ac=fA t
 bs:u.bss=x.c.bss
 alX:u.to=x.addr aid
 len:u.cO.length<=300000
 same:vD x y
 st:jV x y
theorem aiH {l:List (List Int)} (hx:∀p∈l,p.length<=4095):(nC l).length<=l.length*4102:=by
 have:=Ub hx l.length
 rwa[List.take_length]at this
theorem ZS (ht:t<8) (c:ej x aid t s all) (b6:(x.choose r aid t ticks alone).2.1≠[]):∃(s':ba) (BV:List cq) (n:Nat),ej (x.choose r aid t ticks alone).1 aid t s' BV/\(x.choose r aid t ticks alone).2.1=BV.take n:=by
 have more:∀(mm:lP) (n:Nat) (x:ab) (s:ba) (l:List cq),ej x aid t s l->∃s',ej (ab.k8 r mm aid t n x l).1 aid t s' (ab.k8 r mm aid t n x l).2:=by
  intro mm n
  induction n with
  |zero=>intro x s l c;exact⟨s,c⟩
  |succ n b9=>
   intro x s l c
   by_cases hn:0<(x.aT aid t).s.w.room/\ib r mm (c2 l++[1526])=true
   ·have U:=MK c hn.1
    obtain⟨s',f,k1|⟨k2,k3,-⟩⟩:=c.fresh ht U
    ·rw[Ca hn k1.1];exact⟨s,c.L2 U ht k1.1⟩
    ·rw[Cb hn k2];exact b9 _ s' _ k3
   ·rw[zS hn];exact⟨s,c⟩
 have two:∀(mm:lP) (x:ab) (s:ba) (l:List cq),ej x aid t s l->∃(s':ba) (BV:List cq) (n:Nat),ej (x.jZ r mm aid t alone l).1 aid t s' BV/\(x.jZ r mm aid t alone l).2.1=BV.take n:=by
  intro mm x s l c
  unfold ab.jZ
  split
  ·exact⟨s,l,1,c,rfl⟩
  ·split
   ·exact⟨s,l,_,c,rfl⟩
   ·obtain⟨s',c'⟩:=more mm 64 x s l c
    exact⟨s',_,(ab.k8 r mm aid t 64 x l).2.length,c',by rw[List.take_length]⟩
 by_cases hd:(x.aT aid t).s.due.length=0
 ·have ld:all=[]:=by rw[ab.hj c.hs,c.due]at hd;exact List.length_eq_zero_iff.1 hd
  subst ld
  obtain⟨s',f,k1|⟨k2,k3,-⟩⟩:=c.fresh ht c.xf
  ·rw[Cd hd k1.1]at b6;exact absurd rfl b6
  ·rw[Ce hd k2];exact two _ _ s' _ k3
 ·rw[Cc hd,ab.hj c.hs,c.due];exact two _ x s all c
theorem agI (c:xC x aid t s) (h:fL (kx x.c) x) (ht:t<8) (hn:(x.make aid t).2=some u):W6 x aid t (x.make aid t).1 u:=by
 have gr:s.aT (t:Int)=s.l.getD t ak:=by unfold ba.aT;rw[Int.toNat_natCast]
 have mj:=IZ (aid:=aid) c.ok
 unfold ab.make at hn⊢
 rw[c.hs]at hn⊢
 dsimp only at hn⊢
 rw[gr]at hn⊢
 by_cases hq:(s.l.getD t ak).s.asks=true
 ·rw[if_pos hq]at hn⊢
  cases hn
  refine⟨rfl,rfl,rfl,rfl,rfl,?_,⟨rfl,rfl,rfl,rfl,rfl,rfl,rfl,rfl⟩,⟨λ_=>rfl,λ_ _=>rfl⟩⟩
  show(k5 132 (x.addr aid) x.c.bss t (s.l.getD t ak).s.w.st).length<=300000
  unfold k5
  simp[mj.1,c.ok.bss]
 ·rw[if_neg hq]at hn⊢
  have hq:(s.l.getD t ak).s.asks=false:=by simpa using hq
  by_cases hc:(s.l.getD t ak).s.st=1/\(s.l.getD t ak).s.due.length=0/\1<x.c.wn/\(s.l.getD t ak).refused=false/\(s.l.getD t ak).dy<=x.c.rt
  ·rw[if_pos hc]at hn⊢
   by_cases I:((s.l.getD t ak).s.ask s.tok).2=none
   ·rw[if_pos I]at hn⊢
    cases hn
    have ih:jV x (x.pP aid t s):=by
     have h1:=MW (z:=(s.l.getD t ak).dE ((s.l.getD t ak).s.ask s.tok).1) c.ok.toeG c.hs ht rfl
     refine⟨MU c.ok.st c.hs,λb aR=>?_⟩
     have h2:=h1.un b aR
     unfold ab.aT at h2⊢
     by_cases e:b=aid
     ·subst e
      unfold ab.pP
      rw[gr]
      rw[ab.rE c.ok.st c.hs]at h2⊢
      exact h2
     ·unfold ab.pP
      rw[TY c.ok.st c.hs e]
    refine⟨rfl,rfl,rfl,rfl,rfl,?_,⟨rfl,rfl,rfl,rfl,rfl,rfl,rfl,rfl⟩,⟨ih.some,ih.un⟩⟩
    show(l9 (x.addr aid) x.c.bss x.c.bss false s.tok t x.c.wn 0 (s.aT t).s.w.dD 0).length<=300000
    unfold l9 yj w2
    simp[mj.1,c.ok.bss]
   ·rw[if_neg I]at hn;cases hn
  ·rw[if_neg hc]at hn⊢
   unfold ab.data at hn⊢
   have AE:(x.mO aid t (s.l.getD t ak)).aid=aid:=rfl
   have AF:(x.mO aid t (s.l.getD t ak)).tid=(t:Int):=rfl
   rw[AE,AF]at hn⊢
   obtain⟨alone,ml⟩:∃aO,aO=(decide ((s.l.getD t ak).s.st=1)||tR x.pow aid):=⟨_,rfl⟩
   obtain⟨iZ,dH⟩:∃iZ,iZ=(x.mO aid t (s.l.getD t ak)).ticks:=⟨_,rfl⟩
   rw[<-ml,<-dH]at hn⊢
   by_cases h0:(x.choose s.r aid t iZ alone).2.1.length=0
   ·rw[if_pos h0]at hn;cases hn
   ·rw[if_neg h0]at hn⊢
    cases hn
    obtain⟨g1,g2⟩:=P8 (r:=s.r) (ticks:=iZ) (alone:=alone) ht (c.ch hq) h
    obtain⟨s2,I1,n,aG,ag⟩:=ZS (r:=s.r) (ticks:=iZ) (alone:=alone) ht (c.ch hq) (λe=>h0 (by rw[e];rfl))
    have uP:jn x (x.choose s.r aid t iZ alone).1:=JG
    obtain⟨aJ,sB⟩:∃aJ,aJ=x.choose s.r aid t iZ alone:=⟨_,rfl⟩
    rw[<-sB]at g1 g2 aG ag uP h0⊢
    have SD:vD aJ.1 (aJ.1.mf s.r (x.mO aid t (s.l.getD t ak)) aJ.2.1 aJ.2.2).1/\jV aJ.1 (aJ.1.mf s.r (x.mO aid t (s.l.getD t ak)) aJ.2.1 aJ.2.2).1:=by
     unfold ab.mf
     dsimp only
     rw[AE,AF]
     obtain⟨bq,wI⟩:∃bq,bq=aJ.1.cZ aid (x.mO aid t (s.l.getD t ak)).ac (aJ.1.has aid t aJ.2.1.length):=⟨_,rfl⟩
     rw[<-wI]
     have wE:bq.of aid=some s2:=by rw[wI];exact aG.hs
     have qD:eG bq:=by rw[wI];exact⟨aG.ok.st,aG.ok.bc,aG.ok.l,aG.ok.bss,aG.ok.di⟩
     have cx:bq.hG aid t (l3 aJ.2.1)=bq.bw aid (some (s2.aW t ((s2.l.getD t ak).dE ((s2.l.getD t ak).s.hG (l3 aJ.2.1))))):=by
      unfold ab.hG;rw[ab.lJ wE,ab.hj wE]
     rw[cx]
     have h1:=MW (z:=(s2.l.getD t ak).dE ((s2.l.getD t ak).s.hG (l3 aJ.2.1))) qD wE ht rfl
     refine⟨by rw[wI];exact⟨rfl,rfl,rfl,rfl,rfl,rfl,rfl,rfl⟩,?_⟩
     have h0:jV aJ.1 bq:=by rw[wI];exact⟨λ_=>rfl,λ_ _=>rfl⟩
     exact h0.trans h1
    have un:zz aJ.1 (x.mO aid t (s.l.getD t ak)):=⟨⟨c.ok.bss,mj.1⟩,by rw[uP.c];rfl,c.ok.nd.cO,mj.2⟩
    refine⟨rfl,rfl,rfl,rfl,rfl,?_,uP.m.trans SD.1,g2.trans SD.2⟩
    have hlen:aJ.2.1.length<=64:=by rw[ag,List.length_take];have:=aG.len;omega
    have hp:∀(more eosp:Bool),∀p∈ko (x.mO aid t (s.l.getD t ak)) more eosp aJ.2.1,p.length<=4095:=by
     intro more eosp p hp
     obtain⟨m,hm,rfl⟩:=List.mem_map.1 hp
     have hf:=aG.Ro (more:=more) (eosp:=eosp) un ht rfl m (by rw[ag]at hm;exact List.mem_of_mem_take hm)
     rw[D1 hf];have:=hf.kB;omega
    unfold ab.mf
    dsimp only
    split
    ·refine Nat.le_trans (aiH (hp _ _)) ?_
     rw[Uf];omega
    ·have:∀l:List (List Int),(∀p∈l,p.length<=4095)->(l.headD []).length<=300000:=by
      intro l hl
      cases l with
      |nil=>simp
      |cons a r=>have:=hl a (List.mem_cons_self ..);show a.length<=300000;omega
     exact this _ (hp _ _)
theorem ajM (h:tid∈x.readies aid ac):(0<=tid/\tid<8)/\∀s,x.of aid=some s->(s.l.getD tid.toNat ak).under=false:=by
 obtain⟨h1,h2⟩:=List.mem_filter.1 h
 refine⟨by simp[lr]at h1;omega,λs hs=>?_⟩
 simp at h2
 have:=h2.2
 unfold ab.ready at this
 rw[hs]at this
 unfold ab.vj at this
 simp at this
 exact this.1
end
end Go.Proofs.YtjlkfjnfnonekaaGreatDoor
set_option maxRecDepth 8000
namespace Go.Proofs.YtjlkfjnfnonekaaGreatDoor
open Go.Vc
section
variable{W W' aQ:Wd} {h h':J} {R:List aL} {a:Nat} {y:cR} {g:cQ} {x:ab} {i j k t n:Nat} {v:Value} {A B:aL} {s s':ba} {b:Nat} {aid tid ac now air num slots:Int} {ads:List Addr} {u:bR} {vs:List Value} {cg:Option Addr} {bZ:Nat} {E:ao} {dr:List Int} {rd:List Bool} {ed:List h7}
theorem aH.l2 (q:aH W a y g x):aH W a y g (x.l2 ed):=⟨q.bk,q.dY,q.bc,q.st,q.lo,q.lM,q.wl,q.ul,q.us⟩
theorem aH.c6 (q:aH W a y g x):aH W a y g (x.c6 now):=⟨q.bk,q.dY,q.bc,q.st,q.lo,q.lM,q.wl,q.ul,q.us⟩
theorem bl.l2 (ok:bl x) (h:ks ed):bl (x.l2 ed):=⟨⟨ok.st,ok.bc,ok.l,ok.bss,ok.di⟩,ok.aT,ok.dY,ok.pl,ok.eh,ok.eb,ok.pw,ok.lm,ok.mH,h,ok.bk,ok.now,ok.pF,ok.nm,ok.li,ok.nd,ok.iN⟩
theorem bl.c6 (ok:bl x) (h:0<=now/\now<=1125899906842624):bl (x.c6 now):=⟨⟨ok.st,ok.bc,ok.l,ok.bss,ok.di⟩,ok.aT,ok.dY,ok.pl,ok.eh,ok.eb,ok.pw,ok.lm,ok.mH,ok.ed,ok.bk,h,ok.pF,ok.nm,ok.li,ok.nd,ok.iN⟩
theorem X4 (ok:bl x) (q:aH W a y g x) (hn:rd.length=4) (hd:dr.length=4) (nk:∀x∈dr,0<=x/\x<4294967296) (m:aa W h (aq a y g x++R)):
 aj Tryz.prog 40 #[.pointer (some ⟨a,317,none⟩), .agg (jY rd).toArray, .agg (ints .u32 dr).toArray] h λv h'=>v= .tuple #[.int .i64 (gd rd dr x.ed).2.1, .int .i64 (gd rd dr x.ed).2.2.1, .bool (gd rd dr x.ed).2.2.2]/\
  aa W h' (aq a y g (x.l2 (gd rd dr x.ed).1)++R):=by
 refine(aa5 ok.ed hn hd nk (kz 6 rfl m)).mono ?_
 rintro _ h' ⟨rfl,ax⟩
 exact⟨rfl,na (y:=y) (x:=x) (g:=g) 6 rfl ax⟩
theorem aa4 (ok:ks ed) (hd:∀x∈dr,0<=x) (h:(gd rd dr ed).2.2.2=true):(0<=(gd rd dr ed).2.1/\(gd rd dr ed).2.1<4)/\2<=(gd rd dr ed).2.2.1/\(gd rd dr ed).2.2.1<=1030:=by
 obtain⟨-,h1⟩:=Cm (rd:=rd) ok hd (k:=4) (Nat.le_refl _)
 unfold gd at h⊢
 split at h
 ·cases h
 ·rename_i hc
  rw[if_neg hc]
  rcases h1 with h1|h1
  ·exact absurd h1 hc
  ·exact⟨⟨h1.1,by have:=h1.2.1;omega⟩,h1.2.2⟩
theorem Ym (q:aH W a y g x) (I:k<4) (m:aa W h (aq a y g x++R)):aj Tryz.prog 42 #[a8 (y.dp k)] h λv h'=>
 ∃ar cJ E,v= .slice ar (rJ (x.bc.getD k c3)).length cJ/\au ar (rJ (x.bc.getD k c3)).length cJ 1 (ints .i64 (rJ (x.bc.getD k c3))) E/\aa W h' (aq a y g x++ae E::R):=by
 obtain⟨G,me,bk⟩:=(E7 I m).ny
 refine(Tn.aiw me (q.bc k I)).mono ?_
 rintro _ h' ⟨ar,cJ,o,E,rfl,sN,aw,ax⟩
 have e:=aiv aw
 subst e
 refine⟨ar,cJ,E,rfl,sN,?_⟩
 have m2:=bk.2.2 ax
 have m3:aa W h' (ae (g.fw k)::(((List.range 4).map λk=>ae (g.fw k)).eraseIdx k).flatten::(aq a y g x++ae E::R).eraseIdx 12):=
  aa.jy (Q:=ae (g.fw k)::(((List.range 4).map λk=>ae (g.fw k)).eraseIdx k).flatten::(aq a y g x).eraseIdx 12) m2
 have m4:=E8 (T:=x.bc) (L:=g.fw k) I m3
 rw[zb]at m4
 exact m4
def EA:bR:=⟨0,0,0,0,0,0,false,[],0,0,0,[],[],oK,0,0,0,0,false⟩
structure Ob (oR:ab) (x:ab):Prop where
 ok:bl x
 aO:fL (kx x.c) x
 same:vD oR x
 st:jV oR x
theorem al7 {l:List Int} (h:(x.make aid tid).2=none):ab.oO aid slots (tid::l) x=ab.oO aid slots l (x.make aid tid).1:=by
 rw[ab.oO]
 split
 ·rename_i e;rw[e]
 ·rename_i e;rw[e]at h;cases h
theorem Wa {l:List Int} (h:(x.make aid tid).2=some u):ab.oO aid slots (tid::l) x=(((x.make aid tid).1.nv u slots).1,some ((x.make aid tid).1.nv u slots).2):=by
 rw[ab.oO]
 split
 ·rename_i e;rw[e]at h;cases h
 ·rename_i e;rw[e]at h;cases h;rw[e]
theorem al4 {l:List Int} (h:x.cM.may aid=false):ab.n6 ac slots (aid::l) x=ab.n6 ac slots l x:=by rw[ab.n6,if_neg (by rw[h];decide)]
theorem al5 {l:List Int} (h:x.cM.may aid=true) (hn:(ab.oO aid slots (x.readies aid ac) x).2=none):ab.n6 ac slots (aid::l) x=ab.n6 ac slots l (ab.oO aid slots (x.readies aid ac) x).1:=by
 rw[ab.n6,if_pos h]
 split
 ·rename_i e;rw[e]
 ·rename_i e;rw[e]at hn;cases hn
theorem al6 {l:List Int} (h:x.cM.may aid=true) (hn:(ab.oO aid slots (x.readies aid ac) x).2=some u):ab.n6 ac slots (aid::l) x=((ab.oO aid slots (x.readies aid ac) x).1,some u):=by
 rw[ab.n6,if_pos h]
 split
 ·rename_i e;rw[e]at hn;cases hn
 ·rename_i e;rw[e]at hn⊢;cases hn;rfl
end
end Go.Proofs.YtjlkfjnfnonekaaGreatDoor
namespace Go.Proofs.YtjlkfjnfnonekaaGreatDoor
open Go.Vc
section
variable{x y:ab} {aid tid now ac:Int} {s:ba} {k j n:Nat} {S:dm} {on:Bool} {l:List Int}
theorem E0:∀{l:List jb} {i b:Int},b∈cc l i->i+1<=b/\b<=i+l.length
 |[],i,b,h=>by cases h
 |z::l,i,b,h=>by
  rw[cc]at h
  simp only[List.length_cons]
  split at h
  ·rcases List.mem_cons.1 h with rfl|h
   ·omega
   ·have:=E0 h;omega
  ·have:=E0 h;omega
theorem ak8 (n:x.st.length=16) (h:x.st.getD k none=some s):k<16:=by
 rw[List.getD_eq_getElem?_getD]at h
 rcases Nat.lt_or_ge k x.st.length with I|I
 ·omega
 ·rw[List.getElem?_eq_none I]at h;cases h
theorem TX (h:k<16):x.of ((k:Int)+1)=x.st.getD k none:=by
 unfold ab.of aD
 rw[if_pos ⟨by omega,by omega⟩]
 congr 1;omega
theorem vz.wants (i:vz x):∀b∈cc x.dh 0,∃s,x.of b=some s:=by
 intro b hb
 have hC:=E0 hb
 rw[i.eb.n]at hC
 obtain⟨k,rfl⟩:∃k:Nat,b=(k:Int)+1:=⟨(b -1).toNat,by omega⟩
 have I:k<16:=by omega
 have:=(i.dp k I).2 hb
 rw[TX I]
 exact Option.isSome_iff_exists.1 this
theorem Ol:((jX S aid on).1.getD k none).isSome=(S.getD k none).isSome:=by
 unfold jX
 split
 ·rfl
 ·rename_i s hs
  have key:∀v:Go.Vc.eU,((S.set (fF aid) (some v)).getD k none).isSome=(S.getD k none).isSome:= λv=>by
   obtain⟨h1,h2⟩:=Cz.1 hs
   have cn:=(List.getElem?_eq_some_iff.1 h2).1
   rw[fg cn]
   split
   ·rename_i e;subst e
    rw[List.getD_eq_getElem?_getD,h2];rfl
   ·rfl
  split
  ·exact key _
  ·split
   ·exact key _
   ·rfl
theorem ah9:((lk x ac l S).getD k none).isSome=(S.getD k none).isSome:=by
 induction l generalizing S with
 |nil=>rfl
 |cons z l b9=>
  show((lk x ac l (if x.wants ac z=true then S else(jX S z false).1)).getD k none).isSome=_
  rw[b9]
  split
  ·rfl
  ·exact Ol
theorem ail:((yQ l S).getD k none).isSome=(S.getD k none).isSome:=by
 induction l generalizing S with
 |nil=>rfl
 |cons z l b9=>
  show((yQ l (jX S z true).1).getD k none).isSome=_
  rw[b9,Ol]
theorem EX (hn:x.bc.length=4):∀n j,j<4->(((x.fe n).getD j c3).getD k none).isSome=((x.bc.getD j c3).getD k none).isSome
 |0,j,_=>rfl
 |n+1,j,ah=>by
  rw[ab.fe]
  by_cases h:n<4
  ·rw[fg (by rw[ui hn];exact h)]
   split
   ·rename_i e;subst e
    rw[EY,ail,ah9];exact EX hn j j ah
   ·exact EX hn n j ah
  ·rw[List.set_eq_of_length_le (by rw[ui hn];omega)];exact EX hn n j ah
theorem aiu (h:aid∈rJ S):(1<=aid/\aid<=16)/\(S.getD (aD aid) none).isSome=true:=by
 have hn:(DP S).Nodup:=List.Pairwise.sublist List.filter_sublist (show([1,2,3,4,5,6,7,8,9,10,11,12,13,14,15,16]:List Int).Nodup by decide)
 obtain⟨h1,-⟩:=Kh hn λb hb=>by obtain⟨s,hs,-⟩:=G7.1 hb;exact⟨s,hs⟩
 obtain⟨s,hs,-⟩:=G7.1 ((h1 aid).1 h)
 obtain⟨h2,h3⟩:=Cz.1 hs
 refine⟨h2,?_⟩
 rw[List.getD_eq_getElem?_getD,show aD aid=fF aid from rfl,h3];rfl
theorem agn (i:vz x) (hN:0<=now/\now<=1125899906842624):bl (x.looks now)/\fL (kx x.c) (x.looks now)/\oX (x.c6 now) (x.looks now):=by
 have aO:fL (iL (x.c6 now).c) (x.c6 now):=i.aO
 obtain⟨h1,h2,h3,h4⟩:=alv (i.tobl.c6 hN) aO (l:=cc x.dh 0) i.wants
 refine⟨h1,λk s I t ht=>?_,h3⟩
 have F9:=ak8 h1.st I
 have ad1:(x.st.getD k none).isSome=true:=by
  have e:=h3.some k
  rw[show((x.c6 now).lL (cc x.dh 0))=x.looks now from rfl,I]at e
  exact e.symm
 have hmem:=(i.dp k F9).1 ad1
 have:=h4 _ hmem s (by rw[TX F9];exact I) t ht ht
 have cP:(x.looks now).c=x.c:=h3.c
 rw[show((x.c6 now).lL (cc x.dh 0))=x.looks now from rfl,cP]at this
 exact this
theorem Xq (ok:bl x):bl x.oY:=ok.I3 (ui ok.bc 4) (xI ok 4)
end
end Go.Proofs.YtjlkfjnfnonekaaGreatDoor
