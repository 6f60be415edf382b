import Derived.Test.YtjlkfjnfnonekaaGreatDoorM36
import Derived.Test.YtjlkfjnfnonekaaGreatDoorM34
set_option linter.all false
set_option maxRecDepth 8000
namespace Go.Proofs.YtjlkfjnfnonekaaGreatDoor
open Go.Vc
structure r6 (y:dk):Prop where
 s:kV y.s
 v:0<=y.dy/\y.dy<=1000000
structure EL (c:jT):Prop where
 cO:∀z∈c.bss,0<=z/\z<256
 wn:1<=c.wn/\c.wn<=64
 rt:0<=c.rt/\c.rt<=15
 iT:1<=c.iT/\c.iT<=1099511627776
 ix:1<=c.ix/\c.ix<=65535
 di:∀z∈c.di,0<=z/\z<=54840
def BM (num:Int) (s:ba):Prop:=(0<=s.tok/\s.tok<256)/\s.r.ok=true/\∀z∈s.air,0<=z/\z<=20000000*num
structure bl (x:ab):Prop extends eG x where
 aT:∀k s,x.st.getD k none=some s->∀t,t<8->r6 (s.l.getD t ak)
 dY:Pl.eT x.bK
 pl:x.bK.len<=1000000
 eh:∀p∈x.bK.all,q4 p
 eb:oW x.dh
 pw:q6 x.pow
 lm:mU x.cM
 mH:∀k,k<4->eH (x.bc.getD k c3)
 ed:ks x.ed
 bk:x.book.length<=1000000
 now:0<=x.now/\x.now<=1125899906842624
 pF:∀k s,x.st.getD k none=some s->BM x.num s
 nm:0<=x.num/\x.num<=1000000
 li:∀z∈x.cM.l,z<=20000000*x.num
 nd:EL x.c
 iN:∀o∈x.dh,∀z∈o.a,0<=z/\z<256
section
variable{W W' aQ:Wd} {h h':J} {R:List aL} {a:Nat} {y:cR} {g:cQ} {x:ab} {i j k t:Nat} {v:Value} {A B:aL} {s:ba} {b:Nat} {aid tid ac:Int} {ads:List Addr}
theorem _root_.Go.Vc.aa.jy {Q:List aL} (m:aa W h (A::(Q++R))):aa W h (Q++A::R):=m.perm (by
 simp only[List.flatten_cons,List.flatten_append]
 rw[<-List.append_assoc,<-List.append_assoc]
 exact List.perm_append_comm.append_right _)
theorem _root_.Go.Vc.aa.gD {Q:List aL} (m:aa W h (Q++A::R)):aa W h (A::(Q++R)):=m.perm (by
 simp only[List.flatten_cons,List.flatten_append]
 rw[<-List.append_assoc,<-List.append_assoc]
 exact List.perm_append_comm.append_right _)
theorem c4 (m:aa W h (A::(aq a y g x++R))):aa W h (aq a y g x++A::R):=m.jy
theorem xP (m:aa W h (aq a y g x++A::R)):aa W h (A::(aq a y g x++R)):=m.gD
theorem cI (m:aa W h (aq a y g x++A::R)):aa W h (aq a y g x++R):=(xP m).aB
theorem s5 (q:aH W a y g x) (hs:x.of aid=some s) (hb:y.b1 (aD aid)=some b) (m:aa W h (aq a y g x++R)):aj Tryz.prog 30 #[a8 a, .int .i64 aid] h λv h'=>v=a8 b/\h'=h:=
 (O8 aid m).mono λv h' ⟨e,ag⟩=>⟨by
  obtain⟨h1,-⟩:=ab.iU hs
  rw[e];unfold y6;rw[if_pos h1,hb];rfl,ag⟩
theorem Jh (q:aH W a y g x) (hs:x.of aid=none) (m:aa W h (aq a y g x++R)):aj Tryz.prog 30 #[a8 a, .int .i64 aid] h λv h'=>v= .pointer none/\h'=h:=
 (O8 aid m).mono λv h' ⟨e,ag⟩=>⟨by rw[e,q.ahR hs];rfl,ag⟩
theorem zb {α:Type} {f:Nat->α}:aX f k (f k)=f:=by
 funext j
 by_cases q:j=k
 ·subst q;exact jC
 ·exact jm q
theorem Eg {α:Type} {l:List α} {d:α} (I:k<l.length):l.set k (l.getD k d)=l:=by
 rw[List.getD_eq_getElem?_getD,List.getElem?_eq_getElem I]
 exact List.set_getElem_self I
theorem ba.vm (hl:t<s.l.length):s.aW t (s.l.getD t ak)=s:=by
 unfold ba.aW
 rw[Int.toNat_natCast,Eg hl]
theorem ab.vm (n:x.st.length=16) (hs:x.of aid=some s):x.bw aid (some s)=x:=by
 obtain⟨h1,h2⟩:=ab.iU hs
 unfold ab.bw
 rw[<-h2,Eg (by rw[n];exact my h1)]
theorem XG (n:eG x) (hs:x.of aid=some s) (hb:y.b1 (aD aid)=some b) (ht:t<8)
 (m:aa W h (ae (g.cL (aD aid) t)::[⟨b,6+t*5,fS (y.sp (aD aid) t) (s.l.getD t ak),none⟩]::vI a y g x R b (aD aid) s t)):aa W h (aq a y g x++R):=by
 have m1:=I8 n hs hb ht m
 obtain⟨h1,h2⟩:=ab.iU hs
 rw[zb,zb,ba.vm (by rw[(n.l _ _ h2).1];exact ht),ab.vm n.st hs]at m1
 exact m1
theorem aH.mG (q:aH W a y g x) (hs:x.of aid=some s) (ht:t<8):cB W (y.sp (aD aid) t) (s.l.getD t ak).s (g.cL (aD aid) t):=q.lo _ _ (ab.iU hs).2 t ht
theorem bl.jz (ok:bl x) (hs:x.of aid=some s) (ht:t<8):r6 (s.l.getD t ak):=ok.aT _ _ (ab.iU hs).2 t ht
theorem OY (ok:bl x) (q:aH W a y g x) (hs:x.of aid=some s) (hb:y.b1 (aD aid)=some b) (ht:t<8) (m:aa W h (aq a y g x++R)):aj Tryz.prog 111 #[a8 (y.sp (aD aid) t)] h λv h'=>
 v=(if(s.l.getD t ak).s.asks=true then .tuple #[.int .i64 (s.l.getD t ak).s.w.st, .bool true]else .tuple #[.int .i64 0, .bool false])/\h'=h:=YO (q.mG hs ht) (lS ok.toeG hs hb ht m)
theorem Ff (ok:bl x) (q:aH W a y g x) (hs:x.of aid=some s) (hb:y.b1 (aD aid)=some b) (ht:t<8) (m:aa W h (aq a y g x++R)):aj Tryz.prog 110 #[a8 (y.sp (aD aid) t)] h λv h'=>
 v= .int .i64 (s.l.getD t ak).s.st/\h'=h:=Pr (q.mG hs ht) (lS ok.toeG hs hb ht m)
theorem Yv (ok:bl x) (q:aH W a y g x) (hs:x.of aid=some s) (hb:y.b1 (aD aid)=some b) (ht:t<8) (m:aa W h (aq a y g x++R)):aj Tryz.prog 108 #[a8 (y.sp (aD aid) t)] h λv h'=>
 v= .int .i64 (s.l.getD t ak).s.w.st/\h'=h:=Y0 (q.mG hs ht) (lS ok.toeG hs hb ht m)
theorem Jk (ok:bl x) (q:aH W a y g x) (hs:x.of aid=some s) (hb:y.b1 (aD aid)=some b) (ht:t<8) (m:aa W h (aq a y g x++R)):aj Tryz.prog 109 #[a8 (y.sp (aD aid) t)] h λv h'=>
 v= .int .i64 (s.l.getD t ak).s.w.sz/\h'=h:=YZ (q.mG hs ht) (lS ok.toeG hs hb ht m)
theorem Pb (ok:bl x) (q:aH W a y g x) (hs:x.of aid=some s) (hb:y.b1 (aD aid)=some b) (ht:t<8) (m:aa W h (aq a y g x++R)):aj Tryz.prog 189 #[a8 (y.sp (aD aid) t)] h λv h'=>
 v= .int .i64 (s.l.getD t ak).s.w.room/\h'=h:=YY (ok.jz hs ht).s (q.mG hs ht) (lS ok.toeG hs hb ht m)
theorem OK (n:eG x) (hs:x.of aid=some s) (hb:y.b1 (aD aid)=some b) (ht:t<8)
 (m:aa W h (A::ae (g.cL (aD aid) t)::[⟨b,6+t*5,fS (y.sp (aD aid) t) (s.l.getD t ak),none⟩]::vI a y g x R b (aD aid) s t)):aa W h (aq a y g x++A::R):=
 XG n hs hb ht (aa.jy (Q:=ae (g.cL (aD aid) t)::[⟨b,6+t*5,fS (y.sp (aD aid) t) (s.l.getD t ak),none⟩]::El b (y.sp (aD aid)) (g.cL (aD aid)) s t::(((List.range 16).map (lp y g x.st)).eraseIdx (aD aid)).flatten::(aq a y g x).eraseIdx 13) m)
theorem Jf (ok:bl x) (q:aH W a y g x) (hs:x.of aid=some s) (hb:y.b1 (aD aid)=some b) (ht:t<8) (m:aa W h (aq a y g x++R)):aj Tryz.prog 113 #[a8 (y.sp (aD aid) t)] h λv h'=>
 ∃W' ay c' us F,W.le W'/\v= .slice ay (s.l.getD t ak).s.due.length c'/\au ay (s.l.getD t ak).s.due.length c' 8 us F/\bX (eS W') (s.l.getD t ak).s.due us/\aH W' a y g x/\aa W' h' (aq a y g x++ae F::R):=by
 refine(YR (ok.jz hs ht).s (q.mG hs ht) (lS ok.toeG hs hb ht m)).mono ?_
 rintro _ h' ⟨W',ay,c',us,F,hl,rfl,o,hq,ax⟩
 exact⟨W',ay,c',us,F,hl,rfl,o,hq,q.le hl,OK ok.toeG hs hb ht ax⟩
theorem O9 (ok:bl x) (q:aH W a y g x) (hs:x.of aid=some s) (hb:y.b1 (aD aid)=some b) (ht:t<8) (m:aa W h (aq a y g x++R)):aj Tryz.prog 91 #[a8 (y.sp (aD aid) t)] h λv h'=>
 ∃W' ay c' us F,W.le W'/\v= .slice ay (s.l.getD t ak).s.out.length c'/\au ay (s.l.getD t ak).s.out.length c' 8 us F/\bX (eS W') (s.l.getD t ak).s.out us/\aH W' a y g x/\aa W' h' (aq a y g x++ae F::R):=by
 refine(YX (ok.jz hs ht).s (q.mG hs ht) (lS ok.toeG hs hb ht m)).mono ?_
 rintro _ h' ⟨W',ay,c',us,F,hl,rfl,o,hq,ax⟩
 exact⟨W',ay,c',us,F,hl,rfl,o,hq,q.le hl,OK ok.toeG hs hb ht ax⟩
theorem O2 (ok:bl x) (q:aH W a y g x) (m:aa W h (aq a y g x++R)):aj Tryz.prog 188 #[a8 y.gw, .int .i64 aid, .int .i64 tid] h λv h'=>v= .bool (x.wj aid tid)/\h'=h:=by
 obtain⟨G,m1,-⟩:=(kz 10 rfl m).ny
 exact Pl.ai4 m1 q.dY ok.dY aid tid
theorem Ys (ok:bl x) (q:aH W a y g x) (hs:x.of aid=some s) (ht:0<=tid/\tid<8) (m:aa W h (aq a y g x++R)):aj Tryz.prog 105 #[a8 a, .int .i64 aid, .int .i64 tid] h λv h'=>
 v= .bool (x.ready aid tid)/\pK W a y x R h':=by
 obtain⟨t,rfl⟩:∃t:Nat,tid=t:=⟨tid.toNat,by omega⟩
 obtain⟨b,hb,-⟩:=q.da hs
 have eY:t<8:=by omega
 have uy:x.ready aid t=x.vj aid t (s.l.getD t ak):=by unfold ab.ready;rw[hs];rfl
 rw[uy]
 unfold ab.vj
 have hc:∀{W:Wd} {h:J} {R:List aL},aa W h (aq a y g x++R)->∀j v,(fS (y.sp (aD aid) t) (s.l.getD t ak))[j]?=some v->cell h b (0+6+(t:Int).toNat*5+j)=some v:= λm j v ah=>lh ok.toeG hs hb eY m ah _ (by first|(rw[Int.toNat_natCast];done)|(rw[Int.toNat_natCast];omega))
 refine amX _ _ _ _ _ ((s5 q hs hb m).ret ⟨_,rfl,aN ⟨⟨by omega,by omega⟩,_,hc m 4 _ rfl,bH (λq1=>⟨by rw[q1];rfl, .mk' q m⟩) λq1=>?_⟩⟩)
 rw[q1]
 refine⟨_,hc m 0 _ rfl,(OY ok q hs hb eY m).ret ?_⟩
 cases q2:(s.l.getD t ak).s.asks with
 |true=>exact⟨_,_,rfl,df rfl ⟨rfl, .mk' q m⟩⟩
 |false=>
  refine⟨_,_,rfl,aZ rfl ⟨_,hc m 0 _ rfl,(Jf ok q hs hb eY m).mono ?_⟩⟩
  rintro _ h1 ⟨aQ,a1,aK,us,F,hl,rfl,o,hq,q',m1⟩
  replace m1:=cI m1
  refine⟨_,_,_,rfl,aC (λaE=>⟨by rw[show decide ((s.l.getD t ak).s.due.length≠0)=true from decide_eq_true (by omega)];rfl, .of hl (.mk' q' m1)⟩) λaE=>?_⟩
  rw[show decide ((s.l.getD t ak).s.due.length≠0)=false from decide_eq_false (by omega)]
  refine⟨_,E5 m1,(O2 ok q' m1).ret ⟨_,rfl,bH (λbP=>?_) λbP=>⟨by rw[bP];rfl, .of hl (.mk' q' m1)⟩⟩⟩
  rw[bP]
  refine⟨_,hc m1 0 _ rfl,(Pb ok q' hs hb eY m1).ret ⟨_,rfl,aC (λeO=>⟨by rw[decide_eq_true eO];rfl, .of hl (.mk' q' m1)⟩) λeO=>?_⟩⟩
  rw[decide_eq_false eO]
  exact⟨_,hc m1 0 _ rfl,(Ff ok q' hs hb eY m1).ret ⟨_,rfl,rfl, .of hl (.mk' q' m1)⟩⟩
end
end Go.Proofs.YtjlkfjnfnonekaaGreatDoor
set_option maxRecDepth 8000
namespace Go.Proofs.YtjlkfjnfnonekaaGreatDoor
open Go.Vc
section
variable{W W' aQ:Wd} {h h':J} {R:List aL} {a:Nat} {y:cR} {g:cQ} {x:ab} {i j k t:Nat} {v:Value} {A B:aL} {s:ba} {b:Nat} {aid tid ac:Int} {ads:List Addr} {bk:fZ}
theorem Ic (I:k<8):lr.take (k+1)=lr.take k++[(k:Int)]:=by
 have:k=0\/k=1\/k=2\/k=3\/k=4\/k=5\/k=6\/k=7:=by omega
 rcases this with rfl|rfl|rfl|rfl|rfl|rfl|rfl|rfl<;>rfl
theorem alO:lr.take 8=lr:=rfl
theorem FL {α:Type} {p:α->Bool} {l:List α} {z:α}:(l++[z]).filter p=l.filter p++(if p z=true then[z]else[]):=by
 rw[List.filter_append];simp only[List.filter_cons,List.filter_nil]
theorem Pa (ok:bl x) (q:aH W a y g x) (hs:x.of aid=some s) (m:aa W h (aq a y g x++R)):aj Tryz.prog 44 #[a8 a, .int .i64 aid, .int .i64 ac] h λv h'=>
 ∃W' g' ar cJ E,W.le W'/\v= .slice ar (x.readies aid ac).length cJ/\au ar (x.readies aid ac).length cJ 1 (ints .i64 (x.readies aid ac)) E/\aH W' a y g' x/\aa W' h' (aq a y g' x++ae E::R):=by
 refine amW _ _ _ _ _ ⟨λar ol cJ z h1=>∃(k:Nat) (aQ:Wd) (g1:cQ) (E:ao),z=k/\k<=8/\W.le aQ/\ol=((lr.take k).filter λt=>decide (fA t=ac)&&x.ready aid t).length/\
  au ar ol cJ 1 (ints .i64 ((lr.take k).filter λt=>decide (fA t=ac)&&x.ready aid t)) E/\aH aQ a y g1 x/\aa aQ h1 (aq a y g1 x++ae E::R),λ_ _ _ z _=>(8 -z).toNat,
  ⟨0,W,g,[],rfl,by omega,Wd.le.refl W,rfl,au.nil,q,c4 (m.hU)⟩,λ_=>?_⟩
 clear m q
 rintro ar _ cJ _ h1 ⟨k,aQ,g1,E,rfl,I,hl,rfl,o,q,m⟩
 have a6:((lr.take k).filter λt=>decide (fA t=ac)&&x.ready aid t).length<=8:=by
  refine Nat.le_trans (List.length_filter_le _ _) ?_
  rw[List.length_take];exact Nat.le_trans (Nat.min_le_left _ _) I
 refine aC (λq1=>?_) λq1=>?_
 ·have su:k<8:=by omega
  refine(OI ⟨by omega,by omega⟩ m).mono ?_
  rintro _ h2 ⟨rfl,m2⟩
  have no:(decide (fA (k:Int)=ac)&&x.ready aid k)=false->(lr.take (k+1)).filter (λt=>decide (fA t=ac)&&x.ready aid t)=(lr.take k).filter λt=>decide (fA t=ac)&&x.ready aid t:= λe=>by
   rw[Ic su,FL,if_neg (by rw[e];decide),List.append_nil]
  refine⟨_,rfl,aC (λq2=>?_) λq2=>?_⟩
  ·refine(Ys ok q hs ⟨by omega,by omega⟩ m2).mono ?_
   rintro _ h3 ⟨rfl,eJ,g3,fa,q',m3⟩
   refine⟨_,rfl,bH (λaE=>?_) λaE=>?_⟩
   ·have e:(lr.take (k+1)).filter (λt=>decide (fA t=ac)&&x.ready aid t)=((lr.take k).filter λt=>decide (fA t=ac)&&x.ready aid t)++[(k:Int)]:=by
     rw[Ic su,FL,if_pos (by rw[aE,decide_eq_true q2];rfl)]
    refine o.kA (xP m3) 0 rfl (us:=[.int .i64 (k:Int)]) rfl (by intro u hu;simp at hu;subst hu;rfl) (by omega) (by decide) λay c' bn h' ax o'=>?_
    refine⟨by simp only[fits];omega,⟨k+1,eJ,g3,bn,by omega,by omega,hl.trans fa,by rw[e,List.length_append];rfl,?_,q',c4 ax⟩,by dsimp only;omega⟩
    rw[e,kI];exact o'
   ·have e:=no (by rw[aE,Bool.and_false])
    exact⟨by simp only[fits];omega,⟨k+1,eJ,g3,E,by omega,by omega,hl.trans fa,by rw[e],by rw[e];exact o,q',m3⟩,by dsimp only;omega⟩
  ·have e:=no (by rw[decide_eq_false q2];rfl)
   exact⟨by simp only[fits];omega,⟨k+1,aQ,g1,E,by omega,by omega,hl,by rw[e],by rw[e];exact o,q,m2⟩,by dsimp only;omega⟩
 ·obtain rfl:k=8:=by omega
  exact⟨aQ,g1,ar,cJ,E,hl,rfl,o,q,m⟩
theorem OH {α:Type} {p:α->Bool} {l:List α} {z:α}:(l++[z]).any p=(l.any p||p z):=by simp
theorem Jg {mb n:Int} (ok:bl x) (q:aH W a y g x) (hs:x.of aid=some s) (hn:-1000<=n/\n<=1000) (m:aa W h (aq a y g x++R)):aj Tryz.prog 119 #[a8 a, .int .i64 aid, .int .i64 mb, .int .i64 n] h λv h'=>
 v= .bool (x.has aid mb n)/\pK W a y x R h':=by
 obtain⟨b,hb,-⟩:=q.da hs
 refine amR _ _ _ _ _ _ ((s5 q hs hb m).ret ⟨_,rfl,?_⟩)
 refine⟨λz h1=>∃(k:Nat) (aQ:Wd) (g1:cQ),z=k/\k<=8/\W.le aQ/\(lr.take k).any (x.tt aid mb n)=false/\aH aQ a y g1 x/\aa aQ h1 (aq a y g1 x++R),λz _=>(8 -z).toNat,
  ⟨0,W,g,rfl,by omega,Wd.le.refl W,rfl,q,m⟩,λ_=>?_⟩
 clear m q
 rintro _ h1 ⟨k,aQ,g1,rfl,I,hl,hno,q,m⟩
 refine aC (λq1=>aN ⟨⟨by omega,by omega⟩,?_⟩) λq1=>?_
 ·have su:k<8:=by omega
  have C7:=ok.jz hs su
  have wA:=C7.s.n
  have fC:(x.aT aid k).s.out=(s.l.getD k ak).s.out:=by unfold ab.aT;rw[hs];rfl
  have pe:(s.l.getD k ak).s.out.length<=64:=by unfold aS.out;rw[List.length_map];exact wA
  have yes:x.tt aid mb n k=true->x.has aid mb n=true:= λe=>by
   unfold ab.has
   refine List.any_eq_true.2 ⟨(k:Int),?_,e⟩
   have:(k:Int)∈lr.take (k+1):=by rw[Ic su];simp
   exact List.mem_of_mem_take this
  have ahX:x.tt aid mb n k=false->(lr.take (k+1)).any (x.tt aid mb n)=false:= λe=>by rw[Ic su,OH,hno,e];rfl
  refine⟨_,lh ok.toeG hs hb su m (j:=0) rfl _ (by rw[Int.toNat_natCast];omega),(O9 ok q hs hb su m).mono ?_⟩
  rintro _ h2 ⟨bu,a2,aG,us,F,dv,rfl,o,hq,q',m2⟩
  replace m2:=cI m2
  have fin:∀{z:Int},x.vc aid k mb n=z->¬0<z->∃p:Option Addr,cell h2 a 311=some (.pointer p)/\aj Tryz.prog 188 #[.pointer p, .int .i64 aid, .int .i64 (k:Int)] h2 λtS h4=>∃t1:Bool,tS= .bool t1/\
   ec t1 (Value.bool true=Value.bool (x.has aid mb n)/\pK W a y x R h4) (fits .i64 ((k:Int)+1)/\(∃(k':Nat) (aQ:Wd) (g1:cQ),(k:Int)+1=k'/\k'<=8/\W.le aQ/\(lr.take k').any (x.tt aid mb n)=false/\aH aQ a y g1 x/\aa aQ h4 (aq a y g1 x++R))/\(8 -((k:Int)+1)).toNat<(8 -(k:Int)).toNat):= λuA hz=>by
   refine⟨_,E5 m2,(O2 ok q' m2).ret ⟨_,rfl,bH (λbP=>⟨?_, .of (hl.trans dv) (.mk' q' m2)⟩) λbP=>⟨by simp only[fits];omega,⟨k+1,bu,g1,by omega,by omega,hl.trans dv,ahX ?_,q',m2⟩,by omega⟩⟩⟩
   ·rw[yes (by unfold ab.tt;rw[bP,Bool.or_true])]
   ·unfold ab.tt;rw[bP,uA,decide_eq_false hz];rfl
  refine⟨_,_,_,rfl,aC (λq2=>⟨by simp only[fits];omega,aC (λaE=>⟨?_, .of (hl.trans dv) (.mk' q' m2)⟩) λaE=>fin ?_ aE⟩) λq2=>aC (λaE=>⟨?_, .of (hl.trans dv) (.mk' q' m2)⟩) λaE=>fin (z:=((s.l.getD k ak).s.out.length:Int)) ?_ aE⟩
  ·rw[yes];unfold ab.tt ab.vc;rw[if_pos q2,fC,decide_eq_true aE];rfl
  ·unfold ab.vc;rw[if_pos q2,fC]
  ·rw[yes];unfold ab.tt ab.vc;rw[if_neg q2,fC,decide_eq_true (by omega)];rfl
  ·unfold ab.vc;rw[if_neg q2,fC];omega
 ·obtain rfl:k=8:=by omega
  exact⟨by unfold ab.has;rw[<-alO,hno], .of hl (.mk' q m)⟩
theorem aH.dX {L:aL} (q:aH W a y g x) (hv:kr a 310 none bk L):aH W a y {g with bk:=L} (x.dX bk):=⟨hv,q.dY,q.bc,q.st,q.lo,q.lM,q.wl,q.ul,q.us⟩
theorem bl.dX (ok:bl x) (hb:bk.length<=1000000):bl (x.dX bk):=⟨⟨ok.st,ok.bc,ok.l,ok.bss,ok.di⟩,ok.aT,ok.dY,ok.pl,ok.eh,ok.eb,ok.pw,ok.lm,ok.mH,ok.ed,hb,ok.now,ok.pF,ok.nm,ok.li,ok.nd,ok.iN⟩
theorem Pw {id r:Int}:(oj bk id r).length=bk.length:=by
 unfold oj;split
 ·split
  ·unfold zH;simp
  ·rfl
 ·rfl
theorem Jp {id r:Int}:(ma bk id r).length=bk.length:=by
 unfold ma;split
 ·split
  ·unfold zH;simp
  ·rfl
 ·rfl
theorem X1 {id r:Int} (ok:bl x) (a7:Snt W ads) (q:aH W a y g x) (m:aa W h (aq a y g x++R)):aj Tryz.prog 180 #[.pointer (some ⟨a,310,none⟩), .int .i64 id, .int .i64 r] h λv h'=>
 ∃g',aH W a y g' (x.dX (oj x.book id r))/\aa W h' (aq a y g' (x.dX (oj x.book id r))++R):=by
 have hb:=ok.bk
 refine(Z9 q.bk (by omega) a7 (kz 4 rfl m)).mono ?_
 rintro _ h' ⟨L',hv,ax⟩
 exact⟨{g with bk:=L'},q.dX hv,na (y:=y) (x:=x) (g:=g) 4 rfl ax⟩
theorem OZ {id r:Int} (ok:bl x) (a7:Snt W ads) (q:aH W a y g x) (m:aa W h (aq a y g x++R)):aj Tryz.prog 170 #[.pointer (some ⟨a,310,none⟩), .int .i64 id, .int .i64 r] h λv h'=>
 ∃g',aH W a y g' (x.dX (ma x.book id r))/\aa W h' (aq a y g' (x.dX (ma x.book id r))++R):=by
 have hb:=ok.bk
 refine(aaa q.bk (by omega) a7 (kz 4 rfl m)).mono ?_
 rintro _ h' ⟨L',hv,ax⟩
 exact⟨{g with bk:=L'},q.dX hv,na (y:=y) (x:=x) (g:=g) 4 rfl ax⟩
theorem JS {r:Int}:∀{l:List bh} {bk:fZ},(p4 r bk l).length=bk.length
 |[],_=>rfl
 |p::l,bk=>by unfold p4;rw[List.foldl_cons];exact(JS (l:=l)).trans Pw
theorem aaB {r:Int} {l:List bh} {p:bh}:p4 r bk (l++[p])=oj (p4 r bk l) p.id r:=by unfold p4;rw[List.foldl_append];rfl
theorem Je {l:List bh} {cg:Option Addr} {bZ:Nat} {r:Int} {vs:List Value} (ok:bl x) (a7:Snt W ads) (q:aH W a y g x) (hq:bX (dF W) l vs) (hl:l.length<=1000000)
 (rd:∀(h:J) (g:cQ) (x:ab) (X:List aL),aa W h (aq a y g x++X++R)->src h cg (l.length*5) vs) (m:aa W h (aq a y g x++R)):aj Tryz.prog 90 #[a8 a, .int .i64 r, .slice cg l.length bZ] h λv h'=>
 ∃g',aH W a y g' (x.dX (p4 r x.book l))/\aa W h' (aq a y g' (x.dX (p4 r x.book l))++R):=by
 refine amP _ _ _ _ _ _ _ ⟨λz h1=>∃(k:Nat) (g1:cQ),z=k/\k<=l.length/\aH W a y g1 (x.dX (p4 r x.book (l.take k)))/\aa W h1 (aq a y g1 (x.dX (p4 r x.book (l.take k)))++R),λz _=>((l.length:Int) -z).toNat,
  ⟨0,g,rfl,by omega,q,m⟩,λ_=>?_⟩
 clear m q
 rintro _ h1 ⟨k,g1,rfl,I,q,m⟩
 refine aC (λq1=>?_) λq1=>?_
 ·have bY:k<l.length:=by omega
  have hp:=List.getElem?_eq_getElem bY
  obtain⟨cs,cz,gE,hC⟩:=hq.get (λ_ _ h=>h.len) hp
  have hs:=rd h1 g1 _ [] (by simpa using m)
  obtain⟨al,eg,rfl,U⟩:=mK hs hC (by decide) gE
  refine⟨⟨by omega,by omega⟩,aN ⟨cs,by rw[Int.toNat_natCast];exact U,m.bb λaP h2 m2=>m2.c8 0 rfl cz.len rfl cz.one λh3 m3=>?_⟩⟩
  obtain⟨fT,fH,rfl,dK⟩:=cz
  refine⟨_,m3.cell 0 rfl 0 rfl,(X1 (ok.dX (by rw[JS];exact ok.bk)) a7 q (c4 m3)).mono ?_⟩
  rintro v4 h4 ⟨g4,bP,m4⟩
  have e:p4 r x.book (l.take (k+1))=oj (p4 r x.book (l.take k)) l[k].id r:=by rw[List.take_add_one,hp];exact aaB
  exact⟨v4,rfl,by simp only[fits];omega,⟨k+1,g4,by omega,by omega,by rw[e];exact bP,by rw[e];exact cI m4⟩,by dsimp only;omega⟩
 ·obtain rfl:k=l.length:=by omega
  rw[List.take_length]at q m
  exact⟨g1,q,m⟩
end
end Go.Proofs.YtjlkfjnfnonekaaGreatDoor
set_option maxRecDepth 8000
namespace Go.Proofs.YtjlkfjnfnonekaaGreatDoor
open Go.Vc
section
variable{W W' aQ:Wd} {h h':J} {R:List aL} {a:Nat} {y:cR} {g:cQ} {x:ab} {i j k t:Nat} {v:Value} {A B:aL} {s s':ba} {b:Nat} {aid tid ac:Int} {ads:List Addr} {bk:fZ} {z NR:dk} {E:ao}
theorem ab.rE (n:x.st.length=16) (hs:x.of aid=some s):(x.bw aid (some s')).of aid=some s':=by
 obtain⟨h1,h2⟩:=ab.iU hs
 unfold ab.of ab.bw
 rw[if_pos h1]
 show(x.st.set (aD aid) (some s')).getD (aD aid) none=_
 rw[fg (by rw[n];exact my h1),if_pos rfl]
theorem ab.lJ (hs:x.of aid=some s) (z:dk):x.aW aid t z=x.bw aid (some (s.aW t z)):=by unfold ab.aW;rw[hs]
theorem ab.hj (hs:x.of aid=some s):x.aT aid t=s.l.getD t ak:=by unfold ab.aT;rw[hs];rfl
theorem eG.bw (n:eG x) (hl:s'.l.length=8/\s'.air.length=4) (hs:x.of aid=some s):eG (x.bw aid (some s')):=by
 obtain⟨h1,h2⟩:=ab.iU hs
 refine⟨by show(x.st.set _ _).length=16;rw[List.length_set];exact n.st,n.bc,λk s2 I=>?_,n.bss,n.di⟩
 replace I:(x.st.set (aD aid) (some s')).getD k none=some s2:=I
 rw[fg (by rw[n.st];exact my h1)]at I
 split at I
 ·cases I;exact hl
 ·exact n.l k s2 I
theorem bl.bw (ok:bl x) (hs:x.of aid=some s) (hl:s'.l.length=8/\s'.air.length=4) (hz:∀t,t<8->r6 (s'.l.getD t ak)) (hx:BM x.num s'):bl (x.bw aid (some s')):=by
 refine⟨ok.toeG.bw hl hs,λk s2 I=>?_,ok.dY,ok.pl,ok.eh,ok.eb,ok.pw,ok.lm,ok.mH,ok.ed,ok.bk,ok.now,λk s2 I=>?_,ok.nm,ok.li,ok.nd,ok.iN⟩
 all_goals
  obtain⟨h1,h2⟩:=ab.iU hs
  replace I:(x.st.set (aD aid) (some s')).getD k none=some s2:=I
  rw[fg (by rw[ok.st];exact my h1)]at I
  split at I
 ·cases I;exact hz
 ·exact ok.aT k s2 I
 ·cases I;exact hx
 ·exact ok.pF k s2 I
theorem ba.tH (hl:s.l.length=8/\s.air.length=4):(s.aW t z).l.length=8/\(s.aW t z).air.length=4:=⟨by show(s.l.set _ _).length=8;rw[List.length_set];exact hl.1,hl.2⟩
theorem ba.qz (hl:s.l.length=8) (ht:t<8):(s.aW t z).l.getD k ak=if k=t then z else s.l.getD k ak:=by
 show(s.l.set (t:Int).toNat z).getD k ak=_
 rw[Int.toNat_natCast,fg (by omega)]
theorem eG.lens (n:eG x) (hs:x.of aid=some s):s.l.length=8/\s.air.length=4:=n.l _ _ (ab.iU hs).2
theorem bl.Bn (ok:bl x) (hs:x.of aid=some s):BM x.num s:=ok.pF _ _ (ab.iU hs).2
theorem bl.aW (ok:bl x) (hs:x.of aid=some s) (ht:t<8) (hz:r6 z):bl (x.bw aid (some (s.aW t z))):=by
 refine ok.bw hs (ba.tH (ok.lens hs)) (λk I=>?_) (show BM x.num s from ok.Bn hs)
 rw[ba.qz (ok.lens hs).1 ht]
 split
 ·exact hz
 ·exact ok.jz hs I
theorem Fe (n:eG x) (q:aH W a y g x) (hs:x.of aid=some s) (hb:y.b1 (aD aid)=some b) (ht:t<8) (m:aa W h (aq a y g x++R)) (j:Nat) (ah:j<5)
 (e:(fS (y.sp (aD aid) t) (s.l.getD t ak)).set j v=fS (y.sp (aD aid) t) z) (es:z.s=(s.l.getD t ak).s) {Q:J->Prop}
 (K:∀h1 g1,aH W a y g1 (x.bw aid (some (s.aW t z)))->aa W h1 (aq a y g1 (x.bw aid (some (s.aW t z)))++R)->Q h1) {o:Nat} (aw:o=6+t*5+j):
 wr h b o/\∀h1,h1=b3 h b o v->Q h1:=by
 subst aw
 refine(lS n hs hb ht m).store 1 rfl j (by rw[Nat.ble_eq];exact ah) λh1 m1=>?_
 simp only[List.set_cons_succ,List.set_cons_zero]at m1
 rw[e]at m1
 exact K h1 _ (q.aW n hs ht (by rw[es];exact q.mG hs ht)) (I8 n hs hb ht m1)
theorem xS (n:eG x) (hs:x.of aid=some s) (hb:y.b1 (aD aid)=some b) (ht:t<8) (q:aH W' a y g x) (uA:fS (y.sp (aD aid) t) (s.l.getD t ak)=fS (y.sp (aD aid) t) z) (hv:cB W' (y.sp (aD aid) t) z.s E)
 (m:aa W' h' (ae E::[⟨b,6+t*5,fS (y.sp (aD aid) t) (s.l.getD t ak),none⟩]::vI a y g x R b (aD aid) s t)):
 ∃g1,aH W' a y g1 (x.bw aid (some (s.aW t z)))/\aa W' h' (aq a y g1 (x.bw aid (some (s.aW t z)))++R):=by
 rw[uA]at m
 exact⟨_,q.aW n hs ht hv,I8 n hs hb ht m⟩
theorem Jj (n:eG x) (hs:x.of aid=some s) (hb:y.b1 (aD aid)=some b) (ht:t<8) (q:aH W' a y g x) (uA:fS (y.sp (aD aid) t) (s.l.getD t ak)=fS (y.sp (aD aid) t) z) (hv:cB W' (y.sp (aD aid) t) z.s E)
 (m:aa W' h' (A::ae E::[⟨b,6+t*5,fS (y.sp (aD aid) t) (s.l.getD t ak),none⟩]::vI a y g x R b (aD aid) s t)):
 ∃g1,aH W' a y g1 (x.bw aid (some (s.aW t z)))/\aa W' h' (aq a y g1 (x.bw aid (some (s.aW t z)))++A::R):=
 xS n hs hb ht q uA hv (aa.jy (Q:=ae E::[⟨b,6+t*5,fS (y.sp (aD aid) t) (s.l.getD t ak),none⟩]::El b (y.sp (aD aid)) (g.cL (aD aid)) s t::(((List.range 16).map (lp y g x.st)).eraseIdx (aD aid)).flatten::(aq a y g x).eraseIdx 13) m)
theorem Yu (n:eG x) (hs:x.of aid=some s) (hb:y.b1 (aD aid)=some b) (ht:t<8) (q:aH W' a y g x) (uA:fS (y.sp (aD aid) t) (s.l.getD t ak)=fS (y.sp (aD aid) t) z) (hv:cB W' (y.sp (aD aid) t) z.s E)
 (m:aa W' h' (A::B::ae E::[⟨b,6+t*5,fS (y.sp (aD aid) t) (s.l.getD t ak),none⟩]::vI a y g x R b (aD aid) s t)):
 ∃g1,aH W' a y g1 (x.bw aid (some (s.aW t z)))/\aa W' h' (aq a y g1 (x.bw aid (some (s.aW t z)))++B::A::R):=
 Jj n hs hb ht q uA hv (aa.jy (Q:=B::ae E::[⟨b,6+t*5,fS (y.sp (aD aid) t) (s.l.getD t ak),none⟩]::El b (y.sp (aD aid)) (g.cL (aD aid)) s t::(((List.range 16).map (lp y g x.st)).eraseIdx (aD aid)).flatten::(aq a y g x).eraseIdx 13) m)
theorem OP:(aq a y g x).length=16:=rfl
theorem Ja {X:List aL} (j:Nat):(aq a y g x++X++R)[16+X.length+j]?=R[j]?:=by
 rw[List.getElem?_append_right (by rw[List.length_append,OP];omega),List.length_append,OP,Nat.add_sub_cancel_left]
theorem Qy:∀{l:List cq} {rs:List Int} {k:Nat} {bk:fZ} {m:cq} {r:Int},l[k]?=some m->rs[k]?=some r->rl (l.take (k+1)) (rs.take (k+1)) bk=oj (rl (l.take k) (rs.take k) bk) m.p.id r
 |[],_,_,_,_,_,h,_=>by simp at h
 |_::_,[],_,_,_,_,_,h=>by simp at h
 |m0::l,r0::rs,0,bk,m,r,h1,h2=>by simp at h1 h2;subst h1 h2;simp[rl]
 |m0::l,r0::rs,k+1,bk,m,r,h1,h2=>by
  simp only[List.take_succ_cons,rl]
  exact Qy (by simpa using h1) (by simpa using h2)
theorem FA:∀{l:List cq} {rs:List Int} {bk:fZ},(rl l rs bk).length=bk.length
 |[],_,_=>by simp[rl]
 |_::_,[],_=>by simp[rl]
 |m0::l,r0::rs,bk=>by simp only[rl];exact(FA (l:=l)).trans Pw
theorem aqp {u:aS} {now:Int}:(u.oa now).length=(u.jE now).length:=by unfold aS.oa aS.jE aS.gone;simp
theorem alz {u:aS} {now:Int}:(u.jE now).length<=u.l.length:=by
 unfold aS.jE aS.gone;rw[List.length_map];exact List.length_filter_le _ _
theorem aS.alx {u:aS} {now:Int}:(u.de now).l=u.l.filter λf=>!kJ u.cY now f:=by
 unfold aS.de
 split<;>rfl
theorem Pe (ok:bl x) (a7:Snt W ads) (q:aH W a y g x) (hs:x.of aid=some s) (hb:y.b1 (aD aid)=some b) (ht:t<8) (eX:r6 (lq x.now (s.l.getD t ak))) (ox:kV ((s.l.getD t ak).s.de x.now)) (m:aa W h (aq a y g x++R)):
 aj Tryz.prog 39 #[a8 a, .pointer (some ⟨b,6+t*5,none⟩)] h λv h'=>pK W a y (x.de aid t) R h':=by
 have C7:=ok.jz hs ht
 have gr:=C7.s.n
 have qn:=alz (u:=(s.l.getD t ak).s) (now:=x.now)
 have AJ:=aqp (u:=(s.l.getD t ak).s) (now:=x.now)
 obtain⟨z,hz⟩:∃z,z=(s.l.getD t ak).dE ((s.l.getD t ak).s.de x.now):=⟨_,rfl⟩
 have ex:x.de aid t=(x.bw aid (some (s.aW t (lq x.now (s.l.getD t ak))))).dX (nD x.now (s.l.getD t ak) x.book):=by
  unfold ab.de;rw[ab.lJ hs,ab.hj hs]
 rw[ex]
 refine amY _ _ _ _ (aN ⟨_,lh ok.toeG hs hb ht m (j:=0) rfl _,_,zE m,(Y1 C7.s a7 (q.mG hs ht) (lS ok.toeG hs hb ht m)).mono ?_⟩)
 rintro _ h1 ⟨aQ,a1,aK,us,F,a2,aG,kt,L',hl,rfl,eg,Db,aM,ij,m1⟩
 clear m
 obtain⟨g1,q1,m1⟩:=Yu (z:=z) ok.toeG hs hb ht (q.le hl) (by rw[hz];rfl) (by rw[hz];exact ij) m1
 clear ij q
 replace a7:=a7.le hl
 have aik:r6 z:=by rw[hz];exact⟨ox,C7.v⟩
 have rG:=ok.aW (t:=t) (z:=z) hs ht aik
 have lD:(x.bw aid (some (s.aW t z))).of aid=some (s.aW t z):=ab.rE ok.st hs
 have j4:(s.aW t z).l.getD t ak=z:=by rw[ba.qz (ok.lens hs).1 ht,if_pos rfl]
 refine⟨_,_,_,_,_,_,rfl,?_⟩
 refine⟨λi h2=>∃(k:Nat) (g2:cQ),i=k/\k<=((s.l.getD t ak).s.jE x.now).length/\aH aQ a y g2 ((x.bw aid (some (s.aW t z))).dX (rl (((s.l.getD t ak).s.jE x.now).take k) (((s.l.getD t ak).s.oa x.now).take k) x.book))/\
  aa aQ h2 (aq a y g2 ((x.bw aid (some (s.aW t z))).dX (rl (((s.l.getD t ak).s.jE x.now).take k) (((s.l.getD t ak).s.oa x.now).take k) x.book))++ae kt::ae F::R),
  λi _=>((((s.l.getD t ak).s.jE x.now).length:Int) -i).toNat,⟨0,g1,rfl,by omega,q1,m1⟩,λ_=>?_⟩
 clear q1 m1
 rintro _ h2 ⟨k,g2,rfl,I,q,m⟩
 refine aC (λaK=>?_) λaK=>?_
 ·have bY:k<((s.l.getD t ak).s.jE x.now).length:=by omega
  have adp:k<((s.l.getD t ak).s.oa x.now).length:=by omega
  have hp:=List.getElem?_eq_getElem bY
  have hw:=List.getElem?_eq_getElem adp
  obtain⟨cs,cz,gE,hC⟩:=Db.get (λ_ _ h=>h.len) hp
  obtain⟨bx,cb,rfl,U⟩:=mK (eg.j8 m 17 rfl) hC (by decide) gE
  obtain⟨dO,hF,rfl,arR⟩:=fW (aM.mJ m 16 rfl) (j5 hw)
  refine⟨⟨by omega,by omega⟩,aN ⟨cs,by rw[Int.toNat_natCast];exact U,m.bb λfh h3 m3=>m3.c8 0 rfl cz.len rfl cz.one λh4 m4=>⟨⟨by omega,by omega⟩,aN ⟨((s.l.getD t ak).s.oa x.now)[k],?_,cs.take 5,m4.row 0 rfl 0 rfl (by rw[cz.len];decide),by rw[List.length_take,cz.len];rfl,(c4 m4).bb λey aA m5=>?_⟩⟩⟩⟩
  ·rw[Int.toNat_natCast]
   exact aM.rf m4 17 rfl rfl (j5 hw)
  obtain⟨fT,fH,rfl,dK⟩:=cz
  have uN:bX (dF aQ) [(((s.l.getD t ak).s.jE x.now)[k]).p] (((pn (((s.l.getD t ak).s.jE x.now)[k]) fT fH).take 5)++[]):=by
   rw[List.append_nil];exact bX.one ⟨fT,fH,rfl,dK⟩
  refine(Je (l:=[(((s.l.getD t ak).s.jE x.now)[k]).p]) (rG.dX (by rw[FA];exact ok.bk)) a7 q uN (by simp) (λh g x X mm=>?_) (c4 m5)).mono ?_
  ·exact mm.bE (16+X.length+0) (Ja 0) rfl
  rintro v6 aU ⟨g6,fI,m6⟩
  have e:=Qy (bk:=x.book) hp hw
  refine⟨by simp only[fits];omega,⟨k+1,g6,by omega,by omega,by rw[e];exact fI,by rw[e];exact cI (cI m6)⟩,by dsimp only;omega⟩
 ·obtain rfl:k=((s.l.getD t ak).s.jE x.now).length:=by omega
  rw[List.take_length,<-AJ,List.take_length]at q m
  replace m:=cI (cI m)
  have kM:bl ((x.bw aid (some (s.aW t z))).dX (nD x.now (s.l.getD t ak) x.book)):=rG.dX (by unfold nD;rw[FA];exact ok.bk)
  have iS:((x.bw aid (some (s.aW t z))).dX (nD x.now (s.l.getD t ak) x.book)).of aid=some (s.aW t z):=lD
  have AK:∀(j:Nat) (v:Value),(fS (y.sp (aD aid) t) z)[j]?=some v->((fS (y.sp (aD aid) t) ((s.aW t z).l.getD t ak)))[j]?=some v:= λj v h=>by rw[j4];exact h
  have ends:z.ends=(s.l.getD t ak).ends:=by rw[hz];rfl
  have Ld:z.s=(s.l.getD t ak).s.de x.now:=by rw[hz];rfl
  have Q9:¬((s.l.getD t ak).ends=true/\((s.l.getD t ak).s.de x.now).l=[])->lq x.now (s.l.getD t ak)=z:= λhn=>by unfold lq;rw[if_neg hn,hz]
  refine aN ⟨_,lh kM.toeG iS hb ht m (AK 3 _ rfl) _,bH (λaG=>aN ⟨_,lh kM.toeG iS hb ht m (AK 0 _ rfl) _,(O9 kM q iS hb ht m).mono ?_⟩) λaG=>?_⟩
  ·rintro _ h3 ⟨eJ,a3,bd,amn,EO,fa,rfl,cb,St,aE,m3⟩
   replace m3:=cI m3
   rw[j4]
   refine⟨_,_,_,rfl,aC (λbd=>?_) λbd=>?_⟩
   ·have ld:((s.l.getD t ak).s.de x.now).l=[]:=by
     have:z.s.out.length=0:=by omega
     unfold aS.out at this;rw[List.length_map,Ld]at this
     exact List.length_eq_zero_iff.1 this
    obtain⟨z2,rz⟩:∃z2:dk,z2=⟨z.s,z.dy,z.refused,false,z.under⟩:=⟨_,rfl⟩
    refine aN (Fe kM.toeG aE iS hb ht m3 (z:=z2) 3 (by decide) (by rw[j4,rz];rfl) (by rw[j4,rz]) (λh4 g4 bP m4=>?_) rfl)
    have wE:(((x.bw aid (some (s.aW t z))).dX (nD x.now (s.l.getD t ak) x.book)).bw aid (some ((s.aW t z).aW t z2))).of aid=some ((s.aW t z).aW t z2):=ab.rE kM.st iS
    have qD:=kM.toeG.bw (s':=(s.aW t z).aW t z2) (ba.tH (ba.tH (ok.lens hs))) iS
    have Le:((s.aW t z).aW t z2).l.getD t ak=z2:=by rw[ba.qz (ba.tH (ok.lens hs)).1 ht,if_pos rfl]
    have acO:cell h4 b (6+t*5)=some (a8 (y.sp (aD aid) t)):=lh qD wE hb ht m4 (j:=0) (by rw[Le];rfl) _
    refine aN ⟨_,acO,?_⟩
    have qq:=bP.mG wE ht
    refine(YS (a7.le fa) qq (lS qD wE hb ht m4)).mono ?_
    rintro _ aA ⟨aqW,rfl,Df,m5⟩
    obtain⟨z3,SM⟩:∃z3:dk,z3=lq x.now (s.l.getD t ak):=⟨_,rfl⟩
    have SN:z3=⟨z.s.gT.1,z.dy,z.refused,false,z.under⟩:=by rw[SM,Ld];unfold lq;rw[if_pos ⟨by rw[<-ends];exact aG,ld⟩,hz];rfl
    obtain⟨g6,fI,m6⟩:=xS (z:=z3) qD wE hb ht bP (by rw[Le,SN,rz];rfl) (by rw[SN];rw[Le,rz]at Df;exact Df) m5
    have fin:pK W a y ((x.bw aid (some (s.aW t (lq x.now (s.l.getD t ak))))).dX (nD x.now (s.l.getD t ak) x.book)) R aA:=by
     have dP:((((x.bw aid (some (s.aW t z))).dX (nD x.now (s.l.getD t ak) x.book)).bw aid (some ((s.aW t z).aW t z2))).bw aid (some (((s.aW t z).aW t z2).aW t z3)))=(x.bw aid (some (s.aW t (lq x.now (s.l.getD t ak))))).dX (nD x.now (s.l.getD t ak) x.book):=by
      rw[<-SM]
      unfold ab.bw ab.dX ba.aW
      simp only[List.set_set]
     rw[dP]at fI m6
     exact .of (hl.trans fa) (.mk' fI m6)
    exact⟨_,rfl,_,(a7.le fa).A4 (by
     intro i hi
     unfold aS.gT at hi
     split at hi
     ·cases hi;decide
     ·split at hi<;>cases hi;decide),bH (λ_=>fin) λ_=>fin⟩
   ·rw[Q9 (λhc=>bd (by
     have:=hc.2
     show(z.s.out.length:Int)=0
     unfold aS.out;rw[List.length_map,Ld,this];rfl))]
    exact .of (hl.trans fa) (.mk' aE m3)
  ·rw[Q9 (λhc=>by rw[<-ends]at hc;have:=hc.1;rw[this]at aG;cases aG)]
   exact .of hl (.mk' q m)
end
end Go.Proofs.YtjlkfjnfnonekaaGreatDoor
namespace Go.Vc
section
variable{S:dm} {a b w k i j air m:Int} {n:Nat} {s x y:eU} {on:Bool}
theorem eH.comes (ok:eH S) (h0:0<=i) (h1:i<=1152921504606846976):0<=xY S i/\xY S i<=1152921504606846976:=by
 unfold xY
 rcases Dz (S:=S)with⟨q1,q2⟩|⟨m,q1,⟨k,x,aE,bP,rfl⟩,eO⟩
 ·rw[q1];exact⟨h0,h1⟩
 ·rw[q1]
  have:=ok.s _ _ aE
  dsimp only;omega
theorem eH.ZO (hw:1<=s.w) (h0:0<=s.t) (ha:0<=air):0<=td s air/\td s air<=1152921504606846976:=by
 unfold td
 have:=Int.ediv_nonneg (a:=10000*air) (b:=s.w) (by omega) (by omega)
 omega
theorem eH.add (ok:eH S):eH (iO S a w).1:=by
 unfold iO
 split
 ·rename_i h
  have:=abz.1 h.2
  split
  ·exact ok.set (s:=⟨w,0,false⟩) ⟨this.1,this.2,Int.le_refl _,show(0:Int)<=1152921504606846976 by decide⟩ _
  ·exact ok
 ·exact ok
theorem eH.Ok (ok:eH S):eH (jX S a on).1:=by
 unfold jX
 split
 ·exact ok
 ·rename_i s hs
  have h:=ok.get hs
  have hc:=ok.comes h.2.2.1 h.2.2.2
  dsimp only
  split
  ·exact ok.set (s:=⟨s.w,xY S s.t,true⟩) ⟨h.1,h.2.1,hc.1,hc.2⟩ _
  ·split
   ·exact ok.set (s:=⟨s.w,s.t,false⟩) h _
   ·exact ok
theorem eH.ZL (ok:eH S):eH (o1 S a air).1:=by
 unfold o1
 split
 ·exact ok
 ·rename_i s hs
  split
  ·rename_i q
   have h:=ok.get hs
   have hc:=eH.ZO (s:=s) (air:=air) h.1 h.2.2.1 q.1
   exact ok.set (s:=⟨s.w,td s air,s.on⟩) ⟨h.1,h.2.1,hc.1,hc.2⟩ _
  ·exact ok
end
end Go.Vc
set_option maxRecDepth 8000
namespace Go.Proofs.YtjlkfjnfnonekaaGreatDoor
open Go.Vc
section
variable{W W' aQ:Wd} {h h':J} {R:List aL} {a:Nat} {y:cR} {g:cQ} {x:ab} {i j k t:Nat} {v:Value} {A B:aL} {s s':ba} {b:Nat} {aid tid ac:Int} {ads:List Addr} {S:dm} {T:List dm}
theorem OX (ok:bl x) (m:aa W h (aq a y g x++R)):aj Tryz.prog 38 #[.pointer (some ⟨a,22,none⟩)] h λv h'=>∃ar cJ E,v= .slice ar (cc x.dh 0).length cJ/\au ar (cc x.dh 0).length cJ 1 (ints .i64 (cc x.dh 0)) E/\aa W h' (aq a y g x++ae E::R):=by
 refine(alb ok.eb (kz 2 rfl m)).mono ?_
 rintro _ h' ⟨ar,cJ,E,rfl,o,ax⟩
 exact⟨ar,cJ,E,rfl,o,na (y:=y) (x:=x) (g:=g) (R:=ae E::R) 2 rfl (aa.jy (Q:=mX a 22 x.dh::(aq a y g x).eraseIdx 2) ax)⟩
theorem Yi (ok:bl x) (m:aa W h (aq a y g x++R)):aj Tryz.prog 96 #[.pointer (some ⟨a,150,none⟩), .int .i64 aid, .int .i64 ac] h λv h'=>v= .bool (px x.pow aid ac)/\h'=h:=UA ok.pw.toxE (kz 3 rfl m)
theorem O5 (ok:bl x) (m:aa W h (aq a y g x++R)):aj Tryz.prog 43 #[a8 y.ik, .int .i64 aid] h λv h'=>v= .bool (x.cM.may aid)/\h'=h:=agf ok.lm (kz 11 rfl m)
theorem Xn {on:Bool}:∀i,(jX S aid on).2=some i->i<p6:=by
 intro i hi;unfold jX at hi;split at hi<;>cases hi;decide
theorem aH.ew {L:ao} (n:x.bc.length=4) (I:k<4) (q:aH W a y g x) (hv:Tn.lR (y.dp k) S L):aH W a y {g with fw:=aX g.fw k L} (x.ew (x.bc.set k S)):=
 ⟨q.bk,q.dY,λj ah=>by
  show Tn.lR (y.dp j) ((x.bc.set k S).getD j c3) (aX g.fw k L j)
  rw[fg (by omega)]
  by_cases e:j=k
  ·subst e;rw[if_pos rfl,jC];exact hv
  ·rw[if_neg e,jm e];exact q.bc j ah,q.st,q.lo,q.lM,q.wl,q.ul,q.us⟩
theorem bl.ew (ok:bl x) (I:k<4) (uF:eH S):bl (x.ew (x.bc.set k S)):=
 ⟨⟨ok.st,by show(x.bc.set k S).length=4;rw[List.length_set];exact ok.bc,ok.l,ok.bss,ok.di⟩,ok.aT,ok.dY,ok.pl,ok.eh,ok.eb,ok.pw,ok.lm,λj ah=>by
  show eH ((x.bc.set k S).getD j c3)
  rw[fg (by rw[ok.bc];exact I)]
  split
  ·exact uF
  ·exact ok.mH j ah,ok.ed,ok.bk,ok.now,ok.pF,ok.nm,ok.li,ok.nd,ok.iN⟩
theorem E7 (I:k<4) (m:aa W h (aq a y g x++R)):aa W h (ae (g.fw k)::(((List.range 4).map λk=>ae (g.fw k)).eraseIdx k).flatten::(aq a y g x++R).eraseIdx 12):=
 (kz 12 rfl m).pick k (qL I)
theorem E8 {L:ao} (I:k<4) (m:aa W h (ae L::(((List.range 4).map λk=>ae (g.fw k)).eraseIdx k).flatten::(aq a y g x++R).eraseIdx 12)):aa W h (aq a y {g with fw:=aX g.fw k L} (x.ew T)++R):=by
 have m1:=m.n9 (A0:=ae (g.fw k)) k (qL I)
 rw[vk I]at m1
 have e:(List.range 4).map (λj=>if j=k then ae L else ae (g.fw j))=(List.range 4).map λj=>ae (aX g.fw k L j):=List.map_congr_left λj _=>by
  by_cases e:j=k
  ·rw[if_pos e,e,jC]
  ·rw[if_neg e,jm e]
 rw[e]at m1
 exact na (y:=y) (x:=x) (g:=g) 12 rfl m1
theorem XQ {on:Bool} (ok:bl x) (a7:Snt W ads) (q:aH W a y g x) (I:k<4) (m:aa W h (aq a y g x++R)):aj Tryz.prog 97 #[a8 (y.dp k), .int .i64 aid, .bool on] h λv h'=>
 ∃g',aH W a y g' (x.ew (x.bc.set k (jX (x.bc.getD k c3) aid on).1))/\aa W h' (aq a y g' (x.ew (x.bc.set k (jX (x.bc.getD k c3) aid on).1))++R):=by
 obtain⟨G,me,bk⟩:=(E7 I m).ny
 refine(Tn.Xo me (q.bc k I) (a7.gS Xn)).mono ?_
 rintro _ h' ⟨L',rfl,hv,ax⟩
 exact⟨_,q.ew ok.bc I hv,E8 I (bk.2.1 ax)⟩
theorem Rj {α β:Type} {f:β->α->β} {l:List α} {z:α} {u:β}:(l++[z]).foldl f u=f (l.foldl f u) z:=by rw[List.foldl_append];rfl
def lk (x:ab) (ac:Int) (l:List Int) (S:dm):dm:=l.foldl (λS a=>if x.wants ac a=true then S else(jX S a false).1) S
def yQ (l:List Int) (S:dm):dm:=l.foldl (λS a=>(jX S a true).1) S
theorem L4 {l:List Int}:∀{S:dm},eH S->eH (lk x ac l S):=by
 induction l with
 |nil=>exactλh=>h
 |cons z l b9=>
  intro S h
  refine b9 (S:=if x.wants ac z=true then S else(jX S z false).1) ?_
  split
  ·exact h
  ·exact eH.Ok h
theorem T5 {l:List Int}:∀{S:dm},eH S->eH (yQ l S):=by
 induction l with
 |nil=>exactλh=>h
 |cons z l b9=>exactλh=>b9 (eH.Ok h)
theorem EY:x.xJ ac S=yQ (x.nA ac) (lk x ac (cc x.dh 0) S):=rfl
theorem ui (n:x.bc.length=4):∀k,(x.fe k).length=4
 |0=>n
 |k+1=>by rw[ab.fe,List.length_set];exact ui n k
theorem xI (ok:bl x):∀k,∀j,j<4->eH ((x.fe k).getD j c3)
 |0,j,ah=>ok.mH j ah
 |k+1,j,ah=>by
  rw[ab.fe]
  by_cases I:k<4
  ·rw[fg (by rw[ui ok.bc];exact I)]
   split
   ·rw[EY];exact T5 (L4 (xI ok k k I))
   ·exact xI ok k j ah
  ·rw[List.set_eq_of_length_le (by rw[ui ok.bc];omega)];exact xI ok k j ah
theorem bl.I3 (ok:bl x) (hl:T.length=4) (nO:∀j,j<4->eH (T.getD j c3)):bl (x.ew T):=⟨⟨ok.st,hl,ok.l,ok.bss,ok.di⟩,ok.aT,ok.dY,ok.pl,ok.eh,ok.eb,ok.pw,ok.lm,nO,ok.ed,ok.bk,ok.now,ok.pF,ok.nm,ok.li,ok.nd,ok.iN⟩
theorem bl.V7 (ok:bl x) (I:k<4) (uF:eH S):bl (x.ew ((x.fe k).set k S)):=ok.I3 (by rw[List.length_set];exact ui ok.bc k) λj ah=>by
 rw[fg (by rw[ui ok.bc];exact I)]
 split
 ·exact uF
 ·exact xI ok k j ah
end
end Go.Proofs.YtjlkfjnfnonekaaGreatDoor
