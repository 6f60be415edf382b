import Derived.Test.YtjlkfjnfnonekaaGreatDoorM37
import Derived.Test.YtjlkfjnfnonekaaGreatDoorM36
set_option linter.all false
set_option maxRecDepth 8000
namespace Go.Proofs.YtjlkfjnfnonekaaGreatDoor
open Go.Vc
section
variable{W W' aQ:Wd} {h h':J} {R:List aL} {a:Nat} {y:cR} {g:cQ} {x:ab} {i j k t:Nat} {v:Value} {A B:aL} {s s':ba} {b:Nat} {aid tid ac:Int} {ads:List Addr} {S:dm} {T:List dm}
def jY (l:List Bool):List Value:=l.map Value.bool
theorem Zd {l:List Bool} (I:k<l.length):(jY l)[k]?=some (.bool (l.getD k false)):=by
 unfold jY;rw[List.getElem?_map,List.getElem?_eq_getElem I,List.getD_eq_getElem?_getD,List.getElem?_eq_getElem I];rfl
theorem Pz {l:List Bool} {z:Bool}:(jY l).set k (.bool z)=jY (l.set k z):=by unfold jY;rw[List.map_set]
theorem Ze {l:List Bool}:∀u∈jY l,u.oneCell'=true:=by
 intro u hu;obtain⟨z,_,rfl⟩:=List.mem_map.1 hu;rfl
theorem Xz (ok:bl x):(cc x.dh 0).length<=16:=by rw[<-ok.eb.n];exact uj
def l1 (x:ab) (k:Nat):List Bool:=(List.range 4).map λj=>if j<k then x.vb j else false
theorem Mi:(l1 x k).length=4:=by unfold l1;simp
theorem aiy (I:k<4):(l1 x k).getD k false=false:=by
 unfold l1;rw[List.getD_eq_getElem?_getD,qL I];show(if k<k then _ else false)=false;rw[if_neg (Nat.lt_irrefl k)]
theorem aiz (I:k<4):(l1 x k).set k (x.vb k)=l1 x (k+1):=by
 unfold l1
 rw[vk I]
 refine List.map_congr_left λj ah=>?_
 by_cases e:j=k
 ·subst e;rw[if_pos rfl,if_pos (by omega)]
 ·rw[if_neg e]
  by_cases ag:j<k
  ·rw[if_pos ag,if_pos (by omega)]
  ·rw[if_neg ag,if_neg (by omega)]
def xu (W:Wd) (a:Nat) (y:cR) (x:ab) (R:List aL) (al aP:Nat) (ek T2:TypeId) (X:List aL) (k:Nat) (S:dm) (z:Bool) (h:J):Prop:=
 ∃aQ g1,W.le aQ/\aH aQ a y g1 (x.ew ((x.fe k).set k S))/\
  aa aQ h (aq a y g1 (x.ew ((x.fe k).set k S))++(X++[⟨aP,0,jY ((l1 x k).set k z),some T2⟩]::[⟨al,0,jY [false,false,false,false],some ek⟩]::R))
theorem XR (ok:bl x) (a7:Snt W ads) (q:aH W a y g x) (hw:∀aid∈cc x.dh 0,∃s,x.of aid=some s) (m:aa W h (aq a y g x++R)):aj Tryz.prog 41 #[a8 a] h λv h'=>
 v= .agg (jY x.outs).toArray/\pK W a y x.oY R h':=by
 refine amJ _ _ _ (m.bb λal h1 m1=>(c4 m1).bb λaP h2 m2=>?_)
 refine⟨[a8 (y.dp 0),a8 (y.dp 1),a8 (y.dp 2),a8 (y.dp 3)],(c4 m2).row 5 rfl 2 rfl (by simp),?_⟩
 refine⟨λz h3=>∃(k:Nat) (aQ:Wd) (g1:cQ),z=k/\k<=4/\W.le aQ/\aH aQ a y g1 (x.ew (x.fe k))/\
  aa aQ h3 (aq a y g1 (x.ew (x.fe k))++[⟨aP,0,jY (l1 x k),some 68⟩]::[⟨al,0,jY [false,false,false,false],some 68⟩]::R),λz _=>(4 -z).toNat,
  ⟨0,W,g,rfl,by omega,Wd.le.refl W,q,c4 m2⟩,λ_=>?_⟩
 clear m m1 m2 q
 rintro _ h3 ⟨k,aQ,g1,rfl,I,hl,q,m⟩
 have ml:=Xz ok
 refine aC (λaK=>?_) λaK=>?_
 ·have eW:k<4:=by omega
  have acq:=ui (x:=x) ok.bc k
  have aii:bl (x.ew (x.fe k)):=ok.I3 acq (xI ok k)
  refine⟨⟨by omega,by omega⟩,some ⟨y.dp k,0,none⟩,?_,(OX aii m).mono ?_⟩
  ·have:k=0\/k=1\/k=2\/k=3:=by omega
   rcases this with rfl|rfl|rfl|rfl<;>rfl
  rintro _ h4 ⟨cg,bZ,E,rfl,A6,m4⟩
  obtain⟨aO,CN⟩:∃aO,aO=cc x.dh 0:=⟨_,rfl⟩
  rw[show cc (x.ew (x.fe k)).dh 0=aO from CN.symm]at A6⊢
  rw[<-CN]at ml hw
  obtain⟨jU,CJ⟩:∃jU,jU=(x.fe k).getD k c3:=⟨_,rfl⟩
  have RI:eH jU:=CJ▸xI ok k k eW
  refine⟨_,_,_,rfl,?_⟩
  have st:∀(bu:Wd) (h:J) (X:List aL) (S:dm) (z:Bool) (u:Value) (aid:Int) (on:Bool),W.le bu->eH S->xu bu a y x R al aP 68 68 X k S z h->
   aj Tryz.prog 97 #[a8 (y.dp k), .int .i64 aid, .bool on] h λv h'=>xu bu a y x R al aP 68 68 X k (jX S aid on).1 z h':=by
   rintro bu h X S z u aid on hle uF ⟨eJ,g3,fa,aE,m3⟩
   refine(XQ (ok.V7 eW uF) (a7.le (hle.trans fa)) aE eW m3).mono ?_
   rintro v h' ⟨g',q',ax⟩
   have e:(x.ew ((x.fe k).set k S)).bc.getD k c3=S:=by
    show((x.fe k).set k S).getD k c3=S
    rw[fg (by omega),if_pos rfl]
   rw[e]at q' ax
   have ag:(x.ew ((x.fe k).set k S)).ew ((x.ew ((x.fe k).set k S)).bc.set k (jX S aid on).1)=x.ew ((x.fe k).set k (jX S aid on).1):=by
    show x.ew (((x.fe k).set k S).set k _)=_
    rw[List.set_set]
   rw[ag]at q' ax
   exact⟨eJ,g',fa,q',ax⟩
  refine⟨λar ol cJ z aA=>∃(j:Nat) (cD:ao),z=j/\j<=aO.length/\ol=((aO.take j).filter (x.wants k)).length/\au ar ol cJ 1 (ints .i64 ((aO.take j).filter (x.wants k))) cD/\
   xu W a y x R al aP 68 68 [ae cD,ae E] k (lk x k (aO.take j) jU) (((aO.take j).filter (x.wants k)).any x.cM.may) aA,λ_ _ _ z _=>((aO.length:Int) -z).toNat,
   ⟨0,[],rfl,by omega,rfl,au.nil,aQ,g1,hl,?_,?_⟩,λ_=>?_⟩
  ·have e:(x.fe k).set k jU=x.fe k:=by rw[CJ];exact Eg (by omega)
   show aH aQ a y g1 (x.ew ((x.fe k).set k jU))
   rw[e];exact q
  ·have e:(x.fe k).set k jU=x.fe k:=by rw[CJ];exact Eg (by omega)
   have ag:(l1 x k).set k false=l1 x k:=by rw[<-aiy (x:=x) eW];exact Eg (by rw[Mi];exact eW)
   show aa aQ h4 (aq a y g1 (x.ew ((x.fe k).set k jU))++([]::ae E::[⟨aP,0,jY ((l1 x k).set k false),some 68⟩]::[⟨al,0,jY [false,false,false,false],some 68⟩]::R))
   rw[e,ag]
   exact c4 m4.hU
  clear m m4 q
  rintro ar _ cJ _ aA ⟨j,cD,rfl,ah,rfl,aM,hA⟩
  have a6:((aO.take j).filter (x.wants k)).length<=16:=by
   refine Nat.le_trans (List.length_filter_le _ _) ?_
   rw[List.length_take];exact Nat.le_trans (Nat.min_le_right _ _) ml
  refine aC (λaG=>?_) λaG=>?_
  ·have fv:j<aO.length:=by omega
   have hz:=List.getElem?_eq_getElem fv
   obtain⟨pF,tB⟩:=hw _ (List.getElem_mem fv)
   have iZ:aO.take (j+1)=aO.take j++[aO[j]]:=by rw[List.take_add_one,hz];rfl
   have FG:lk x k (aO.take (j+1)) jU=if x.wants k aO[j]=true then lk x k (aO.take j) jU else(jX (lk x k (aO.take j) jU) aO[j] false).1:=by rw[iZ];exact Rj
   have RJ:eH (lk x k (aO.take j) jU):=L4 RI
   obtain⟨jr,g5,qi,eO,m5⟩:=hA
   obtain⟨ju,nB,rfl,hcell⟩:=fW (A6.mJ m5 17 rfl) (j5 hz)
   have L6:bl (x.ew ((x.fe k).set k (lk x k (aO.take j) jU))):=ok.V7 eW RJ
   have no:x.wants k aO[j]=false->∀aU,xu W a y x R al aP 68 68 [ae cD,ae E] k (lk x k (aO.take j) jU) (((aO.take j).filter (x.wants k)).any x.cM.may) aU->
    aj Tryz.prog 97 #[a8 (y.dp k), .int .i64 aO[j], .bool false] aU λv bW=>∃v1:Value,v=v1/\fits .i64 ((j:Int)+1)/\
     (∃(qw:Nat) (cD:ao),(j:Int)+1=qw/\qw<=aO.length/\((aO.take j).filter (x.wants k)).length=((aO.take qw).filter (x.wants k)).length/\au ar ((aO.take j).filter (x.wants k)).length cJ 1 (ints .i64 ((aO.take qw).filter (x.wants k))) cD/\
       xu W a y x R al aP 68 68 [ae cD,ae E] k (lk x k (aO.take qw) jU) (((aO.take qw).filter (x.wants k)).any x.cM.may) bW)/\((aO.length:Int) -((j:Int)+1)).toNat<((aO.length:Int) -(j:Int)).toNat:= λc aU aci=>by
    refine(st W aU _ _ _ .nilIface _ _ (Wd.le.refl W) RJ aci).mono ?_
    rintro v bW Kp
    have fO:(aO.take (j+1)).filter (x.wants k)=(aO.take j).filter (x.wants k):=by rw[iZ,FL,if_neg (by rw[c];decide),List.append_nil]
    rw[if_neg (by rw[c];decide)]at FG
    exact⟨v,rfl,by simp only[fits];omega,⟨j+1,cD,by omega,by omega,by rw[fO],by rw[fO];exact aM,by rw[FG,fO];exact Kp⟩,by omega⟩
   refine⟨⟨by omega,by omega⟩,aN ⟨aO[j],by rw[Int.toNat_natCast];exact hcell,(Yi L6 m5).ret ⟨_,rfl,bH (λbd=>?_) λbd=>?_⟩⟩⟩
   ·refine(Pa L6 eO (s:=pF) tB m5).mono ?_
    rintro _ aU ⟨fN,g6,ast,rc,ID,j1,rfl,nZ,fI,m6⟩
    replace m6:=cI m6
    rw[show(x.ew ((x.fe k).set k (lk x k (aO.take j) jU))).readies aO[j] k=x.readies aO[j] k from rfl]
    refine⟨_,_,_,rfl,aC (λc7=>?_) λc7=>?_⟩
    ·have uR:x.wants k aO[j]=true:=by
      unfold ab.wants
      rw[show px x.pow aO[j] k=true from bd,decide_eq_true (by omega)];rfl
     rw[if_pos uR]at FG
     have fO:(aO.take (j+1)).filter (x.wants k)=(aO.take j).filter (x.wants k)++[aO[j]]:=by rw[iZ,FL,if_pos uR]
     refine aM.kA m6 16 rfl (us:=[.int .i64 aO[j]]) rfl (by intro u hu;simp at hu;subst hu;rfl) (by omega) (by decide) λhJ gB i6 bW m7 gv=>?_
     replace m7:aa fN bW (aq a y g6 (x.ew ((x.fe k).set k (lk x k (aO.take j) jU)))++(ae i6::ae E::[⟨aP,0,jY ((l1 x k).set k (((aO.take j).filter (x.wants k)).any x.cM.may)),some 68⟩]::[⟨al,0,jY [false,false,false,false],some 68⟩]::R)):=m7
     have pe:((l1 x k).set k (((aO.take j).filter (x.wants k)).any x.cM.may)).length=4:=by rw[List.length_set,Mi]
     have wk:=m7.cell 18 rfl k (Zd (by rw[pe];exact eW)) (p:=0+(k:Int).toNat) (by rw[Int.toNat_natCast])
     rw[fg (by rw[Mi];exact eW),if_pos rfl]at wk
     have fin:∀(z:Bool) bJ,z=(((aO.take j).filter (x.wants k)).any x.cM.may||x.cM.may aO[j])->aa fN bJ (aq a y g6 (x.ew ((x.fe k).set k (lk x k (aO.take j) jU)))++(ae i6::ae E::[⟨aP,0,jY ((l1 x k).set k z),some 68⟩]::[⟨al,0,jY [false,false,false,false],some 68⟩]::R))->
      fits .i64 ((j:Int)+1)/\(∃(qw:Nat) (cD:ao),(j:Int)+1=qw/\qw<=aO.length/\((aO.take j).filter (x.wants k)).length+1=((aO.take qw).filter (x.wants k)).length/\au hJ (((aO.take j).filter (x.wants k)).length+1) gB 1 (ints .i64 ((aO.take qw).filter (x.wants k))) cD/\
       xu W a y x R al aP 68 68 [ae cD,ae E] k (lk x k (aO.take qw) jU) (((aO.take qw).filter (x.wants k)).any x.cM.may) bJ)/\((aO.length:Int) -((j:Int)+1)).toNat<((aO.length:Int) -(j:Int)).toNat:= λz bJ aen m8=>by
      refine⟨by simp only[fits];omega,⟨j+1,i6,by omega,by omega,by rw[fO,List.length_append];rfl,by rw[fO,kI];exact gv,?_⟩,by omega⟩
      rw[FG,fO,OH,<-aen]
      exact⟨fN,g6,qi.trans j1,fI,m8⟩
     refine⟨⟨by omega,by omega⟩,_,wk,bH (λeK=>⟨⟨by omega,by omega⟩,?_⟩) λeK=>⟨_,E4 m7,(O5 L6 m7).ret ⟨_,rfl,⟨by omega,by omega⟩,?_⟩⟩⟩
     ·refine m7.store 18 rfl k (by rw[Nat.ble_eq];unfold jY;rw[List.length_map,pe];exact eW) (λbJ m8=>fin true bJ (by rw[eK];rfl) ?_) (by rw[Int.toNat_natCast])
      have gl:(jY ((l1 x k).set k (((aO.take j).filter (x.wants k)).any x.cM.may))).set k (.bool true)=jY ((l1 x k).set k true):=by rw[Pz,List.set_set]
      rw[gl]at m8
      exact m8
     ·refine m7.store 18 rfl k (by rw[Nat.ble_eq];unfold jY;rw[List.length_map,pe];exact eW) (λbJ m8=>fin (x.cM.may aO[j]) bJ (by rw[eK];rfl) ?_) (by rw[Int.toNat_natCast])
      have gl:(jY ((l1 x k).set k (((aO.take j).filter (x.wants k)).any x.cM.may))).set k (.bool (x.cM.may aO[j]))=jY ((l1 x k).set k (x.cM.may aO[j])):=by rw[Pz,List.set_set]
      rw[show(x.ew ((x.fe k).set k (lk x k (aO.take j) jU))).cM=x.cM from rfl,gl]at m8
      exact m8
    ·have uR:x.wants k aO[j]=false:=by
      unfold ab.wants
      rw[decide_eq_false (by omega),Bool.and_false]
     exact no uR aU ⟨fN,g6,qi.trans j1,fI,m6⟩
   ·have uR:x.wants k aO[j]=false:=by
     unfold ab.wants
     rw[show px x.pow aO[j] k=false from bd];rfl
    exact no uR aA ⟨jr,g5,qi,eO,m5⟩
  ·obtain rfl:j=aO.length:=by omega
   rw[List.take_length]at aM hA a6⊢
   have abl:aO.filter (x.wants k)=x.nA k:=by unfold ab.nA;rw[CN]
   rw[abl]at aM hA a6⊢
   have acp:eH (lk x k aO jU):=L4 RI
   refine⟨λz aU=>∃i:Nat,z=i/\i<=(x.nA k).length/\xu W a y x R al aP 68 68 [ae cD,ae E] k (yQ ((x.nA k).take i) (lk x k aO jU)) ((x.nA k).any x.cM.may) aU,λz _=>(((x.nA k).length:Int) -z).toNat,
    ⟨0,rfl,by omega,hA⟩,λ_=>?_⟩
   clear hA
   rintro _ aU ⟨i,rfl,hi,hA⟩
   refine aC (λbd=>?_) λbd=>?_
   ·have gq:i<(x.nA k).length:=by omega
    have hz:=List.getElem?_eq_getElem gq
    have hA0:=hA
    obtain⟨fN,g6,j1,fI,m6⟩:=hA
    obtain⟨ju,nB,rfl,hcell⟩:=fW (aM.mJ m6 16 rfl) (j5 hz)
    refine⟨⟨by omega,by omega⟩,aN ⟨(x.nA k)[i],by rw[Int.toNat_natCast];exact hcell,(st W aU _ _ _ .nilIface _ _ (Wd.le.refl W) (T5 acp) hA0).mono ?_⟩⟩
    rintro v bW Kp
    have e:yQ ((x.nA k).take (i+1)) (lk x k aO jU)=(jX (yQ ((x.nA k).take i) (lk x k aO jU)) (x.nA k)[i] true).1:=by rw[List.take_add_one,hz];exact Rj
    exact⟨v,rfl,by simp only[fits];omega,⟨i+1,by omega,by omega,by rw[e];exact Kp⟩,by dsimp only;omega⟩
   ·obtain rfl:i=(x.nA k).length:=by omega
    rw[List.take_length]at hA
    obtain⟨fN,g6,j1,fI,m6⟩:=hA
    refine⟨by simp only[fits];omega,⟨k+1,fN,g6,by omega,by omega,j1,?_,?_⟩,by dsimp only;omega⟩
    ·show aH fN a y g6 (x.ew ((x.fe k).set k (x.xJ k ((x.fe k).getD k c3))))
     rw[EY,<-CJ,<-CN];exact fI
    ·show aa fN aU (aq a y g6 (x.ew ((x.fe k).set k (x.xJ k ((x.fe k).getD k c3))))++_)
     rw[EY,<-CJ,<-CN,<-aiz eW];exact cI (cI m6)
 ·obtain rfl:k=4:=by omega
  refine⟨_,m.bE 16 rfl rfl,m.c8 17 rfl rfl rfl Ze λh4 m4=>⟨_,m4.bE 17 rfl rfl,rfl,?_⟩⟩
  exact⟨aQ,g1,hl,q,cI (cI m4)⟩
end
end Go.Proofs.YtjlkfjnfnonekaaGreatDoor
set_option maxRecDepth 8000
namespace Go.Proofs.YtjlkfjnfnonekaaGreatDoor
open Go.Vc
section
variable{W W' aQ:Wd} {h h':J} {R:List aL} {a:Nat} {y:cR} {g:cQ} {x:ab} {i j k t:Nat} {v:Value} {A B:aL} {s s':ba} {b:Nat} {aid tid ac now:Int} {ads:List Addr} {P:Pl.bL} {u:bR} {p:bh}
theorem aH.l5 {L:ao} (q:aH W a y g x) (hv:Pl.iu W y.gw P L):aH W a y {g with jB:=L} (x.l5 P):=⟨q.bk,hv,q.bc,q.st,q.lo,q.lM,q.wl,q.ul,q.us⟩
theorem bl.l5 (ok:bl x) (h1:Pl.eT P) (h2:P.len<=1000000) (h3:∀p∈P.all,q4 p):bl (x.l5 P):=⟨⟨ok.st,ok.bc,ok.l,ok.bss,ok.di⟩,ok.aT,h1,h2,h3,ok.eb,ok.pw,ok.lm,ok.mH,ok.ed,ok.bk,ok.now,ok.pF,ok.nm,ok.li,ok.nd,ok.iN⟩
theorem Pf (ok:bl x) (q:aH W a y g x) (cp:0<=now/\now<=1125899906842624) (m:aa W h (aq a y g x++R)):aj Tryz.prog 283 #[a8 y.gw, .int .i64 aid, .int .i64 tid, .int .i64 now] h λv h'=>
 ∃ar cJ vs E g' cs,v= .tuple #[.agg cs.toArray, .slice ar (x.bK.gy aid tid now).2.1.length cJ, .bool (x.bK.gy aid tid now).2.2.isSome]/\dF W ((x.bK.gy aid tid now).2.2.getD pv) cs/\
  au ar (x.bK.gy aid tid now).2.1.length cJ 5 vs E/\bX (dF W) (x.bK.gy aid tid now).2.1 vs/\aH W a y g' (x.l5 (x.bK.gy aid tid now).1)/\aa W h' (aq a y g' (x.l5 (x.bK.gy aid tid now).1)++ae E::R):=by
 obtain⟨G,me,bk⟩:=(kz 10 rfl m).ny
 refine(Pl.ai9 me q.dY ok.dY cp.1 cp.2).mono ?_
 rintro _ h' ⟨ar,cJ,vs,E,L',cs,rfl,hp,o,hq,hv,ax⟩
 exact⟨ar,cJ,vs,E,{g with jB:=L'},cs,rfl,hp,o,hq,q.l5 hv,na (y:=y) (x:=x) (g:=g) (R:=ae E::R) 10 rfl (aa.jy (Q:=ae L'::(aq a y g x).eraseIdx 10) (bk.2.2 ax))⟩
theorem Eu (b5:Pl.eT P) (cp:0<=now/\now<=1125899906842624):Pl.eT (P.gy aid tid now).1/\(P.gy aid tid now).1.len<=P.len/\(∀p∈(P.gy aid tid now).2.1++(P.gy aid tid now).2.2.toList,p∈P.all)/\∀p∈(P.gy aid tid now).1.all,p∈P.all:=by
 unfold Pl.bL.gy
 by_cases ht:Pl.iY aid tid=true
 ·rw[if_pos ht]
  have I:Pl.dJ aid tid<128:=by unfold Pl.iY at ht;unfold Pl.dJ;simp at ht;omega
  obtain⟨h1,-,h3⟩:=Pl.alL b5 I cp.1 cp.2
  obtain⟨e,w⟩:=b5.b7 I
  have jw:∀p∈Pl.cc (P.b7 (Pl.dJ aid tid)).a6,p∈P.all:= λp hp=>by
   unfold Pl.bL.all Pl.r9
   exact List.mem_flatten.2 ⟨_,List.mem_map.2 ⟨_,List.mem_of_getElem? e,rfl⟩,hp⟩
  refine⟨h1,h3,λp hp=>jw p (((Pl.Bq cp.1 cp.2 w).sub w.ok).2 p hp),λp hp=>?_⟩
  have hm:=(Pl.BX (q:=((P.b7 (Pl.dJ aid tid)).take now).1) b5 I).mem_iff.1 (List.mem_append_left _ hp)
  rcases List.mem_append.1 hm with hm|hm
  ·exact hm
  ·exact jw p (((Pl.Bq cp.1 cp.2 w).sub w.ok).1 p hm)
 ·rw[if_neg ht];exact⟨b5,Nat.le_refl _,λp hp=>by simp at hp,λp hp=>hp⟩
theorem aja (b5:Pl.eT P) (cp:0<=now/\now<=1125899906842624):(P.gy aid tid now).2.1.length<=P.len:=by
 unfold Pl.bL.gy
 by_cases ht:Pl.iY aid tid=true
 ·rw[if_pos ht]
  have I:Pl.dJ aid tid<128:=by unfold Pl.iY at ht;unfold Pl.dJ;simp at ht;omega
  obtain⟨e,w⟩:=b5.b7 I
  have:=(Pl.Bq cp.1 cp.2 w).bB w.ok
  have h2:=b5.bB I
  show((P.b7 (Pl.dJ aid tid)).take now).2.1.length<=_
  rw[List.length_append]at this
  omega
 ·rw[if_neg ht];simp
theorem bl.take (ok:bl x):bl (x.take aid tid):=by
 obtain⟨h1,h2,-,h4⟩:=Eu (aid:=aid) (tid:=tid) ok.dY ok.now
 exact(ok.l5 h1 (Nat.le_trans h2 ok.pl) λp hp=>ok.eh p (h4 p hp)).dX (by rw[JS];exact ok.bk)
theorem O0 {cs:List Value} (ok:bl x) (a7:Snt W ads) (q:aH W a y g x) (hs:x.of aid=some s) (hb:y.b1 (aD aid)=some b) (ht:t<8) (h2:(s.l.getD t ak).s.st≠2) (hq:(s.l.getD t ak).s.asks=false) (mu:(s.l.getD t ak).s.w.room≠0)
 (hp:dF W p cs) (eA:p.body.length<=1048576) (m:aa W h (aq a y g x++R)):aj Tryz.prog 284 #[a8 (y.sp (aD aid) t), .agg cs.toArray, .int .i64 x.now] h λv h'=>
 ∃W' us g',W.le W'/\v= .tuple #[.agg us.toArray, .nilIface]/\eS W' ((s.l.getD t ak).s.o9 p x.now) us/\aH W' a y g' (x.aW aid t ((s.l.getD t ak).dE ((s.l.getD t ak).s.fresh p x.now)))/\
  aa W' h' (aq a y g' (x.aW aid t ((s.l.getD t ak).dE ((s.l.getD t ak).s.fresh p x.now)))++R):=by
 refine(YT (ok.jz hs ht).s (q.mG hs ht) h2 hq mu ok.now hp eA (lS ok.toeG hs hb ht m)).mono ?_
 rintro _ h' ⟨W',us,L',hl,rfl,hm,hv,ax⟩
 obtain⟨g',q',m2⟩:=xS (z:=(s.l.getD t ak).dE ((s.l.getD t ak).s.fresh p x.now)) ok.toeG hs hb ht (q.le hl) rfl hv ax
 rw[<-ab.lJ hs]at q' m2
 exact⟨W',us,g',hl,rfl,hm,q',m2⟩
def cG (bp:Nat) (u:bR) (ua:Option Addr) (uc:Nat):aL:=[⟨bp,0,fX u ua uc,some 180⟩]
theorem agX:eS W qB (pn qB none 0):=⟨none,0,rfl,cm.nil⟩
theorem Kj {α:Type} {o:Option α} {d:α} (h:o.isSome=false):o.getD d=d/\o=none:=by cases o with
 |none=>exact⟨rfl,rfl⟩
 |some z=>cases h
theorem Kk {α:Type} {o:Option α} {d:α} (h:o.isSome=true):o=some (o.getD d):=by cases o with
 |none=>cases h
 |some z=>rfl
theorem Ag (h:(x.bK.gy aid tid x.now).2.2=none):x.fresh aid tid=(x.take aid tid,none):=by unfold ab.fresh;rw[h]
theorem yd (h:(x.bK.gy aid tid x.now).2.2=some p):x.fresh aid tid=((x.take aid tid).sk aid tid p,some ((x.aT aid tid).s.o9 p x.now)):=by unfold ab.fresh;rw[h]
set_option maxHeartbeats 1000000 in
theorem O1 {bp:Nat} {ua:Option Addr} {uc:Nat} (ok:bl x) (a7:Snt W ads) (q:aH W a y g x) (hs:x.of u.aid=some s) (hb:y.b1 (aD u.aid)=some b) (eB:u.tid=t) (ht:t<8) (h2:(s.l.getD t ak).s.st≠2) (hq:(s.l.getD t ak).s.asks=false)
 (mu:(s.l.getD t ak).s.w.room≠0) (eN:∀p:bh,q4 p->kV ((s.l.getD t ak).s.fresh p x.now)) (m:aa W h (aq a y g x++cG bp u ua uc::R)):aj Tryz.prog 254 #[a8 a,a8 bp, .pointer (some ⟨b,6+t*5,none⟩)] h λv h'=>
 ∃W' g' cs,W.le W'/\v= .tuple #[.agg cs.toArray, .bool (x.fresh u.aid u.tid).2.isSome]/\eS W' ((x.fresh u.aid u.tid).2.getD qB) cs/\aH W' a y g' (x.fresh u.aid u.tid).1/\aa W' h' (aq a y g' (x.fresh u.aid u.tid).1++cG bp u ua uc::R):=by
 obtain⟨CH,tq,wg,RF⟩:=Eu (aid:=u.aid) (tid:=u.tid) ok.dY ok.now
 have Ao:=aja (aid:=u.aid) (tid:=u.tid) ok.dY ok.now
 have eA:=ok.pl
 have ll:=ok.take (aid:=u.aid) (tid:=u.tid)
 obtain⟨aJ,sB⟩:∃aJ,aJ=x.bK.gy u.aid u.tid x.now:=⟨_,rfl⟩
 have lX:(x.take u.aid u.tid).of u.aid=some s:=hs
 refine amQ _ _ _ _ _ (m.bb λal h1 m1=>?_)
 replace m1:=c4 m1
 refine⟨λpp Qw dl o3 is h=>∃(gw:Nat) (cs vs:List Value) (E:ao) (g':cQ),pp=some ⟨gw,0,none⟩/\dl=aJ.2.1.length/\is=aJ.2.2.isSome/\dF W (aJ.2.2.getD pv) cs/\au Qw dl o3 5 vs E/\bX (dF W) aJ.2.1 vs/\aH W a y g' (x.l5 aJ.1)/\
  aa W h (aq a y g' (x.l5 aJ.1)++ae E::[⟨gw,0,cs,some 213⟩]::[⟨al,0,pn qB none 0,some 215⟩]::cG bp u ua uc::R),?_,λ_=>?_⟩
 ·refine⟨_,E5 m1,aN ⟨_,m1.cell 17 rfl 1 rfl,aN ⟨_,m1.cell 17 rfl 2 rfl,_,zE m1,?_,λfh aA af ag=>?_⟩⟩⟩
  ·refine(Pf ok q ok.now m1).mono ?_
   rintro _ h2 ⟨ar,cJ,vs,E,g',cs,rfl,hp,o,mv,q',m2⟩
   rw[<-sB]at hp o mv q' m2⊢
   refine⟨_,_,_,_,_,rfl,m2.bb λdO h3 m3=>m3.c8 0 rfl hp.len rfl hp.one λh4 m4=>⟨dO,cs,vs,E,g',rfl,rfl,rfl,hp,o,mv,q',?_⟩⟩
   exact aa.jy (Q:=aq a y g' (x.l5 aJ.1)++[ae E]) (R:=[⟨al,0,pn qB none 0,some 215⟩]::cG bp u ua uc::R) m4
  ·have m5:=c4 (m1.push af ag)
   refine(Pf ok q ok.now m5).mono ?_
   rintro _ h2 ⟨ar,cJ,vs,E,g',cs,rfl,hp,o,mv,q',m2⟩
   rw[<-sB]at hp o mv q' m2⊢
   exact⟨_,_,_,_,_,rfl,m2.c8 17 rfl hp.len rfl hp.one λh4 m4=>⟨fh,cs,vs,E,g',rfl,rfl,rfl,hp,o,mv,q',m4⟩⟩
 clear m m1 q
 rintro _ Qw _ o3 _ bJ ⟨gw,cs,vs,E,g',rfl,rfl,rfl,hp,o,mv,q,m⟩
 rw[<-sB]at CH tq wg RF Ao
 have L7:=ok.l5 CH (by omega) λp hp=>ok.eh p (RF p hp)
 refine(Je (l:=aJ.2.1) L7 a7 q mv (by omega) (λh g x X mm=>o.j8 mm (16+X.length+0) (Ja 0)) m).mono ?_
 rintro _ ct ⟨g9,yW,m9⟩
 replace yW:aH W a y g9 (x.take u.aid u.tid):=by unfold ab.take;rw[<-sB];exact yW
 replace m9:aa W ct (aq a y g9 (x.take u.aid u.tid)++ae E::[⟨gw,0,cs,some 213⟩]::[⟨al,0,pn qB none 0,some 215⟩]::cG bp u ua uc::R):=by unfold ab.take;rw[<-sB];exact m9
 replace m9:=cI m9
 refine bH (λaK=>?_) λaK=>?_
 ·obtain⟨af,ag⟩:=Kj (d:=pv) (pU aK)
  have fO:=Ag (x:=x) (aid:=u.aid) (tid:=u.tid) (by rw[<-sB];exact ag)
  rw[fO]
  exact m9.c8 17 rfl rfl rfl (λu hu=>A2 (m:=qB) (a:=none) (c:=0) u hu) λdS m10=>⟨_,m10.bE 17 rfl rfl,W,g9,_,Wd.le.refl W,rfl,agX,yW,cI (cI m10)⟩
 ·have ag:=Kk (d:=pv) (sb aK)
  obtain⟨p,mr⟩:∃p,p=aJ.2.2.getD pv:=⟨_,rfl⟩
  rw[<-mr]at ag hp
  have Gk:p∈x.bK.all:=wg p (List.mem_append_right _ (by rw[ag];simp))
  have Ss:=ok.dY.E1 p Gk
  have fO:=yd (x:=x) (aid:=u.aid) (tid:=u.tid) (by rw[<-sB];exact ag)
  have h9:x.aT u.aid u.tid=s.l.getD t ak:=by rw[eB];exact ab.hj hs
  have abe:(x.take u.aid u.tid).aT u.aid u.tid=s.l.getD t ak:=h9
  rw[fO,h9]
  unfold ab.sk
  rw[abe,eB]
  refine⟨λmp jh h=>∃(cF:Nat) (bu:Wd) (us:List Value) (g':cQ),mp=some ⟨cF,0,none⟩/\jh= .nilIface/\W.le bu/\eS bu ((s.l.getD t ak).s.o9 p x.now) us/\
   aH bu a y g' ((x.take u.aid t).aW u.aid t ((s.l.getD t ak).dE ((s.l.getD t ak).s.fresh p x.now)))/\
   aa bu h (aq a y g' ((x.take u.aid t).aW u.aid t ((s.l.getD t ak).dE ((s.l.getD t ak).s.fresh p x.now)))++[⟨cF,0,us,some 215⟩]::[⟨gw,0,cs,some 213⟩]::[⟨al,0,pn qB none 0,some 215⟩]::cG bp u ua uc::R),?_,λ_=>?_⟩
  ·rw[eB]at yW m9 lX ll
   refine aN ⟨_,lh ll.toeG lX hb ht m9 (j:=0) rfl _,aN ⟨cs,m9.bE 16 rfl hp.len.symm,_,zE m9,?_,λfh aA af ag=>?_⟩⟩
   ·refine(O0 ll a7 yW lX hb ht h2 hq mu hp Ss m9).mono ?_
    rintro _ h2 ⟨bu,us,g2,dv,rfl,hm,q2,m2⟩
    exact⟨_,_,rfl,m2.bb λdO h3 m3=>m3.c8 0 rfl hm.len rfl hm.one λh4 m4=>⟨dO,bu,us,g2,rfl,rfl,dv,hm,q2,c4 m4⟩⟩
   ·have m5:=c4 (m9.push af ag)
    refine(O0 ll a7 yW lX hb ht h2 hq mu hp Ss m5).mono ?_
    rintro _ h2 ⟨bu,us,g2,dv,rfl,hm,q2,m2⟩
    exact⟨_,_,rfl,m2.c8 16 rfl hm.len rfl hm.one λh4 m4=>⟨fh,bu,us,g2,rfl,rfl,dv,hm,q2,m4⟩⟩
  clear m9 yW
  rintro _ _ ov ⟨cF,bu,us,g2,rfl,rfl,dv,hm,q2,m2⟩
  obtain⟨fT,fH,rfl,dK⟩:=hp
  refine⟨_,jk,aZ rfl (aN ⟨_,m2.cell 17 rfl 0 rfl,?_⟩)⟩
  have hz:r6 ((s.l.getD t ak).dE ((s.l.getD t ak).s.fresh p x.now)):=⟨eN p (ok.eh p Gk),(ok.jz hs ht).v⟩
  have kM:bl ((x.take u.aid t).aW u.aid t ((s.l.getD t ak).dE ((s.l.getD t ak).s.fresh p x.now))):=by
   rw[eB]at lX ll
   rw[ab.lJ lX];exact ll.aW lX ht hz
  refine(OZ kM (a7.le dv) q2 m2).mono ?_
  rintro v3 Aj ⟨g3,aE,m3⟩
  have p5:((x.take u.aid t).aW u.aid t ((s.l.getD t ak).dE ((s.l.getD t ak).s.fresh p x.now))).book=(x.take u.aid t).book:=by
   rw[eB]at lX;rw[ab.lJ lX];rfl
  rw[p5]at aE m3
  refine⟨v3,rfl,aN ⟨us,m3.bE 16 rfl hm.len.symm,m3.c8 18 rfl hm.len rfl hm.one λqa m20=>⟨us,m20.bE 18 rfl hm.len.symm,bu,g3,us,dv,rfl,hm,?_,cI (cI (cI m20))⟩⟩⟩
  ·exact aE
end
end Go.Proofs.YtjlkfjnfnonekaaGreatDoor
set_option maxRecDepth 8000
namespace Go.Proofs.YtjlkfjnfnonekaaGreatDoor
open Go.Vc
section
variable{W W' aQ:Wd} {h h':J} {R:List aL} {a:Nat} {y:cR} {g:cQ} {x:ab} {i j k t:Nat} {v:Value} {A B:aL} {s s':ba} {b:Nat} {aid tid ac now:Int} {ads:List Addr} {P:Pl.bL} {u:bR} {p:bh} {l:List cq} {vs:List Value} {cg:Option Addr} {bZ:Nat} {E:ao} {r:bo} {mm:lP}
theorem O6 (o:au cg l.length bZ 8 vs E) (hq:bX (eS W) l vs) (hl:l.length<=4096) (hb:∀m∈l,m.p.body.length<=1000000) (m:aa W h (ae E::R)):aj Tryz.prog 256 #[.slice cg l.length bZ] h λv h'=>
 ∃ar cJ F,v= .slice ar (c2 l).length cJ/\au ar (c2 l).length cJ 1 (ints .i64 (c2 l)) F/\aa W h' (ae F::ae E::R):=by
 refine am4 _ _ _ _ _ ⟨λar ol cJ z h1=>∃(k:Nat) (F:ao),z=k/\k<=l.length/\ol=k/\au ar ol cJ 1 (ints .i64 (c2 (l.take k))) F/\aa W h1 (ae F::ae E::R),λ_ _ _ z _=>((l.length:Int) -z).toNat,⟨0,[],rfl,by omega,rfl,au.nil,m.hU⟩,λ_=>?_⟩
 clear m
 rintro ar ol cJ _ h1 ⟨k,F,rfl,I,ou,mB,m⟩
 rw[ou]at mB⊢
 clear ou
 refine aC (λaK=>?_) λaK=>?_
 ·have bY:k<l.length:=by omega
  have hp:=List.getElem?_eq_getElem bY
  obtain⟨cs,cz,gE,hC⟩:=hq.get (λ_ _ h=>h.len) hp
  obtain⟨al,eg,rfl,U⟩:=mK (o.j8 m 1 rfl) hC (by decide) gE
  have qd:=hb _ (List.getElem_mem bY)
  obtain⟨fT,fH,rfl,dK⟩:=cz
  refine⟨⟨by omega,by omega⟩,aN ⟨_,by rw[Int.toNat_natCast];exact U,m.bb λaP h2 m2=>m2.c8 0 rfl rfl rfl A2 λh3 m3=>⟨_,_,_,m3.cell 0 rfl 4 rfl,(UU h3 (by omega)).ret ⟨_,rfl,?_⟩⟩⟩⟩
  refine mB.kA m3 1 rfl (us:=[.int .i64 (u1 l[k])]) rfl (by intro u hu;simp at hu;subst hu;rfl) (by omega) (by decide) λay c' oV h' ax o'=>?_
  refine⟨by simp only[fits];omega,⟨k+1,oV,by omega,by omega,rfl,?_,ax.aB⟩,by dsimp only;omega⟩
  have e:c2 (l.take (k+1))=c2 (l.take k)++[u1 l[k]]:=by unfold c2;rw[List.take_add_one,hp,List.map_append];rfl
  rw[e,kI];exact o'
 ·obtain rfl:k=l.length:=by omega
  rw[List.take_length]at mB
  have e:(c2 l).length=l.length:=by unfold c2;simp
  rw[e]
  exact⟨ar,cJ,F,rfl,mB,m⟩
structure ej (x:ab) (aid:Int) (t:Nat) (s:ba) (l:List cq):Prop where
 ok:bl x
 hs:x.of aid=some s
 i:dB (s.l.getD t ak).s
 st:(s.l.getD t ak).s.st≠2
 q:(s.l.getD t ak).s.asks=false
 a6:∀f∈(s.l.getD t ak).s.l,f.a6=false
 l:l=(s.l.getD t ak).s.l.map Fr.m
 e:∀f∈(s.l.getD t ak).s.l,f.m.cZ<=15
theorem ej.fresh (c:ej x aid t s l) (ht:t<8) (U:(s.l.getD t ak).s.w.room≠0):∃s' f,(((x.fresh aid t).2=none/\s'=s)\/((x.fresh aid t).2=some f/\ej (x.fresh aid t).1 aid t s' (l++[f])/\(s'.l.getD t ak).s.w.room=(s.l.getD t ak).s.w.room -1)):=by
 cases e:(x.bK.gy aid t x.now).2.2 with
 |none=>rw[Ag e];exact⟨s,qB, .inl ⟨rfl,rfl⟩⟩
 |some p=>
  obtain⟨CH,tq,wg,-⟩:=Eu (aid:=aid) (tid:=t) c.ok.dY c.ok.now
  have Gk:p∈x.bK.all:=wg p (List.mem_append_right _ (by rw[e];simp))
  have eA:=c.ok.eh p Gk
  have lX:(x.take aid t).of aid=some s:=c.hs
  have h9:x.aT aid t=s.l.getD t ak:=ab.hj c.hs
  rw[yd e]
  have ll:=c.ok.take (aid:=aid) (tid:=t)
  have hi:=c.i.fresh (now:=x.now) U eA
  have hz:r6 ((s.l.getD t ak).dE ((s.l.getD t ak).s.fresh p x.now)):=⟨hi.ok,(c.ok.jz c.hs ht).v⟩
  have FF:(x.take aid t).sk aid t p=((x.take aid t).bw aid (some (s.aW t ((s.l.getD t ak).dE ((s.l.getD t ak).s.fresh p x.now))))).dX (ma (x.take aid t).book p.id 2):=by
   unfold ab.sk
   rw[ab.lJ lX,ab.hj lX];rfl
  have gr:(s.aW t ((s.l.getD t ak).dE ((s.l.getD t ak).s.fresh p x.now))).l.getD t ak=(s.l.getD t ak).dE ((s.l.getD t ak).s.fresh p x.now):=by rw[ba.qz (c.ok.lens c.hs).1 ht,if_pos rfl]
  refine⟨s.aW t ((s.l.getD t ak).dE ((s.l.getD t ak).s.fresh p x.now)),(x.aT aid t).s.o9 p x.now, .inr ⟨rfl,⟨?_,?_,?_,?_,?_,?_,?_,?_⟩,?_⟩⟩
  ·rw[FF];exact(ll.aW lX ht hz).dX (by rw[Jp];exact ll.bk)
  ·rw[FF];exact ab.rE (x:=x.take aid t) ll.st lX
  ·rw[gr];exact hi
  ·rw[gr];exact c.st
  ·rw[gr];exact c.q
  ·rw[gr]
   intro f hf
   rcases List.mem_append.1 (show f∈(s.l.getD t ak).s.l++[_]from hf)with hf|hf
   ·exact c.a6 f hf
   ·simp at hf;subst hf;rfl
  ·rw[gr]
   show l++[_]=((s.l.getD t ak).s.l++[_]).map Fr.m
   rw[List.map_append,<-c.l,h9];rfl
  ·rw[gr]
   intro f hf
   rcases List.mem_append.1 (show f∈(s.l.getD t ak).s.l++[_]from hf)with hf|hf
   ·exact c.e f hf
   ·simp at hf;subst hf;show(0:Int)<=15;decide
  ·rw[gr]
   show(s.l.getD t ak).s.w.next.room=_
   have hw:=c.i.w
   have hd:=hw.d
   have hn:=hw.n
   have ih:=hw.s
   unfold eV.room at U⊢
   have ed:cC (s.l.getD t ak).s.w.st (fz (s.l.getD t ak).s.w.dD 1)=cC (s.l.getD t ak).s.w.st (s.l.getD t ak).s.w.dD+1:=by
    have:=hw.z
    unfold cC fz at*;omega
   show max ((s.l.getD t ak).s.w.sz -cC (s.l.getD t ak).s.w.st (fz (s.l.getD t ak).s.w.dD 1)) 0=_
   rw[ed];omega
end
end Go.Proofs.YtjlkfjnfnonekaaGreatDoor
