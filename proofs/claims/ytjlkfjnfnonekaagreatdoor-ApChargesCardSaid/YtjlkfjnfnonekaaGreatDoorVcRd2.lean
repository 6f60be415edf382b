import Derived.LaidEql
import Derived.Laws.Tables
import Derived.Test.YtjlkfjnfnonekaaGreatDoorVcRd
set_option linter.all false
namespace Go.Vc
variable{P:Program} {w:World}
theorem AV {cw:Option Value} {K:Int->Prop} (h:DC cw K):(cw=none/\K 0)\/∃k n,cw=some (.int k n)/\K n:=by
 unfold DC at h
 split at h
 ·exact .inl ⟨rfl,h⟩
 ·exact .inr ⟨_,_,rfl,h⟩
 ·exact h.elim
theorem VH {t e:TypeId} {a:Option Addr} {len cap:Nat} {cw hi:Option Value} {K:Value->Prop} (h:J) (hu:P.underlying t=some (.slice e)) (hi':hM P e=true) (l:Int)
 (hl:cw=none/\l=0\/∃k,cw=some (.int k l))
 (I:match hi with
   |none=>(0<=l/\l<=(len:Int))/\K (.slice (en a l.toNat cap (l.toNat*sz P e)) (len -l.toNat) (cap -l.toNat))
   |some (.int _ m)=>(0<=l/\l<=m/\m<=(cap:Int))/\K (.slice (en a l.toNat cap (l.toNat*sz P e)) (m.toNat -l.toNat) (cap -l.toNat))
   |_=>False):∃u,K u/\Yields P (Instr.sliceAt t (.slice a len cap) cw hi none) h u:=by
 split at I
 ·obtain⟨⟨h1,h2⟩,h3⟩:=I
  refine⟨_,h3,λw _=>?_⟩
  have af:=run_underlying (P:=P) hu w
  have ag:=run_sizeOf (P:=P) hi' w
  rcases hl with⟨rfl,rfl⟩|⟨k,rfl⟩
  ·simp[Instr.sliceAt,af,Instr.slice,Instr.sliceBounds,ag,en]
  ·simp[Instr.sliceAt,af,Instr.slice,Instr.sliceBounds,Instr.sliceBound,asIntOf,ag,en,h1,h2]
 ·rename_i k' m
  obtain⟨⟨h1,h2,h3⟩,h4⟩:=I
  refine⟨_,h4,λw _=>?_⟩
  have af:=run_underlying (P:=P) hu w
  have ag:=run_sizeOf (P:=P) hi' w
  have h0:0<=m:=by omega
  have aA:l<=(m.toNat:Int):=by omega
  rcases hl with⟨rfl,rfl⟩|⟨k,rfl⟩
  ·simp[Instr.sliceAt,af,Instr.slice,Instr.sliceBounds,Instr.sliceBound,asIntOf,ag,en,h0,h3]
  ·simp[Instr.sliceAt,af,Instr.slice,Instr.sliceBounds,Instr.sliceBound,asIntOf,ag,en,h0,h3,h1,h2]
   intro cn;exact absurd cn (by omega)
 ·exact I.elim
theorem VI {t:TypeId} {s:ByteArray} {cw hi:Option Value} {K:Value->Prop} (h:J) (hu:P.underlying t=some .string) (l:Int) (hl:cw=none/\l=0\/∃k,cw=some (.int k l))
 (I:match hi with
   |none=>(0<=l/\l<=(s.size:Int))/\K (.string (s.extract l.toNat s.size))
   |some (.int _ m)=>(0<=l/\l<=m/\m<=(s.size:Int))/\K (.string (s.extract l.toNat m.toNat))
   |_=>False):∃u,K u/\Yields P (Instr.sliceAt t (.string s) cw hi none) h u:=by
 split at I
 ·obtain⟨⟨h1,h2⟩,h3⟩:=I
  refine⟨_,h3,λw _=>?_⟩
  have af:=run_underlying (P:=P) hu w
  rcases hl with⟨rfl,rfl⟩|⟨k,rfl⟩
  ·simp[Instr.sliceAt,af,Instr.slice,Instr.sliceBounds]
  ·simp[Instr.sliceAt,af,Instr.slice,Instr.sliceBounds,Instr.sliceBound,asIntOf,h1,h2]
 ·rename_i k' m
  obtain⟨⟨h1,h2,h3⟩,h4⟩:=I
  refine⟨_,h4,λw _=>?_⟩
  have af:=run_underlying (P:=P) hu w
  have h0:0<=m:=by omega
  have aA:l<=(m.toNat:Int):=by omega
  rcases hl with⟨rfl,rfl⟩|⟨k,rfl⟩
  ·simp[Instr.sliceAt,af,Instr.slice,Instr.sliceBounds,Instr.sliceBound,asIntOf,h0,h3]
  ·simp[Instr.sliceAt,af,Instr.slice,Instr.sliceBounds,Instr.sliceBound,asIntOf,h0,h3,h1,h2]
   intro cn;exact absurd cn (by omega)
 ·exact I.elim
theorem akS {t:TypeId} {v:Value} {cw hi:Option Value} {po:Value} {K:Value->Prop} (h:J) (U:xj P t v cw hi po K):
 ∃u,K u/\Yields P (Instr.sliceAt t v cw hi (some po)) h u:=by
 unfold xj at U
 split at U
 ·rename_i e a len cap hu
  split at U
  ·rename_i hi'
   rcases AV U with⟨rfl,h2⟩|⟨k,l,rfl,h2⟩
   ·split at h2
    ·rename_i k1 m k2 x
     obtain⟨⟨g1,g2,g3,g4⟩,g5⟩:=h2
     refine⟨_,g5,λw _=>?_⟩
     have af:=run_underlying (P:=P) hu w
     have ag:=run_sizeOf (P:=P) hi' w
     have q1:0<=x:=by omega
     have q2:0<=m:=by omega
     have aE:m<=(x.toNat:Int):=by omega
     simp[Instr.sliceAt,af,Instr.slice,Instr.sliceBounds,Instr.sliceBound,asIntOf,ag,en,q1,g4,q2,aE]
     intro cn;exact absurd cn (by omega)
    ·exact h2.elim
   ·split at h2
    ·rename_i k1 m k2 x
     obtain⟨⟨g1,g2,g3,g4⟩,g5⟩:=h2
     refine⟨_,g5,λw _=>?_⟩
     have af:=run_underlying (P:=P) hu w
     have ag:=run_sizeOf (P:=P) hi' w
     have q1:0<=x:=by omega
     have q2:0<=m:=by omega
     have aE:m<=(x.toNat:Int):=by omega
     have bP:l<=(m.toNat:Int):=by omega
     simp[Instr.sliceAt,af,Instr.slice,Instr.sliceBounds,Instr.sliceBound,asIntOf,ag,en,q1,g4,q2,aE,g1,bP]
     rw[if_pos (by omega),if_pos (by omega)]
    ·exact h2.elim
  ·exact U.elim
 ·exact U.elim
theorem akU {t:TypeId} {v:Value} {cw hi:Option Value} {K:Value->Prop} (h:J) (U:oJ P t v cw hi K):
 ∃u,K u/\Yields P (Instr.sliceAt t v cw hi none) h u:=by
 unfold oJ at U
 split at U
 ·rename_i e a len cap hu
  split at U
  ·rename_i hi'
   rcases AV U with⟨h1,h2⟩|⟨k,n,h1,h2⟩
   ·exact VH h hu hi' 0 (.inl ⟨h1,rfl⟩) h2
   ·exact VH h hu hi' n (.inr ⟨k,h1⟩) h2
  ·exact U.elim
 ·rename_i n e p hu
  split at U
  ·rename_i hi'
   obtain⟨b,o,rfl,sx⟩:=yP U
   refine⟨_,sx,λw _=>?_⟩
   have af:=run_underlying (P:=P) hu w
   have ag:=run_sizeOf (P:=P) hi' w
   simp[Instr.sliceAt,af,Instr.sureAddr,Instr.sliceBounds,ag,add_eq]
  ·exact U.elim
 ·rename_i s hu
  rcases AV U with⟨h1,h2⟩|⟨k,n,h1,h2⟩
  ·exact VI h hu 0 (.inl ⟨h1,rfl⟩) h2
  ·exact VI h hu n (.inr ⟨k,h1⟩) h2
 ·exact U.elim
theorem agR {a b:Value} {K:Value->Prop} (ts:Array TypeId) (ty:TypeId) (h:J) (U:yJ a b K):∃u,K u/\Yields P (Builtin.min_ ts ty #[a,b]) h u:=by
 unfold yJ at U
 split at U
 ·split at U
  ·rename_i I
   exact⟨_,U,λw _=>by simp[Builtin.min_,Builtin.min2];omega⟩
  ·exact U.elim
 ·exact U.elim
theorem ag3 {a b:Value} {K:Value->Prop} (ts:Array TypeId) (ty:TypeId) (h:J) (U:yL a b K):∃u,K u/\Yields P (Builtin.max_ ts ty #[a,b]) h u:=by
 unfold yL at U
 split at U
 ·split at U
  ·rename_i I
   exact⟨_,U,λw _=>by simp[Builtin.max_,Builtin.max2];omega⟩
  ·exact U.elim
 ·exact U.elim
theorem Zg {b:Builtin} {ts:Array TypeId} {vs:Array Value} {ty:TypeId} {K:Value->Prop} (h:J) (U:s6 P b ts.toList vs.toList K):
 ∃u,K u/\∀(cs:Array Bool) (w:World),w.heap=h->(builtin b ts ty cs vs).run P w= .ok (.value u) w:=by
 have up:∀{s:Sem Value} {u:Value},Yields P s h u->∀w:World,w.heap=h->(do pure (Next.value (<-s)):Sem Next).run P w= .ok (.value u) w:=by
  intro s u hy w hw
  simp[hy w hw]
 obtain⟨zh⟩:=vs
 obtain⟨dA⟩:=ts
 unfold s6 at U
 simp only at U
 split at U
 ·rename_i t v
  split at U
  ·rename_i hu
   refine⟨_,U,λcs w hw=>?_⟩
   simp[builtin,Builtin.len_,run_underlying (P:=P) hu w,goInt]
  ·rename_i hu
   refine⟨_,U,λcs w hw=>?_⟩
   simp[builtin,Builtin.len_,run_underlying (P:=P) hu w,goInt]
  ·rename_i hu
   refine⟨_,U,λcs w hw=>?_⟩
   simp[builtin,Builtin.len_,run_underlying (P:=P) hu w,goInt]
  ·exact U.elim
 ·rename_i t v
  split at U
  ·rename_i hu
   refine⟨_,U,λcs w hw=>?_⟩
   simp[builtin,Builtin.cap_,run_underlying (P:=P) hu w,goInt]
  ·exact U.elim
 ·rename_i a b
  obtain⟨u,h3,h4⟩:=agR (P:=P) _ ty h U
  exact⟨u,h3,λcs=>up h4⟩
 ·rename_i a b
  obtain⟨u,h3,h4⟩:=ag3 (P:=P) _ ty h U
  exact⟨u,h3,λcs=>up h4⟩
 ·exact U.elim
theorem afc {t:TypeId} {a i:Value} {K:Value->Prop} (h:J) (U:(match i with
 | .int _ n=>match P.underlying t,a with
  |some (.array len e),v=>match hM P e with
   |true=>pr v λb o=>(0<=n/\n<(len:Int))/\K (.pointer (some ⟨b,o+qC (sz P e) n.toNat,none⟩))
   |false=>False
  |some (.slice e), .slice p len _=>match hM P e with
   |true=>(0<=n/\n<(len:Int))/\eu p λb o=>K (.pointer (some ⟨b,o+qC (sz P e) n.toNat,none⟩))
   |false=>False
  |_,_=>False
 |_=>False)):∃u,K u/\Yields P (Instr.indexAt t a i) h u:=by
 have gf:∀s n,qC s n=n*s:=by
  intro s n;unfold qC;split<;>simp
 split at U
 ·rename_i k n
  split at U
  ·rename_i len e v hu
   split at U
   ·rename_i hi
    obtain⟨b,o,rfl,⟨h1,h2⟩,h3⟩:=tN U
    refine⟨_,h3,λw _=>?_⟩
    have af:=run_underlying (P:=P) hu w
    have ag:=run_sizeOf (P:=P) hi w
    simp[Instr.indexAt,asIntOf,af,Instr.sureAddr,h1,h2,ag,add_eq,gf]
   ·exact U.elim
  ·rename_i e p len c hu
   split at U
   ·rename_i hi
    obtain⟨⟨h1,h2⟩,sx⟩:=U
    obtain⟨b,o,rfl,h3⟩:=yP sx
    refine⟨_,h3,λw _=>?_⟩
    have af:=run_underlying (P:=P) hu w
    have ag:=run_sizeOf (P:=P) hi w
    simp[Instr.indexAt,asIntOf,af,h1,h2,ag,add_eq,gf]
   ·exact U.elim
  ·exact U.elim
 ·exact U.elim
theorem afd {t:TypeId} {a i:Value} {K:Value->Prop} (h:J) (U:(match i with
 | .int _ n=>match P.underlying t,a with
  |some (.array len e),v=>match hM P e with
   |true=>(0<=n/\n<(len:Int))/\rb P e v (qC (sz P e) n.toNat) K
   |false=>False
  |some .string, .string s=>(0<=n/\n<(s.size:Int))/\K (.int .u8 (Nf s n.toNat))
  |_,_=>False
 |_=>False)):∃u,K u/\Yields P (Instr.index t a i) h u:=by
 have gf:∀s n,qC s n=n*s:=by
  intro s n;unfold qC;split<;>simp
 split at U
 ·rename_i k n
  split at U
  ·rename_i len e v hu
   split at U
   ·rename_i hi
    obtain⟨⟨h1,h2⟩,h3⟩:=U
    obtain⟨cs,rfl,u,h4,aA⟩:=Ot (P:=P) h h3
    refine⟨u,h4,λw hw=>?_⟩
    have af:=run_underlying (P:=P) hu w
    have ag:=run_sizeOf (P:=P) hi w
    have aI:=aA w hw
    rw[gf]at aI
    simp[Instr.index,asIntOf,af,h1,h2,ag,aI]
   ·exact U.elim
  ·rename_i s hu
   obtain⟨⟨h1,h2⟩,h3⟩:=U
   refine⟨_,h3,λw _=>?_⟩
   have af:=run_underlying (P:=P) hu w
   have cx:n.toNat<s.size:=by omega
   have cy:s[n.toNat]?=some (s.data.toList.getD n.toNat 0):=by
    rw[getElem?_pos s n.toNat cx]
    have:n.toNat<s.data.toList.length:=by simpa using cx
    rw[List.getD_eq_getElem?_getD,List.getElem?_eq_getElem this]
    rfl
   simp[Instr.index,asIntOf,af,h1,cy,Nf]
  ·exact U.elim
 ·exact U.elim
theorem TP {nm:Bool} {v:Value} {K:Value->Prop} (h:DL nm v K):K v:=by
 unfold DL at h
 split at h
 ·exact h
 ·split at h
  ·exact h _ rfl
  ·exact h
theorem Rh:∀(new pre tJ post:List Value) (off k:Nat),pre.length=off+k->tJ.length=new.length->
 (new.zipIdx k).foldl (λ(cs:Array Value) (p:Value×Nat)=>cs.setIfInBounds (off+p.2) p.1) (pre++tJ++post).toArray=(pre++new++post).toArray
 |[],pre,tJ,post,off,k,_,hm=>by
  have:tJ=[]:=List.eq_nil_of_length_eq_zero hm
  subst this;rfl
 |c::new,pre,tJ,post,off,k,hp,hm=>by
  match tJ,hm with
  |m::tJ,hm=>
   have b9:=Rh new (pre++[c]) tJ post off (k+1) (by simp;omega) (by simpa using hm)
   have e:(pre++m::tJ++post).toArray.setIfInBounds (off+k) c=(pre++[c]++tJ++post).toArray:=by
    rw[<-hp];apply Array.ext';simp
   simp only[List.zipIdx_cons,List.foldl_cons]
   rw[e,b9]
   simp
theorem Du:∀{ch:List (List Value)},(cX ch).length=kP (ch.map List.length)
 |[]=>rfl
 |a::r=>by simp[cX,kP,Du (ch:=r)]
theorem Tb:∀(a b:List (List Value)),cX (a++b)=cX a++cX b
 |[],b=>rfl
 |x::a,b=>by simp[cX,Tb a b]
theorem Ls {ch:List (List Value)} {i:Nat} {c:List Value} (h:ch[i]?=some c):cX ch=cX (ch.take i)++c++cX (ch.drop (i+1)):=by
 have cn:=(List.getElem?_eq_some_iff.1 h).1
 have he:=(List.getElem?_eq_some_iff.1 h).2
 have e:ch=ch.take i++(c::ch.drop (i+1)):=by rw[<-he,<-List.drop_eq_getElem_cons cn,List.take_append_drop]
 calc cX ch=cX (ch.take i++(c::ch.drop (i+1))):=by rw[<-e]
  _=_:=by rw[Tb];simp[cX]
theorem afw {ch:List (List Value)} {i:Nat} {c d:List Value} (h:ch[i]?=some c):cX (ch.set i d)=cX (ch.take i)++d++cX (ch.drop (i+1)):=by
 have cn:=(List.getElem?_eq_some_iff.1 h).1
 have h2:(ch.set i d)[i]?=some d:=by simp[cn]
 rw[Ls h2]
 have af:(ch.set i d).take i=ch.take i:=List.take_set_of_le (Nat.le_refl _)
 have ag:(ch.set i d).drop (i+1)=ch.drop (i+1):=List.drop_set_of_lt (by omega)
 rw[af,ag]
theorem Ui {n:Nat} {v:Value} {K:List Value->Prop} (h:w6 n v K):v.cells.toList.length=n/\K v.cells.toList/\v.cells.size=n:=by
 unfold w6 at h
 split at h
 ·exact⟨h.1,h.2,by simpa[Value.cells]using h.1⟩
 ·rename_i bC
  split at h
  ·have hc:v.oneCell'=true/\K [v]:=by cases v<;>first|exact⟨rfl,h⟩|exact h.elim
   have:v.cells=#[v]:=by cases v<;>first|rfl|exact(bC _ rfl).elim
   rw[this];exact⟨rfl,hc.2,rfl⟩
  ·exact h.elim
theorem Uh {n:Nat} {v:Value} {K:List Value->Prop} (h:w6 n v K):(∃cs,v= .agg cs)\/v.oneCell'=true:=by
 unfold w6 at h
 split at h
 ·exact .inl ⟨_,rfl⟩
 ·rename_i bC
  split at h
  ·exact .inr (by cases v<;>first|rfl|exact h.elim)
  ·exact h.elim
theorem Ug {n:Nat} {v:Value} {K:List Value->Prop} (h1:v.cells.toList.length=n) (h2:(∃cs,v= .agg cs)\/v.oneCell'=true) (k:K v.cells.toList):w6 n v K:=by
 rcases h2 with⟨cs,rfl⟩|h2
 ·exact⟨h1,k⟩
 ·cases v<;>first|(subst h1;exact k)|(cases h2;done)
theorem FK {place:Nat->Option (Nat×Nat)} {sizes:List Nat} (eA:∀i n,sizes[i]?=some n->place i=some (kP (sizes.take i),n)):
 ∀{parts:List (Nat×Value)} {ch:List (List Value)} {K:List (List Value)->Prop},ch.map List.length=sizes->sP sizes parts ch K->
  ∃tc,K tc/\(∀bS:List (List Value)->Prop,bS tc->sP sizes parts ch bS)/\Instr.fill place (cX ch).toArray parts=some (cX tc).toArray
 |[],ch,K,_,h=>⟨ch,h,λ_ k=>k,rfl⟩
 |(i,v)::r,ch,K,nj,h=>by
  simp only[sP]at h
  split at h
  ·rename_i n hn
   obtain⟨h1,h2,h3⟩:=Ui h
   have hlen:ch.length=sizes.length:=by rw[<-nj];simp
   have hi:i<ch.length:=by rw[hlen];exact(List.getElem?_eq_some_iff.1 hn).1
   obtain⟨c,hc⟩:∃c,ch[i]?=some c:=⟨_,List.getElem?_eq_getElem hi⟩
   have F3:c.length=n:=by
    have:(ch.map List.length)[i]?=some c.length:=by simp[hc]
    rw[nj,hn]at this;exact(Option.some.inj this).symm
   have acS:(ch.set i v.cells.toList).map List.length=sizes:=by
    rw[List.map_set,h1,<-nj]
    apply List.ext_getElem?
    intro j
    rw[List.getElem?_set]
    split
    ·rename_i uL;subst uL
     have:=(List.getElem?_eq_some_iff.1 hc).2
     simp[hi,this,F3]
    ·rfl
   obtain⟨tc,k1,k2,k3⟩:=FK eA acS h2
   have wC:(cX (ch.take i)).length=kP (sizes.take i):=by rw[Du,<-nj,List.map_take]
   refine⟨tc,k1,λbS k=>?_,?_⟩
   ·simp only[sP,hn]
    have:=k2 bS k
    exact Ug h1 (Uh h) this
   ·simp only[Instr.fill,eA i n hn]
    have hb:¬(v.cells.size≠n\/kP (sizes.take i)+v.cells.size>(cX ch).toArray.size):=by
     have:=congrArg List.length (Ls hc)
     simp only[List.length_append,wC,F3]at this
     simp only[List.size_toArray]
     omega
    have tu:(decide (v.cells.size≠n)||decide (kP (sizes.take i)+v.cells.size>(cX ch).toArray.size))=false:=by simpa using hb
    rw[if_neg (by simpa using hb)]
    have fO:=Rh v.cells.toList (cX (ch.take i)) c (cX (ch.drop (i+1))) (kP (sizes.take i)) 0 (by simpa using wC) (by rw[F3,h1])
    rw[<-Ls hc,<-afw hc]at fO
    have gS:v.cells.zipIdx.foldl (λ(cs:Array Value) (p:Value×Nat)=>cs.setIfInBounds (kP (sizes.take i)+p.2) p.1) (cX ch).toArray=(cX (ch.set i v.cells.toList)).toArray:=by
     rw[<-fO,<-Array.foldl_toList];simp
    rw[<-k3,<-gS]
  ·exact h.elim
theorem M6:∀{sizes:List Nat} {l:List Value},l.length=kP sizes->(ze sizes l).map List.length=sizes/\cX (ze sizes l)=l
 |[],l,h=>⟨rfl,by rw[List.eq_nil_of_length_eq_zero h];rfl⟩
 |n::r,l,h=>by
  simp only[kP]at h
  obtain⟨h1,h2⟩:=M6 (sizes:=r) (l:=l.drop n) (by simp;omega)
  exact⟨by simp[ze,h1];omega,by simp[ze,cX,h2]⟩
theorem ug:∀{ki:List Field} {o:Nat} {sizes:List Nat},lay P ki o=some sizes->
 ∃places,ki.mapM (λf=>(P.info? f.type).map λi=>(f.offset,i.size))=some places/\places.length=sizes.length/\∀i n,sizes[i]?=some n->places[i]?=some (o+kP (sizes.take i),n)
 |[],o,sizes,h=>by simp[lay]at h;subst h;exact⟨[],by simp,rfl,by simp⟩
 |f::r,o,sizes,h=>by
  simp only[lay]at h
  split at h
  ·rename_i l h1 h2 h3
   cases h
   obtain⟨i,hi,hs⟩:=Ks h2
   obtain⟨places,k1,k2,k3⟩:=ug h3
   have Ay:=Nat.eq_of_beq_eq_true h1
   refine⟨(f.offset,i.size)::places,by simp[hi,k1],by simp[k2],?_⟩
   intro j n ah
   cases j with
   |zero=>simp at ah;subst ah;simp[kP,Ay,hs]
   |succ j=>
    simp at ah
    have:=k3 j n ah
    simp only[List.getElem?_cons_succ,List.take_succ_cons,kP]
    rw[this,hs]
    simp[Nat.add_assoc]
  ·cases h
theorem VV {n m i:Nat} (h:i<n):kP ((List.replicate n m).take i)=i*m:=by
 rw[List.take_replicate,Nat.min_eq_left (by omega)]
 induction i with
 |zero=>simp[kP]
 |succ i b9=>rw[List.replicate_succ];simp only[kP];rw[b9 (by omega),Nat.succ_mul];omega
theorem U4 {n m i k:Nat} (h:(List.replicate n m)[i]?=some k):i<n/\k=m:=by
 have:=(List.getElem?_eq_some_iff.1 h)
 obtain⟨h1,h2⟩:=this
 simp at h1 h2
 exact⟨h1,h2.symm⟩
theorem PE {t:TypeId} {parts:List (Nat×Value)} {K:Value->Prop} (h:zK P t parts K):
 ∃v,K v/\(∀bS:Value->Prop,bS v->zK P t parts bS)/\∀w,(Instr.build t parts.toArray).run P w= .ok v w:=by
 unfold zK at h
 split at h
 ·rename_i it ki C1 hu
  split at h
  ·rename_i z sizes hz hl
   split at h
   ·rename_i hb
    have hb:=Nat.eq_of_beq_eq_true hb
    obtain⟨s1,s2⟩:=M6 hb
    obtain⟨places,p1,p2,vd⟩:=ug hl
    obtain⟨tc,k1,k2,k3⟩:=FK (place:= λi=>places[i]?) (λi n hn=>by simpa using vd i n hn) s1 h
    refine⟨_,k1,λbS k=>?_,λw=>?_⟩
    ·unfold zK
     simp only[C1,hu,hz,hl,hb,Nat.beq_refl]
     exact k2 _ k
    ·refine run_build w t _ _ ?_
     unfold Program.built
     rw[s2]at k3
     simp only[C1,hu,hz,p1]
     simpa using k3
   ·exact h.elim
  ·exact h.elim
 ·rename_i it n e C1 hu
  split at h
  ·rename_i z hz hi
   obtain⟨SU,KG,hs⟩:=Ks hi
   split at h
   ·rename_i hb
    have hb:=Nat.eq_of_beq_eq_true hb
    obtain⟨s1,s2⟩:=M6 hb
    obtain⟨tc,k1,k2,k3⟩:=FK (place:= λi=>some (i*SU.size,SU.size)) (λi n hn=>by
     obtain⟨r1,r2⟩:=U4 hn
     rw[VV r1,r2,hs]) s1 h
    refine⟨_,k1,λbS k=>?_,λw=>?_⟩
    ·unfold zK
     simp only[C1,hu,hz,hi,hb,Nat.beq_refl]
     exact k2 _ k
    ·refine run_build w t _ _ ?_
     unfold Program.built
     rw[s2]at k3
     simp only[C1,hu,hz,KG]
     simpa using k3
   ·exact h.elim
  ·exact h.elim
 ·exact h.elim
theorem OE {t:TypeId} {K:Value->Prop} (h:mZ P t K):∃v,K v/\∀bS:Value->Prop,bS v->mZ P t bS:=by
 unfold mZ at h
 split at h
 ·rename_i hu;obtain⟨n,h⟩:=h;exact⟨_,h,λbS k=>(by unfold mZ;simp only[hu];exact⟨n,k⟩)⟩
 ·rename_i hu;obtain⟨n,h⟩:=h;exact⟨_,h,λbS k=>(by unfold mZ;simp only[hu];exact⟨n,k⟩)⟩
 ·rename_i hu;obtain⟨n,h⟩:=h;exact⟨_,h,λbS k=>(by unfold mZ;simp only[hu];exact⟨n,k⟩)⟩
 ·rename_i hu;obtain⟨n,l,m,h⟩:=h;exact⟨_,h,λbS k=>(by unfold mZ;simp only[hu];exact⟨n,l,m,k⟩)⟩
 ·rename_i hu;obtain⟨n,h⟩:=h;exact⟨_,h,λbS k=>(by unfold mZ;simp only[hu];exact⟨n,k⟩)⟩
 ·rename_i hu;obtain⟨n,h⟩:=h;exact⟨_,h,λbS k=>(by unfold mZ;simp only[hu];exact⟨n,k⟩)⟩
 ·rename_i hu;obtain⟨n,h⟩:=h;exact⟨_,h,λbS k=>(by unfold mZ;simp only[hu];exact⟨n,k⟩)⟩
 ·rename_i d bC eE yM qD DK oE G2
  obtain⟨v,h⟩:=h
  refine⟨v,h,λbS k=>?_⟩
  unfold mZ
  split
  ·rename_i hu;exact(bC _ hu).elim
  ·rename_i hu;exact(eE hu).elim
  ·rename_i hu;exact(yM _ hu).elim
  ·rename_i hu;exact(qD _ hu).elim
  ·rename_i hu;exact(DK hu).elim
  ·rename_i hu;exact(oE _ hu).elim
  ·rename_i hu;exact(G2 _ _ hu).elim
  ·exact⟨v,k⟩
theorem XO {T:TypeId} {ok:Bool} {a:Value} {K:Value->Prop} (h:J) (U:vK P T ok a K):∃v,K v/\∀xt:TypeId,Yields P (Instr.typeAssert a xt T ok) h v:=by
 unfold vK at U
 split at U
 ·exact U.elim
 ·rename_i d wT hu
  have wT:∀ms,d≠ .interface ms:= λms e=>wT _ (by rw[e])
  have key:∀(x:Value) (t:Bool),Fc P T a=some (x,t)->(t=true\/ok=true)->∀xt:TypeId,Yields P (Instr.typeAssert a xt T ok) h (if ok then .tuple #[x, .bool t]else x):=by
   intro x t hx eX xt w hw
   have af:=run_underlying (P:=P) hu w
   unfold Fc at hx
   have Iv:∀z,zeroOf P T=some z->(zeroValue T).run P w= .ok z w:=by
    intro z hz
    unfold zeroOf at hz
    split at hz
    ·rename_i i hi;simp[zeroValue,typeInfo,hi,hz]
    ·cases hz
   split at hx
   ·rename_i u y
    split at hx
    ·rename_i hb
     cases hx
     have hb:=Nat.eq_of_beq_eq_true hb
     subst hb
     cases d<;>first|exact(wT _ rfl).elim|(cases ok<;>simp[Instr.typeAssert,af])
    ·rename_i hb
     split at hx
     ·rename_i z hz
      cases hx
      rcases eX with eX|eX
      ·cases eX
      ·subst eX
       have b6:¬u=T:= λe=>by subst e;rw[Nat.beq_refl]at hb;cases hb
       have ag:=Iv _ hz
       cases d<;>first|exact(wT _ rfl).elim|simp[Instr.typeAssert,af,b6,ag]
     ·cases hx
   ·split at hx
    ·rename_i z hz
     cases hx
     rcases eX with eX|eX
     ·cases eX
     ·subst eX
      have ag:=Iv _ hz
      cases d<;>first|exact(wT _ rfl).elim|simp[Instr.typeAssert,af,ag]
    ·cases hx
   ·cases hx
  obtain⟨x,h1,_⟩:=OE U
  cases ok
  ·exact⟨_,h1.2,λxt=>by simpa using key x true h1.1 (.inl rfl) xt⟩
  ·obtain⟨t,h2,h3⟩:=h1
   exact⟨_,h3,λxt=>by simpa using key x t h2 (.inr rfl) xt⟩
 ·exact U.elim
theorem HJ {x:hI} {aJ:Operand->Value} {o:Oper} {h:J} {K:Value->Prop} (U:rd P x aJ o.op h K):
 ∃v,K v/\∀w:World,w.heap=h->(execOp aJ o).run P w= .ok (.value v) w:=by
 have up:∀{s:Sem Value} {u:Value},Yields P s h u->∀w:World,w.heap=h->(do pure (Next.value (<-s)):Sem Next).run P w= .ok (.value u) w:=by
  intro s u hy w hw
  simp[hy w hw]
 obtain⟨dst,op,ty,pos,after,guard⟩:=o
 simp only at U
 unfold rd at U
 split at U
 ·exact⟨_,U,λw _=>rfl⟩
 ·exact⟨_,TP U,λw _=>rfl⟩
 ·rename_i c a b
  split at U
  ·rename_i t ht
   rcases B5 U with⟨rfl,h1⟩|⟨rfl,h1⟩
   ·exact⟨_,h1,λw _=>by simp[execOp,ht,asBool]⟩
   ·exact⟨_,h1,λw _=>by simp[execOp,ht,asBool]⟩
  ·exact U.elim
 ·rename_i op t a b NF
  obtain⟨v,h1,h2⟩:=Y7 (P:=P) a b h U
  exact⟨v,h1,λw hw=>up h2 w hw⟩
 ·obtain⟨v,h1,h2⟩:=amh (P:=P) h U
  exact⟨v,h1,λw hw=>up h2 w hw⟩
 ·obtain⟨v,h1,h2⟩:=aac (P:=P) h U
  exact⟨v,h1,λw hw=>up h2 w hw⟩
 ·rename_i a
  split at U
  ·rename_i p hp
   obtain⟨b,o,rfl,h1⟩:=yP U
   exact⟨_,h1,λw _=>by simp[execOp,hp]⟩
  ·exact U.elim
 ·obtain⟨v,h1,h2⟩:=abG (P:=P) h U
  exact⟨v,h1,λw hw=>up h2 w hw⟩
 ·rename_i t a f
  obtain⟨ki,fd,hu,hf,hi,hs,AA⟩:=Cn U
  obtain⟨cs,cz,v,h1,h2⟩:=Ot (P:=P) h AA
  refine⟨v,h1,λw hw=>up (s:=Instr.field t (aJ a) f) (λw hw=>?_) w hw⟩
  have af:=run_underlying (P:=P) hu w
  have ag:=h2 w hw
  simp[Instr.field,af,hf,cz,asAgg,ag]
 ·obtain⟨v,h1,h2⟩:=afc (P:=P) h U
  exact⟨v,h1,λw hw=>up h2 w hw⟩
 ·rename_i t a
  obtain⟨b,o,hp,h1⟩:=tN U
  obtain⟨v,h1,h2⟩:=To (P:=P) h1
  refine⟨v,h1,λw hw=>up (s:=Instr.loadAt t (aJ a)) ?_ w hw⟩
  rw[hp];exact h2
 ·obtain⟨v,h1,h2⟩:=afd (P:=P) h U
  exact⟨v,h1,λw hw=>up h2 w hw⟩
 ·rename_i a i
  split at U
  ·rename_i vs hv
   split at U
   ·rename_i v hi
    refine⟨v,U,λw hw=>up (s:=Instr.extract (aJ a) i) (λw _=>?_) w hw⟩
    have:vs[i]?=some v:=by simpa using hi
    simp[Instr.extract,hv,this]
   ·exact U.elim
  ·exact U.elim
 ·obtain⟨v,h1,h2⟩:=akU (P:=P) h U
  exact⟨v,h1,λw hw=>up h2 w hw⟩
 ·obtain⟨v,h1,h2⟩:=akS (P:=P) h U
  exact⟨v,h1,λw hw=>up h2 w hw⟩
 ·obtain⟨v,h1,h2⟩:=XO (P:=P) h U
  exact⟨v,h1,λw hw=>up (h2 _) w hw⟩
 ·rename_i t a
  split at U
  ·exact U.elim
  ·rename_i d bC hu
   refine⟨_,U,λw hw=>up (s:=Instr.makeInterface t (aJ a)) (λw _=>?_) w hw⟩
   have af:=run_underlying (P:=P) hu w
   cases d<;>first|exact(bC _ rfl).elim|simp[Instr.makeInterface,af]
  ·exact U.elim
 ·rename_i f a b
  have af:(a.toList.map aJ).toArray=a.map aJ:=by apply Array.ext';simp
  have ag:(b.toList.map aJ).toArray=b.map aJ:=by apply Array.ext';simp
  exact⟨_,U,λw hw=>by rw[af,ag];rfl⟩
 ·rename_i t parts
  obtain⟨v,h1,_,h2⟩:=PE (P:=P) U
  have e:(parts.toList.map λ(i,x)=>(i,aJ x)).toArray=parts.map λ(i,x)=>(i,aJ x):=by apply Array.ext';simp
  rw[e]at h2
  have hy:Yields P (Instr.build t (parts.map λ(i,x)=>(i,aJ x))) h v:= λw _=>h2 w
  exact⟨v,h1,λw hw=>up hy w hw⟩
 ·rename_i b args ts
  have:(args.toList.map aJ)=(args.map aJ).toList:=by simp
  rw[this]at U
  obtain⟨u,h1,h2⟩:=Zg (P:=P) (ty:=ty) h U
  refine⟨u,h1,λw hw=>?_⟩
  simp[execOp,resolve,invoke,h2 _ w hw]
 ·exact U.elim
theorem Hc {h:J} {b:Nat} (hp:DS h b=true):∃c t,h[b]?=some (.cells c t (0,0)):=by
 unfold DS at hp
 split at hp
 ·rename_i c t cw hi e
  simp only[Bool.and_eq_true]at hp
  obtain rfl:=Nat.eq_of_beq_eq_true hp.1
  obtain rfl:=Nat.eq_of_beq_eq_true hp.2
  exact⟨c,t,e⟩
 ·cases hp
theorem UD {u:TypeId} (hp:DU P u=true):∃e i j,P.underlying u=some (.pointer e)/\P.info? u=some i/\i.comparable=true/\P.info? e=some j/\j.size≠0:=by
 unfold DU at hp
 split at hp
 ·rename_i e hu
  simp only[Bool.and_eq_true]at hp
  obtain⟨h1,h2⟩:=hp
  split at h1
  ·rename_i i hi
   split at h2
   ·rename_i j ah
    exact⟨e,i,j,hu,hi,h1,ah,λhz=>by rw[hz]at h2;cases h2⟩
   ·cases h2
  ·cases h1
 ·cases hp
theorem Vi {t:TypeId} {ms:_} {a b:Value} {k c:Bool} (hu:P.underlying t=some (.interface ms)) {w:World} (he:qt P w.heap k a b=some c):(Op.equal t a b).run P w= .ok c w:=by
 have gY:=run_underlying (P:=P) hu w
 unfold qt at he
 split at he
 ·rename_i u x v y
  split at he
  ·rename_i hb
   cases he
   have b6:¬u=v:= λe=>by subst e;rw[Nat.beq_refl]at hb;cases hb
   have key:∀d,(Op.equalIn (d+1) t (.iface u x) (.iface v y)).run P w= .ok false w:=by
    intro d;simp[Op.equalIn,gY,b6]
   exact key 9999
  ·rename_i hb
   obtain rfl:=Nat.eq_of_beq_eq_true hb
   split at he
   ·rename_i p q hp
    obtain⟨e,i,j,h1,h2,h3,h4,aA⟩:=UD hp
    unfold D8 at he
    split at he
    ·rename_i yv
     cases he;subst yv
     exact run_equalIn_iface_ptr_same w 9998 p hu h1 h2 h3 h4
    ·rename_i yv
     split at he
     ·rename_i eA
      cases he
      simp only[Bool.and_eq_true]at eA
      obtain⟨aK,t1,k1⟩:=Hc eA.1
      obtain⟨aG,t2,k2⟩:=Hc eA.2
      exact run_equalIn_iface_ptr_other w 9998 hu h1 h2 h3 h4 aA yv k1 k2
     ·cases he
   ·cases he
 ·exact MO t ms hu he w
theorem Vl {t:TypeId} {p q:Option Addr} {c:Bool} (I:DU P t=true) {w:World} (he:ptrEq w.heap p q=some c):(Op.equal t (.pointer p) (.pointer q)).run P w= .ok c w:=by
 obtain⟨e,i,j,h1,h2,h3,h4,aA⟩:=UD I
 have gY:=run_underlying (P:=P) h1 w
 have key:∀d,(Op.equalIn (d+1) t (.pointer p) (.pointer q)).run P w= .ok c w:=by
  intro d
  unfold ptrEq at he
  cases q with
  |none=>cases he;cases p<;>simp[Op.equalIn,gY,ph]
  |some q=>
   cases p with
   |none=>cases he;simp[Op.equalIn,gY]
   |some p=>
    dsimp only at he
    unfold D8 at he
    split at he
    ·rename_i yv
     cases he;subst yv
     simp[Op.equalIn,gY,sizeOf,typeInfo,h4,run_sameAddr_same]
    ·rename_i yv
     split at he
     ·rename_i eA
      cases he
      simp only[Bool.and_eq_true]at eA
      obtain⟨aK,t1,k1⟩:=Hc eA.1
      obtain⟨aG,t2,k2⟩:=Hc eA.2
      simp[Op.equalIn,gY,sizeOf,typeInfo,h4,aA,run_sameAddr_other w yv k1 k2]
     ·cases he
 exact key 9999
theorem QW {op:BinOp} {t:TypeId} {x y:Operand} {a b:Value} {c:Bool} {w:World} (he:qt P w.heap (isConst x||isConst y) a b=some c):(eqGuard op t x y a b).run P w= .ok () w:=by
 unfold qt at he
 split at he
 ·unfold eqGuard;cases op<;>rfl
 ·exact J6 he
theorem afm {t:TypeId} (h:isIf P t=true):∃ms,P.underlying t=some (.interface ms):=by
 unfold isIf at h
 split at h
 ·rename_i ms hu;exact⟨ms,hu⟩
 ·cases h
theorem SV {h:J} {k c:Bool} {a b:Value} (he:qt P h k a b=some c):(a= .nilIface\/∃u x,a= .iface u x)/\(b= .nilIface\/∃u x,b= .iface u x):=by
 unfold qt at he
 split at he
 ·exact⟨.inr ⟨_,_,rfl⟩, .inr ⟨_,_,rfl⟩⟩
 ·unfold pg at he
  split at he
  ·exact⟨.inl rfl, .inl rfl⟩
  ·exact⟨.inl rfl, .inr ⟨_,_,rfl⟩⟩
  ·exact⟨.inr ⟨_,_,rfl⟩, .inl rfl⟩
  ·cases he
theorem ajI {x:hI} {aJ:Operand->Value} {o:Oper} {h:J} {K:Value->Prop} (U:MG P x aJ o.op h K):
 ∃v,K v/\∀w:World,w.heap=h->(execOp aJ o).run P w= .ok (.value v) w:=by
 unfold MG at U
 split at U
 ·rename_i op t a b ty qk
  split at U
  ·rename_i KH
   obtain⟨ms,hu⟩:=afm KH
   obtain⟨dst,G8,NF,pos,after,guard⟩:=o
   simp only at qk
   subst qk
   unfold Pu at U
   split at U
   ·obtain⟨c,h1,h2⟩:=U
    refine⟨_,h2,λw hw=>?_⟩
    subst hw
    have e:=QW (P:=P) (op:= .eql) (t:=t) h1
    have q:=Vi (P:=P) hu h1
    obtain⟨ha,hb⟩:=SV h1
    rcases ha with ha|⟨u,x,ha⟩<;>rcases hb with hb|⟨v,y,hb⟩<;>rw[ha,hb]at e q<;>simp[execOp,e,Go.binOp,q,ha,hb]
   ·obtain⟨c,h1,h2⟩:=U
    refine⟨_,h2,λw hw=>?_⟩
    subst hw
    have e:=QW (P:=P) (op:= .neq) (t:=t) h1
    have q:=Vi (P:=P) hu h1
    obtain⟨ha,hb⟩:=SV h1
    rcases ha with ha|⟨u,x,ha⟩<;>rcases hb with hb|⟨v,y,hb⟩<;>rw[ha,hb]at e q<;>simp[execOp,e,Go.binOp,q,ha,hb]
   ·exact U.elim
  ·split at U
   ·obtain⟨dst,G8,NF,pos,after,guard⟩:=o
    simp only at qk
    subst qk
    unfold Pv at U
    split at U
    ·rename_i p q Sr yt
     split at U
     ·rename_i I
      obtain⟨c,h1,h2⟩:=U
      refine⟨_,h2,λw hw=>?_⟩
      subst hw
      have e:=FH (P:=P) (w:=w) (op:= .eql) (t:=t) (x:=a) (y:=b) (m:=p) (n:=q)
      have q:=Vl (P:=P) I h1
      simp[execOp,Sr,yt,e,Go.binOp,q]
     ·rename_i I
      obtain⟨c,h1,h2⟩:=U
      refine⟨_,h2,λw hw=>?_⟩
      subst hw
      have e:=FH (P:=P) (w:=w) (op:= .neq) (t:=t) (x:=a) (y:=b) (m:=p) (n:=q)
      have q:=Vl (P:=P) I h1
      simp[execOp,Sr,yt,e,Go.binOp,q]
     ·exact U.elim
    ·exact U.elim
   ·rw[<-qk]at U;exact HJ U
 ·rename_i args ts qk
  split at U
  ·rename_i qj
   split at U
   ·rename_i m ha
    obtain⟨dst,G8,NF,pos,after,guard⟩:=o
    simp only at qk
    subst qk
    simp only[du,im]at U
    split at U
    ·rename_i ax
     obtain⟨es,c,h1,h2⟩:=U
     refine⟨_,h2,λw hw=>?_⟩
     subst hw
     have rp:args.map aJ=#[.map ax]:=by apply Array.ext';simpa using ha
     unfold S3 at qj
     split at qj
     ·rename_i t ht
      have gu:ts=#[t]:=by apply Array.ext';simpa using ht
      subst gu
      split at qj
      ·rename_i key elem hu
       cases ax with
       |none=>cases h1;simp[execOp,resolve,invoke,builtin,rp,Builtin.len_,run_underlying hu,goInt]
       |some r=>
        unfold tK at h1
        dsimp only at h1
        split at h1
        ·rename_i abr c' hb
         cases h1
         simp[execOp,resolve,invoke,builtin,rp,Builtin.len_,run_underlying hu,getObj,Sem.run,hb,goInt]
        ·cases h1
      ·cases qj
     ·cases qj
    ·exact U.elim
   ·exact U.elim
  ·rw[<-qk]at U;exact HJ U
 ·exact HJ U
end Go.Vc
