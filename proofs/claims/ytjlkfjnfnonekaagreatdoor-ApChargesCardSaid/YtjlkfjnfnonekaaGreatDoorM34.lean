import Derived.Test.YtjlkfjnfnonekaaGreatDoorVc
import Derived.Test.YtjlkfjnfnonekaaGreatDoorM18
set_option linter.all false
namespace Go.Vc
structure bN where
 b:Nat
 aid:Int
 w:Int
 t:Int
 on:Bool
 T:TypeId
def QQ:bN:=⟨0,0,0,0,false,0⟩
def bN.lt (x y:bN):Prop:=x.t<y.t\/(x.t=y.t/\x.aid<y.aid)
instance(x y:bN):Decidable (x.lt y):=by unfold bN.lt;infer_instance
def gt (l:List bN) (k:Nat):bN:=(l[k]?).getD QQ
def j9 (l:List bN) (i k:Nat):List bN:=(l.set i (gt l k)).set k (gt l i)
def par (k:Nat):Nat:=(k -1)/2
def fp (n:Nat) (l:List bN):Prop:=∀k,0<k->k<n->¬(gt l k).lt (gt l (par k))
structure od (n:Nat) (l:List bN) (j:Nat):Prop where
 e:∀k,0<k->k<n->k≠j->¬(gt l k).lt (gt l (par k))
 g:0<j->∀k,0<k->k<n->par k=j->¬(gt l k).lt (gt l (par j))
structure mW (n:Nat) (l:List bN) (i0 i:Nat):Prop where
 e:∀k,0<k->k<n->par k≠i->(k≠i0\/i0<i)->¬(gt l k).lt (gt l (par k))
 g:0<i->∀k,0<k->k<n->par k=i->¬(gt l k).lt (gt l (par i))
section
variable{l bI:List bN} {n i j k:Nat} {x y:bN}
theorem tp (h:l[k]?=some x):gt l k=x:=by unfold gt;rw[h];rfl
theorem uD (h:k<l.length):l[k]?=some (gt l k):=by unfold gt;rw[List.getElem?_eq_getElem h];rfl
theorem Eo:(j9 l i k).length=l.length:=by simp[j9]
theorem Nr (hi:i<l.length) (I:k<l.length) (j:Nat):gt (j9 l i k) j=if j=k then gt l i else if j=i then gt l k else gt l j:=by
 unfold j9
 by_cases h1:j=k
 ·subst h1
  rw[if_pos rfl]
  exact tp (List.getElem?_set_self (by simpa using I))
 ·rw[if_neg h1]
  by_cases h2:j=i
  ·subst h2
   rw[if_pos rfl]
   exact tp (by rw[List.getElem?_set_ne (Ne.symm h1),List.getElem?_set_self hi])
  ·rw[if_neg h2]
   show((((l.set i (gt l k)).set k (gt l i))[j]?).getD QQ)=_
   rw[List.getElem?_set_ne (Ne.symm h1),List.getElem?_set_ne (Ne.symm h2)]
   rfl
theorem qP (hi:i<l.length) (I:k<l.length) (h1:j≠i) (h2:j≠k):gt (j9 l i k) j=gt l j:=by rw[Nr hi I,if_neg h2,if_neg h1]
theorem Ns (hi:i<l.length) (I:k<l.length):gt (j9 l i k) i=gt l k:=by
 rw[Nr hi I];split
 ·rename_i h;subst h;rfl
 ·rw[if_pos rfl]
theorem H5 (hi:i<l.length) (I:k<l.length):gt (j9 l i k) k=gt l i:=by rw[Nr hi I,if_pos rfl]
theorem set_perm {α:Type} {l:List α} {k:Nat} {x y:α} (h:l[k]?=some x):(x::l.set k y).Perm (y::l):=by
 obtain⟨I,e⟩:=List.getElem?_eq_some_iff.1 h
 subst e
 induction l generalizing k with
 |nil=>simp at I
 |cons a r b9=>
  cases k with
  |zero=>simpa using List.Perm.swap _ _ _
  |succ k=>
   simp only[List.set_cons_succ,List.getElem_cons_succ]
   have ig:k<r.length:=by simpa using I
   have:=b9 (k:=k) ig (List.getElem?_eq_getElem ig)
   exact(List.Perm.swap _ _ _).trans ((this.cons a).trans (List.Perm.swap _ _ _))
theorem V0 (hi:i<l.length) (I:k<l.length):(j9 l i k).Perm l:=by
 have h1:=set_perm (y:=gt l k) (uD hi)
 by_cases e:i=k
 ·subst e
  unfold j9
  have h2:(l.set i (gt l i)).set i (gt l i)=l:=by
   rw[List.set_set]
   exact List.ext_getElem? λj=>by
    by_cases h:i=j
    ·subst h;rw[List.getElem?_set_self hi,uD hi]
    ·rw[List.getElem?_set_ne h]
  rw[h2]
 ·have h2:(l.set i (gt l k))[k]?=some (gt l k):=by rw[List.getElem?_set_ne e,uD I]
  have h3:=set_perm (y:=gt l i) h2
  have h4:(gt l k::j9 l i k).Perm (gt l k::l):=h3.trans h1
  exact h4.cons_inv
theorem bN.yC {x y:bN} (h:x.lt y):¬y.lt x:=by simp only[bN.lt]at*;omega
theorem fp.pu (h:fp n l) (j:Nat):od n l j:=⟨λk a b _=>h k a b,λah k a b e=>by
 have h1:=h k a b
 rw[e]at h1
 by_cases hn:j<n
 ·have h2:=h j ah hn
  simp only[bN.lt]at*;omega
 ·unfold par at e;omega⟩
theorem od.done (h:od n l j) (ah:0<j->¬(gt l j).lt (gt l (par j))):fp n l:= λk a b=>by
 by_cases e:k=j
 ·subst e;exact ah a
 ·exact h.e k a b e
theorem od.swap (h:od n l j) (ah:0<j) (np:j<l.length) (cn:(gt l j).lt (gt l (par j))) (hn:j<n):od n (j9 l (par j) j) (par j):=by
 have hp:par j<j:=by unfold par;omega
 have eA:par j<l.length:=by omega
 have iX:=Ns eA np
 have Ek:=H5 eA np
 refine⟨λk a b I=>?_,λh0 k a b e=>?_⟩
 ·by_cases af:k=j
  ·subst af
   rw[iX,Ek]
   exact bN.yC cn
  ·rw[qP eA np I af]
   by_cases ag:par k=j
   ·rw[ag,Ek];exact h.g ah k a b ag
   ·by_cases aI:par k=par j
    ·rw[aI,iX]
     have:=h.e k a b af
     rw[aI]at this
     simp only[bN.lt]at*;omega
    ·rw[qP eA np aI ag];exact h.e k a b af
 ·have hq:par (par j)<par j:=by unfold par at*;omega
  rw[qP eA np (j:=par (par j)) (by omega) (by omega)]
  have mr:=h.e (par j) h0 (by omega) (by omega)
  by_cases af:k=j
  ·subst af;rw[Ek];exact mr
  ·have arE:par k<k:=by unfold par;omega
   rw[qP eA np (j:=k) (by omega) af]
   have:=h.e k a b af
   rw[e]at this
   simp only[bN.lt]at*;omega
structure BK (n:Nat) (l:List bN) (i j:Nat):Prop where
 p:par j=i
 z:i<j
 lt:j<n
 m:∀k,0<k->k<n->par k=i->¬(gt l k).lt (gt l j)
theorem Tj (h1:2*i+1<n) (h:¬(2*i+2<n/\(gt l (2*i+2)).lt (gt l (2*i+1)))):BK n l i (2*i+1):=
 ⟨by unfold par;omega,by omega,h1,λk a b e=>by
  have:k=2*i+1\/k=2*i+2:=by unfold par at e;omega
  rcases this with rfl|rfl
  ·simp only[bN.lt];omega
  ·exactλq=>h ⟨b,q⟩⟩
theorem afC (h1:2*i+2<n) (h:(gt l (2*i+2)).lt (gt l (2*i+1))):BK n l i (2*i+2):=
 ⟨by unfold par;omega,by omega,h1,λk a b e=>by
  have:k=2*i+1\/k=2*i+2:=by unfold par at e;omega
  rcases this with rfl|rfl
  ·exact bN.yC h
  ·simp only[bN.lt];omega⟩
theorem mW.leaf {i0:Nat} (h:mW n l i0 i) (h1:n<=2*i+1):∀k,0<k->k<n->par k=i->¬(gt l k).lt (gt l i):= λk a b e=>by unfold par at e;omega
theorem mW.rest {i0:Nat} (h:mW n l i0 i) (c:BK n l i j) (hl:¬(gt l j).lt (gt l i)):∀k,0<k->k<n->par k=i->¬(gt l k).lt (gt l i):= λk a b e=>by
 have:=c.m k a b e
 simp only[bN.lt]at*;omega
theorem mW.done {i0:Nat} (h:mW n l i0 i) (hi:i0<i) (U:∀k,0<k->k<n->par k=i->¬(gt l k).lt (gt l i)):fp n l:= λk a b=>by
 by_cases e:par k=i
 ·rw[e];exact U k a b e
 ·exact h.e k a b e (.inr hi)
theorem mW.stay (h:mW n l i i) (U:∀k,0<k->k<n->par k=i->¬(gt l k).lt (gt l i)):od n l i:=
 ⟨λk a b I=>by
  by_cases e:par k=i
  ·rw[e];exact U k a b e
  ·exact h.e k a b e (.inl I),λh0 k a b e=>h.g h0 k a b e⟩
theorem mW.swap {i0:Nat} (h:mW n l i0 i) (hi:i0<=i) (c:BK n l i j) (np:j<l.length) (cn:(gt l j).lt (gt l i)):mW n (j9 l i j) i0 j:=by
 obtain⟨JK,aq5,rj,Z7⟩:=c
 have gq:i<l.length:=by omega
 have iX:=Ns gq np
 have Ek:=H5 gq np
 refine⟨λk a b I wx=>?_,λh0 k a b e=>?_⟩
 ·by_cases af:k=j
  ·subst af
   rw[JK,iX,Ek]
   exact bN.yC cn
  ·by_cases ag:k=i
   ·subst ag
    have hq:par k<k:=by unfold par;omega
    rw[iX,qP gq np (by omega) (by omega)]
    exact h.g a j (by omega) rj JK
   ·rw[qP gq np ag af]
    by_cases aI:par k=i
    ·rw[aI,iX];exact Z7 k a b aI
    ·rw[qP gq np aI I]
     exact h.e k a b aI (by omega)
 ·have KJ:par k<k:=by unfold par;omega
  rw[JK,iX,qP gq np (j:=k) (by omega) (by omega)]
  have:=h.e k a b (by omega) (.inl (by omega))
  rw[e]at this
  exact this
theorem fp.head (h:fp n l):∀k,k<n->¬(gt l k).lt (gt l 0):=by
 intro k
 induction k using Nat.strongRecOn with
 |_ k b9=>
  intro I
  by_cases h0:k=0
  ·subst h0;simp only[bN.lt];omega
  ·have hp:par k<k:=by unfold par;omega
   have h1:=b9 (par k) hp (by omega)
   have h2:=h k (by omega) I
   simp only[bN.lt]at*;omega
theorem fp.same {e':bN} (h:fp n l) (ah:j<l.length) (ht:e'.t=(gt l j).t) (ha:e'.aid=(gt l j).aid):fp n (l.set j e'):= λk a b=>by
 have af:∀k,(gt (l.set j e') k).t=(gt l k).t/\(gt (l.set j e') k).aid=(gt l k).aid:= λk=>by
  by_cases q:k=j
  ·subst q;rw[tp (List.getElem?_set_self ah)];exact⟨ht,ha⟩
  ·unfold gt;rw[List.getElem?_set_ne (Ne.symm q)];exact⟨rfl,rfl⟩
 have h1:=af k
 have h2:=af (par k)
 have h3:=h k a b
 simp only[bN.lt]at h3⊢
 rw[h1.1,h1.2,h2.1,h2.2];exact h3
theorem fp.cut (h:fp (n+1) l) (hi:i<n) (hn:n<l.length):mW n (j9 l i n) i i:=by
 have gq:i<l.length:=by omega
 refine⟨λk a b af ag=>?_,λh0 k a b e=>?_⟩
 ·have hp:par k<k:=by unfold par;omega
  rw[qP gq hn (j:=k) (by omega) (by omega),qP gq hn (j:=par k) af (by omega)]
  exact h k a (by omega)
 ·have hp:par k<k:=by unfold par;omega
  have hq:par i<i:=by unfold par;omega
  rw[qP gq hn (j:=k) (by omega) (by omega),qP gq hn (j:=par i) (by omega) (by omega)]
  exact(h.pu i).g h0 k a (by omega) e
end
end Go.Vc
namespace Go.Vc
structure eU where
 w:Int
 t:Int
 on:Bool
abbrev dm:=List (Option eU)
def c3:dm:=List.replicate 16 none
def nE (a:Int):Bool:=decide (1<=a/\a<=16)
def tj (w:Int):Bool:=decide (1<=w/\w<=100)
def fF (a:Int):Nat:=(a -1).toNat
def hB (S:dm) (a:Int):Option eU:=if nE a=true then(S[fF a]?).getD none else none
def sI:dm->Option Int
 |[]=>none
 |none::r=>sI r
 |some s::r=>if s.on=true then(match sI r with|none=>some s.t|some m=>some (min s.t m))else sI r
def iO (S:dm) (a w:Int):dm×Option Nat:=
 if nE a=true/\tj w=true then(match hB S a with|none=>(S.set (fF a) (some ⟨w,0,false⟩),none)|some _=>(S,some 7))else(S,some 2)
def xY (S:dm) (t:Int):Int:=match sI S with|none=>t|some m=>max t m
def jX (S:dm) (a:Int) (on:Bool):dm×Option Nat:=match hB S a with
 |none=>(S,some 6)
 |some s=>(if on=true/\s.on=false then S.set (fF a) (some ⟨s.w,xY S s.t,true⟩)else if on=false/\s.on=true then S.set (fF a) (some ⟨s.w,s.t,false⟩)else S,none)
def td (s:eU) (air:Int):Int:=min (s.t+10000*air/s.w) 1152921504606846976
def o1 (S:dm) (a air:Int):dm×Option Nat:=match hB S a with
 |none=>(S,some 6)
 |some s=>if 0<=air/\air<=1099511627776 then(S.set (fF a) (some ⟨s.w,td s air,s.on⟩),none)else(S,some 2)
structure eH (S:dm):Prop where
 n:S.length=16
 s:∀(k:Nat) (s:eU),S[k]?=some (some s)->1<=s.w/\s.w<=100/\0<=s.t/\s.t<=1152921504606846976
def oC (S:dm) (a b:Int):Prop:=∃x y,hB S a=some x/\hB S b=some y/\(x.t<y.t\/x.t=y.t/\a<b)
def Ds:Option eU->Bool
 |some s=>s.on
 |none=>false
def Mb (S:dm):Nat:=(S.filter Ds).length
structure BH (S:dm) (o:List Int):Prop where
 n:o.length=Mb S
 m:∀a,a∈o↔∃s,hB S a=some s/\s.on=true
 p:o.Pairwise (oC S)
def strip (o:Option bN):Option eU:=o.map λe=>⟨e.w,e.t,e.on⟩
def lj:Option bN->List bN
 |some e=>if e.on=true then[e]else[]
 |none=>[]
def jJ (st:List (Option bN)):List bN:=(st.map lj).flatten
section
variable{S:dm} {a b w k i j:Int} {n:Nat} {s x y:eU} {st:List (Option bN)} {e e':bN} {o o':Option bN}
theorem Br:nE a=true↔1<=a/\a<=16:=by simp[nE]
theorem abz:tj w=true↔1<=w/\w<=100:=by simp[tj]
theorem Cz:hB S a=some s↔(1<=a/\a<=16)/\S[fF a]?=some (some s):=by
 unfold hB
 by_cases h:nE a=true
 ·rw[if_pos h]
  have:=Br.1 h
  constructor
  ·intro q
   refine⟨this,?_⟩
   cases hx:S[fF a]?with
   |none=>rw[hx]at q;cases q
   |some y=>rw[hx]at q;simp at q;rw[q]
  ·intro q;rw[q.2];rfl
 ·rw[if_neg h]
  have:¬(1<=a/\a<=16):= λq=>h (Br.2 q)
  simp[this]
theorem ab9 (h:S[n]?=some (some s)) (hn:S.length=16):hB S ((n:Int)+1)=some s:=by
 have:=(List.getElem?_eq_some_iff.1 h).1
 refine Cz.2 ⟨by omega,?_⟩
 rw[show fF ((n:Int)+1)=n by unfold fF;omega];exact h
theorem eH.get (h:eH S) (hg:hB S a=some s):1<=s.w/\s.w<=100/\0<=s.t/\s.t<=1152921504606846976:=h.s _ _ (Cz.1 hg).2
theorem eH.set (h:eH S) (q:1<=s.w/\s.w<=100/\0<=s.t/\s.t<=1152921504606846976) (n:Nat):eH (S.set n (some s)):=
 ⟨by rw[List.length_set];exact h.n,λk x hx=>by
  by_cases e:n=k
  ·subst e
   have hl:=(List.getElem?_eq_some_iff.1 hx).1
   rw[List.getElem?_set_self (by simpa using hl)]at hx
   cases hx;exact q
  ·rw[List.getElem?_set_ne e]at hx;exact h.s k x hx⟩
theorem eH.clear (h:eH S) (n:Nat):eH (S.set n none):=
 ⟨by rw[List.length_set];exact h.n,λk x hx=>by
  by_cases e:n=k
  ·subst e
   have hl:=(List.getElem?_eq_some_iff.1 hx).1
   rw[List.getElem?_set_self (by simpa using hl)]at hx
   cases hx
  ·rw[List.getElem?_set_ne e]at hx;exact h.s k x hx⟩
theorem Dz:∀{S:dm},(sI S=none/\∀(k:Nat) (s:eU),S[k]?=some (some s)->s.on=false)\/∃m,sI S=some m/\(∃(k:Nat) (s:eU),S[k]?=some (some s)/\s.on=true/\s.t=m)/\∀(k:Nat) (s:eU),S[k]?=some (some s)->s.on=true->m<=s.t
 |[]=> .inl ⟨rfl,λk s h=>by simp at h⟩
 |none::r=>by
  rcases Dz (S:=r)with⟨h1,h2⟩|⟨m,h1,⟨k,s,h2,h3,h4⟩,aA⟩
  ·refine .inl ⟨h1,λk s h=>?_⟩
   cases k with
   |zero=>simp at h
   |succ k=>exact h2 k s (by simpa using h)
  ·refine .inr ⟨m,h1,⟨k+1,s,by simpa using h2,h3,h4⟩,λk s h=>?_⟩
   cases k with
   |zero=>simp at h
   |succ k=>exact aA k s (by simpa using h)
 |some x::r=>by
  by_cases hx:x.on=true
  ·rcases Dz (S:=r)with⟨h1,h2⟩|⟨m,h1,⟨k,s,h2,h3,h4⟩,aA⟩
   ·refine .inr ⟨x.t,by simp only[sI];rw[if_pos hx,h1],⟨0,x,rfl,hx,rfl⟩,λk s h aw=>?_⟩
    cases k with
    |zero=>simp at h;subst h;exact Int.le_refl _
    |succ k=>have:=h2 k s (by simpa using h);rw[this]at aw;cases aw
   ·refine .inr ⟨min x.t m,by simp only[sI];rw[if_pos hx,h1],?_,λk s h aw=>?_⟩
    ·by_cases hm:x.t<=m
     ·exact⟨0,x,rfl,hx,by omega⟩
     ·exact⟨k+1,s,by simpa using h2,h3,by omega⟩
    ·cases k with
     |zero=>simp at h;subst h;omega
     |succ k=>have:=aA k s (by simpa using h) aw;omega
  ·rcases Dz (S:=r)with⟨h1,h2⟩|⟨m,h1,⟨k,s,h2,h3,h4⟩,aA⟩
   ·refine .inl ⟨by simp only[sI];rw[if_neg hx,h1],λk s h=>?_⟩
    cases k with
    |zero=>simp at h;subst h;simpa using hx
    |succ k=>exact h2 k s (by simpa using h)
   ·refine .inr ⟨m,by simp only[sI];rw[if_neg hx,h1],⟨k+1,s,by simpa using h2,h3,h4⟩,λk s h aw=>?_⟩
    cases k with
    |zero=>simp at h;subst h;exact absurd aw hx
    |succ k=>exact aA k s (by simpa using h) aw
theorem Cq {α:Type}:∀{Es:List (List α)} {i:Nat} {A C:List α},Es[i]?=some C->((Es.set i A).flatten++C).Perm (Es.flatten++A)
 |[],i,A,C,h=>by simp at h
 |x::r,0,A,C,h=>by
  simp only[List.getElem?_cons_zero,Option.some.injEq]at h
  subst h
  simp only[List.set_cons_zero,List.flatten_cons]
  refine(List.perm_append_comm).trans ?_
  rw[List.append_assoc]
  exact(List.perm_append_comm (l₁:=A)).append_left x
 |x::r,i+1,A,C,h=>by
  simp only[List.set_cons_succ,List.flatten_cons,List.append_assoc]
  exact(Cq (by simpa using h)).append_left x
theorem EZ (h:st[n]?=some o):(jJ (st.set n o')++lj o).Perm (jJ st++lj o'):=by
 unfold jJ
 rw[List.map_set]
 exact Cq (by simp[h])
theorem xK:e∈jJ st↔∃n:Nat,st[n]?=some (some e)/\e.on=true:=by
 unfold jJ
 rw[List.mem_flatten]
 constructor
 ·rintro⟨l,hl,he⟩
  obtain⟨o,aw,rfl⟩:=List.mem_map.1 hl
  obtain⟨n,hn⟩:=List.getElem?_of_mem aw
  cases o with
  |none=>cases he
  |some x=>
   unfold lj at he
   dsimp only at he
   split at he
   ·rename_i q
    rw[List.mem_singleton]at he
    subst he;exact⟨n,hn,q⟩
   ·cases he
 ·rintro⟨n,hn,aw⟩
  exact⟨_,List.mem_map.2 ⟨_,List.mem_of_getElem? hn,rfl⟩,by unfold lj;dsimp only;rw[if_pos aw];simp⟩
theorem On:∀{st:List (Option bN)},(jJ st).length=Mb (st.map strip)
 |[]=>rfl
 |o::r=>by
  have b9:=On (st:=r)
  have af:jJ (o::r)=lj o++jJ r:=rfl
  rw[af,List.length_append,b9]
  unfold Mb
  cases o with
  |none=>simp[lj,strip,Ds]
  |some e=>
   unfold lj
   dsimp only
   by_cases h:e.on=true
   ·rw[if_pos h];simp[strip,Ds,h,List.filter_cons];omega
   ·rw[if_neg h];simp[strip,Ds,h,List.filter_cons]
theorem VP (h:(st.map strip)[n]?=some (some s)):∃e,st[n]?=some (some e)/\s=⟨e.w,e.t,e.on⟩:=by
 rw[List.getElem?_map]at h
 cases hx:st[n]?with
 |none=>rw[hx]at h;cases h
 |some o=>
  rw[hx]at h
  cases o with
  |none=>cases h
  |some e=>simp[strip]at h;exact⟨e,rfl,h.symm⟩
theorem VQ (h:st[n]?=some (some e)):(st.map strip)[n]?=some (some ⟨e.w,e.t,e.on⟩):=by rw[List.getElem?_map,h];rfl
theorem BH.head {o:List Int} (h:BH S (a::o)):∃x,hB S a=some x/\x.on=true/\∀b y,hB S b=some y->y.on=true->x.t<y.t\/x.t=y.t/\a<=b:=by
 obtain⟨x,h1,h2⟩:=(h.m a).1 (by simp)
 refine⟨x,h1,h2,λb y h3 h4=>?_⟩
 have hb:=(h.m b).2 ⟨y,h3,h4⟩
 rcases List.mem_cons.1 hb with rfl|hb
 ·rw[h1]at h3;cases h3;omega
 ·obtain⟨x',fy,aA,aU,bW⟩:=(List.pairwise_cons.1 h.p).1 b hb
  rw[h1]at aA;cases aA
  rw[h3]at aU;cases aU
  omega
end
end Go.Vc
set_option maxRecDepth 8000
namespace Go.Proofs.YtjlkfjnfnonekaaGreatDoor.Tn
open Go.Vc
def iR (e:bN) (p:Int):List Value:=[.int .i64 e.aid, .int .i64 e.w, .int .i64 e.t, .bool e.on, .int .i64 p]
def gm (e:bN) (p:Int):ao:=[(e.b,iR e p,e.T)]
def jf:List bN->Nat->List ao
 |[],_=>[]
 |e::r,k=>gm e k::jf r (k+1)
def ev (b:Nat):Value:= .pointer (some ⟨b,0,none⟩)
def lz (l:List bN):List Value:=l.map λe=>ev e.b
def el (bt:Nat) (l:List bN) (L:ao):Prop:=∃a c E T,au a l.length c 1 (lz l) E/\L=[(bt,[.slice a l.length c],T)]++(E++(jf l 0).flatten)
section
variable{W:Wd} {h h':J} {R:List ao} {bt n i j k:Nat} {l bI:List bN} {e:bN} {L:ao} {T:TypeId} {a:Option Addr} {c:Nat} {E:ao}
theorem pT:∀{l:List bN} {n k:Nat},k<l.length->(jf l n)[k]?=some (gm (gt l k) ((n+k:Nat):Int))
 |e::r,n,0,_=>rfl
 |e::r,n,k+1,h=>by
  have:=pT (l:=r) (n:=n+1) (k:=k) (by simpa using h)
  simp only[jf,List.getElem?_cons_succ]
  rw[this,show n+1+k=n+(k+1) by omega]
  rfl
theorem Fi:∀{l:List bN} {n k:Nat},(jf l n).set k (gm e ((n+k:Nat):Int))=jf (l.set k e) n
 |[],n,k=>rfl
 |x::r,n,0=>rfl
 |x::r,n,k+1=>by
  have:=Fi (l:=r) (n:=n+1) (k:=k)
  simp only[jf,List.set_cons_succ]
  rw[<-this,show n+1+k=n+(k+1) by omega]
theorem Jr:∀{l:List bN} {n:Nat},jf (l++[e]) n=jf l n++[gm e ((n+l.length:Nat):Int)]
 |[],n=>rfl
 |x::r,n=>by
  simp only[jf,List.cons_append,List.length_cons]
  rw[Jr,show n+1+r.length=n+(r.length+1) by omega]
theorem si (h:k<l.length):(lz l)[k]?=some (ev (gt l k).b):=by simp[lz,uD h]
theorem QT:(lz l).length=l.length:=by simp[lz]
theorem abM {α:Type} {Es:List (List α)} {i k:Nat} {A B C D:List α} (b6:i≠k) (hi:Es[i]?=some C) (I:Es[k]?=some D):((Es.set k A).set i B).flatten.Perm ((Es.set i A).set k B).flatten:=by
 have P:∀{Es:List (List α)} {i:Nat} {A C:List α},Es[i]?=some C->((Es.set i A).flatten++C).Perm (Es.flatten++A):=by
  intro Es
  induction Es with
  |nil=>intro i A C h;simp at h
  |cons x r b9=>
   intro i A C h
   cases i with
   |zero=>
    simp only[List.getElem?_cons_zero,Option.some.injEq]at h
    subst h
    simp only[List.set_cons_zero,List.flatten_cons]
    refine(List.perm_append_comm).trans ?_
    rw[List.append_assoc]
    exact(List.perm_append_comm (l₁:=A)).append_left x
   |succ i=>
    simp only[List.set_cons_succ,List.flatten_cons,List.append_assoc]
    exact(b9 (by simpa using h)).append_left x
 classical
 have h1:=P (A:=B) (show(Es.set k A)[i]?=some C by rw[List.getElem?_set_ne (Ne.symm b6)];exact hi)
 have h2:=P (A:=A) I
 have h3:=P (A:=B) (show(Es.set i A)[k]?=some D by rw[List.getElem?_set_ne b6];exact I)
 have h4:=P (A:=A) hi
 refine List.perm_iff_count.2 λx=>?_
 have aK:=h1.count_eq x
 have aG:=h2.count_eq x
 have bd:=h3.count_eq x
 have c7:=h4.count_eq x
 simp only[List.count_append]at aK aG bd c7
 omega
theorem el.dd (hv:el bt l L) (m:ai W h (L::R)):∃a c E T,au a l.length c 1 (lz l) E/\ai W h ([(bt,[.slice a l.length c],T)]::E::(jf l 0).flatten::R):=by
 obtain⟨a,c,E,T,o,rfl⟩:=hv
 refine⟨a,c,E,T,o,m.perm ?_⟩
 simp
theorem el.shut (o:au a l.length c 1 (lz l) E) (m:ai W h ([(bt,[.slice a l.length c],T)]::E::(jf l 0).flatten::R)):∃L,el bt l L/\ai W h (L::R):=
 ⟨_,⟨a,c,E,T,o,rfl⟩,m.perm (by simp)⟩
theorem yH (m:ai W h (L::R)) (hv:el bt l L):aj Tryz.prog 99 #[ev bt] h λv h'=>v= .int .i64 (l.length:Int)/\h'=h:=by
 obtain⟨a,c,E,T,o,m⟩:=hv.dd m
 exact apD _ _ _ ⟨_,_,_,m.cell 0 rfl rfl,rfl,rfl⟩
theorem af6 (m:ai W h (L::R)) (hv:el bt l L) (hi:i<l.length) (I:k<l.length):aj Tryz.prog 330 #[ev bt, .int .i64 (i:Int), .int .i64 (k:Int)] h λv h'=>
 v= .bool (decide ((gt l i).lt (gt l k)))/\h'=h:=by
 obtain⟨a,c,E,T,o,m⟩:=hv.dd m
 have hs:=o.oL m 1 rfl
 obtain⟨iN,BZ,rfl,nR⟩:=fW hs (si hi)
 obtain⟨_,_,q,wo⟩:=fW hs (si I)
 cases q
 have AX:=(m.focus 2 rfl).pick i (pT hi)
 have mk:=(m.focus 2 rfl).pick k (pT I)
 refine apE _ _ _ _ _ ⟨_,_,_,m.cell 0 rfl rfl,⟨by omega,by omega⟩,_,nR,_,_,_,m.cell 0 rfl rfl,⟨by omega,by omega⟩,_,wo,_,AX.cell 0 rfl rfl,_,mk.cell 0 rfl rfl,aC (λq=>⟨?_,rfl⟩) λq=>
  ⟨_,AX.cell 0 rfl rfl,_,mk.cell 0 rfl rfl,aC (λq2=>⟨_,AX.cell 0 rfl rfl,_,mk.cell 0 rfl rfl,?_,rfl⟩) λq2=>⟨?_,rfl⟩⟩⟩
 ·rw[decide_eq_true (show(gt l i).lt (gt l k)from .inl q)]
 ·have:(gt l i).lt (gt l k)↔(gt l i).aid<(gt l k).aid:=by simp only[bN.lt];omega
  simp only[this]
 ·rw[decide_eq_false (show¬(gt l i).lt (gt l k) by simp only[bN.lt];omega)]
theorem alr (m:ai W h (L::R)) (hv:el bt l L) (hi:i<l.length) (I:k<l.length) (b6:i≠k):aj Tryz.prog 333 #[ev bt, .int .i64 (i:Int), .int .i64 (k:Int)] h λv h'=>
 ∃L',el bt (j9 l i k) L'/\ai W h' (L'::R):=by
 obtain⟨a,c,E,T,o,m⟩:=hv.dd m
 have hs:=o.oL m 1 rfl
 obtain⟨iN,BZ,rfl,nR⟩:=fW hs (si hi)
 obtain⟨_,_,q,wo⟩:=fW hs (si I)
 cases q
 obtain⟨_,_,q,kk,pd⟩:=o.MQ (v:=ev (gt l k).b) m 1 rfl (by rw[QT];exact hi)
 cases q
 refine apH _ _ _ _ _ ⟨_,_,_,m.cell 0 rfl rfl,_,_,_,m.cell 0 rfl rfl,_,_,_,m.cell 0 rfl rfl,⟨by omega,by omega⟩,_,wo,_,_,_,m.cell 0 rfl rfl,⟨by omega,by omega⟩,_,nR,⟨by omega,by omega⟩,kk,?_⟩
 intro h1 af
 obtain⟨mS,m1,eg⟩:=pd _ af
 simp only[List.set_cons_succ,List.set_cons_zero]at m1
 clear kk pd af nR wo hs m o
 obtain⟨_,_,q,uQ,lC⟩:=eg.MQ (v:=ev (gt l i).b) m1 1 rfl (by rw[List.length_set,QT];exact I)
 cases q
 refine⟨⟨by omega,by omega⟩,uQ,?_⟩
 intro h2 ag
 obtain⟨cD,m2,aM⟩:=lC _ ag
 simp only[List.set_cons_succ,List.set_cons_zero]at m2
 clear uQ lC ag m1 eg
 have aiC:((lz l).set i (ev (gt l k).b)).set k (ev (gt l i).b)=lz (j9 l i k):=by simp[lz,j9,List.map_set]
 rw[aiC,<-Eo (l:=l) (i:=i) (k:=k)]at aM
 rw[<-Eo (l:=l) (i:=i) (k:=k)]at m2
 have hi':i<(j9 l i k).length:=by rw[Eo];exact hi
 have ig:k<(j9 l i k).length:=by rw[Eo];exact I
 have hs:=aM.oL m2 1 rfl
 obtain⟨_,_,q,nR⟩:=fW hs (si hi')
 cases q
 obtain⟨_,_,q,wo⟩:=fW hs (si ig)
 cases q
 rw[Ns hi I]at nR
 rw[H5 hi I]at wo
 refine⟨_,_,_,m2.cell 0 rfl rfl,⟨by omega,by omega⟩,_,nR,_,_,_,m2.cell 0 rfl rfl,⟨by omega,by omega⟩,_,wo,?_⟩
 clear hs nR wo
 have mk:=(m2.focus 2 rfl).pick k (pT I)
 refine mk.store 0 rfl (by simp[iR]) λh3 m3=>?_
 have RN:((jf l 0).set k (gm (gt l k) i))[i]?=some (gm (gt l i) ((0+i:Nat):Int)):=by rw[List.getElem?_set_ne (Ne.symm b6)];exact pT hi
 have m4:=ai.n9 (Es:=jf l 0) (E:=gm (gt l k) i) k (pT I) m3
 clear m3 mk m2
 have AX:=m4.pick i RN
 refine AX.store 0 rfl (by simp[iR]) λh4 m5=>?_
 have m6:=ai.n9 (Es:=(jf l 0).set k (gm (gt l k) i)) (E:=gm (gt l i) k) i RN m5
 clear m5 AX m4
 have gp:=abM (A:=gm (gt l k) i) (B:=gm (gt l i) k) b6 (pT (n:=0) hi) (pT (n:=0) I)
 have af:((jf l 0).set i (gm (gt l k) i)).set k (gm (gt l i) k)=jf (j9 l i k) 0:=by
  have q1:=Fi (e:=gt l k) (l:=l) (n:=0) (k:=i)
  have q2:=Fi (e:=gt l i) (l:=l.set i (gt l k)) (n:=0) (k:=k)
  rw[Nat.zero_add]at q1 q2
  rw[q1,q2];rfl
 rw[af]at gp
 refine el.shut (T:=T) aM (m6.perm ?_)
 simp only[List.eraseIdx_cons_succ,List.eraseIdx_cons_zero,List.flatten_cons]
 refine(gp.append_right _).trans ?_
 have pm:∀(A B C D:ao),(A++(B++(C++D))).Perm (B++(C++(A++D))):= λA B C D=>by
  classical
  refine List.perm_iff_count.2 λx=>?_
  simp only[List.count_append];omega
 exact pm _ _ _ _
end
end Go.Proofs.YtjlkfjnfnonekaaGreatDoor.Tn
set_option maxRecDepth 8000
namespace Go.Proofs.YtjlkfjnfnonekaaGreatDoor.Tn
open Go.Vc
noncomputable def pG (bt:Nat):Value:= .iface 200 (ev bt)
theorem agA:u5 Tryz.prog 200 "Len"=some 99:=by kernel_rfl
theorem agB:u5 Tryz.prog 200 "Less"=some 330:=by kernel_rfl
theorem agE:u5 Tryz.prog 200 "Swap"=some 333:=by kernel_rfl
theorem agD:u5 Tryz.prog 200 "Push"=some 332:=by kernel_rfl
theorem agC:u5 Tryz.prog 200 "Pop"=some 331:=by kernel_rfl
theorem YH:pV Tryz.prog 99=true:=by kernel_rfl
theorem YI:pV Tryz.prog 330=true:=by kernel_rfl
theorem YL:pV Tryz.prog 333=true:=by kernel_rfl
theorem YK:pV Tryz.prog 332=true:=by kernel_rfl
theorem YJ:pV Tryz.prog 331=true:=by kernel_rfl
section
variable{W:Wd} {h h':J} {R:List ao} {bt n i j k:Nat} {l bI:List bN} {e:bN} {L:ao} {K:Value->J->Prop}
theorem Lg (m:ai W h (L::R)) (hv:el bt l L) (q:K (.int .i64 (l.length:Int)) h):fR Tryz.prog (pG bt) "Len" [] h K:=
 Dt agA YH ((yH m hv).mono λv h' ⟨af,ag⟩=>by subst af;subst ag;exact q)
theorem Lh (m:ai W h (L::R)) (hv:el bt l L) (hi:i<l.length) (I:k<l.length) {x y:Int} (ex:x=(i:Int)) (J9:y=(k:Int)) (q:K (.bool (decide ((gt l i).lt (gt l k)))) h):fR Tryz.prog (pG bt) "Less" [.int .i64 x, .int .i64 y] h K:=by
 subst ex;subst J9
 exact Dt agB YI ((af6 m hv hi I).mono λv h' ⟨af,ag⟩=>by subst af;subst ag;exact q)
theorem Li (m:ai W h (L::R)) (hv:el bt l L) (hi:i<l.length) (I:k<l.length) (b6:i≠k) {x y:Int} (ex:x=(i:Int)) (J9:y=(k:Int)) (q:∀v h' L',el bt (j9 l i k) L'->ai W h' (L'::R)->K v h'):fR Tryz.prog (pG bt) "Swap" [.int .i64 x, .int .i64 y] h K:=by
 subst ex;subst J9
 exact Dt agE YL ((alr m hv hi I b6).mono λv h' ⟨L',af,ag⟩=>q v h' L' af ag)
theorem wrap64 {n:Int} (h:fits .i64 n):IntKind.i64.wrap n=n:=by
 simp only[fits]at h
 simp[IntKind.wrap,IntKind.bits,IntKind.signed]
 omega
theorem aiK (ah:j<=1000000):IntKind.i64.wrap ((IntKind.i64.wrap ((j:Int) -1)).tdiv 2)=((par j:Nat):Int):=by
 rw[wrap64 (n:=(j:Int) -1) (by simp only[fits];omega)]
 have e:((j:Int) -1).tdiv 2=((par j:Nat):Int):=by
  unfold par
  cases j with
  |zero=>rfl
  |succ j=>
   rw[Int.tdiv_eq_ediv_of_nonneg (by omega)]
   omega
 rw[e,wrap64]
 simp only[fits];unfold par;omega
structure l6 (n:Nat) (l bI:List bN):Prop where
 p:bI.Perm l
 b:∀k,n<=k->gt bI k=gt l k
theorem l6.refl:l6 n l l:=⟨.refl _,λ_ _=>rfl⟩
theorem l6.j9 {lF:List bN} (p:l6 n lF l) (hi:i<n) (I:k<n) (hn:n<=l.length):l6 n lF (j9 l i k):=
 ⟨(V0 (by omega) (by omega)).trans p.p,λj ah=>by rw[qP (by omega) (by omega) (by omega) (by omega)];exact p.b j ah⟩
theorem l6.len (p:l6 n l bI):bI.length=l.length:=p.p.length_eq
theorem l6.trans {aF:List bN} (p:l6 n l bI) (q:l6 n bI aF):l6 n l aF:=⟨q.p.trans p.p,λk I=>(q.b k I).trans (p.b k I)⟩
theorem NK (m:ai W h (L::R)) (hv:el bt l L) (hp:od n l j) (ah:j<n) (hn:n<=l.length) (hl:l.length<=1000000):aj Tryz.prog 186 #[pG bt, .int .i64 (j:Int)] h λv h'=>
 ∃bI L',l6 n l bI/\fp n bI/\el bt bI L'/\ai W h' (L'::R):=by
 refine anW _ _ _ _ ⟨λx h'=>∃(i:Nat) (bI:List bN) (L':ao),x=i/\i<n/\l6 n l bI/\od n bI i/\el bt bI L'/\ai W h' (L'::R),λx _=>x.toNat,⟨j,l,L,rfl,ah, .refl,hp,hv,m⟩,λ_=>?_⟩
 clear m hv hp ah
 rintro _ h1 ⟨j,ca,jF,rfl,ah,pm,hp,hv,m⟩
 have jj:=pm.len
 rw[aiK (by omega)]
 refine⟨by decide,aC (λq=>⟨ca,jF,pm,hp.done λh0=>?_,hv,m⟩) λq=>?_⟩
 ·exfalso;unfold par at q;omega
 ·have adm:0<j:=by unfold par at q;omega
  have arO:par j<j:=by unfold par;omega
  refine Lh m hv (by omega) (by omega) rfl rfl ⟨_,rfl,?_⟩
  by_cases cn:(gt ca j).lt (gt ca (par j))
  ·refine aZ (by simp[cn]) (Li m hv (by omega) (by omega) (by omega) rfl rfl λ_ h3 e7 dc m2=>⟨⟨par j,_,e7,rfl,by omega,pm.j9 (by omega) ah (by omega),hp.swap adm (by omega) cn ah,dc,m2⟩,by(try dsimp only);omega⟩)
  ·exact df (by simp[cn]) ⟨ca,jF,pm,hp.done λ_=>cn,hv,m⟩
theorem Qv {i0:Nat} (m:ai W h (L::R)) (hv:el bt l L) (hp:mW n l i0 i0) (hi:i0<n) (hn:n<=l.length) (hl:l.length<=1000000):aj Tryz.prog 187 #[pG bt, .int .i64 (i0:Int), .int .i64 (n:Int)] h λv h'=>
 ∃t bI L',v= .bool t/\l6 n l bI/\(t=true->fp n bI)/\(t=false->od n bI i0)/\el bt bI L'/\ai W h' (L'::R):=by
 refine anV _ _ _ _ _ ⟨λx h'=>∃(i:Nat) (bI:List bN) (L':ao),x=i/\i0<=i/\i<n/\l6 n l bI/\mW n bI i0 i/\el bt bI L'/\ai W h' (L'::R),λx _=>((n:Int) -x).toNat,⟨i0,l,L,rfl,by omega,hi, .refl,hp,hv,m⟩,λ_=>?_⟩
 clear m hv hp hi
 rintro _ h1 ⟨i,ca,jF,rfl,yl,hi,pm,hp,hv,m⟩
 have jj:=pm.len
 refine⟨by simp only[fits];omega,by simp only[fits];omega,?_⟩
 have fin:(∀k,0<k->k<n->par k=i->¬(gt ca k).lt (gt ca i))->∃t bI L',Value.bool (decide ((i0:Int)<(i:Int)))= .bool t/\l6 n l bI/\(t=true->fp n bI)/\(t=false->od n bI i0)/\el bt bI L'/\ai W h1 (L'::R):= λU=>
  ⟨_,ca,jF,rfl,pm,λq=>hp.done (by simpa using q) U,λq=>by
   have q':¬(i0:Int)<i:=of_decide_eq_false q
   obtain rfl:i0=i:=by omega
   exact hp.stay U,hv,m⟩
 refine aC (λq=>fin (hp.leaf (by omega))) λq=>bF (by omega) ⟨by simp only[fits];omega,?_⟩
 have go:∀(gG:Nat) (x:Int),x=(gG:Int)->BK n ca i gG->fR Tryz.prog (pG bt) "Less" [.int .i64 x, .int .i64 (i:Int)] h1 λxc aA=>∃t3:Bool,xc= .bool t3/\
  ec (!t3) (∃t bI L',Value.bool (decide ((i0:Int)<(i:Int)))= .bool t/\l6 n l bI/\(t=true->fp n bI)/\(t=false->od n bI i0)/\el bt bI L'/\ai W aA (L'::R))
   (fR Tryz.prog (pG bt) "Swap" [.int .i64 (i:Int), .int .i64 x] aA λyZ aU=>
     (∃(i:Nat) (bI:List bN) (L':ao),x=i/\i0<=i/\i<n/\l6 n l bI/\mW n bI i0 i/\el bt bI L'/\ai W aU (L'::R))/\((n:Int) -x).toNat<((n:Int) -(i:Int)).toNat):=by
  intro gG x ex c
  have aK:=c.z
  have aG:=c.lt
  subst ex
  refine Lh m hv (by omega) (by omega) rfl rfl ⟨_,rfl,?_⟩
  by_cases cn:(gt ca gG).lt (gt ca i)
  ·exact aZ (by simp[cn]) (Li m hv (by omega) (by omega) (by omega) rfl rfl λ_ h3 e7 dc m2=>⟨⟨gG,_,e7,rfl,by omega,by omega,pm.j9 hi aG (by omega),hp.swap yl c (by omega) cn,dc,m2⟩,by omega⟩)
  ·exact df (by simp[cn]) (fin (hp.rest c cn))
 refine aC (λq2=>?_) λq2=>go (2*i+1) _ (by omega) (Tj (by omega) λc=>by omega)
 refine Lh (i:=2*i+2) (k:=2*i+1) m hv (by omega) (by omega) (by omega) (by omega) ⟨_,rfl,?_⟩
 by_cases cn:(gt ca (2*i+2)).lt (gt ca (2*i+1))
 ·exact df (by simp[cn]) (go (2*i+2) _ (by omega) (afC (by omega) cn))
 ·exact aZ (by simp[cn]) (go (2*i+1) _ (by omega) (Tj (by omega) λc=>cn c.2))
theorem al3 {p:Int} (m:ai W h (L::gm e p::R)) (hv:el bt l L) (hl:l.length<=1000000):aj Tryz.prog 332 #[ev bt, .iface 204 (ev e.b)] h λv h'=>
 ∃L',el bt (l++[e]) L'/\ai W h' (L'::R):=by
 obtain⟨a,c,E,T,o,m⟩:=hv.dd m
 refine apG _ _ _ _ ⟨_,true,rfl,aZ rfl ⟨_,_,_,m.cell 0 rfl rfl,?_⟩⟩
 refine m.store 3 rfl (by simp[iR]) λh1 m1=>?_
 simp only[List.set_cons_succ,List.set_cons_zero]at m1
 refine⟨_,_,_,m1.cell 0 rfl rfl,?_⟩
 refine o.um (us:=[ev e.b]) (bytes:=8) m1 1 rfl rfl (by simp[Value.oneCell',ev]) (by omega) (by decide) ?_
 intro ay c' bn h3 m3 cb
 simp only[List.set_cons_succ,List.set_cons_zero]at m3
 refine m3.store 0 rfl (by simp) λh4 m4=>?_
 simp only[List.set_cons_zero]at m4
 have af:lz l++[ev e.b]=lz (l++[e]):=by simp[lz]
 have ag:(l++[e]).length=l.length+1:=by simp
 rw[af,<-ag]at cb
 rw[<-ag]at m4
 refine el.shut (T:=T) cb (m4.perm ?_)
 rw[Jr,Nat.zero_add]
 simp[gm,iR]
theorem od.app (hh:fp l.length l):od (l.length+1) (l++[e]) l.length:=by
 have af:∀k,k<l.length->gt (l++[e]) k=gt l k:= λk I=>by unfold gt;rw[List.getElem?_append_left I]
 refine⟨λk a b I=>?_,λh0 k a b I=>?_⟩
 ·have hp:par k<k:=by unfold par;omega
  rw[af k (by omega),af (par k) (by omega)]
  exact hh k a (by omega)
 ·unfold par at I;omega
theorem UH {p:Int} (m:ai W h (L::gm e p::R)) (hv:el bt l L) (hh:fp l.length l) (hl:l.length<1000000):aj Tryz.prog 98 #[pG bt, .iface 204 (ev e.b)] h λv h'=>
 ∃bI L',v= .tuple #[]/\bI.Perm (l++[e])/\fp bI.length bI/\el bt bI L'/\ai W h' (L'::R):=by
 refine anT _ _ _ _ (Dt agD YK ((al3 m hv (by omega)).mono ?_))
 rintro _ h1 ⟨jF,ij,m1⟩
 have ag:(l++[e]).length=l.length+1:=by simp
 refine Lg m1 ij ⟨_,rfl,by simp only[fits];omega,?_⟩
 have aI:(((l++[e]).length:Nat):Int) -1=(l.length:Int):=by omega
 rw[aI]
 refine(NK m1 ij (od.app hh) (by omega) (by omega) (by omega)).mono ?_
 rintro _ h2 ⟨aF,e7,pm,I,dc,m2⟩
 exact⟨aF,e7,rfl,pm.p,by rw[pm.len,ag];exact I,dc,m2⟩
theorem VK (hn:l.length=n+1):l=l.take n++[gt l n]:=by
 have h1:n<l.length:=by omega
 have h2:=uD h1
 refine List.ext_getElem? λk=>?_
 by_cases I:k<n
 ·rw[List.getElem?_append_left (by simp;omega),List.getElem?_take_of_lt I]
 ·have bY:(l.take n).length<=k:=by simp;omega
  rw[List.getElem?_append_right bY]
  have e:(l.take n).length=n:=by simp;omega
  rw[e]
  by_cases h3:k=n
  ·subst h3;simpa using h2
  ·rw[List.getElem?_eq_none (by omega),List.getElem?_eq_none (by simp;omega)]
theorem ajc (m:ai W h (L::R)) (hv:el bt l L) (hn:l.length=n+1) (hl:l.length<=1000000):aj Tryz.prog 331 #[ev bt] h λv h'=>
 ∃L',v= .iface 204 (ev (gt l n).b)/\el bt (l.take n) L'/\ai W h' (L'::gm (gt l n) (n:Int)::R):=by
 obtain⟨a,c,E,T,o,m⟩:=hv.dd m
 have hs:=o.oL m 1 rfl
 obtain⟨iN,BZ,rfl,nR⟩:=fW hs (si (k:=n) (by omega))
 have hle:=o.le
 have af:((l.length:Int) -1).toNat=n:=by omega
 refine apF _ _ _ ⟨_,_,_,m.cell 0 rfl rfl,_,_,_,m.cell 0 rfl rfl,by simp only[fits];omega,⟨by omega,by omega⟩,_,by rw[af];exact nR,_,_,_,m.cell 0 rfl rfl,_,_,_,m.cell 0 rfl rfl,by simp only[fits];omega,⟨by omega,by omega,by omega⟩,?_⟩
 refine m.store 0 rfl (by simp) λh1 m1=>?_
 simp only[List.set_cons_zero]at m1
 rw[af]at m1
 have eg:=(o.tail 0 (by omega)).head n (by omega)
 have ag:((lz l).drop (0*1)).take (n*1)=lz (l.take n):=by simp[lz,List.map_take]
 rw[ag,Nat.sub_zero,Nat.zero_mul]at eg
 have aI:(l.take n).length=n:=by simp;omega
 have hb:jf l 0=jf (l.take n) 0++[gm (gt l n) (n:Int)]:=by
  have q:=Jr (l:=l.take n) (e:=gt l n) (n:=0)
  rw[<-VK hn,aI,Nat.zero_add]at q
  exact q
 rw[hb]at m1
 obtain⟨L',hv',ax⟩:=el.shut (bt:=bt) (R:=gm (gt l n) (n:Int)::R) (T:=T) (by rw[aI];exact eg) (by rw[aI];exact m1.perm (by simp))
 exact⟨L',rfl,hv',ax⟩
theorem V2 {n k:Nat} (I:k<n):gt (l.take n) k=gt l k:=by unfold gt;rw[List.getElem?_take_of_lt I]
theorem fp.take (hh:fp n l):fp n (l.take n):= λk a b=>by
 have hp:par k<k:=by unfold par;omega
 rw[V2 b,V2 (by omega)]
 exact hh k a b
theorem J8 (hi:i<l.length):(gt l i::l.eraseIdx i).Perm l:=by
 have e:gt l i=l[i]:=by unfold gt;rw[List.getElem?_eq_getElem hi];rfl
 rw[e]
 induction l generalizing i with
 |nil=>simp at hi
 |cons x r b9=>
  cases i with
  |zero=>simp
  |succ i=>
   simp only[List.getElem_cons_succ,List.eraseIdx_cons_succ]
   have hi':i<r.length:=by simpa using hi
   refine(List.Perm.swap _ _ _).trans ((b9 hi' ?_).cons x)
   unfold gt;rw[List.getElem?_eq_getElem hi'];rfl
theorem U3 (m:ai W h (L::R)) (hv:el bt l L) (hh:fp l.length l) (hi:i<l.length) (hl:l.length<=1000000):aj Tryz.prog 100 #[pG bt, .int .i64 (i:Int)] h λv h'=>
 ∃bI L' p,(bI.Perm (l.eraseIdx i))/\fp bI.length bI/\el bt bI L'/\ai W h' (L'::gm (gt l i) p::R):=by
 obtain⟨n,hn⟩:∃n,l.length=n+1:=⟨l.length -1,by omega⟩
 have pop:∀(aA:J) (aF:List bN) (e7:ao),aF.Perm l->fp n aF->gt aF n=gt l i->el bt aF e7->ai W aA (e7::R)->fR Tryz.prog (pG bt) "Pop" [] aA λyZ aU=>∃v1:Value,yZ=v1/\
  ∃bI L' p,(bI.Perm (l.eraseIdx i))/\fp bI.length bI/\el bt bI L'/\ai W aU (L'::gm (gt l i) p::R):=by
  intro aA aF e7 pm I hg dc m2
  have dv:=pm.length_eq
  refine Dt agC YJ ((ajc (n:=n) m2 dc (by omega) (by omega)).mono ?_)
  rintro _ aU ⟨ja,rfl,fE,m3⟩
  have aI:(aF.take n).length=n:=by simp;omega
  refine⟨_,rfl,aF.take n,ja,_,?_,by rw[aI];exact fp.take I,fE,by rw[<-hg];exact m3⟩
  have s:=VK (l:=aF) (n:=n) (by omega)
  have p1:(gt aF n::aF.take n).Perm aF:=by
   have:(aF.take n++[gt aF n]).Perm aF:=by rw[<-s]
   exact(List.perm_append_singleton _ _).symm.trans this
  rw[hg]at p1
  exact(p1.trans (pm.trans (J8 hi).symm)).cons_inv
 refine anU _ _ _ _ (Lg m hv ⟨_,rfl,by simp only[fits];omega,?_⟩)
 have af:((l.length:Nat):Int) -1=(n:Int):=by omega
 rw[af]
 by_cases jw:n=i
 ·subst jw
  refine aZ (by simp) (pop h l L (.refl _) (λk a b=>hh k a (by omega)) rfl hv m)
 ·refine df (by simp;omega) (Li m hv hi (by omega) (by omega) rfl rfl λ_ h2 e7 dc m2=>?_)
  have qn:=Eo (l:=l) (i:=i) (k:=n)
  rw[hn]at hh
  have hc:=hh.cut (i:=i) (by omega) (by omega)
  have KD:=H5 (l:=l) hi (k:=n) (by omega)
  have nU:=V0 (l:=l) hi (k:=n) (by omega)
  refine(Qv m2 dc hc (by omega) (by omega) (by omega)).mono ?_
  rintro _ h3 ⟨t,dw,ja,rfl,pm,ht,hf,fE,m3⟩
  have fa:=pm.len
  refine⟨_,rfl,?_⟩
  cases t with
  |true=>exact aZ rfl (pop h3 dw ja (pm.p.trans nU) (ht rfl) ((pm.b n (by omega)).trans KD) fE m3)
  |false=>
   refine df rfl ((NK m3 fE (hf rfl) (by omega) (by omega) (by omega)).mono ?_)
   rintro _ h4 ⟨lZ,ub,He,eW,qq,m4⟩
   have Uq:=pm.trans He
   exact pop h4 lZ ub (Uq.p.trans nU) eW ((Uq.b n (by omega)).trans KD) qq m4
theorem fp.ZQ (hh:fp n l) (hi:i<l.length):mW n (l.set i e) i i:=by
 have af:∀k,k≠i->gt (l.set i e) k=gt l k:= λk I=>by unfold gt;rw[List.getElem?_set_ne (Ne.symm I)]
 refine⟨λk a b h1 h2=>?_,λh0 k a b h1=>?_⟩
 ·rw[af k (by omega),af (par k) h1];exact hh k a b
 ·have hp:par k<k:=by unfold par;omega
  have hq:par i<i:=by unfold par;omega
  rw[af k (by omega),af (par i) (by omega)]
  exact(hh.pu i).g h0 k a b h1
theorem abJ (m:ai W h (L::R)) (hv:el bt l L) (hp:mW l.length l i i) (hi:i<l.length) (hl:l.length<=1000000):aj Tryz.prog 203 #[pG bt, .int .i64 (i:Int)] h λv h'=>
 ∃bI L',bI.Perm l/\fp bI.length bI/\el bt bI L'/\ai W h' (L'::R):=by
 refine anS _ _ _ _ (Lg m hv ⟨_,rfl,(Qv m hv hp hi (by omega) hl).mono ?_⟩)
 rintro _ h3 ⟨t,dw,ja,rfl,pm,ht,hf,fE,m3⟩
 have fa:=pm.len
 refine⟨_,rfl,?_⟩
 cases t with
 |true=>exact aZ rfl ⟨dw,ja,pm.p,by rw[fa];exact ht rfl,fE,m3⟩
 |false=>
  refine df rfl ((NK m3 fE (hf rfl) (by omega) (by omega) (by omega)).mono ?_)
  rintro _ h4 ⟨lZ,ub,He,eW,qq,m4⟩
  exact⟨lZ,ub,He.p.trans pm.p,by rw[He.len,fa];exact eW,qq,m4⟩
end
end Go.Proofs.YtjlkfjnfnonekaaGreatDoor.Tn
