import Derived.Test.YtjlkfjnfnonekaaGreatDoorM18
import Derived.Test.YtjlkfjnfnonekaaGreatDoorM16
import Derived.Test.YtjlkfjnfnonekaaGreatDoorM15
set_option linter.all false
namespace Go.Vc
structure ke where
 b:Nat
 o:Nat
 cs:List Value
 t:Option TypeId
abbrev aL:=List ke
structure ke.In (r:ke) (h:J) (vs:List Value) (T:TypeId):Prop where
 da:cT h r.b vs T
 le:r.o+r.cs.length<=vs.length
 get:∀j v,r.cs[j]?=some v->vs[r.o+j]?=some v
 w:∀b4,r.t=some b4->r.o=0/\vs=r.cs/\T=b4
def ke.off (r s:ke):Prop:=r.b=s.b->r.t=none/\s.t=none/\(r.cs.length=0\/s.cs.length=0\/r.o+r.cs.length<=s.o\/s.o+s.cs.length<=r.o)
structure aa (W:Wd) (h:J) (L:List aL):Prop where
 gH:∀b x,W b=some x->h[b]?=some x
 has:∀r∈L.flatten,∃vs T,r.In h vs T
 out:∀r∈L.flatten,W r.b=none
 vX:L.flatten.Pairwise ke.off
def ae (E:ao):aL:=E.map λx=>⟨x.1,0,x.2.1,some x.2.2⟩
def lQ (b n:Nat):Nat->List (List Value)->List aL
 |_,[]=>[]
 |o,c::r=>[⟨b,o,c,none⟩]::lQ b n (o+n) r
section
variable{W W':Wd} {h h':J} {L L':List aL} {G:List ao} {E F:ao} {A B:aL} {b o n i j p:Nat} {cs ds vs us:List Value} {css:List (List Value)} {T:TypeId} {t:Option TypeId} {v:Value} {r s:ke}
theorem ke.off.symm (h:r.off s):s.off r:= λe=>by obtain⟨h1,h2,h3⟩:=h e.symm;exact⟨h2,h1,by omega⟩
theorem Ke {α:Type}:∀{G:List (List α)} {i:Nat} {A:List α},G[i]?=some A->G.flatten.Perm (A++(G.eraseIdx i).flatten)
 |[],_,_,h=>by simp at h
 |x::xs,0,A,h=>by simp at h;subst h;simp
 |x::xs,i+1,A,h=>by
  have b9:=Ke (G:=xs) (i:=i) (A:=A) (by simpa using h)
  simp only[List.flatten_cons,List.eraseIdx_cons_succ]
  refine(List.Perm.append_left x b9).trans ?_
  rw[<-List.append_assoc,<-List.append_assoc]
  exact List.perm_append_comm.append_right _
theorem Kd {α:Type}:∀{G:List (List α)} {i:Nat} {A B:List α},G[i]?=some A->(B++(G.eraseIdx i).flatten).Perm (G.set i B).flatten
 |[],_,_,_,h=>by simp at h
 |x::xs,0,A,B,h=>by simp
 |x::xs,i+1,A,B,h=>by
  have b9:=Kd (G:=xs) (i:=i) (A:=A) (B:=B) (by simpa using h)
  simp only[List.flatten_cons,List.eraseIdx_cons_succ,List.set_cons_succ]
  refine List.Perm.trans ?_ (List.Perm.append_left x b9)
  rw[<-List.append_assoc,<-List.append_assoc]
  exact List.perm_append_comm.append_right _
theorem aa.perm (m:aa W h L) (hp:L.flatten.Perm L'.flatten):aa W h L':=
 ⟨m.gH,λr U=>m.has r (hp.mem_iff.2 U),λr U=>m.out r (hp.mem_iff.2 U),(hp.pairwise_iff λ{x y}=>ke.off.symm).1 m.vX⟩
theorem aa.left (m:aa W h [A++B]):aa W h [A]:=by
 refine⟨m.gH,λr U=>m.has r ?_,λr U=>m.out r ?_,?_⟩
 ·simp only[List.flatten_cons,List.flatten_nil,List.append_nil]at U⊢;exact List.mem_append_left _ U
 ·simp only[List.flatten_cons,List.flatten_nil,List.append_nil]at U⊢;exact List.mem_append_left _ U
 ·have:=m.vX
  simp only[List.flatten_cons,List.flatten_nil,List.append_nil]at this⊢
  exact(List.pairwise_append.1 this).1
theorem aa.sub (m:aa W h L) (hp:∃K,L.flatten.Perm (L'.flatten++K)):aa W h L':=by
 obtain⟨K,hp⟩:=hp
 exact(aa.left (A:=L'.flatten) (B:=K) (m.perm (by simpa using hp))).perm (by simp)
theorem aa.focus (m:aa W h L) (i:Nat) (hi:L[i]?=some A):aa W h (A::L.eraseIdx i):=m.perm (by simpa using Ke hi)
theorem aa.back (i:Nat) (hi:L[i]?=some A) (m:aa W h (B::L.eraseIdx i)):aa W h (L.set i B):=m.perm (by simpa using Kd (B:=B) hi)
theorem aa.aB (m:aa W h (A::L)):aa W h L:=m.sub ⟨A,by simp only[List.flatten_cons];exact List.perm_append_comm⟩
theorem aa.free (m:aa W h L) (i:Nat) (hi:L[i]?=some A):aa W h (L.eraseIdx i):=(m.focus i hi).aB
theorem aa.split (m:aa W h ((A++B)::L)):aa W h (A::B::L):=m.perm (by simp)
theorem aa.join (m:aa W h (A::B::L)):aa W h ((A++B)::L):=m.perm (by simp)
theorem aa.hU (m:aa W h L):aa W h ([]::L):=m.perm (by simp)
theorem aa.LX (m:aa W h ([]::L)):aa W h L:=m.perm (by simp)
theorem aa.swap (m:aa W h (A::B::L)):aa W h (B::A::L):=m.perm (by
 simp only[List.flatten_cons];rw[<-List.append_assoc,<-List.append_assoc];exact List.perm_append_comm.append_right _)
theorem aa.pick {Es:List aL} (m:aa W h (Es.flatten::L)) (k:Nat) (I:Es[k]?=some A):aa W h (A::(Es.eraseIdx k).flatten::L):=
 m.perm (by simp only[List.flatten_cons];rw[<-List.append_assoc];exact(Ke I).append_right _)
theorem aa.n9 {Es:List aL} {A0:aL} (k:Nat) (I:Es[k]?=some A0) (m:aa W h (A::(Es.eraseIdx k).flatten::L)):aa W h ((Es.set k A).flatten::L):=
 m.perm (by simp only[List.flatten_cons];rw[<-List.append_assoc];exact(Kd I).append_right _)
theorem aa.same {h2:J} (m:aa W h L) (e:h2=h):aa W h2 L:=e▸m
theorem aa.vL (m:aa W h L) (i:Nat) (hi:L[i]?=some [r]):∃vs T,r.In h vs T:=
 m.has _ (List.mem_flatten.2 ⟨_,List.mem_of_getElem? hi,by simp⟩)
theorem aa.cell (m:aa W h L) (i:Nat) (hi:L[i]?=some [⟨b,o,cs,t⟩]) (j:Nat) (e:cs[j]?=some v) (hp:p=o+j:=by omega):Go.Vc.cell h b p=some v:=by
 subst hp
 obtain⟨vs,T,q⟩:=m.vL i hi
 exact q.da.vR (q.get j v e)
theorem aa.row (m:aa W h L) (i:Nat) (hi:L[i]?=some [⟨b,o,cs,t⟩]) (j:Nat) (e:(cs.drop j).take n=us) (hl:j+n<=cs.length) (hp:p=o+j:=by omega):Go.Vc.row h b p n=some us:=by
 subst hp e
 obtain⟨vs,T,q⟩:=m.vL i hi
 refine D4 (by simp;omega) λk v I=>?_
 have KK:k<n:=by have:=(List.getElem?_eq_some_iff.1 I).1;simp at this;omega
 rw[List.getElem?_take_of_lt KK,List.getElem?_drop]at I
 have:=q.da.vR (q.get _ _ I)
 rw[Nat.add_assoc];exact this
theorem aa.bE (m:aa W h L) (i:Nat) (hi:L[i]?=some [⟨b,o,cs,t⟩]) (hn:n=cs.length) (hp:p=o:=by omega):Go.Vc.row h b p n=some cs:=
 m.row i hi 0 (by rw[List.drop_zero,hn,List.take_length]) (by omega)
theorem Jq {vs ws:List Value} {T b4:TypeId} (h1:cT h b vs T) (h2:cT h b ws b4):vs=ws/\T=b4:=by
 unfold cT at h1 h2
 rw[h1]at h2
 injection h2 with h2
 injection h2 with h3 h4
 exact⟨by injection h3,h4⟩
theorem aa.ND (m:aa W h ([⟨b,o,cs,t⟩]::L)) {ws:List Value} (jw:(⟨b,o,cs,t⟩:ke).In h vs T) (hs:h.size<=h'.size) (hb:cT h' b ws T) (hl:ws.length=vs.length) (hd:ds.length=cs.length)
 (I:∀c,c<h.size->c≠b->h'[c]?=h[c]?) (h1:∀k,k<o\/o+cs.length<=k->ws[k]?=vs[k]?) (h2:∀j v,ds[j]?=some v->ws[o+j]?=some v):aa W h' ([⟨b,o,ds,t⟩]::L):=by
 have hm:∀r,r∈L.flatten->r∈([⟨b,o,cs,t⟩]::L:List aL).flatten:= λr U=>by simp only[List.flatten_cons];exact List.mem_append_right _ U
 have sr:=m.vX
 simp only[List.flatten_cons,List.cons_append,List.nil_append]at sr
 obtain⟨qf,rr⟩:=List.pairwise_cons.1 sr
 have aw:=m.out ⟨b,o,cs,t⟩ (by simp)
 have hle:o+cs.length<=vs.length:=jw.le
 refine⟨λc x hx=>?_,λr U=>?_,λr U=>?_,?_⟩
 ·have hc:=m.gH c x hx
  rw[I c (Array.getElem?_eq_some_iff.1 hc).1 (λe=>by subst e;rw[aw]at hx;cases hx)];exact hc
 ·simp only[List.flatten_cons,List.cons_append,List.nil_append,List.mem_cons]at U
  rcases U with rfl|U
  ·refine⟨ws,T,hb,?_,h2,λb4 nP=>?_⟩
   ·show o+ds.length<=ws.length;omega
   ·obtain⟨h3,h4,aA⟩:=jw.w b4 nP
    replace h3:o=0:=h3
    replace h4:vs=cs:=h4
    subst h3 h4
    refine⟨rfl,?_,aA⟩
    show ws=ds
    refine List.ext_getElem (by omega) λk pc bD=>?_
    have:=h2 k ds[k] (List.getElem?_eq_getElem bD)
    rw[Nat.zero_add]at this
    exact(List.getElem?_eq_some_iff.1 this).2
  ·obtain⟨us,b4,q⟩:=m.has r (hm r U)
   by_cases Gm:r.b=b
   ·obtain⟨k1,k2,k3⟩:=qf r U Gm.symm
    obtain⟨rfl,rfl⟩:=Jq (Gm▸q.da) jw.da
    replace k3:cs.length=0\/r.cs.length=0\/o+cs.length<=r.o\/r.o+r.cs.length<=o:=k3
    refine⟨ws,b4,Gm▸hb,by rw[hl];exact q.le,λj v ah=>?_,λb4 nP=>by rw[k2]at nP;cases nP⟩
    have fv:=(List.getElem?_eq_some_iff.1 ah).1
    rw[h1 (r.o+j) (by omega)]
    exact q.get j v ah
   ·exact⟨us,b4,by have cn:=q.da.lt;have:=q.da;unfold cT at this⊢;rw[I _ cn Gm];exact this,q.le,q.get,q.w⟩
 ·simp only[List.flatten_cons,List.cons_append,List.nil_append,List.mem_cons]at U
  rcases U with rfl|U
  ·exact aw
  ·exact m.out r (hm r U)
 ·simp only[List.flatten_cons,List.cons_append,List.nil_append]
  refine List.pairwise_cons.2 ⟨λr U e=>?_,rr⟩
  obtain⟨k1,k2,k3⟩:=qf r U e
  refine⟨k1,k2,?_⟩
  show ds.length=0\/r.cs.length=0\/o+ds.length<=r.o\/r.o+r.cs.length<=o
  rw[hd];exact k3
theorem zc:∀{us vs:List Value} {o:Nat},(bG vs o us).length=vs.length
 |[],_,_=>rfl
 |u::us,vs,o=>by simp only[bG];rw[zc,List.length_set]
theorem HS:∀{us vs:List Value} {o k:Nat},o+us.length<=vs.length->(bG vs o us)[k]?=if o<=k/\k<o+us.length then us[k -o]?else vs[k]?
 |[],vs,o,k,_=>by simp only[bG,List.length_nil];rw[if_neg (by omega)]
 |u::us,vs,o,k,hl=>by
  simp only[List.length_cons]at hl
  simp only[bG]
  rw[HS (by rw[List.length_set];omega)]
  by_cases I:k=o
  ·subst I
   rw[if_neg (by omega),if_pos (by simp),Nat.sub_self,List.getElem?_set_self (by omega)];rfl
  ·by_cases h1:o+1<=k/\k<o+1+us.length
   ·rw[if_pos h1,if_pos (by simp;omega),show k -o=k -(o+1)+1 by omega];rfl
   ·rw[if_neg h1,if_neg (by simp;omega),List.getElem?_set_ne (by omega)]
theorem aa.bm (m:aa W h L) (i:Nat) (hi:L[i]?=some [⟨b,o,cs,t⟩]) (j:Nat) (ah:j+us.length<=cs.length) (e:h'=Go.Vc.bm h b p us) (hp:p=o+j:=by omega):aa W h' (L.set i [⟨b,o,bG cs j us,t⟩]):=by
 subst hp e
 obtain⟨vs,T,q⟩:=m.vL i hi
 have hle:o+cs.length<=vs.length:=q.le
 refine aa.back i hi ((m.focus i hi).ND q (ws:=bG vs (o+j) us) (by rw[HV];exact Nat.le_refl _) q.da.bm zc zc (λc _ hc=>HU hc) (λk I=>?_) λk v I=>?_)
 ·rw[HS (by omega),if_neg (by omega)]
 ·rw[HS (by omega)]
  rw[HS ah]at I
  by_cases h1:j<=k/\k<j+us.length
  ·rw[if_pos h1]at I
   rw[if_pos (by omega),show o+k -(o+j)=k -j by omega];exact I
  ·rw[if_neg h1]at I
   rw[if_neg (by omega)];exact q.get k v I
theorem aa.b3 (m:aa W h L) (i:Nat) (hi:L[i]?=some [⟨b,o,cs,t⟩]) (j:Nat) (ah:j<cs.length) (e:h'=Go.Vc.b3 h b p v) (hp:p=o+j:=by omega):aa W h' (L.set i [⟨b,o,cs.set j v,t⟩]):=
 m.bm (us:=[v]) i hi j (by simp;omega) (by rw[e];rfl) hp
theorem aa.wr (m:aa W h L) (i:Nat) (hi:L[i]?=some [⟨b,o,cs,t⟩]) (j:Nat) (ah:j<cs.length) (hp:p=o+j:=by omega):Go.Vc.wr h b p:=by
 obtain⟨vs,T,q⟩:=m.vL i hi
 have:=q.le
 exact q.da.wr (by simp at this;omega)
theorem aa.c0 (m:aa W h L) (i:Nat) (hi:L[i]?=some [⟨b,o,cs,t⟩]) (j:Nat) (ah:j+n<=cs.length) (hp:p=o+j:=by omega):Go.Vc.c0 h b p n:=by
 obtain⟨vs,T,q⟩:=m.vL i hi
 have:=q.le
 exact q.da.c0 (by simp at this;omega)
theorem aa.store (m:aa W h L) (i:Nat) (hi:L[i]?=some [⟨b,o,cs,t⟩]) (j:Nat) (ah:Nat.ble (j+1) cs.length=true) {Q:J->Prop} (k:∀h1,aa W h1 (L.set i [⟨b,o,cs.set j v,t⟩])->Q h1) (hp:p=o+j:=by omega):
 Go.Vc.wr h b p/\∀h1,h1=Go.Vc.b3 h b p v->Q h1:=⟨m.wr i hi j (Nat.le_of_ble_eq_true ah) hp,λh1 e=>k h1 (m.b3 i hi j (Nat.le_of_ble_eq_true ah) e hp)⟩
theorem aa.push (m:aa W h L) (af:b=h.size) (ag:h'=h.push (.cells vs.toArray T)):aa W h' ([⟨b,0,vs,some T⟩]::L):=by
 subst af ag
 have aw:∀c,c<h.size->(h.push (.cells vs.toArray T))[c]?=h[c]?:= λc hc=>by
  rw[Array.getElem?_push_lt hc,Array.getElem?_eq_getElem hc]
 refine⟨λc x hx=>?_,λr U=>?_,λr U=>?_,?_⟩
 ·have:=m.gH c x hx
  rw[aw c (Array.getElem?_eq_some_iff.1 this).1];exact this
 ·simp only[List.flatten_cons,List.cons_append,List.nil_append,List.mem_cons]at U
  rcases U with rfl|U
  ·exact⟨vs,T,cT.Mz,by show 0+vs.length<=_;omega,λj v ah=>by show vs[0+j]?=_;rw[Nat.zero_add];exact ah,λb4 nP=>⟨rfl,rfl,by cases nP;rfl⟩⟩
  ·obtain⟨us,b4,q⟩:=m.has r U
   exact⟨us,b4,q.da.MA,q.le,q.get,q.w⟩
 ·simp only[List.flatten_cons,List.cons_append,List.nil_append,List.mem_cons]at U
  rcases U with rfl|U
  ·show W h.size=none
   cases hx:W h.size with
   |none=>rfl
   |some x=>have:=(Array.getElem?_eq_some_iff.1 (m.gH _ x hx)).1;omega
  ·exact m.out r U
 ·simp only[List.flatten_cons,List.cons_append,List.nil_append]
  refine List.pairwise_cons.2 ⟨λr U e=>?_,m.vX⟩
  obtain⟨us,b4,q⟩:=m.has r U
  have:=q.da.lt
  replace e:h.size=r.b:=e
  omega
theorem Py:∀{K:aL},(∀r∈K,∃vs T,r.In h vs T)->∃R:ao,(∀x∈R,cT h x.1 x.2.1 x.2.2)/\(R.map (·.1)).Nodup/\(∀r∈K,∃x∈R,x.1=r.b)/\∀x∈R,∃r∈K,r.b=x.1
 |[],_=>⟨[],λ_ hx=>(by cases hx),List.nodup_nil,λ_ hx=>(by cases hx),λ_ hx=>(by cases hx)⟩
 |r::K,mi=>by
  obtain⟨R,h1,h2,h3,h4⟩:=Py (K:=K) λs hs=>mi s (List.mem_cons_of_mem _ hs)
  obtain⟨vs,T,q⟩:=mi r (List.mem_cons_self ..)
  by_cases U:∃x∈R,x.1=r.b
  ·refine⟨R,h1,h2,λs hs=>?_,λx hx=>?_⟩
   ·rcases List.mem_cons.1 hs with rfl|hs
    ·exact U
    ·exact h3 s hs
   ·obtain⟨s,hs,e⟩:=h4 x hx;exact⟨s,List.mem_cons_of_mem _ hs,e⟩
  ·refine⟨(r.b,vs,T)::R,λx hx=>?_,?_,λs hs=>?_,λx hx=>?_⟩
   ·rcases List.mem_cons.1 hx with rfl|hx
    ·exact q.da
    ·exact h1 x hx
   ·rw[List.map_cons]
    refine List.nodup_cons.2 ⟨λhc=>U ?_,h2⟩
    obtain⟨x,hx,e⟩:=List.mem_map.1 hc
    exact⟨x,hx,e⟩
   ·rcases List.mem_cons.1 hs with rfl|hs
    ·exact⟨_,List.mem_cons_self ..,rfl⟩
    ·obtain⟨x,hx,e⟩:=h3 s hs;exact⟨x,List.mem_cons_of_mem _ hx,e⟩
   ·rcases List.mem_cons.1 hx with rfl|hx
    ·exact⟨r,List.mem_cons_self ..,rfl⟩
    ·obtain⟨s,hs,e⟩:=h4 x hx;exact⟨s,List.mem_cons_of_mem _ hs,e⟩
theorem Ip {Es:List ao}:(Es.map ae).flatten=ae Es.flatten:=by simp[ae,List.map_flatten];rfl
theorem DG {x:EK} (hx:x∈E):(⟨x.1,0,x.2.1,some x.2.2⟩:ke)∈ae E:=List.mem_map.2 ⟨x,hx,rfl⟩
theorem WD:(ae E).Pairwise ke.off->(E.map (·.1)).Nodup:=by
 intro hp
 unfold ae at hp
 rw[List.pairwise_map]at hp
 rw[List.Nodup,List.pairwise_map]
 exact hp.imp λ{x y} Dh e=>by obtain⟨k,-⟩:=Dh e;cases k
theorem Qr (hn:(E.map (·.1)).Nodup):(ae E).Pairwise ke.off:=by
 unfold ae
 rw[List.pairwise_map]
 rw[List.Nodup,List.pairwise_map]at hn
 exact hn.imp λ{x y} Dh e=>absurd e Dh
theorem aa.me (Es:List ao) (m:aa W h (Es.map ae++L)):∃R:ao,ai W h (Es++[R])/\∀{W':Wd} {h':J} {Fs:List ao},ai W' h' (Fs++[R])->aa W' h' (Fs.map ae++L):=by
 have hf:∀{Fs:List ao},(Fs.map ae++L).flatten=ae Fs.flatten++L.flatten:= λ{Fs}=>by rw[List.flatten_append,Ip]
 have ru:∀{Fs:List ao} {R:ao},(Fs++[R]).flatten=Fs.flatten++R:= λ{Fs R}=>by simp
 have Ge:∀r∈L.flatten,r∈(Es.map ae++L).flatten:= λr U=>by rw[hf];exact List.mem_append_right _ U
 have ow:∀x∈Es.flatten,(⟨x.1,0,x.2.1,some x.2.2⟩:ke)∈(Es.map ae++L).flatten:= λx hx=>by rw[hf];exact List.mem_append_left _ (DG hx)
 obtain⟨R,h1,h2,h3,h4⟩:=Py (h:=h) (K:=L.flatten) λr U=>m.has r (Ge r U)
 have sr:=m.vX
 rw[hf]at sr
 obtain⟨d1,d2,d3⟩:=List.pairwise_append.1 sr
 refine⟨R,⟨m.gH,λx hx=>?_,λx hx=>?_,?_⟩,λ{W' h' Fs} ax=>⟨ax.gH,λr U=>?_,λr U=>?_,?_⟩⟩
 ·rw[ru]at hx
  rcases List.mem_append.1 hx with hx|hx
  ·obtain⟨vs,T,q⟩:=m.has _ (ow x hx)
   obtain⟨-,af,ag⟩:=q.w _ rfl
   have:=q.da
   rw[af,ag]at this;exact this
  ·exact h1 x hx
 ·rw[ru]at hx
  rcases List.mem_append.1 hx with hx|hx
  ·exact m.out _ (ow x hx)
  ·obtain⟨r,U,e⟩:=h4 x hx
   rw[<-e];exact m.out _ (Ge r U)
 ·rw[ru,List.map_append]
  refine List.nodup_append.2 ⟨WD d1,h2,λi hi j ah e=>?_⟩
  obtain⟨x,hx,rfl⟩:=List.mem_map.1 hi
  obtain⟨y,hy,rfl⟩:=List.mem_map.1 ah
  obtain⟨r,U,ag⟩:=h4 y hy
  obtain⟨k,-⟩:=d3 _ (DG hx) r U (e.trans ag.symm)
  cases k
 ·rw[hf]at U
  rcases List.mem_append.1 U with U|U
  ·obtain⟨x,hx,rfl⟩:=List.mem_map.1 U
   exact⟨x.2.1,x.2.2,ax.has x (by rw[ru];exact List.mem_append_left _ hx),by show 0+x.2.1.length<=_;omega,λj v ah=>by show x.2.1[0+j]?=_;rw[Nat.zero_add];exact ah,λb4 nP=>⟨rfl,rfl,by cases nP;rfl⟩⟩
  ·obtain⟨vs,T,q⟩:=m.has r (Ge r U)
   obtain⟨x,hx,e⟩:=h3 r U
   have k1:=h1 x hx
   have k2:=ax.has x (by rw[ru];exact List.mem_append_right _ hx)
   rw[e]at k1 k2
   obtain⟨af,ag⟩:=Jq q.da k1
   rw[<-af,<-ag]at k2
   exact⟨vs,T,k2,q.le,q.get,q.w⟩
 ·rw[hf]at U
  rcases List.mem_append.1 U with U|U
  ·obtain⟨x,hx,rfl⟩:=List.mem_map.1 U
   exact ax.off x (by rw[ru];exact List.mem_append_left _ hx)
  ·obtain⟨x,hx,e⟩:=h3 r U
   rw[<-e];exact ax.off x (by rw[ru];exact List.mem_append_right _ hx)
 ·have hn:=ax.fm
  rw[ru,List.map_append]at hn
  obtain⟨bC,eE,yM⟩:=List.nodup_append.1 hn
  rw[hf]
  refine List.pairwise_append.2 ⟨Qr bC,d2,λr U s hs e=>?_⟩
  obtain⟨x,hx,rfl⟩:=List.mem_map.1 U
  obtain⟨y,hy,ag⟩:=h3 s hs
  exact absurd (e.trans ag.symm) (yM _ (List.mem_map_of_mem hx) _ (List.mem_map_of_mem hy))
theorem aa.nx (m:aa W h L):∃R:ao,ai W h [R]/\∀{W':Wd} {h':J},(ai W' h' [R]->aa W' h' L)/\∀{E:ao},ai W' h' [E,R]->aa W' h' (ae E::L):=by
 obtain⟨R,h1,h2⟩:=aa.me (L:=L) [] m
 exact⟨R,h1,λ{W' h'}=>⟨λk=>h2 (Fs:=[]) k,λ{E} k=>h2 (Fs:=[E]) k⟩⟩
theorem aa.ny (m:aa W h (ae E::L)):∃R:ao,ai W h [E,R]/\∀{W':Wd} {h':J},(ai W' h' [R]->aa W' h' L)/\(∀{E:ao},ai W' h' [E,R]->aa W' h' (ae E::L))/\∀{E F:ao},ai W' h' [E,F,R]->aa W' h' (ae E::ae F::L):=by
 obtain⟨R,h1,h2⟩:=aa.me (L:=L) [E] m
 exact⟨R,h1,λ{W' h'}=>⟨λk=>h2 (Fs:=[]) k,λ{E} k=>h2 (Fs:=[E]) k,λ{E F} k=>h2 (Fs:=[E,F]) k⟩⟩
theorem aa.l0 (m:aa W h (ae E::ae F::L)):∃R:ao,ai W h [E,F,R]/\∀{W':Wd} {h':J},(ai W' h' [R]->aa W' h' L)/\(∀{E:ao},ai W' h' [E,R]->aa W' h' (ae E::L))/\∀{E F:ao},ai W' h' [E,F,R]->aa W' h' (ae E::ae F::L):=by
 obtain⟨R,h1,h2⟩:=aa.me (L:=L) [E,F] m
 exact⟨R,h1,λ{W' h'}=>⟨λk=>h2 (Fs:=[]) k,λ{E} k=>h2 (Fs:=[E]) k,λ{E F} k=>h2 (Fs:=[E,F]) k⟩⟩
theorem aa.give (m:aa W h (ae E::L)):∃W',W.le W'/\(∀x∈E,W' x.1=some (.cells x.2.1.toArray x.2.2))/\aa W' h L:=by
 obtain⟨R,h1,h2⟩:=m.ny
 obtain⟨W',k1,k2,k3⟩:=h1.give
 exact⟨W',k1,k2,h2.1 k3⟩
theorem ai.nY (m:ai W h G):aa W h (G.map ae):=by
 refine⟨m.gH,λr U=>?_,λr U=>?_,?_⟩
 ·rw[Ip]at U
  obtain⟨x,hx,rfl⟩:=List.mem_map.1 U
  exact⟨x.2.1,x.2.2,m.has x hx,by show 0+x.2.1.length<=_;omega,λj v ah=>by show x.2.1[0+j]?=_;rw[Nat.zero_add];exact ah,λb4 nP=>⟨rfl,rfl,by cases nP;rfl⟩⟩
 ·rw[Ip]at U
  obtain⟨x,hx,rfl⟩:=List.mem_map.1 U
  exact m.off x hx
 ·rw[Ip];exact Qr m.fm
theorem aa.bT (m:aa W h L) (hc:Go.Vc.bT W b o=some v):Go.Vc.cell h b o=some v:=by
 obtain⟨R,k,-⟩:=m.nx;exact k.bT hc
theorem aa.e5 {a:Option Addr} (m:aa W h L) (hs:Go.Vc.e5 W a n cs):Go.Vc.src h a n cs:=by
 obtain⟨R,k,-⟩:=m.nx;exact k.e5 hs
theorem aa.cut (m:aa W h ([⟨b,o,cs++ds,t⟩]::L)):aa W h ([⟨b,o,cs,none⟩]::[⟨b,o+cs.length,ds,none⟩]::L):=by
 have sr:=m.vX
 simp only[List.flatten_cons,List.cons_append,List.nil_append]at sr
 obtain⟨qf,rr⟩:=List.pairwise_cons.1 sr
 obtain⟨vs,T,q⟩:=m.vL 0 rfl
 have hle:o+(cs++ds).length<=vs.length:=q.le
 rw[List.length_append]at hle
 have aw:=m.out ⟨b,o,cs++ds,t⟩ (by simp)
 have g1:∀r∈L.flatten,(⟨b,o,cs,none⟩:ke).off r/\(⟨b,o+cs.length,ds,none⟩:ke).off r:= λr U=>by
  have:=qf r U
  unfold ke.off at this⊢
  dsimp only at this⊢
  rw[List.length_append]at this
  exact⟨λe=>by obtain⟨-,k,k2⟩:=this e;exact⟨rfl,k,by omega⟩,λe=>by obtain⟨-,k,k2⟩:=this e;exact⟨rfl,k,by omega⟩⟩
 refine⟨m.gH,λr U=>?_,λr U=>?_,?_⟩
 ·simp only[List.flatten_cons,List.cons_append,List.nil_append,List.mem_cons]at U
  rcases U with rfl|rfl|U
  ·exact⟨vs,T,q.da,by show o+cs.length<=_;omega,λj v ah=>q.get j v (by show(cs++ds)[j]?=_;rw[List.getElem?_append_left (List.getElem?_eq_some_iff.1 ah).1];exact ah),λb4 nP=>by cases nP⟩
  ·refine⟨vs,T,q.da,by show o+cs.length+ds.length<=_;omega,λj v ah=>?_,λb4 nP=>by cases nP⟩
   have:=q.get (cs.length+j) v (by show(cs++ds)[cs.length+j]?=_;rw[List.getElem?_append_right (by omega),Nat.add_sub_cancel_left];exact ah)
   rw[<-Nat.add_assoc]at this;exact this
  ·exact m.has r (by simp only[List.flatten_cons];exact List.mem_append_right _ U)
 ·simp only[List.flatten_cons,List.cons_append,List.nil_append,List.mem_cons]at U
  rcases U with rfl|rfl|U
  ·exact aw
  ·exact aw
  ·exact m.out r (by simp only[List.flatten_cons];exact List.mem_append_right _ U)
 ·simp only[List.flatten_cons,List.cons_append,List.nil_append]
  refine List.pairwise_cons.2 ⟨λr U=>?_,List.pairwise_cons.2 ⟨λr U=>(g1 r U).2,rr⟩⟩
  rcases List.mem_cons.1 U with rfl|U
  ·exactλ_=>⟨rfl,rfl, .inr (.inr (.inl (Nat.le_refl _)))⟩
  ·exact(g1 r U).1
theorem aa.glue (m:aa W h ([⟨b,o,cs,none⟩]::[⟨b,p,ds,none⟩]::L)) (hp:p=o+cs.length):aa W h ([⟨b,o,cs++ds,none⟩]::L):=by
 subst hp
 have sr:=m.vX
 simp only[List.flatten_cons,List.cons_append,List.nil_append]at sr
 obtain⟨qf,rr⟩:=List.pairwise_cons.1 sr
 obtain⟨acU,acV⟩:=List.pairwise_cons.1 rr
 obtain⟨vs,T,q⟩:=m.vL 0 rfl
 obtain⟨vs2,T2,q2⟩:=m.vL 1 rfl
 obtain⟨rfl,rfl⟩:=Jq q.da q2.da
 have j2:o+cs.length+ds.length<=vs.length:=q2.le
 refine⟨m.gH,λr U=>?_,λr U=>?_,?_⟩
 ·simp only[List.flatten_cons,List.cons_append,List.nil_append,List.mem_cons]at U
  rcases U with rfl|U
  ·refine⟨vs,T,q.da,by show o+(cs++ds).length<=_;rw[List.length_append];omega,λj v ah=>?_,λb4 nP=>by cases nP⟩
   replace ah:(cs++ds)[j]?=some v:=ah
   by_cases ado:j<cs.length
   ·rw[List.getElem?_append_left ado]at ah;exact q.get j v ah
   ·rw[List.getElem?_append_right (by omega)]at ah
    have:=q2.get _ v ah
    replace this:vs[o+cs.length+(j -cs.length)]?=some v:=this
    rw[show o+cs.length+(j -cs.length)=o+j by omega]at this;exact this
  ·exact m.has r (by simp only[List.flatten_cons];exact List.mem_append_right _ (List.mem_append_right _ U))
 ·simp only[List.flatten_cons,List.cons_append,List.nil_append,List.mem_cons]at U
  rcases U with rfl|U
  ·exact m.out ⟨b,o,cs,none⟩ (by simp)
  ·exact m.out r (by simp only[List.flatten_cons];exact List.mem_append_right _ (List.mem_append_right _ U))
 ·simp only[List.flatten_cons,List.cons_append,List.nil_append]
  refine List.pairwise_cons.2 ⟨λr U e=>?_,acV⟩
  obtain⟨k1,k2,k3⟩:=qf r (List.mem_cons_of_mem _ U) e
  obtain⟨k4,j6,lf⟩:=acU r U e
  refine⟨rfl,k2,?_⟩
  show(cs++ds).length=0\/r.cs.length=0\/o+(cs++ds).length<=r.o\/r.o+r.cs.length<=o
  replace k3:cs.length=0\/r.cs.length=0\/o+cs.length<=r.o\/r.o+r.cs.length<=o:=k3
  replace lf:ds.length=0\/r.cs.length=0\/o+cs.length+ds.length<=r.o\/r.o+r.cs.length<=o+cs.length:=lf
  rw[List.length_append]
  omega
theorem aa.part (m:aa W h ([⟨b,o,cs,some T⟩]::L)):aa W h ([⟨b,o,cs,none⟩]::L):=by
 have:=(aa.cut (ds:=[]) (cs:=cs) (by rw[List.append_nil];exact m)).glue rfl
 rw[List.append_nil]at this;exact this
theorem IL:∀{css:List (List Value)} {o k:Nat} {c:List Value},css[k]?=some c->(lQ b n o css)[k]?=some [⟨b,o+k*n,c,none⟩]
 |[],_,_,_,I=>by simp at I
 |d::r,o,0,c,I=>by simp at I;subst I;simp[lQ]
 |d::r,o,k+1,c,I=>by
  simp only[lQ,List.getElem?_cons_succ]
  rw[IL (by simpa using I),show o+n+k*n=o+(k+1)*n by rw[Nat.add_mul];omega]
theorem N8:∀{css:List (List Value)} {o k:Nat} {c:List Value},(lQ b n o css).set k [⟨b,o+k*n,c,none⟩]=lQ b n o (css.set k c)
 |[],_,_,_=>rfl
 |d::r,o,0,c=>by simp[lQ]
 |d::r,o,k+1,c=>by
  simp only[lQ,List.set_cons_succ]
  rw[show o+(k+1)*n=o+n+k*n by rw[Nat.add_mul];omega,N8]
theorem aa.MI:∀{css:List (List Value)} {o:Nat} {L:List aL},(∀c∈css,c.length=n)->aa W h ([⟨b,o,css.flatten,none⟩]::L)->aa W h ((lQ b n o css).flatten::L)
 |[],o,_,_,m=>m.aB.hU
 |c::r,o,_,hc,m=>by
  have m1:=aa.cut m
  rw[hc c (List.mem_cons_self ..)]at m1
  have m2:=aa.MI (λd hd=>hc d (List.mem_cons_of_mem _ hd)) m1.swap
  exact m2.swap.join
theorem aa.one (m:aa W h ((lQ b n o css).flatten::L)) (k:Nat) (I:css[k]?=some cs):aa W h ([⟨b,o+k*n,cs,none⟩]::((lQ b n o css).eraseIdx k).flatten::L):=m.pick k (IL I)
theorem aa.many (k:Nat) (I:k<css.length) (m:aa W h ([⟨b,o+k*n,ds,none⟩]::((lQ b n o css).eraseIdx k).flatten::L)):aa W h ((lQ b n o (css.set k ds)).flatten::L):=by
 have:=m.n9 k (IL (List.getElem?_eq_getElem I))
 rwa[N8]at this
end
end Go.Vc
namespace Go.Vc
section
variable{W W':Wd} {h h':J} {L:List aL} {E:ao} {a:Option Addr} {l c sz n b o p:Nat} {T:TypeId} {t:Option TypeId} {cs vs us:List Value}
theorem au.j8 (q:au a l c sz vs E) (m:aa W h L) (i:Nat) (hi:L[i]?=some (ae E)):Go.Vc.src h a (l*sz) vs:=by
 obtain⟨R,k,-⟩:=(m.focus i hi).ny
 exact q.src k 0 rfl
theorem au.mJ (q:au a l c 1 vs E) (m:aa W h L) (i:Nat) (hi:L[i]?=some (ae E)):Go.Vc.src h a l vs:=by
 have:=q.j8 m i hi
 rwa[Nat.mul_one]at this
theorem au.Fa {k bytes e:Nat} {Q:Option Addr->Nat->J->Prop} (q:au a l c sz vs E) (m:aa W h L) (i:Nat) (hi:L[i]?=some (ae E)) (hD:us.length=k*sz) (mo:(l+k)*bytes<=140737488355328) (fj:0<bytes)
 (K:∀ay c' bn h',aa W h' (L.set i (ae bn))->au ay (l+k) c' sz (vs++us) bn->Q ay c' h'):e8 h a l c k sz e bytes us Q:=by
 obtain⟨R,av,bk⟩:=(m.focus i hi).ny
 exact q.app av 0 rfl hD mo fj λay c' bn h' ax o'=>K ay c' bn h' (aa.back i hi (bk.2.1 ax)) o'
theorem au.kA {bytes e:Nat} {ag:TypeId} {Q:Option Addr->Nat->J->Prop} (q:au a l c sz vs E) (m:aa W h L) (i:Nat) (hi:L[i]?=some (ae E)) (hD:us.length=sz) (h1:∀u∈us,u.oneCell'=true) (mo:(l+1)*bytes<=140737488355328) (fj:0<bytes)
 (K:∀ay c' bn h',aa W h' (L.set i (ae bn))->au ay (l+1) c' sz (vs++us) bn->Q ay c' h'):
 ∀(bx:Nat) (h3:J),bx=h.size->h3=h.push (.cells us.toArray ag)->∃news:List Value,(Go.Vc.row h3 bx 0 sz=some news/\∀u∈news,u.oneCell'=true)/\e8 h3 a l c 1 sz e bytes news Q:=by
 obtain⟨R,av,bk⟩:=(m.focus i hi).ny
 exact q.um av 0 rfl hD h1 mo fj λay c' bn h' ax o'=>K ay c' bn h' (aa.back i hi (bk.2.1 ax)) o'
theorem au.MR {k:Nat} {v:Value} (q:au a l c sz vs E) (m:aa W h L) (i:Nat) (hi:L[i]?=some (ae E)) (I:k<vs.length):∃b p,a=some ⟨b,p,none⟩/\Go.Vc.wr h b (p+k)/\
 ∀h1,h1=Go.Vc.b3 h b (p+k) v->∃bn,aa W h1 (L.set i (ae bn))/\au a l c sz (vs.set k v) bn:=by
 obtain⟨R,av,bk⟩:=(m.focus i hi).ny
 obtain⟨b,p,e,hw,K⟩:=q.MQ (v:=v) av 0 rfl I
 refine⟨b,p,e,hw,λh1 af=>?_⟩
 obtain⟨bn,ax,o'⟩:=K h1 af
 exact⟨bn,aa.back i hi (bk.2.1 ax),o'⟩
theorem aa.bb {Q:Nat->J->Prop} (m:aa W h L) (k:∀b h1,aa W h1 ([⟨b,0,vs,some T⟩]::L)->Q b h1):∀(b:Nat) (h1:J),b=h.size->h1=h.push (.cells vs.toArray T)->Q b h1:=
 λb h1 af ag=>k b h1 (m.push af ag)
theorem aa.zV {Q:J->Prop} (m:aa W h L) (i:Nat) (hi:L[i]?=some [⟨b,o,cs,t⟩]) (j:Nat) (hn:us.length=n) (ah:j+n<=cs.length) (h1:∀u∈us,u.oneCell'=true) (k:∀h1,aa W h1 (L.set i [⟨b,o,bG cs j us,t⟩])->Q h1) (hp:p=o+j:=by omega):
 (us.length=n/\Go.Vc.c0 h b p n/\∀u∈us,u.oneCell'=true)/\∀h1,h1=Go.Vc.bm h b p us->Q h1:=
 ⟨⟨hn,m.c0 i hi j (by omega) hp,h1⟩,λh1 e=>k h1 (m.bm i hi j (by omega) e hp)⟩
theorem akD (h:us.length=cs.length):bG cs 0 us=us:=by
 rw[n3 (by omega)];simp[h]
theorem aa.c8 {Q:J->Prop} (m:aa W h L) (i:Nat) (hi:L[i]?=some [⟨b,o,cs,t⟩]) (hn:us.length=n) (ah:n=cs.length) (h1:∀u∈us,u.oneCell'=true) (k:∀h1,aa W h1 (L.set i [⟨b,o,us,t⟩])->Q h1) (hp:p=o:=by omega):
 (us.length=n/\Go.Vc.c0 h b p n/\∀u∈us,u.oneCell'=true)/\∀h1,h1=Go.Vc.bm h b p us->Q h1:=
 m.zV i hi 0 hn (by omega) h1 (λh1 m1=>k h1 (by rwa[akD (by omega)]at m1))
end
theorem aN {b o:Nat} {K:Nat->Nat->Prop} (h:K b o):eu (some ⟨b,o,none⟩) K:=h
def cA {α:Type} (f:α->List Value) (n b o:Nat) (l:List α):aL:=(lQ b n o (l.map f)).flatten
def zo {α:Type} (f:α->List Value) (n b o:Nat) (l:List α) (k:Nat):aL:=((lQ b n o (l.map f)).eraseIdx k).flatten
section
variable{α:Type} {f:α->List Value} {W:Wd} {h:J} {L:List aL} {n b o k:Nat} {l:List α} {x y:α} {t:Option TypeId}
theorem cA.one (m:aa W h (cA f n b o l::L)) (I:l[k]?=some x):aa W h ([⟨b,o+k*n,f x,none⟩]::zo f n b o l k::L):=aa.one m k (by rw[List.getElem?_map,I];rfl)
theorem cA.back (I:k<l.length) (m:aa W h ([⟨b,o+k*n,f y,none⟩]::zo f n b o l k::L)):aa W h (cA f n b o (l.set k y)::L):=by
 unfold cA
 rw[List.map_set]
 exact aa.many k (by simpa using I) m
theorem cA.same (I:l[k]?=some x) (m:aa W h ([⟨b,o+k*n,f x,none⟩]::zo f n b o l k::L)):aa W h (cA f n b o l::L):=by
 have h1:=(List.getElem?_eq_some_iff.1 I)
 have:=cA.back h1.1 m
 rw[<-h1.2,List.set_getElem_self]at this;exact this
theorem cA.of (hn:∀x∈l,(f x).length=n) (m:aa W h ([⟨b,o,(l.map f).flatten,none⟩]::L)):aa W h (cA f n b o l::L):=
 aa.MI (by intro c hc;obtain⟨x,hx,rfl⟩:=List.mem_map.1 hc;exact hn x hx) m
theorem aa.Wk:∀{css:List (List Value)} {o:Nat} {L:List aL},(∀c∈css,c.length=n)->css≠[]->aa W h ((lQ b n o css).flatten::L)->aa W h ([⟨b,o,css.flatten,none⟩]::L)
 |[],_,_,_,b6,_=>absurd rfl b6
 |[c],o,L,hc,_,m=>by simpa[lQ]using m
 |c::d::r,o,L,hc,_,m=>by
  have m1:aa W h ([⟨b,o,c,none⟩]::(lQ b n (o+n) (d::r)).flatten::L):=aa.split (A:=[⟨b,o,c,none⟩]) m
  have m2:=aa.Wk (λx hx=>hc x (List.mem_cons_of_mem _ hx)) (by simp) m1.swap
  have m3:=aa.glue m2.swap (by rw[hc c (List.mem_cons_self ..)])
  simpa using m3
theorem cA.row (hn:∀x∈l,(f x).length=n) (hl:l≠[]) (m:aa W h (cA f n b o l::L)):Go.Vc.row h b o (l.length*n)=some (l.map f).flatten:=by
 have m1:=aa.Wk (by intro c hc;obtain⟨x,hx,rfl⟩:=List.mem_map.1 hc;exact hn x hx) (by simpa using hl) m
 refine m1.bE 0 rfl ?_
 have:∀{l:List α},(∀x∈l,(f x).length=n)->(l.map f).flatten.length=l.length*n:=by
  intro l
  induction l with
  |nil=>intro;simp
  |cons x r b9=>
   intro hh
   rw[List.map_cons,List.flatten_cons,List.length_append,b9 (λy hy=>hh y (List.mem_cons_of_mem _ hy)),hh x (List.mem_cons_self ..),List.length_cons,Nat.add_mul];omega
 rw[this hn]
theorem au.Bk {W:Wd} {h:J} {L:List aL} {E:ao} {a:Option Addr} {l c sz k:Nat} {vs us:List Value} (q:au a l c sz vs E) (m:aa W h L) (i:Nat) (hi:L[i]?=some (ae E)) (I:k+us.length<=vs.length) (h0:0<vs.length):∃b p,a=some ⟨b,p,none⟩/\Go.Vc.c0 h b (p+k) us.length/\
 ∀h1,h1=Go.Vc.bm h b (p+k) us->∃bn,aa W h1 (L.set i (ae bn))/\au a l c sz (bG vs k us) bn:=by
 obtain⟨R,av,bk⟩:=(m.focus i hi).ny
 rcases q with⟨rfl,rfl,rfl,rfl,rfl⟩|⟨b,o,j,rest,t,T,rfl,h1,h2,h3,h4,rfl⟩
 ·rw[List.length_nil]at h0;omega
 ·refine⟨b,o,rfl,(av.da 0 rfl).c0 (by simp;omega),λh1' e=>?_⟩
  have ax:=av.bm 0 rfl e
  have af:bG (j++(vs++(rest++t))) (o+k) us=j++(bG vs k us++(rest++t)):=by
   rw[n3 (by simp;omega),n3 I]
   have t1:(j++(vs++(rest++t))).take (o+k)=j++vs.take k:=by
    rw[<-h4,List.take_length_add_append,List.take_append_of_le_length (by omega)]
   have t2:(j++(vs++(rest++t))).drop (o+k+us.length)=vs.drop (k+us.length)++(rest++t):=by
    rw[<-h4,Nat.add_assoc,<-List.drop_drop,List.drop_left,List.drop_append_of_le_length I]
   rw[t1,t2];simp
  rw[af]at ax
  exact⟨_,aa.back i hi (bk.2.1 (E:=[(b,j++(bG vs k us++(rest++t)),T)]) ax), .inr ⟨b,o,j,rest,t,T,rfl,h1,by rw[zc];exact h2,h3,h4,rfl⟩⟩
theorem au.rf {W:Wd} {h:J} {L:List aL} {E:ao} {a:Option Addr} {l c sz k b p o:Nat} {vs:List Value} {v:Value} (q:au a l c sz vs E) (m:aa W h L) (i:Nat) (hi:L[i]?=some (ae E)) (e:a=some ⟨b,p,none⟩) (I:vs[k]?=some v) (aw:o=p+k:=by omega):Go.Vc.cell h b o=some v:=by
 obtain⟨b',Ua,e',hc⟩:=fW (q.j8 m i hi) I
 rw[e]at e';cases e';subst aw;exact hc
theorem au.ajZ {W:Wd} {h:J} {L:List aL} {E:ao} {a:Option Addr} {l c sz k n b p o:Nat} {vs us:List Value} (q:au a l c sz vs E) (m:aa W h L) (i:Nat) (hi:L[i]?=some (ae E)) (e:a=some ⟨b,p,none⟩) (hu:(vs.drop k).take n=us) (I:k+n<=vs.length) (hn:0<n) (aw:o=p+k:=by omega):Go.Vc.row h b o n=some us:=by
 obtain⟨b',Ua,e',hc⟩:=mK (q.j8 m i hi) I hn hu
 rw[e]at e';cases e';subst aw;exact hc
theorem au.MY {W:Wd} {h:J} {L:List aL} {E:ao} {a:Option Addr} {l c sz k b p o:Nat} {vs:List Value} {v:Value} (q:au a l c sz vs E) (m:aa W h L) (i:Nat) (hi:L[i]?=some (ae E)) (e:a=some ⟨b,p,none⟩) (I:k<vs.length) {Q:J->Prop}
 (K:∀h1 bn,aa W h1 (L.set i (ae bn))->au a l c sz (vs.set k v) bn->Q h1) (aw:o=p+k:=by omega):Go.Vc.wr h b o/\∀h1,h1=Go.Vc.b3 h b o v->Q h1:=by
 obtain⟨b',Ua,e',hw,hs⟩:=q.MR (v:=v) m i hi I
 rw[e]at e';cases e';subst aw
 exact⟨hw,λh1 af=>by obtain⟨bn,ax,o'⟩:=hs h1 af;exact K h1 bn ax o'⟩
theorem au.some {a:Option Addr} {l c sz:Nat} {vs:List Value} {E:ao} (q:au a l c sz vs E) (hl:0<l):∃b p,a=some ⟨b,p,none⟩:=by
 rcases q with⟨rfl,rfl,_⟩|⟨b,o,j,rest,t,T,rfl,_⟩
 ·exact absurd hl (by decide)
 ·exact⟨b,o,rfl⟩
end
end Go.Vc
namespace Go.Proofs.YtjlkfjnfnonekaaGreatDoor
open Go.Vc
section
variable{W W':Wd} {h h':J} {G L:List ao} {E:ao} {s a b:Option Addr} {l c cap sz e bytes n:Nat} {cs vs:List Value} {xs ys:List Int} {x:Int}
theorem _root_.Go.Vc.ai.beside (m:ai W h G) (k:ai (Wd.of h) h' L):ai W h' (L++G):=by
 refine⟨λb x e=>k.gH b x (m.gH b x e),λx hx=>?_,λx hx=>?_,?_⟩
 ·rw[List.flatten_append]at hx
  rcases List.mem_append.1 hx with hx|hx
  ·exact k.has x hx
  ·exact k.gH _ _ (m.has x hx)
 ·rw[List.flatten_append]at hx
  rcases List.mem_append.1 hx with hx|hx
  ·have:=k.off x hx
   cases hW:W x.1 with
   |none=>rfl
   |some y=>rw[show Wd.of h x.1=some y from m.gH _ _ hW]at this;cases this
  ·exact m.off x hx
 ·rw[List.flatten_append,List.map_append]
  refine List.nodup_append.2 ⟨k.fm,m.fm,λi hi j ah uL=>?_⟩
  subst uL
  obtain⟨x,hx,rfl⟩:=List.mem_map.1 hi
  obtain⟨y,hy,Dh⟩:=List.mem_map.1 ah
  have h1:=k.off x hx
  have h2:h[y.1]?=_:=m.has y hy
  rw[Dh]at h2
  rw[show Wd.of h x.1=_ from h2]at h1;cases h1
theorem _root_.Go.Vc.au.uq (o:au a l c 1 (ints .u8 xs) E) (hl:xs.length=l) (hE:∀x∈E,W x.1=some (.cells x.2.1.toArray x.2.2)):cm W (.slice a l c) xs:=by
 subst hl
 refine⟨a,c,rfl,o.le,?_⟩
 rcases o with⟨rfl,h1,rfl,h2,rfl⟩|⟨b,o,j,rest,t,T,rfl,h1,h2,h3,h4,rfl⟩
 ·exact h2
 ·show kT W b o xs.length=some _
  have hb:=hE _ (List.mem_singleton.2 rfl)
  dsimp only at hb
  refine NP (by simp[ints]) λk v I=>?_
  unfold bT
  rw[hb]
  have bY:=(List.getElem?_eq_some_iff.1 I).1
  simp only[List.getElem?_toArray]
  rw[<-h4,List.getElem?_append_right (by omega),Nat.add_sub_cancel_left,List.getElem?_append_left bY]
  exact I
def Made (h:J) (l sz:Nat) (cs:List Value) (v:Value) (h':J):Prop:=∃a c E,v= .slice a l c/\ai (Wd.of h) h' [E]/\au a l c sz cs E
theorem Fv {l sz bytes:Nat} (hs:src h s (l*sz) cs) (hl:cs.length=l*sz) (h1:∀u∈cs,u.oneCell'=true) (hb:l*bytes<=140737488355328) (fj:0<bytes) (hz:0<sz):
 ec (ph s) (Made h l sz cs (.slice none 0 0) h) (∀(al:Nat) (h1:J),al=h.size->h1=h.push (.cells ([]:List Value).toArray e)->
  ∃oF:List Value,(src h1 s (l*sz) oF/\∀u∈oF,u.oneCell'=true)/\e8 h1 (some ⟨al,0,none⟩) 0 0 l sz e bytes oF λ(a1:Option Addr) (ur:Nat) (h2:J)=>Made h l sz cs (.slice a1 (0+l) ur) h2):=by
 refine bH (λhn=>?_) λhn=>?_
 ·cases s with
  |some p=>simp[ph]at hn
  |none=>
   have:cs=[]:=hs
   subst this
   have h0:l*sz=0:=by simpa using hl.symm
   obtain rfl:l=0:=by
    rcases Nat.mul_eq_zero.1 h0 with h|h
    ·exact h
    ·omega
   exact⟨none,0,[],rfl,(ai.start h).hU,au.nil⟩
 ·intro al h1' af ag
  have m:=(ai.start h).push ag af
  have k:=m.kept (Wd.le.refl _)
  refine⟨cs,⟨k.src hs,h1⟩,?_⟩
  refine(au.wb (l:=0) (sz:=sz) (by simp)).app m 0 rfl hl (by simpa using hb) fj λay c' bn h' ax o'=>?_
  rw[Nat.zero_add]at o'⊢
  exact⟨ay,c',bn,rfl,by simpa using ax,by simpa using o'⟩
end
theorem Cf {h:J} {s:Option Addr} {l c:Nat} {cs:List Value} (hs:src h s l cs) (hl:cs.length=l) (h1:∀u∈cs,u.oneCell'=true) (hb:l<=140737488355328):
 aj Tryz.prog 217 #[.slice s l c] h (Made h l 1 cs):=
 apN _ _ _ _ _ (Fv (l:=l) (sz:=1) (bytes:=1) (cs:=cs) (by simpa using hs) (by simpa using hl) h1 (by omega) (by decide) (by decide))
theorem Z2 {h:J} {s:Option Addr} {l c:Nat} {cs:List Value} (hs:src h s l cs) (hl:cs.length=l) (h1:∀u∈cs,u.oneCell'=true) (hb:l*8<=140737488355328):
 aj Tryz.prog 282 #[.slice s l c] h (Made h l 1 cs):=
 apP _ _ _ _ _ (Fv (l:=l) (sz:=1) (bytes:=8) (cs:=cs) (by simpa using hs) (by simpa using hl) h1 (by omega) (by decide) (by decide))
theorem Z3 {h:J} {s:Option Addr} {l c:Nat} {cs:List Value} (hs:src h s (l*5) cs) (hl:cs.length=l*5) (h1:∀u∈cs,u.oneCell'=true) (hb:l*56<=140737488355328):
 aj Tryz.prog 296 #[.slice s l c] h (Made h l 5 cs):=
 apM _ _ _ _ _ (Fv (l:=l) (sz:=5) (bytes:=56) hs hl h1 hb (by decide) (by decide))
def sC (x:Int) (xs:List Int):Int:=if x∈xs then(xs.idxOf x:Nat)else-1
theorem SQ {x:Int}:∀{xs:List Int} {k:Nat},xs[k]?=some x->(∀j,j<k->xs[j]?≠some x)->xs.idxOf x=k
 |[],k,h,_=>by simp at h
 |y::ys,0,h,_=>by simp at h;subst h;simp
 |y::ys,k+1,h,hn=>by
  have hy:¬y=x:= λe=>hn 0 (by omega) (by simp[e])
  rw[List.idxOf_cons]
  have h1:=SQ (xs:=ys) (k:=k) (by simpa using h) (λj ah=>by have:=hn (j+1) (by omega);simpa using this)
  have h2:(y==x)=false:=by simpa using hy
  simp[h2,h1]
theorem ae5 {x:Int} {xs:List Int} {k:Nat} (I:xs[k]?=some x) (hn:∀j,j<k->xs[j]?≠some x):sC x xs=k:=by
 unfold sC
 rw[if_pos (List.mem_of_getElem? I),SQ I hn]
theorem ae6 {x:Int} {xs:List Int} (hn:∀j,j<xs.length->xs[j]?≠some x):x∉xs/\sC x xs=-1:=by
 have hm:x∉xs:= λhc=>by
  obtain⟨j,ah⟩:=List.mem_iff_getElem?.1 hc
  exact hn j (List.getElem?_eq_some_iff.1 ah).1 ah
 exact⟨hm,by unfold sC;rw[if_neg hm]⟩
section
variable{h:J} {s:Option Addr} {l c:Nat} {xs ys:List Int} {x:Int}
theorem Lm (hs:src h s l (ints .i64 xs)) (hl:xs.length=l) (hb:l<=4611686018427387904):
 aj Tryz.prog 204 #[.slice s l c, .int .i64 x] h λv h'=>v= .int .i64 (sC x xs)/\h'=h:=by
 refine ap1 _ _ _ _ _ _ ⟨λi h'=>h'=h/\∃k:Nat,i=k/\k<=l/\∀j,j<k->xs[j]?≠some x,λi _=>((l:Int) -i).toNat,⟨rfl,0,rfl,by omega,λj ah=>by omega⟩,λ_=>?_⟩
 rintro _ h1 ⟨rfl,k,rfl,I,hn⟩
 refine aC (λq=>?_) λq=>?_
 ·obtain⟨y,hy⟩:∃y,xs[k]?=some y:=⟨_,List.getElem?_eq_getElem (by omega)⟩
  obtain⟨b,o,rfl,hc⟩:=fW hs (j5 (k:= .i64) hy)
  refine⟨⟨by omega,by omega⟩,y,by simpa using hc,aC (λq1=>⟨?_,rfl⟩) λq1=>⟨by simp only[fits];omega,⟨rfl,k+1,by omega,by omega,λj ah=>?_⟩,by dsimp only;omega⟩⟩
  ·subst q1;rw[ae5 hy hn]
  ·rcases Nat.lt_succ_iff_lt_or_eq.1 ah with h|rfl
   ·exact hn j h
   ·rw[hy];intro e;cases e;exact q1 rfl
 ·obtain rfl:k=l:=by omega
  exact⟨by rw[(ae6 (by rw[hl];exact hn)).2],rfl⟩
theorem Cg (hs:src h s l (ints .i64 xs)) (hl:xs.length=l) (hb:l<=4611686018427387904):
 aj Tryz.prog 123 #[.slice s l c, .int .i64 x] h λv h'=>v= .bool (decide (x∈xs))/\h'=h:=by
 refine apT _ _ _ _ _ _ ((Lm hs hl hb).ret ⟨_,rfl,?_,rfl⟩)
 congr 1
 unfold sC
 split<;>rename_i hm<;>simp[hm]
end
end Go.Proofs.YtjlkfjnfnonekaaGreatDoor
namespace Go.Proofs.YtjlkfjnfnonekaaGreatDoor
open Go.Vc
theorem Ig (n m:Int) (hm:0<m):(n.tmod m<0/\n.tmod m+m=n%m)\/(0<=n.tmod m/\n.tmod m=n%m):=by
 have h1:=Int.emod_lt_of_pos n hm
 have h2:=Int.emod_nonneg n (show m≠0 by omega)
 by_cases hn:0<=n
 ·rw[Int.tmod_eq_emod_of_nonneg hn];omega
 ·have:=Int.tmod_eq_emod (a:=n) (b:=m)
  split at this<;>omega
theorem rD (n m:Int) (h:J) (hm:0<m) (ow:m<=4611686018427387904):
 aj Tryz.prog 5 #[.int .i64 n, .int .i64 m] h λv h'=>v= .int .i64 (n%m)/\h'=h:=by
 have h1:=Int.emod_lt_of_pos n hm
 refine ao0 _ _ _ _ ⟨by omega,?_⟩
 have h0:=Int.emod_nonneg n (show m≠0 by omega)
 rcases Ig n m hm with⟨h2,h3⟩|⟨h2,h3⟩
 ·refine fB h2 ⟨by simp only[fits];omega,by rw[h3],rfl⟩
 ·refine bF (by omega) ⟨by rw[h3],rfl⟩
end Go.Proofs.YtjlkfjnfnonekaaGreatDoor
set_option maxRecDepth 8000
namespace Go.Proofs.YtjlkfjnfnonekaaGreatDoor
open Go.Vc
theorem pI (n:Int):IntKind.u8.wrap n=n%256:=by
 unfold IntKind.wrap
 simp[IntKind.bits,IntKind.signed]
theorem Zj {m n:Nat} (hm:m<9223372036854775808) (hn:n<9223372036854775808):bits .or .i64 (m:Int) (n:Int)=((m|||n:Nat):Int):=by
 have e:bits .or .i64 (m:Int) (n:Int)=IntKind.i64.wrap ((BitVec.ofInt 64 (m:Int)|||BitVec.ofInt 64 (n:Int)).toNat:Int):=rfl
 have ag:(BitVec.ofInt 64 (m:Int)|||BitVec.ofInt 64 (n:Int)).toNat=m|||n:=by
  rw[BitVec.toNat_or,BitVec.toNat_ofInt,BitVec.toNat_ofInt]
  rw[show((m:Int)%(2^64:Nat)).toNat=m by omega,show((n:Int)%(2^64:Nat)).toNat=n by omega]
 have h3:m|||n<2^63:=Nat.or_lt_two_pow (by omega) (by omega)
 rw[e,ag,mP (show fits .i64 _ by simp only[fits];omega)]
theorem PB {m n:Nat} (hm:m<18446744073709551616) (hn:n<18446744073709551616):bits .or .u64 (m:Int) (n:Int)=((m|||n:Nat):Int):=by
 have e:bits .or .u64 (m:Int) (n:Int)=IntKind.u64.wrap ((BitVec.ofInt 64 (m:Int)|||BitVec.ofInt 64 (n:Int)).toNat:Int):=rfl
 have ag:(BitVec.ofInt 64 (m:Int)|||BitVec.ofInt 64 (n:Int)).toNat=m|||n:=by
  rw[BitVec.toNat_or,BitVec.toNat_ofInt,BitVec.toNat_ofInt]
  rw[show((m:Int)%(2^64:Nat)).toNat=m by omega,show((n:Int)%(2^64:Nat)).toNat=n by omega]
 have h3:m|||n<2^64:=Nat.or_lt_two_pow (by omega) (by omega)
 rw[e,ag,mP (show fits .u64 _ by simp only[fits];omega)]
theorem T7 {a b i:Nat} (hb:b<2^i):b|||a*2^i=b+a*2^i:=by
 have h:=Nat.two_pow_add_eq_or_of_lt hb a
 rw[Nat.or_comm,Nat.mul_comm,<-h];omega
theorem Mf {x y:Int} (hx:0<=x/\x<256) (hy:0<=y/\y<256):bits .or .i64 x (y*256)=x+y*256:=by
 obtain⟨m,rfl⟩:=Int.eq_ofNat_of_zero_le hx.1
 obtain⟨n,rfl⟩:=Int.eq_ofNat_of_zero_le hy.1
 have e:((n:Int)*256)=((n*256:Nat):Int):=by omega
 rw[e,Zj (by omega) (by omega),show(256:Nat)=2^8 from rfl,T7 (by omega)]
 omega
theorem abK (r m:Bool):bits .andNot .u8 (2+(if r then 8 else 0)+(if m then 32 else 0)) 40=2/\decide ((0:Int)<bits .and .u8 (2+(if r then 8 else 0)+(if m then 32 else 0)) 8)=r/\decide ((0:Int)<bits .and .u8 (2+(if r then 8 else 0)+(if m then 32 else 0)) 32)=m:=by
 cases r<;>cases m<;>decide
theorem alN (t:Int) (e:Bool) (h0:0<=t) (bW:t<=7):bits .andNot .u8 (t+(if e then 16 else 0)) 16=t/\decide ((0:Int)<bits .and .u8 (t+(if e then 16 else 0)) 16)=e:=by
 have:t=0\/t=1\/t=2\/t=3\/t=4\/t=5\/t=6\/t=7:=by omega
 rcases this with rfl|rfl|rfl|rfl|rfl|rfl|rfl|rfl<;>cases e<;>decide
def fz (a n:Int):Int:=(a+n)%4096
def cC (a b:Int):Int:=(b -a)%4096
theorem IX (a n:Int):0<=fz a n/\fz a n<4096:=by unfold fz;omega
theorem vW (a n:Int):0<=cC a n/\cC a n<4096:=by unfold cC;omega
theorem A1 (n:Int) (h:J):aj Tryz.prog 274 #[.int .i64 n] h λv h'=>v= .int .i64 (n%4096)/\h'=h:=by
 refine apL _ _ _ ⟨by decide,by decide,?_,rfl⟩
 rw[mP (show fits .i64 _ by simp only[fits];rcases Ig n 4096 (by omega)with h|h<;>omega)]
 rw[Int.tmod_eq_emod_of_nonneg (by rcases Ig n 4096 (by omega)with h|h<;>omega)]
 rcases Ig n 4096 (by omega)with h|h
 ·rw[h.2];congr 1;omega
 ·rw[h.2];congr 1;omega
theorem IY (a n:Int) (h:J):aj Tryz.prog 298 #[.int .i64 a, .int .i64 n] h λv h'=>v= .int .i64 (fz a n)/\h'=h:=by
 refine apI _ _ _ _ ((A1 _ _).ret ⟨_,rfl,(A1 _ _).ret ⟨_,rfl,by simp only[fits];omega,(A1 _ _).ret ⟨_,rfl,?_,rfl⟩⟩⟩)
 unfold fz;congr 1;omega
theorem Fz (a b:Int) (h:J):aj Tryz.prog 219 #[.int .i64 a, .int .i64 b] h λv h'=>v= .int .i64 (cC a b)/\h'=h:=by
 refine apJ _ _ _ _ ((A1 _ _).ret ⟨_,rfl,(A1 _ _).ret ⟨_,rfl,by simp only[fits];omega,(A1 _ _).ret ⟨_,rfl,?_,rfl⟩⟩⟩)
 unfold cC;congr 1;omega
end Go.Proofs.YtjlkfjnfnonekaaGreatDoor
