import Derived.Test.YtjlkfjnfnonekaaGreatDoorM24
import Derived.Test.YtjlkfjnfnonekaaGreatDoorM25
import Derived.Test.YtjlkfjnfnonekaaGreatDoorM17
import Derived.Test.YtjlkfjnfnonekaaGreatDoorM12
set_option linter.all false
set_option maxRecDepth 8000
namespace Go.Proofs.YtjlkfjnfnonekaaGreatDoor
open Go.Vc
def afn (xs:List Int):Prop:=4<=xs.length/\qO [dt xs 0,dt xs 1]=dt xs 2/\dt xs 3=78/\dt xs 0%16=0/\0<wd xs 0/16/\wd xs 0/16<=(xs.length:Int) -4
instance asT (xs:List Int):Decidable (afn xs):=by unfold afn;infer_instance
def Ud (xs:List Int):Nat:=(wd xs 0/16).toNat
def aiM (xs:List Int):List Int:=(xs.drop 4).take (Ud xs)
def aiL (xs:List Int):Nat:=(Ud xs+3)/4*4
def Bw (xs:List Int):Nat->Nat->List (List Int)
 |0,_=>[]
 |k+1,i=>if xs.length<i+4 then[]else if afn (xs.drop i)then aiM (xs.drop i)::Bw xs k (i+4+aiL (xs.drop i))else Bw xs k (i+4)
def Wj (xs:List Int):List (List Int):=Bw xs xs.length 0
theorem amf {xs:List Int} {k i:Nat} (h:xs.length<i+4):Bw xs k i=[]:=by
 cases k with
 |zero=>rfl
 |succ k=>unfold Bw;rw[if_pos h]
def kd (W:Wd):List Value->List (List Int)->Prop
 |[],[]=>True
 |v::vs,x::l=>cm W v x/\kd W vs l
 |_,_=>False
theorem kd.le {W W':Wd} (hl:W.le W'):∀{vs:List Value} {l:List (List Int)},kd W vs l->kd W' vs l
 |[],[],_=>trivial
 |_::_,_::_,h=>⟨h.1.le hl,kd.le hl h.2⟩
theorem kd.len {W:Wd}:∀{vs:List Value} {l:List (List Int)},kd W vs l->vs.length=l.length
 |[],[],_=>rfl
 |_::_,_::_,h=>by have:=kd.len h.2;simp[this]
theorem kd.snoc {W:Wd} {v:Value} {x:List Int} (hv:cm W v x):∀{vs:List Value} {l:List (List Int)},kd W vs l->kd W (vs++[v]) (l++[x])
 |[],[],_=>⟨hv,trivial⟩
 |_::_,_::_,h=>⟨h.1,kd.snoc hv h.2⟩
theorem kd.get {W:Wd}:∀{vs:List Value} {l:List (List Int)} {i:Nat} {x:List Int},kd W vs l->l[i]?=some x->∃v,vs[i]?=some v/\cm W v x
 |[],[],_,_,_,h=>by simp at h
 |v::_,y::_,0,x,h,e=>by
  simp at e;subst e
  exact⟨v,rfl,h.1⟩
 |_::_,_::_,i+1,x,h,e=>by
  obtain⟨v,af,ag⟩:=kd.get (i:=i) h.2 (by simpa using e)
  exact⟨v,by simpa using af,ag⟩
theorem kd.one {W:Wd}:∀{vs:List Value} {l:List (List Int)},kd W vs l->∀u∈vs,u.oneCell'=true
 |[],[],_,u,h=>by cases h
 |v::vs,x::l,h,u,hu=>by
  rcases List.mem_cons.1 hu with rfl|hu
  ·obtain⟨a,c,rfl,-,-⟩:=h.1;rfl
  ·exact kd.one h.2 u hu
section
variable{W W':Wd} {h h':J} {G:List ao} {E:ao} {a:Option Addr} {n c k i:Nat} {xs:List Int} {vs:List Value} {out:List (List Int)}
def Oc (W:Wd) (G:List ao) (xs:List Int) (i:Nat) (o':Option Addr) (ol cJ:Nat) (h':J):Prop:=∃k W' E vs out,W.le W'/\ol=vs.length/\au o' vs.length cJ 1 vs E/\ai W' h' (E::G)/\kd W' vs out/\xs.length<=i+4*k/\vs.length*4<=i/\out++Bw xs k i=Wj xs
def Xd (W:Wd) (G:List ao) (xs:List Int) (v:Value) (h':J):Prop:=∃W' a c E vs,W.le W'/\v= .slice a vs.length c/\au a vs.length c 1 vs E/\ai W' h' (E::G)/\kd W' vs (Wj xs)
theorem Oc.fin {o':Option Addr} {ol cJ:Nat} (s:Oc W G xs i o' ol cJ h) (hi:xs.length<i+4):Xd W G xs (.slice o' ol cJ) h:=by
 obtain⟨k,W',E,vs,out,hle,rfl,o,m,hb,-,-,e⟩:=s
 rw[amf hi,List.append_nil]at e
 subst e
 exact⟨W',_,_,E,vs,hle,rfl,o,m,hb⟩
end
end Go.Proofs.YtjlkfjnfnonekaaGreatDoor
set_option maxRecDepth 8000
namespace Go.Proofs.YtjlkfjnfnonekaaGreatDoor
open Go.Vc
section
variable{W W':Wd} {h h':J} {b t j n c:Nat} {a:Option Addr} {T:TypeId} {size:Int} {css:List (List Value)} {cs us vs:List Value} {G G':List ao} {v:Value} {x:cu} {f:bQ} {wR:Option Nat} {Q:J->Prop} {E:ao} {l:List bQ}
theorem Zm {W W':Wd} {v:Value} {xs:List Int} (hc:∀b o v,bT W b o=some v->bT W' b o=some v) (hb:cm W v xs):cm W' v xs:=by
 obtain⟨a,c,e,h1,h2⟩:=hb
 refine⟨a,c,e,h1,?_⟩
 unfold e5 at h2⊢
 split at h2
 ·exact h2
 ·obtain⟨af,ag⟩:=zj.1 h2
  exact zj.2 ⟨af,λj v ah=>hc _ _ _ (ag j v ah)⟩
 ·exact h2
theorem FN (hc:∀b o v,bT W b o=some v->bT W' b o=some v) (hv:ir W f cs):ir W' f cs:=by
 obtain⟨v,e,hb⟩:=hv;exact⟨v,e,Zm hc hb⟩
theorem Uv {d:Int} (h0:0<=d) (h1:d<64):0<dU d/\dU d<=9223372036854775808:=by
 obtain⟨k,rfl⟩:=Int.eq_ofNat_of_zero_le h0
 unfold dU
 rw[Int.toNat_natCast]
 have e:((2:Int)^k)=((2^k:Nat):Int):=by rw[Int.natCast_pow];rfl
 rw[e]
 have h2:2^k<=2^63:=Nat.pow_le_pow_right (by decide) (by omega)
 have h3:0<2^k:=Nat.pow_pos (by decide)
 have h4:(2:Nat)^63=9223372036854775808:=by decide
 omega
theorem Tg {n:Int} (h:nX l n=some f):(lY l n).length+1=l.length:=by
 have h1:=List.length_eraseP_of_mem (List.mem_of_find?_eq_some h) (List.find?_some h)
 have h2:=List.length_pos_of_mem (List.mem_of_find?_eq_some h)
 unfold lY
 omega
end
section
variable{W W':Wd} {h h':J} {b t j n c:Nat} {a:Option Addr} {T:TypeId} {size:Int} {css:List (List Value)} {cs us vs:List Value} {G G':List ao} {v:Value} {x:cu} {f:bQ} {wR:Option Nat} {Q:J->Prop} {E:ao} {l:List bQ}
theorem Ve {n:Nat} {z:Int} (h:nX l z=none):ea (n+1) l z=([],l,z):=by rw[ea,h]
theorem Vf {n:Nat} {z:Int} (h:nX l z=some f):ea (n+1) l z=(f::(ea n (lY l z) (fz z 1)).1,(ea n (lY l z) (fz z 1)).2):=by rw[ea,h]
end
end Go.Proofs.YtjlkfjnfnonekaaGreatDoor
set_option maxRecDepth 8000
namespace Go.Proofs.YtjlkfjnfnonekaaGreatDoor
open Go.Vc
theorem TE (x:cu) (n:Int):(x.mark n).kept=x.kept/\(x.mark n).start=x.start/\(x.mark n).size=x.size/\(x.mark n).on=x.on/\(x.mark n).last=x.last:=by
 unfold cu.mark
 split<;>exact⟨rfl,rfl,rfl,rfl,rfl⟩
theorem Nd (x:cu) (n:Int):(x.kO n).kept=x.kept/\(x.kO n).start=x.start/\(x.kO n).size=x.size/\(x.kO n).on=x.on/\(x.kO n).last=x.last:=by
 unfold cu.kO
 split
 ·exact TE (x.move (fz n (-63))) n
 ·exact TE x n
theorem NJ:∀(d:Nat) {l:List bQ} {s:Int},(mN d l s).1.length+(mN d l s).2.length=l.length
 |0,l,s=>by simp[mN]
 |d+1,l,s=>by
  unfold mN
  split
  ·simp
  ·split
   ·exact NJ d
   ·rename_i f hf
    have h1:=NJ d (l:=lY l s) (s:=fz s 1)
    have h2:=Tg hf
    simp;omega
theorem Vd:∀(n:Nat) {l:List bQ} {s:Int},(ea n l s).1.length+(ea n l s).2.1.length=l.length
 |0,l,s=>by simp[ea]
 |n+1,l,s=>by
  unfold ea
  split
  ·simp
  ·rename_i f hf
   have h1:=Vd n (l:=lY l s) (s:=fz s 1)
   have h2:=Tg hf
   simp;omega
theorem Vo (x:cu):x.run.1.length+x.run.2.kept.length=x.kept.length:=Vd _
section
variable{x:cu} {f:bQ}
end
end Go.Proofs.YtjlkfjnfnonekaaGreatDoor
set_option maxRecDepth 8000
namespace Go.Proofs.YtjlkfjnfnonekaaGreatDoor
open Go.Vc
section
variable{W:Wd} {h:J} {G:List ao} {E:ao} {a:Option Addr} {c i j:Nat} {vs:List Value} {f:bQ}
theorem VL:∀{out:List bQ} {vs:List Value},bX (ir W) out vs->(∀f∈out,gK f)->bX (λf cs=>ir W f cs/\gK f) out vs
 |[],_,hs,_=>hs
 |x::xs,_,⟨cs,r,e,h1,h2⟩,I=>⟨cs,r,e,⟨h1,I x (List.mem_cons_self ..)⟩,VL h2 λf hf=>I f (List.mem_cons_of_mem _ hf)⟩
end
end Go.Proofs.YtjlkfjnfnonekaaGreatDoor
set_option maxRecDepth 8000
namespace Go.Proofs.YtjlkfjnfnonekaaGreatDoor
open Go.Vc
def tE:List bQ->Int->Option Nat
 |[],_=>none
 |f::r,n=>if f.sq=n then some 0 else(tE r n).map (·+1)
theorem Dx:∀{l:List bQ} {n:Int},tE l n=none->nX l n=none/\lY l n=l/\∀f∈l,f.sq≠n
 |[],_,_=>⟨rfl,rfl,λf hf=>(by cases hf)⟩
 |f::r,n,e=>by
  simp only[tE]at e
  split at e
  ·cases e
  ·rename_i q
   obtain⟨h1,h2,h3⟩:=Dx (l:=r) (n:=n) (by cases h:tE r n with|none=>rfl|some i=>rw[h]at e;cases e)
   have q':(f.sq==n)=false:=beq_false_of_ne q
   refine⟨by simp only[nX,List.find?_cons,q'];exact h1,by simp only[lY,List.eraseP_cons,q',Bool.false_eq_true,if_false];exact congrArg (List.cons f) h2,λg hg=>?_⟩
   rcases List.mem_cons.1 hg with rfl|hg
   ·exact q
   ·exact h3 g hg
theorem GK:∀{l:List bQ} {n:Int} {i:Nat},tE l n=some i->∃f,l[i]?=some f/\f.sq=n/\nX l n=some f/\lY l n=l.take i++l.drop (i+1)/\∀g∈l.take i,g.sq≠n
 |[],_,_,e=>by cases e
 |f::r,n,i,e=>by
  simp only[tE]at e
  split at e
  ·rename_i q
   cases e
   have q':(f.sq==n)=true:=by simp[q]
   exact⟨f,rfl,q,by simp only[nX,List.find?_cons,q'],by simp only[lY,List.eraseP_cons,q',if_true];rfl,λg hg=>(by cases hg)⟩
  ·rename_i q
   have q':(f.sq==n)=false:=beq_false_of_ne q
   cases h:tE r n with
   |none=>rw[h]at e;cases e
   |some j=>
    rw[h]at e
    cases e
    obtain⟨g,h1,h2,h3,h4,aA⟩:=GK h
    refine⟨g,by simpa using h1,h2,by simp only[nX,List.find?_cons,q'];exact h3,by simp only[lY,List.eraseP_cons,q',Bool.false_eq_true,if_false,List.take_succ_cons,List.drop_succ_cons,List.cons_append];exact congrArg (List.cons f) h4,λk I=>?_⟩
    rw[List.take_succ_cons]at I
    rcases List.mem_cons.1 I with rfl|I
    ·exact q
    ·exact aA k I
def ve (x:cu) (qy:Value):List Value:=[.bool x.on, .int .i64 x.start, .int .i64 x.size,qy, .int .i64 x.fr, .int .u64 x.bits, .bool x.came, .int .i64 x.last]
def kv (W:Wd) (h:J) (b:Nat) (T:TypeId) (size:Int) (css:List (List Value)) (t:Nat) (x:cu) (up:List bQ) (ee:Nat) (eI:TypeId) (G:List ao):Prop:=
 ∃a c E vs ua uc b4 us,asZ W h b T size css t (ve x (.slice a x.kept.length c)) (E::b4::[(ee,[.slice ua up.length uc],eI)]::G)/\au a x.kept.length c 24 vs E/\bX (ir W) x.kept vs/\au ua up.length uc 24 us b4/\bX (ir W) up us
section
variable{W W':Wd} {h h':J} {b t j n c ee i:Nat} {a:Option Addr} {T eI:TypeId} {size:Int} {css:List (List Value)} {cs us vs:List Value} {G G':List ao} {v:Value} {x:cu} {f:bQ} {E:ao} {up:List bQ}
theorem akQ {a:Option Addr} {c:Nat}:en a 0 c 0=a:=by
 unfold en
 split
 ·rfl
 ·cases a with
  |none=>rfl
  |some a=>simp[Option.map,Addr.add]
end
end Go.Proofs.YtjlkfjnfnonekaaGreatDoor
set_option maxRecDepth 8000
namespace Go.Proofs.YtjlkfjnfnonekaaGreatDoor
open Go.Vc
theorem Wl:∀(d:Nat) (s:Int),mN d [] s=([],[])
 |0,_=>rfl
 |d+1,s=>by rw[mN];rfl
theorem afB {l:List bQ} {n:Int} (h:nX l n=none):lY l n=l:=by
 cases hq:tE l n with
 |none=>exact(Dx hq).2.1
 |some i=>
  obtain⟨f,-,-,h3,-⟩:=GK hq
  rw[h]at h3;cases h3
theorem amj (d:Nat) (l:List bQ) (s:Int):mN (d+1) l s=((nX l s).toList++(mN d (lY l s) (fz s 1)).1,(mN d (lY l s) (fz s 1)).2):=by
 cases l with
 |nil=>rw[Wl];show _=([]++(mN d [] (fz s 1)).1,(mN d [] (fz s 1)).2);rw[Wl];rfl
 |cons f r=>
  rw[mN,if_neg (by simp)]
  cases hq:nX (f::r) s with
  |none=>rw[afB hq];rfl
  |some g=>rfl
theorem Oo {s n:Int}:0<=fz s n/\fz s n<=4095:=by unfold fz;omega
def sY (l:List bQ):Prop:=(l.map bQ.sq).Nodup
theorem sY.gone {l:List bQ} {n:Int} (h:sY l) {g:bQ} (hg:g∈lY l n):g.sq≠n:=by
 intro e
 cases hq:tE l n with
 |none=>rw[(Dx hq).2.1]at hg;exact(Dx hq).2.2 g hg e
 |some i=>
  obtain⟨f,h1,h2,-,h4,aA⟩:=GK hq
  rw[h4]at hg
  rcases List.mem_append.1 hg with hg|hg
  ·exact aA g hg e
  ·obtain⟨j,ah⟩:=List.mem_iff_getElem?.1 hg
   rw[List.getElem?_drop]at ah
   have hp:=List.pairwise_iff_getElem.1 h
   obtain⟨a1,al⟩:=List.getElem?_eq_some_iff.1 h1
   obtain⟨a2,aP⟩:=List.getElem?_eq_some_iff.1 ah
   have:=hp i (i+1+j) (by simpa using a1) (by simpa using a2) (by omega)
   simp only[List.getElem_map,al,aP]at this
   exact this (h2.trans e.symm)
section
variable{W W':Wd} {h h':J} {b t j n c ee i:Nat} {a:Option Addr} {T eI:TypeId} {size:Int} {css:List (List Value)} {cs us vs:List Value} {G G':List ao} {v:Value} {x:cu} {f:bQ} {E:ao} {up:List bQ}
theorem kv.start (r:kv W h b T size css t x up ee eI G):cell h b (13+t*8+1)=some (.int .i64 x.start):=by
 obtain⟨a,c,E,vs,ua,uc,b4,us,s,-⟩:=r
 exact s.get 1 rfl
theorem kv.kept (r:kv W h b T size css t x up ee eI G):∃a c,cell h b (13+t*8+3)=some (.slice a x.kept.length c):=by
 obtain⟨a,c,E,vs,ua,uc,b4,us,s,-⟩:=r
 exact⟨a,c,s.get 3 rfl⟩
end
section
variable{W W':Wd} {h h':J} {b t j n c ee i:Nat} {a:Option Addr} {T eI:TypeId} {size:Int} {css:List (List Value)} {cs us vs:List Value} {G G':List ao} {v qy:Value} {x:cu} {f:bQ} {E:ao} {up:List bQ}
end
end Go.Proofs.YtjlkfjnfnonekaaGreatDoor
set_option maxRecDepth 8000
namespace Go.Proofs.YtjlkfjnfnonekaaGreatDoor
open Go.Vc
section
variable{W W':Wd} {h h':J} {b t j n c ee i:Nat} {a:Option Addr} {T eI:TypeId} {size:Int} {css:List (List Value)} {cs us vs:List Value} {G G':List ao} {v qy:Value} {x:cu} {f:bQ} {E:ao} {up:List bQ}
theorem kv.push {al:Nat} {ek:TypeId} (r:kv W h b T size css t x up ee eI G) (af:al=h.size) (ag:h'=h.push (.cells vs.toArray ek)):kv W h' b T size css t x up ee eI ([(al,vs,ek)]::G):=by
 obtain⟨a,c,E,ka,ua,uc,b4,us,s,k⟩:=r
 refine⟨a,c,E,ka,ua,uc,b4,us,s.mem ((s.m.push ag af).perm ?_),k⟩
 simp only[List.flatten_cons,List.append_assoc]
 refine(List.perm_append_comm (l₁:=[(al,vs,ek)])).trans ?_
 simp only[List.append_assoc]
 refine List.Perm.append_left _ (List.Perm.append_left _ (List.Perm.append_left _ (List.Perm.append_left _ ?_)))
 exact List.perm_append_comm
theorem kv.drop {A:ao} (r:kv W h b T size css t x up ee eI (A::G)):kv W h b T size css t x up ee eI G:=by
 obtain⟨a,c,E,ka,ua,uc,b4,us,s,k⟩:=r
 refine⟨a,c,E,ka,ua,uc,b4,us,s.mem (s.m.sub ⟨A,?_⟩),k⟩
 simp only[List.flatten_cons,List.append_assoc]
 refine List.Perm.append_left _ (List.Perm.append_left _ (List.Perm.append_left _ (List.Perm.append_left _ ?_)))
 exact List.perm_append_comm
theorem kv.me {A:ao} (r:kv W h b T size css t x up ee eI (A::G)):∃G',ai W h (A::G'):=by
 obtain⟨a,c,E,ka,ua,uc,b4,us,s,k⟩:=r
 exact⟨_,s.m.focus 4 rfl⟩
theorem kv.get (r:kv W h b T size css t x up ee eI G) (j:Nat) (ah:∀qy,(ve x qy)[j]?=some v):cell h b (13+t*8+j)=some v:=by
 obtain⟨a,c,E,ka,ua,uc,b4,us,s,k⟩:=r
 exact s.get j (ah _)
theorem kv.set {Q:J->Prop} {y:cu} (r:kv W h b T size css t x up ee eI G) (j:Nat) (ah:Nat.ble (j+1) 8=true) (he:∀qy,(ve x qy).set j v=ve y qy) (I:y.kept=x.kept) (q:∀h',kv W h' b T size css t y up ee eI G->Q h'):
 wr h b (13+t*8+j)/\∀h1,h1=b3 h b (13+t*8+j) v->Q h1:=by
 obtain⟨a,c,E,ka,ua,uc,b4,us,s,k⟩:=r
 refine s.set j ah λh1 s1=>q h1 ?_
 rw[he]at s1
 refine⟨a,c,E,ka,ua,uc,b4,us,?_,?_⟩
 ·rw[I];exact s1
 ·rw[I];exact k
theorem aml (x:cu) (to:Int):(x.up to).1.length+(x.up to).2.kept.length=x.kept.length:=NJ _
end
end Go.Proofs.YtjlkfjnfnonekaaGreatDoor
set_option maxRecDepth 8000
namespace Go.Proofs.YtjlkfjnfnonekaaGreatDoor
open Go.Vc
theorem Un:∀(n:Nat) (l:List Nat),l.Nodup->(∀x∈l,x<n)->l.length<=n
 |0,l,_,h=>by
  cases l with
  |nil=>exact Nat.le_refl 0
  |cons x r=>exact absurd (h x (by simp)) (by omega)
 |n+1,l,hn,h=>by
  have b9:=Un n (l.erase n) (hn.erase n) λx hx=>by
   obtain⟨h1,h2⟩:=(hn.mem_erase_iff).1 hx
   have:=h x h2
   omega
  rw[List.length_erase]at b9
  split at b9<;>omega
structure og (x:cu):Prop where
 ok:BL x
 fm:sY x.kept
theorem afF {l:List bQ} (h:sY l) (I:∀f∈l,gK f):l.length<=4096:=by
 have h2:(l.map λf=>f.sq.toNat).Nodup:=by
  rw[List.nodup_iff_pairwise_ne,List.pairwise_map]
  have h3:l.Pairwise λa b=>a.sq≠b.sq:=by
   have:=h
   unfold sY at this
   rwa[List.nodup_iff_pairwise_ne,List.pairwise_map]at this
  refine h3.imp_of_mem λ{a b} ha hb F0 e=>F0 ?_
  have h1:=(I a ha).rK
  have h2:=(I b hb).rK
  omega
 have h3:=Un 4096 _ h2 λx hx=>by
  obtain⟨f,hf,rfl⟩:=List.mem_map.1 hx
  have h1:=(I f hf).rK
  have h2:=(I f hf).s1
  omega
 rwa[List.length_map]at h3
theorem sY.sublist {l m:List bQ} (h:sY l) (hs:m.Sublist l):sY m:=(hs.map bQ.sq).nodup h
theorem Wm:∀(d:Nat) {l:List bQ} {s:Int},(mN d l s).2.Sublist l
 |0,l,s=>List.Sublist.refl l
 |d+1,l,s=>by rw[amj];exact(Wm d).trans (List.eraseP_sublist)
theorem Vh:∀(n:Nat) {l:List bQ} {s:Int},(ea n l s).2.1.Sublist l
 |0,l,s=>List.Sublist.refl l
 |n+1,l,s=>by
  cases hq:nX l s with
  |none=>rw[Ve hq];exact List.Sublist.refl l
  |some f=>rw[Vf hq];exact(Vh n).trans (List.eraseP_sublist)
theorem Vg:∀(n:Nat) {l:List bQ} {s:Int},0<=s/\s<=4095->0<=(ea n l s).2.2/\(ea n l s).2.2<=4095
 |0,l,s,h=>h
 |n+1,l,s,h=>by
  cases hq:nX l s with
  |none=>rw[Ve hq];exact h
  |some f=>rw[Vf hq];exact Vg n Oo
section
variable{x:cu} {n to:Int} {f:bQ}
theorem Zb {a b:Int} (ha:0<=a/\a<18446744073709551616) (hb:0<=b/\b<18446744073709551616):0<=Fg a b/\Fg a b<18446744073709551616:=by
 obtain⟨m,rfl⟩:=Int.eq_ofNat_of_zero_le ha.1
 obtain⟨n,rfl⟩:=Int.eq_ofNat_of_zero_le hb.1
 unfold Fg
 rw[PB (by omega) (by omega)]
 have:m|||n<2^64:=Nat.or_lt_two_pow (by omega) (by omega)
 omega
theorem TF (hf:0<=x.fr/\x.fr<=4095) (hb:0<=x.bits/\x.bits<18446744073709551616):(0<=(x.mark n).fr/\(x.mark n).fr<=4095)/\0<=(x.mark n).bits/\(x.mark n).bits<18446744073709551616:=by
 unfold cu.mark
 split
 ·rename_i h
  obtain⟨p1,p2⟩:=Uv (vW x.fr n).1 h
  exact⟨hf,Zb hb (by omega)⟩
 ·exact⟨hf,hb⟩
theorem agV (hn:0<=n/\n<=4095) (hb:0<=x.bits/\x.bits<18446744073709551616):(0<=(x.move n).fr/\(x.move n).fr<=4095)/\0<=(x.move n).bits/\(x.move n).bits<18446744073709551616:=by
 refine⟨hn,?_⟩
 show 0<=(if 64<=cC x.fr n then 0 else x.bits/dU (cC x.fr n))/\(if 64<=cC x.fr n then 0 else x.bits/dU (cC x.fr n))<_
 split
 ·decide
 ·rename_i h
  obtain⟨p1,p2⟩:=Uv (vW x.fr n).1 (by omega)
  have h1:=Int.ediv_nonneg hb.1 (Int.le_of_lt p1)
  have h2:=Int.ediv_le_self (dU (cC x.fr n)) hb.1
  omega
theorem ale (hf:0<=x.fr/\x.fr<=4095) (hb:0<=x.bits/\x.bits<18446744073709551616):(0<=(x.kO n).fr/\(x.kO n).fr<=4095)/\0<=(x.kO n).bits/\(x.kO n).bits<18446744073709551616:=by
 unfold cu.kO
 split
 ·have nQ:=IX n (-63)
  obtain⟨h1,h2⟩:=agV (x:=x) (n:=fz n (-63)) (by omega) hb
  exact TF h1 h2
 ·exact TF hf hb
theorem alf (eX:BL x):BL (x.kO n):=by
 obtain⟨h1,h2⟩:=ale (n:=n) eX.f eX.b
 obtain⟨k1,k2,k3,k4,j6⟩:=Nd x n
 exact⟨by rw[k2];exact eX.s,h1,by rw[j6];exact eX.l,h2,by rw[k3];exact eX.z,by rw[k1];exact eX.k,by rw[k1];exact eX.n⟩
theorem Nc (h:og x):og (x.kO n):=⟨alf h.ok,by rw[(Nd x n).1];exact h.fm⟩
theorem og.GL {l:List bQ} {s:Int} (h:og x) (hl:l.Sublist x.kept) (hs:0<=s/\s<=4095):og {x with start:=s,kept:=l}:=
 ⟨⟨hs,h.ok.f,h.ok.l,h.ok.b,h.ok.z,λf hf=>h.ok.k f (hl.subset hf),Nat.le_trans hl.length_le h.ok.n⟩,h.fm.sublist hl⟩
theorem amk (h:og x) (ht:0<=to/\to<=4095):og (x.up to).2:=h.GL (Wm _) ht
theorem Vn (h:og x):og x.run.2:=h.GL (Vh _) (Vg _ h.ok.s)
theorem UM (h:og x) (hf:gK f):og (x.put f):=by
 unfold cu.put
 split
 ·exact h
 ·rename_i q
  have I:∀g∈x.kept++[f],gK g:= λg hg=>by
   rcases List.mem_append.1 hg with hg|hg
   ·exact h.ok.k g hg
   ·rw[List.mem_singleton]at hg;subst hg;exact hf
  have hnd:sY (x.kept++[f]):=by
   unfold sY
   rw[List.map_append,List.nodup_append]
   refine⟨h.fm,by simp,λa ha b hb e=>?_⟩
   simp at hb
   subst hb
   subst e
   obtain⟨g,hg,he⟩:=List.mem_map.1 ha
   refine q ?_
   cases hq:tE x.kept f.sq with
   |none=>exact absurd he ((Dx hq).2.2 g hg)
   |some i=>obtain⟨g',-,-,h3,-⟩:=GK hq;rw[h3];rfl
  exact⟨⟨h.ok.s,h.ok.f,h.ok.l,h.ok.b,h.ok.z,I,afF hnd I⟩,hnd⟩
theorem alI (h:og x) (hf:gK f):og (x.take f).2:=by
 unfold cu.take
 split
 ·unfold cu.Nt
  split
  ·exact Nc h
  ·split
   ·exact Vn (UM (amk (Nc h) Oo) hf)
   ·exact Vn (UM (Nc h) hf)
 ·exact⟨alF h.ok hf,h.fm⟩
theorem UN (y:cu) (f:bQ):(y.put f).kept.length<=y.kept.length+1:=by
 unfold cu.put
 split
 ·omega
 ·simp
theorem alJ (x:cu) (f:bQ):(x.take f).1.length+(x.take f).2.kept.length<=x.kept.length+1:=by
 unfold cu.take
 split
 ·have I:=(Nd x f.sq).1
  unfold cu.Nt
  split
  ·dsimp only;rw[I];simp
  ·split
   ·have h1:=aml (x.kO f.sq) (fz f.sq (1 -(x.kO f.sq).size))
    have h2:=Vo (((x.kO f.sq).up (fz f.sq (1 -(x.kO f.sq).size))).2.put f)
    have h3:=UN ((x.kO f.sq).up (fz f.sq (1 -(x.kO f.sq).size))).2 f
    rw[I]at h1
    dsimp only
    rw[List.length_append];omega
   ·have h2:=Vo ((x.kO f.sq).put f)
    have h3:=UN (x.kO f.sq) f
    rw[I]at h3
    dsimp only;omega
 ·unfold cu.Nv
  dsimp only
  split<;>simp<;>omega
def wN:List cu->Nat
 |[]=>0
 |x::xs=>x.kept.length+wN xs
theorem Th:∀{xs:List cu} {t:Nat} {x y:cu},xs[t]?=some x->wN (xs.set t y)+x.kept.length=wN xs+y.kept.length
 |[],_,_,_,h=>by simp at h
 |z::xs,0,x,y,h=>by
  simp at h;subst h
  show y.kept.length+wN xs+z.kept.length=z.kept.length+wN xs+y.kept.length
  omega
 |z::xs,t+1,x,y,h=>by
  have b9:=Th (xs:=xs) (t:=t) (y:=y) (by simpa using h)
  show z.kept.length+wN (xs.set t y)+x.kept.length=z.kept.length+wN xs+y.kept.length
  omega
end
end Go.Proofs.YtjlkfjnfnonekaaGreatDoor
set_option maxRecDepth 8000
namespace Go.Proofs.YtjlkfjnfnonekaaGreatDoor
open Go.Vc
theorem Bj {α:Type} {l:List α} {i:Nat} {v:α} (h:l[i]?=some v):l.set i v=l:=by
 obtain⟨hi,rfl⟩:=List.getElem?_eq_some_iff.1 h
 exact List.set_getElem_self hi
theorem Uk {α:Type}:∀{l:List α} {i:Nat} {x:α},i<l.length->(l.set i x).Perm (x::l.eraseIdx i)
 |[],_,_,h=>by simp at h
 |a::l,0,x,_=>List.Perm.refl _
 |a::l,i+1,x,h=>by
  rw[List.set_cons_succ,List.eraseIdx_cons_succ]
  exact((Uk (l:=l) (i:=i) (x:=x) (by simpa using h)).cons a).trans (List.Perm.swap x a _)
theorem WU {α β aqR:Type} (f:α->β->aqR):∀(l:List α) (m:List β) (i:Nat) (x:α) (y:β),List.zipWith f (l.set i x) (m.set i y)=(List.zipWith f l m).set i (f x y)
 |[],m,i,x,y=>by simp
 |a::l,[],i,x,y=>by cases i<;>simp
 |a::l,b::m,0,x,y=>rfl
 |a::l,b::m,i+1,x,y=>by simp[WU f l m i x y]
theorem Hb {E b4 B X:ao}:(E++(b4++(B++X))).Perm (b4++(B++(E++X))):=
 (List.perm_append_comm_assoc E b4 (B++X)).trans ((List.perm_append_comm_assoc E B X).append_left b4)
structure r5 where
 a:Option Addr
 c:Nat
 E:ao
 vs:List Value
def qx (x:cu) (p:r5):List Value:=ve x (.slice p.a x.kept.length p.c)
def Dy (W:Wd) (x:cu) (p:r5):Prop:=au p.a x.kept.length p.c 24 p.vs p.E/\bX (ir W) x.kept p.vs
def AQ (ps:List r5):ao:=(ps.map (·.E)).flatten
theorem Tk {ps:List r5} {i:Nat} {p:r5} (h:i<ps.length):(AQ (ps.set i p)).Perm (p.E++AQ (ps.eraseIdx i)):=by
 have:=((Uk (x:=p) h).map (·.E)).flatten
 simpa[AQ]using this
def vC (W:Wd) (h:J) (b:Nat) (T:TypeId) (size:Int) (xs:List cu) (G:List ao):Prop:=
 ∃ps:List r5,xs.length=8/\ps.length=8/\(∀(i:Nat) (x:cu) (p:r5),xs[i]?=some x->ps[i]?=some p->Dy W x p)/\ai W h ([(b,fi (Ba size) (List.zipWith qx xs ps) [],T)]::AQ ps::G)
def kZ (W:Wd) (h:J) (b:Nat) (T:TypeId) (size:Int) (xs:List cu) (up:List bQ) (ee:Nat) (eI:TypeId) (G:List ao):Prop:=
 ∃(ps:List r5) (ua:Option Addr) (uc:Nat) (b4:ao) (us:List Value),xs.length=8/\ps.length=8/\(∀(i:Nat) (x:cu) (p:r5),xs[i]?=some x->ps[i]?=some p->Dy W x p)/\au ua up.length uc 24 us b4/\bX (ir W) up us/\
  ai W h ([(b,fi (Ba size) (List.zipWith qx xs ps) [],T)]::b4::[(ee,[.slice ua up.length uc],eI)]::AQ ps::G)
def W8 (W:Wd) (b:Nat) (T:TypeId) (size:Int) (xs:List cu) (up:List bQ) (G:List ao) (K:Wd->Value->Prop) (h':J):Prop:=
 ∃W' a c b4 us,W.le W'/\au a up.length c 24 us b4/\bX (ir W') up us/\vC W' h' b T size xs (b4::G)/\K W' (.slice a up.length c)
section
variable{W W':Wd} {h h':J} {b t j n c ee i al:Nat} {a:Option Addr} {T eI ek:TypeId} {size:Int} {css:List (List Value)} {cs us vs:List Value} {G G':List ao} {v:Value} {x:cu} {xs:List cu} {f:bQ} {E A:ao} {up:List bQ} {bs:List Int} {qy:Value}
theorem Dy.cl {p:r5} (I:Dy W x p) (hc:∀b o v,bT W b o=some v->bT W' b o=some v):Dy W' x p:=⟨I.1,I.2.mono λf cs hv=>FN hc hv⟩
theorem vC.me (r:vC W h b T size xs G):∃BG,ai W h BG/\∀W' h',(∀b o v,bT W b o=some v->bT W' b o=some v)->ai W' h' BG->vC W' h' b T size xs G:=by
 obtain⟨ps,h1,h2,h3,m⟩:=r
 exact⟨_,m,λW' h' hc ax=>⟨ps,h1,h2,λi x p af ag=>(h3 i x p af ag).cl hc,ax⟩⟩
theorem vC.push (r:vC W h b T size xs G) (af:al=h.size) (ag:h'=h.push (.cells vs.toArray ek)):vC W h' b T size xs ([(al,vs,ek)]::G):=by
 obtain⟨ps,h1,h2,h3,m⟩:=r
 refine⟨ps,h1,h2,h3,(m.push ag af).perm ?_⟩
 simp only[List.flatten_cons]
 exact Hb
theorem kZ.me (r:kZ W h b T size xs up ee eI G):∃BG,ai W h BG/\∀W' h',(∀b o v,bT W b o=some v->bT W' b o=some v)->ai W' h' BG->kZ W' h' b T size xs up ee eI G:=by
 obtain⟨ps,ua,uc,b4,us,h1,h2,h3,h4,aA,m⟩:=r
 exact⟨_,m,λW' h' hc ax=>⟨ps,ua,uc,b4,us,h1,h2,λi x p af ag=>(h3 i x p af ag).cl hc,h4,aA.mono λf cs hv=>FN hc hv,ax⟩⟩
theorem kZ.push (r:kZ W h b T size xs up ee eI G) (af:al=h.size) (ag:h'=h.push (.cells vs.toArray ek)):kZ W h' b T size xs up ee eI ([(al,vs,ek)]::G):=by
 obtain⟨ps,ua,uc,b4,us,h1,h2,h3,h4,aA,m⟩:=r
 refine⟨ps,ua,uc,b4,us,h1,h2,h3,h4,aA,(m.push ag af).perm ?_⟩
 simp only[List.flatten_cons]
 refine(List.perm_append_comm_assoc _ _ _).trans (List.Perm.append_left _ ?_)
 refine(List.perm_append_comm_assoc _ _ _).trans (List.Perm.append_left _ ?_)
 exact Hb
theorem kZ.drop (r:kZ W h b T size xs up ee eI (A::G)):kZ W h b T size xs up ee eI G:=by
 obtain⟨ps,ua,uc,b4,us,h1,h2,h3,h4,aA,m⟩:=r
 exact⟨ps,ua,uc,b4,us,h1,h2,h3,h4,aA,m.free 4 rfl⟩
theorem kZ.da (r:kZ W h b T size xs up ee eI G) (i:Nat) (hi:G[i]?=some [(al,vs,ek)]):cT h al vs ek:=by
 obtain⟨ps,ua,uc,b4,us,h1,h2,h3,h4,aA,m⟩:=r
 exact m.da (4+i) (by rw[Nat.add_comm];exact hi)
theorem kZ.bm (r:kZ W h b T size xs up ee eI G) (i:Nat) (hi:G[i]?=some [(al,vs,ek)]) (e:h'=Go.Vc.bm h al j us):kZ W h' b T size xs up ee eI (G.set i [(al,bG vs j us,ek)]):=by
 obtain⟨ps,ua,uc,b4,ka,h1,h2,h3,h4,aA,m⟩:=r
 refine⟨ps,ua,uc,b4,ka,h1,h2,h3,h4,aA,?_⟩
 have:=m.bm (4+i) (by rw[Nat.add_comm];exact hi) e
 rw[Nat.add_comm]at this
 exact this
theorem afA (h1:xs.length=8) {ps:List r5} (h2:ps.length=8):(List.zipWith qx xs ps).length=8/\∀c∈List.zipWith qx xs ps,c.length=8:=by
 refine⟨by rw[List.length_zipWith,h1,h2];rfl,λc hc=>?_⟩
 obtain⟨i,hi⟩:=List.getElem?_of_mem hc
 rw[List.getElem?_zipWith]at hi
 cases hx:xs[i]?with
 |none=>simp[hx]at hi
 |some x=>
  cases hp:ps[i]?with
  |none=>simp[hx,hp]at hi
  |some p=>simp[hx,hp]at hi;subst hi;rfl
theorem kZ.at (r:kZ W h b T size xs up ee eI G) (hx:xs[t]?=some x):∃css K,kv W h b T size css t x up ee eI (K::G)/\∀W' h' x' NI,(∀b o v,bT W b o=some v->bT W' b o=some v)->kv W' h' b T size css t x' NI ee eI (K::G)->kZ W' h' b T size (xs.set t x') NI ee eI G:=by
 obtain⟨ps,ua,uc,b4,us,h1,h2,h3,h4,aA,m⟩:=r
 have nr:=(List.getElem?_eq_some_iff.1 hx).1
 have hp:ps[t]?=some ps[t]:=List.getElem?_eq_getElem (by omega)
 obtain⟨p,KX⟩:∃p,p=ps[t]:=⟨_,rfl⟩
 rw[<-KX]at hp
 obtain⟨k1,k2⟩:=afA h1 h2
 obtain⟨eg,aM⟩:=h3 t x p hx hp
 have cz:(List.zipWith qx xs ps)[t]?=some (qx x p):=by rw[List.getElem?_zipWith,hx,hp]
 have hE:=Tk (p:=p) (i:=t) (ps:=ps) (by omega)
 rw[Bj hp]at hE
 refine⟨List.zipWith qx xs ps,AQ (ps.eraseIdx t),⟨p.a,p.c,p.E,p.vs,ua,uc,b4,us,⟨?_,k2,k1,by omega,rfl⟩,eg,aM,h4,aA⟩,?_⟩
 ·have e:HY size (List.zipWith qx xs ps) t (ve x (.slice p.a x.kept.length p.c))=fi (Ba size) (List.zipWith qx xs ps) []:=by
   show fi (Ba size) ((List.zipWith qx xs ps).set t (qx x p)) []=_
   rw[Bj cz]
  rw[e]
  refine m.perm ?_
  simp only[List.flatten_cons]
  refine List.Perm.append_left _ ?_
  refine List.Perm.trans ?_ Hb.symm
  refine List.Perm.append_left _ (List.Perm.append_left _ ?_)
  rw[<-List.append_assoc]
  exact hE.append_right _
 ·rintro W' h' x' NI hc ⟨ay,c',bn,zi,n7,n8,Xb,ka,s',q1,q2,aE,bP⟩
  have ax:=s'.m
  have e:HY size (List.zipWith qx xs ps) t (ve x' (.slice ay x'.kept.length c'))=fi (Ba size) (List.zipWith qx (xs.set t x') (ps.set t ⟨ay,c',bn,zi⟩)) []:=by
   rw[WU];rfl
  rw[e]at ax
  refine⟨ps.set t ⟨ay,c',bn,zi⟩,n7,n8,Xb,ka,by rw[List.length_set];exact h1,by rw[List.length_set];exact h2,λi y q af ag=>?_,aE,bP,ax.perm ?_⟩
  ·by_cases hi:t=i
   ·subst hi
    rw[List.getElem?_set_self (by omega)]at af ag
    cases af;cases ag
    exact⟨q1,q2⟩
   ·rw[List.getElem?_set_ne hi]at af ag
    exact(h3 i y q af ag).cl hc
  ·simp only[List.flatten_cons]
   refine List.Perm.append_left _ ?_
   refine List.Perm.trans Hb ?_
   refine List.Perm.append_left _ (List.Perm.append_left _ ?_)
   rw[<-List.append_assoc]
   exact((Tk (p:=⟨ay,c',bn,zi⟩) (i:=t) (ps:=ps) (by omega)).symm).append_right _
theorem kZ.start (r:vC W h b T size xs G) (af:ee=h.size) (ag:h'=h.push (.cells #[.slice none 0 0] eI)):kZ W h' b T size xs [] ee eI G:=by
 obtain⟨ps,h1,h2,h3,m⟩:=r
 have m2:=m.push (vs:=[.slice none 0 0]) ag af
 refine⟨ps,none,0,[],[],h1,h2,h3,au.nil,rfl,m2.hU.perm ?_⟩
 simp only[List.flatten_cons,List.nil_append]
 exact List.perm_append_comm_assoc _ _ _
theorem kZ.fin (r:kZ W h b T size xs up ee eI G) {K:Wd->Value->Prop} (hle:W'.le W):∃a c,cell h ee 0=some (.slice a up.length c)/\(K W (.slice a up.length c)->W8 W' b T size xs up G K h):=by
 obtain⟨ps,ua,uc,b4,us,h1,h2,h3,h4,aA,m⟩:=r
 refine⟨ua,uc,m.cell 2 rfl rfl,λmi=>⟨W,ua,uc,b4,us,hle,h4,aA,⟨ps,h1,h2,h3,(m.free 2 rfl).perm ?_⟩,mi⟩⟩
 simp only[List.eraseIdx_cons_succ,List.eraseIdx_cons_zero,List.flatten_cons]
 exact(List.perm_append_comm_assoc _ _ _).append_left _
theorem kv.st (r:kv W h b T size css t x up ee eI G):∃qy G',asZ W h b T size css t (ve x qy) G'/\∀W' h',(∀b o v,bT W b o=some v->bT W' b o=some v)->asZ W' h' b T size css t (ve x qy) G'->kv W' h' b T size css t x up ee eI G:=by
 obtain⟨a,c,E,vs,ua,uc,b4,us,s,q1,q2,aE,bP⟩:=r
 exact⟨_,_,s,λW' h' hc s'=>⟨a,c,E,vs,ua,uc,b4,us,s',q1,q2.mono λf cs hv=>FN hc hv,aE,bP.mono λf cs hv=>FN hc hv⟩⟩
end
end Go.Proofs.YtjlkfjnfnonekaaGreatDoor
set_option maxRecDepth 8000
namespace Go.Proofs.YtjlkfjnfnonekaaGreatDoor
open Go.Vc
instance asV (xs:List Int):Decidable (vi xs):=by unfold vi;infer_instance
def abS (p:List Int):Prop:=vi p/\(jM p).to=TG/\(jM p).bss=PC
instance asQ (xs:List Int):Decidable (abS xs):=by unfold abS;infer_instance
structure rZ where
 xs:List cu
 up:List bQ
 tid:Int
def rZ.one (d:rZ) (p:List Int):rZ:=
 if abS p then⟨d.xs.set (jM p).tid.toNat ((d.xs.getD (jM p).tid.toNat y9).take (jM p)).2,d.up++((d.xs.getD (jM p).tid.toNat y9).take (jM p)).1,(jM p).tid⟩else d
def rZ.all (d:rZ) (l:List (List Int)):rZ:=l.foldl rZ.one d
structure BF (d:rZ) (k:Nat):Prop where
 l:d.xs.length=8
 g:∀x∈d.xs,og x
 u:d.up.length+wN d.xs<=32768+k
 t:-1<=d.tid/\d.tid<=7
theorem BF.getD {d:rZ} {k t:Nat} (h:BF d k) (ht:t<8):d.xs[t]?=some (d.xs.getD t y9)/\og (d.xs.getD t y9):=by
 have hl:=h.l
 have e:d.xs[t]?=some (d.xs.getD t y9):=by
  rw[List.getElem?_eq_getElem (by omega)]
  simp[List.getD,show t<d.xs.length by omega]
 exact⟨e,h.g _ (List.mem_of_getElem? e)⟩
theorem BF.one {d:rZ} {k:Nat} {p:List Int} (h:BF d k) (hx:∀x∈p,0<=x/\x<256):BF (d.one p) (k+1):=by
 unfold rZ.one
 split
 ·rename_i hf
  obtain⟨k1,k2⟩:=MB hf.1 hx
  have ht:=k1.t0
  have yy:=k1.t7
  obtain⟨e,hg⟩:=h.getD (t:=(jM p).tid.toNat) (by omega)
  refine⟨by dsimp only;rw[List.length_set];exact h.l,λx hx=>?_,?_,⟨by dsimp only;omega,yy⟩⟩
  ·rcases List.mem_or_eq_of_mem_set hx with hx|rfl
   ·exact h.g x hx
   ·exact alI hg k1
  ·have h1:=alJ (d.xs.getD (jM p).tid.toNat y9) (jM p)
   have h2:=h.u
   have h3:=Th (y:=((d.xs.getD (jM p).tid.toNat y9).take (jM p)).2) e
   dsimp only
   rw[List.length_append];omega
 ·exact⟨h.l,h.g,by have:=h.u;omega,h.t⟩
theorem abP {f:bQ} {v:Value} (hf:gK f):((ef f v).drop 0).take 6=ints .u8 f.to:=by
 rw[List.drop_zero]
 exact List.take_left' (by rw[dL];exact hf.ca)
theorem abQ {f:bQ} {v:Value} (hf:gK f):((ef f v).drop 6).take 6=ints .u8 f.bss:=by
 unfold ef
 rw[List.drop_left' (by rw[dL];exact hf.ca)]
 exact List.take_left' (by rw[dL];exact hf.aF)
section
variable{W W':Wd} {h h':J} {b t j n c ee i al:Nat} {a:Option Addr} {T eI ek:TypeId} {size:Int} {css:List (List Value)} {cs us vs:List Value} {G G':List ao} {v:Value} {x:cu} {xs:List cu} {f:bQ} {E A:ao} {up:List bQ} {bs:List Int} {qy:Value}
end
end Go.Proofs.YtjlkfjnfnonekaaGreatDoor
set_option maxRecDepth 8000
namespace Go.Proofs.YtjlkfjnfnonekaaGreatDoor
open Go.Vc
section
variable{W W':Wd} {h h':J} {G:List ao} {E b4:ao} {a:Option Addr} {n c k i:Nat} {vs:List Value} {cs:List Value} {bs:List Int} {f:bQ} {v:Value} {z:Int}
theorem UU (h:J) (hz:z<=1048576):aj Tryz.prog 258 #[.int .i64 z] h λv h'=>v= .int .i64 (26+max z 0)/\h'=h:=
 apm _ _ _ ⟨by simp only[fits];omega,rfl,rfl⟩
theorem aip (h:0<=z/\z<=7):bits .or .u8 z 16=z+16:=by
 have:z=0\/z=1\/z=2\/z=3\/z=4\/z=5\/z=6\/z=7:=by omega
 rcases this with rfl|rfl|rfl|rfl|rfl|rfl|rfl|rfl<;>rfl
theorem abR {f:bQ} {v:Value} (hf:gK f):((ef f v).drop 12).take 6=ints .u8 f.fr:=by
 unfold ef
 rw[<-List.append_assoc,List.drop_left' (by rw[List.length_append,dL,dL,hf.ca,hf.aF])]
 exact List.take_left' (by rw[dL];exact hf.dw)
set_option maxHeartbeats 1000000 in
theorem ajx (m:ai W h G) (hv:ir W f cs) (hf:gK f):
 aj Tryz.prog 200 #[.agg cs.toArray] h (II W G (gg f) λv=> .tuple #[v, .nilIface]):=by
 obtain⟨v,rfl,hb⟩:=hv
 obtain⟨iN,zQ,rfl,wk,ad0⟩:=hb
 have t0:=hf.t0
 have t7:=hf.t7
 have rK:=hf.rK
 have s1:=hf.s1
 have kB:=hf.kB
 refine apl _ _ _ ?_
 intro al h1 af ag
 replace m:=m.push ag af
 refine⟨f.tid,m.cell 0 rfl (sl hf 0 rfl),bF (by omega) ⟨f.tid,m.cell 0 rfl (sl hf 0 rfl),bF (by omega) ⟨f.sq,m.cell 0 rfl (sl hf 1 rfl),bF (by omega) ⟨f.sq,m.cell 0 rfl (sl hf 1 rfl),bF (by omega) ⟨_,_,_,m.cell 0 rfl (sl hf 5 rfl),bF (by omega) ⟨f.tid,m.cell 0 rfl (sl hf 0 rfl),by simp only[fits];omega,?_⟩⟩⟩⟩⟩⟩
 refine⟨λx h'=>h1=h'/\x=2+(if f.rt then 8 else 0),⟨f.rt,m.cell 0 rfl (sl hf 2 rfl),bH (λq=>⟨rfl,by rw[q];rfl⟩) λq=>⟨rfl,by rw[q];rfl⟩⟩,λ_=>?_⟩
 rintro _ _ ⟨rfl,rfl⟩
 refine⟨λx h'=>h1=h'/\x=2+(if f.rt then 8 else 0)+(if f.hR then 32 else 0),⟨f.hR,m.cell 0 rfl (sl hf 3 rfl),bH (λq=>⟨rfl,by rw[q];cases f.rt<;>rfl⟩) λq=>⟨rfl,by rw[q];cases f.rt<;>rfl⟩⟩,λ_=>?_⟩
 rintro _ _ ⟨rfl,rfl⟩
 refine⟨λx h'=>h1=h'/\x=f.tid+(if f.fC then 16 else 0),⟨f.fC,m.cell 0 rfl (sl hf 4 rfl),bH (λq=>⟨rfl,by rw[q];exact aip ⟨t0,t7⟩⟩) λq=>⟨rfl,by rw[q];simp⟩⟩,λ_=>?_⟩
 rintro _ _ ⟨rfl,rfl⟩
 obtain⟨a6,gp⟩:∃a6,a6=(2:Int)+(if f.rt then 8 else 0)+(if f.hR then 32 else 0):=⟨_,rfl⟩
 obtain⟨gz,wF⟩:∃gz,gz=f.tid+(if f.fC then(16:Int)else 0):=⟨_,rfl⟩
 rw[<-gp,<-wF]
 intro aP aA f1 f2
 have m5:=m.push f2 f1
 have hL:6<=(ef f (.slice iN f.body.length zQ)).length/\12<=(ef f (.slice iN f.body.length zQ)).length/\18<=(ef f (.slice iN f.body.length zQ)).length:=by rw[v8 hf];decide
 refine⟨ints .u8 f.to,m5.row 1 rfl (abP hf) hL.1,ints .u8 f.bss,m5.row 1 rfl (abQ hf) hL.2.1,ints .u8 f.fr,m5.row 1 rfl (abR hf) hL.2.2,by rw[dL];exact hf.ca,by rw[dL];exact hf.aF,by rw[dL];exact hf.dw,?_⟩
 intro bx aU f3 f4
 have m6:=m5.push f4 f3
 obtain⟨A,hA⟩:∃A,A=ints .u8 f.to++(ints .u8 f.bss++(ints .u8 f.fr++[])):=⟨_,rfl⟩
 rw[<-hA]at m6
 have RA:A.length=18:=by rw[hA];simp[ints,hf.ca,hf.aF,hf.dw]
 have ach:∀u∈A,u.oneCell'=true:= λu hu=>by
  rw[hA]at hu
  simp only[List.mem_append,List.append_nil]at hu
  rcases hu with hu|hu|hu<;>exact dM u hu
 clear m m5
 refine⟨λay bI c' z h'=>∃(n:Nat) (bn:ao),z=(n:Int)/\n<=3/\bI=4+6*n/\au ay (4+6*n) c' 1 (ints .u8 [136,a6,0,0]++A.take (6*n)) bn/\ai W h' (bn::[(bx,A,26)]::[(al,ef f (.slice iN f.body.length zQ),257)]::G),λ_ _ _ z _=>(3 -z).toNat,
  ⟨0,_,rfl,by omega,rfl,au.wb rfl,u3 m6⟩,λ_=>?_⟩
 clear m6
 rintro ay _ c' _ bW ⟨n,bn,rfl,hn,rfl,o',m7⟩
 refine aC (λq=>?_) λq=>?_
 ·rw[Int.toNat_natCast,Nat.zero_add]
  have Gg:n<3:=by omega
  have RB:∀u∈(A.drop (n*6)).take 6,u.oneCell'=true:= λu hu=>ach u (List.mem_of_mem_drop (List.mem_of_mem_take hu))
  have FW:((A.drop (n*6)).take 6).length=6:=by rw[List.length_take,List.length_drop,RA];omega
  refine⟨⟨by omega,by omega⟩,(A.drop (n*6)).take 6,m7.row 1 rfl rfl (by rw[RA];omega),?_⟩
  intro dO bJ g1 g2
  have m8:=m7.push g2 g1
  refine⟨⟨FW,m8.dR 0 rfl rfl,RB⟩,λct g3=>?_⟩
  have m9:=m8.bm 0 rfl g3
  rw[List.set_cons_zero,tT (by rw[FW];rfl)]at m9
  refine⟨(A.drop (n*6)).take 6,⟨m9.row 0 rfl (by rw[List.drop_zero];exact List.take_of_length_le (by omega)) (by rw[FW];decide),RB⟩,?_⟩
  refine o'.app m9 1 rfl (by rw[FW]) (by omega) (by decide) λOf vQ NW dS m10 DM=>?_
  simp only[List.set_cons_zero,List.set_cons_succ]at m10
  refine⟨by simp only[fits];omega,⟨n+1,NW,by omega,by omega,by omega,?_,m10.aB⟩,by dsimp only;omega⟩
  rw[show 6*(n+1)=6*n+6 by omega,List.take_add,<-List.append_assoc,show 6*n=n*6 by omega]at*
  rw[show 4+(n*6+6)=4+n*6+6 by omega]
  exact DM
 ·obtain rfl:n=3:=by omega
  rw[List.take_of_length_le (by omega)]at o'
  refine⟨f.sq,m7.cell 2 rfl (sl hf 1 rfl),⟨by decide,by simp only[nW];decide⟩,?_⟩
  rw[mP (show fits .i64 (f.sq*16) by simp only[fits];omega),pI,pI]
  intro fh fD g1 g2
  have m11:=m7.push g2 g1
  refine⟨ints .u8 [f.sq*16%256,f.sq*16/256%256,gz,0],⟨m11.row 0 rfl rfl (Nat.le_of_ble_eq_true rfl),dM⟩,?_⟩
  refine o'.app m11 1 rfl rfl (by omega) (by decide) λa12 zN NX fu m12 L0=>?_
  simp only[List.set_cons_zero,List.set_cons_succ]at m12
  refine⟨_,_,_,m12.cell 3 rfl (sl hf 5 rfl),ints .u8 f.body,⟨by rw[Nat.mul_one];exact m12.e5 ad0,dM⟩,?_⟩
  refine L0.app m12 1 rfl (by rw[dL,Nat.mul_one]) (by omega) (by decide) λxG xV W1 fQ m13 TS=>?_
  simp only[List.set_cons_zero,List.set_cons_succ]at m13
  have eq:ints .u8 [136,a6,0,0]++A++ints .u8 [f.sq*16%256,f.sq*16/256%256,gz,0]++ints .u8 f.body=ints .u8 (gg f):=by
   rw[hA,gp,wF]
   simp[gg,ints]
  rw[eq]at TS
  have hl:(gg f).length=4+6*3+4+f.body.length:=by simp[gg,hf.ca,hf.aF,hf.dw];omega
  exact⟨xG,xV,W1,by rw[hl],(m13.aB.free 1 rfl).free 1 rfl,by rw[hl];exact TS⟩
end
end Go.Proofs.YtjlkfjnfnonekaaGreatDoor
set_option maxRecDepth 8000
namespace Go.Proofs.YtjlkfjnfnonekaaGreatDoor
open Go.Vc
def asH (xs:List Int):Prop:=(xs[0]?=some 164/\xs.length=16)/\dt xs 1=0/\49153<=wd xs 2/\wd xs 2<=51159
section
variable{W W':Wd} {h h':J} {G:List ao} {E b4:ao} {a:Option Addr} {n c k i b:Nat} {xs x y:List Int} {v:Value} {aid:Int} {T:TypeId}
end
end Go.Proofs.YtjlkfjnfnonekaaGreatDoor
