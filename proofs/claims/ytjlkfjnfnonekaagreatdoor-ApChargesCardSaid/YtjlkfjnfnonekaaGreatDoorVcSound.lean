import Derived.Test.YtjlkfjnfnonekaaGreatDoorVcCode
set_option linter.all false
namespace Go.Vc
variable{P:Program}
structure Rel (N:Nat) (t:Env) (a:Act):Prop where
 defers:a.defers=[]
 size:a.tmps.size=N
 read:∀n,a.tmps.getD n undef=t n
def gj (ds:List Nat) (t aR:Env):Prop:=∀n,km n ds=false->aR n=t n
theorem gj.refl (ds:List Nat) (t:Env):gj ds t t:= λ_ _=>rfl
theorem LO {n:Nat}:∀{a b:List Nat},km n (a++b)=false↔km n a=false/\km n b=false
 |[],b=>by simp[km]
 |m::a,b=>by
  simp only[List.cons_append,km]
  split
  ·simp
  ·exact LO
theorem gj.left {a b:List Nat} {t aR:Env} (h:gj a t aR):gj (a++b) t aR:= λn hn=>h n (LO.1 hn).1
theorem gj.right {a b:List Nat} {t aR:Env} (h:gj b t aR):gj (a++b) t aR:= λn hn=>h n (LO.1 hn).2
theorem gj.trans {ds:List Nat} {a b c:Env} (h:gj ds a b) (k:gj ds b c):gj ds a c:= λn hn=>(k n hn).trans (h n hn)
theorem Rel.eval {N:Nat} {t:Env} {a:Act} (h:Rel N t a):a.eval=jh t:=by
 funext x
 cases x<;>simp[Act.eval,jh,h.read]
theorem Rel.congr {N:Nat} {t aR:Env} {a:Act} (h:Rel N t a) (e:∀n,aR n=t n):Rel N aR a:=⟨h.defers,h.size,λn=>(h.read n).trans (e n).symm⟩
theorem Wo {t:Env} {d:Nat} {v:Value} (h:t d=v):∀n,jO t d v n=t n:=by
 intro n
 unfold jO
 by_cases e:n=d
 ·subst e;simp[h]
 ·have:Nat.beq n d=false:=by exact Bool.eq_false_iff.2 λk=>e (Nat.eq_of_beq_eq_true k)
  simp[this]
theorem Ij {t:Env} {d n:Nat} {v:Value} (h:n≠d):jO t d v n=t n:=by
 unfold jO
 have:Nat.beq n d=false:=by exact Bool.eq_false_iff.2 λk=>h (Nat.eq_of_beq_eq_true k)
 simp[this]
theorem Rel.put {N:Nat} {t:Env} {a:Act} {d:Nat} {v:Value} (h:Rel N t a) (hd:d<N):Rel N (jO t d v) (a.put (some d) v):=by
 refine⟨h.defers,by simp[Act.put,h.size],λn=>?_⟩
 have hs:=h.size
 have U:=h.read n
 simp only[Act.put]
 by_cases e:n=d
 ·subst e
  have:jO t n v n=v:=by simp[jO]
  rw[this,Array.getD_eq_getD_getElem?]
  simp[show n<a.tmps.size by omega]
 ·rw[Ij e,<-U,Array.getD_eq_getD_getElem?,Array.getD_eq_getD_getElem?,Array.getElem?_setIfInBounds_ne (Ne.symm e)]
theorem yV {N:Nat} {t:Env} {a:Act} {dst:Option Nat} {v:Value} {K:Env->Prop} (U:Rel N t a) (h:put N t dst v K):
 ∃aR,K aR/\Rel N aR (a.put dst v)/\∀n,dst≠some n->aR n=t n:=by
 unfold put at h
 split at h
 ·exact⟨t,h,by simpa[Act.put]using U,λ_ _=>rfl⟩
 ·rename_i d
  split at h
  ·rename_i hd
   have cn:d<N:=by simpa[Nat.blt_eq]using hd
   exact⟨_,h,U.put cn,λn hn=>Ij (λe=>hn (by rw[e]))⟩
  ·exact h.elim
theorem aqN {N:Nat} {t:Env} {a:Act} (U:Rel N t a) (ops:List Oper) (j:Nat):
 yielded ops.toArray a.tmps j=match ops[j]?with
  |some jK=>(match jK.dst with|some d=>(match t d with| .bool b=>some b|_=>none)|none=>none)
  |none=>none:=by
 unfold yielded
 simp only[List.getElem?_toArray]
 cases ah:ops[j]?with
 |none=>rfl
 |some jK=>
  simp only[Option.bind_some]
  cases hd:jK.dst with
  |none=>rfl
  |some d=>
   simp only[Option.bind_some]
   have:=U.read d
   rw[Array.getD_eq_getD_getElem?]at this
   cases hx:a.tmps[d]?with
   |none=>rw[hx]at this;simp at this;rw[<-this];rfl
   |some v=>rw[hx]at this;simp at this;subst this;cases t d<;>rfl
theorem Kn {N:Nat} {t:Env} {a:Act} {ops:List Oper} {o:Oper} {run skip:Env->Prop} (U:Rel N t a) (h:guarded ops o.guard t run skip):
 ∃aR,(∀n,aR n=t n)/\Rel N aR a/\((Region.wanted o (yielded ops.toArray a.tmps)=true/\run aR)\/(Region.wanted o (yielded ops.toArray a.tmps)=false/\skip aR)):=by
 unfold guarded at h
 unfold Region.wanted
 split at h
 ·rename_i hg
  exact⟨t,λ_=>rfl,U, .inl ⟨by simp[hg],h⟩⟩
 ·rename_i j want hg
  simp only[hg,aqN U]
  split at h
  ·rename_i jK ah
   simp only[ah]
   split at h
   ·rename_i d hd
    simp only[hd]
    split at h
    ·rename_i b hb
     simp only[hb]
     have af:b=true->∀n,jO t d (.bool true) n=t n:= λe=>Wo (by rw[hb,e])
     have ag:b=false->∀n,jO t d (.bool false) n=t n:= λe=>Wo (by rw[hb,e])
     split at h
     ·rcases B5 h with⟨gn,h1⟩|⟨gn,h1⟩
      ·exact⟨_,af gn,U.congr (af gn), .inl ⟨by simp[gn],h1⟩⟩
      ·exact⟨_,ag gn,U.congr (ag gn), .inr ⟨by simp[gn],h1⟩⟩
     ·rcases B5 h with⟨gn,h1⟩|⟨gn,h1⟩
      ·exact⟨_,af gn,U.congr (af gn), .inr ⟨by simp[gn],h1⟩⟩
      ·exact⟨_,ag gn,U.congr (ag gn), .inl ⟨by simp[gn],h1⟩⟩
    ·rename_i vs hb
     simp only[hb]
     exact⟨t,λ_=>rfl,U, .inr ⟨rfl,h⟩⟩
    ·exact h.elim
   ·rename_i hd
    simp only[hd]
    exact⟨t,λ_=>rfl,U, .inr ⟨rfl,h⟩⟩
  ·rename_i ah
   simp only[ah]
   exact⟨t,λ_=>rfl,U, .inr ⟨rfl,h⟩⟩
theorem aio {x:hI} {N:Nat} {ops:List Oper} {o:Oper} {t:Env} {h:J} {K:Env->J->Prop} {a:Act} {w:World} {next:Act->World->Prop} {Q:Exit->Act->World->Prop}
 (hv:Me P x N ops o t h K) (U:Rel N t a) (hw:w.heap=h)
 (hn:∀aR ay w',Rel N aR ay->cH w w'->(∀n,o.dst≠some n->aR n=t n)->K aR w'.heap->next ay w'):
 if Region.wanted o (yielded ops.toArray a.tmps)then o.wp P a w next Q else next (a.put o.dst undef) w:=by
 unfold Me at hv
 obtain⟨t1,af,oy,hc⟩:=Kn U hv
 rcases hc with⟨kk,hc⟩|⟨kk,hc⟩
 ·rw[if_pos kk]
  split at hc
  ·rw[<-oy.eval]at hc
   obtain⟨v,h1,h2⟩:=ajI (P:=P) hc
   obtain⟨t2,h3,h4,aA⟩:=yV oy h1
   unfold Oper.wp
   rw[h2 w hw]
   exact hn t2 _ w h4 (cH.refl w) (λn b6=>(aA n b6).trans (af n)) (hw▸h3)
  ·rw[<-oy.eval]at hc
   refine J2 (P:=P) hc hw λv w' hs I=>?_
   obtain⟨t2,h3,h4,aA⟩:=yV oy I
   exact hn t2 _ w' h4 hs (λn b6=>(aA n b6).trans (af n)) h3
 ·rw[if_neg (by simp[kk])]
  obtain⟨t2,h3,h4,aA⟩:=yV oy hc
  exact hn t2 _ w h4 (cH.refl w) (λn b6=>(aA n b6).trans (af n)) (hw▸h3)
theorem LP {n:Nat} {o:Oper} {r:List Oper} (h:km n (lx (o::r))=false):o.dst≠some n/\km n (lx r)=false:=by
 unfold lx at h
 split at h
 ·rename_i d hd
  unfold km at h
  split at h
  ·cases h
  ·rename_i hb
   refine⟨λe=>?_,h⟩
   rw[hd]at e
   cases e
   simp at hb
 ·rename_i hd
  exact⟨λe=>(by rw[hd]at e;cases e),h⟩
theorem Md {x:hI} {N:Nat} {ops:List Oper} {Q:Exit->Act->World->Prop} (rest:List Oper):∀{l:List Oper} {t:Env} {h:J} {K:Env->J->Prop} {a:Act} {w:World},
 A8 P x N ops l t h K->Rel N t a->w.heap=h->
 (∀aR ay w',Rel N aR ay->cH w w'->gj (lx l) t aR->K aR w'.heap->wpList P ops.toArray Q rest ay w')->wpList P ops.toArray Q (l++rest) a w
 |[],t,h,K,a,w,hv,U,hw,hn=>hn t a w U (cH.refl w) (gj.refl _ _) (hw▸hv)
 |o::r,t,h,K,a,w,hv,U,hw,hn=>by
  unfold A8 at hv
  have:=aio (P:=P) (next:=wpList P ops.toArray Q (r++rest)) (Q:=Q) hv U hw λaR ay w' adR hs he I=>
   Md rest (l:=r) I adR rfl λt2 a2 w2 sx iS acw bD=>hn t2 a2 w2 sx (hs.trans iS) (λn hm=>by
    obtain⟨m1,m2⟩:=LP hm
    exact(acw n m2).trans (he n m1)) bD
  simp only[List.cons_append]
  unfold wpList
  split
  ·rename_i kk;rw[if_pos kk]at this;exact .inl this
  ·rename_i kk;rw[if_neg kk]at this;exact this
def lift (N:Nat) (ds:List Nat) (t0:Env) (w0:World) (Q:EN->Env->J->Prop):Exit->Act->World->Prop
 | .normal,a,w=>∃t,Rel N t a/\cH w0 w/\gj ds t0 t/\Q .normal t w.heap
 | .exit id,a,w=>∃t,Rel N t a/\cH w0 w/\gj ds t0 t/\Q (.exit id) t w.heap
 | .ret,a,w=>∃t,Rel N t a/\cH w0 w/\gj ds t0 t/\Q .ret t w.heap
 |_,_,_=>False
def NV (P:Program) (N:Nat) (d:(id:Nat)->(ops:List Oper)->Env->J->(Env->J->Prop)->Prop):Prop:=
 ∀(id:Nat) (ops:List Oper) (t:Env) (h:J) (K:Env->J->Prop) (a:Act) (w:World) (Q:Exit->Act->World->Prop),d id ops t h K->Rel N t a->w.heap=h->(∀c a w,¬Q (.panic c) a w)->
  (∀aR ay w',Rel N aR ay->cH w w'->gj (lx ops) t aR->K aR w'.heap->Q .normal ay w')->(Code.region id ops.toArray true).wp P Q a w
theorem akV {ds:List Nat} {n:Nat} {s:jH} {r:List (Nat×jH)} (h:xk ds ((n,s)::r)=true):km n ds=true/\xk ds r=true:=by
 unfold xk at h
 split at h
 ·rename_i hm;exact⟨hm,h⟩
 ·cases h
theorem gj.jO {ds:List Nat} {t E:Env} {n:Nat} {v:Value} (h:gj ds t E) (hn:km n ds=true):gj ds t (jO E n v):= λk I=>by
 have:k≠n:= λe=>by subst e;rw[hn]at I;cases I
 rw[Ij this];exact h k I
theorem Bz {E aR:Env} {n:Nat} {v:Value} (h:∀k,E k=aR k) (hv:aR n=v):∀k,jO E n v k=aR k:=by
 intro k
 by_cases e:k=n
 ·subst e;simp[Vc.jO,hv]
 ·rw[Ij e];exact h k
theorem uC {ds:List Nat} {aR:Env} {h:J} {cp:Nat} {B:Env->J->Nat->Prop}:∀{gh:List (Nat×jH)} {dC:kW Prop gh} {m:kW Nat gh} {E:Env},
 xk ds gh=true->(∀k,E k=aR k)->kG gh dC m aR h cp->tk gh dC m E B->∃bn n,(∀k,bn k=aR k)/\n<cp/\B bn h n
 |[],dC,m,E,_,he,hb,ha=>⟨E,m h,he,hb.2,ha h hb.1⟩
 |(n,s)::r,dC,m,E,hs,he,hb,ha=>by
  obtain⟨_,iS⟩:=akV hs
  cases s with
  |int k=>
   simp only[kG]at hb
   split at hb
   ·rename_i k' x hx
    split at hb
    ·rename_i I;have:=Ti I;subst this;exact uC iS (Bz he hx) hb (ha x)
    ·exact hb.elim
   ·exact hb.elim
  |bool=>
   simp only[kG]at hb
   split at hb
   ·rename_i x hx;exact uC iS (Bz he hx) hb (ha x)
   ·exact hb.elim
  |ptr=>
   simp only[kG]at hb
   split at hb
   ·rename_i x hx;exact uC iS (Bz he hx) hb (ha x)
   ·exact hb.elim
  |slice=>
   simp only[kG]at hb
   split at hb
   ·rename_i x l c hx;exact uC iS (Bz he hx) hb (ha x l c)
   ·exact hb.elim
  |str=>
   simp only[kG]at hb
   split at hb
   ·rename_i x hx;exact uC iS (Bz he hx) hb (ha x)
   ·exact hb.elim
  |any=>
   simp only[kG]at hb
   exact uC iS (Bz he rfl) hb (ha (aR n))
theorem uB {aR:Env} {h:J}:∀{gh:List (Nat×jH)} {dC:kW Prop gh} (m:kW Nat gh),nh gh dC aR h->∃cp,kG gh dC m aR h cp
 |[],dC,m,he=>⟨m h+1,he,Nat.lt_succ_self _⟩
 |(n,s)::r,dC,m,he=>by
  cases s with
  |int k=>
   simp only[nh]at he
   simp only[kG]
   generalize aR n=v at he⊢
   cases v<;>first|exact he.elim|skip
   rename_i k' x
   dsimp only at he⊢
   generalize yF k' k=ju at he⊢
   cases ju
   ·exact he.elim
   ·exact uB (m x) he
  |bool=>
   simp only[nh]at he
   simp only[kG]
   generalize aR n=v at he⊢
   cases v<;>first|exact he.elim|skip
   rename_i x
   exact uB (m x) he
  |ptr=>
   simp only[nh]at he
   simp only[kG]
   generalize aR n=v at he⊢
   cases v<;>first|exact he.elim|skip
   rename_i x
   exact uB (m x) he
  |slice=>
   simp only[nh]at he
   simp only[kG]
   generalize aR n=v at he⊢
   cases v<;>first|exact he.elim|skip
   rename_i x l c
   exact uB (m x l c) he
  |str=>
   simp only[nh]at he
   simp only[kG]
   generalize aR n=v at he⊢
   cases v<;>first|exact he.elim|skip
   rename_i x
   exact uB (m x) he
  |any=>
   simp only[nh]at he
   simp only[kG]
   exact uB (m (aR n)) he
theorem Kt {ds:List Nat} {t0 aR:Env} (h:gj ds t0 aR):∀k,gW ds aR t0 k=aR k:=by
 intro k
 unfold gW
 cases hm:km k ds with
 |true=>rfl
 |false=>simp[h k hm]
theorem aaD {a b:List Oper}:lx (a++b)=lx a++lx b:=by
 induction a with
 |nil=>rfl
 |cons o r b9=>
  simp only[List.cons_append,lx]
  split
  ·rw[b9];rfl
  ·exact b9
theorem Vt {x:hI} {N:Nat} {ops:List Oper} {Q:Exit->Act->World->Prop}:∀{akN:List (Nat×List (Nat×jH))} {l:List Oper} {t:Env} {h:J} {K:Env->J->Prop} {a:Act} {w:World},
 HP P x N ops akN l t h K->Rel N t a->w.heap=h->
 (∀aR ay w',Rel N aR ay->cH w w'->gj (lx l) t aR->K aR w'.heap->Q .normal ay w')->wpList P ops.toArray Q l a w
 |[],l,t,h,K,a,w,hv,U,hw,hn=>by
  have:=Md (P:=P) (Q:=Q) [] hv U hw hn
  simpa using this
 |(n,gh)::r,l,t,h,K,a,w,hv,U,hw,hn=>by
  unfold HP at hv
  split at hv
  ·rename_i De
   obtain⟨i7,h1,h2⟩:=hv
   have:=Md (P:=P) (Q:=Q) (l.drop n) h1 U hw λaR ay w' k1 k2 k3 k4=>by
    obtain⟨cp,j6⟩:=uB (tl gh) k4
    obtain⟨bn,m,lf,_,tD⟩:=uC De (Kt k3) j6 (h2 aR)
    have e:lx l=lx (l.take n)++lx (l.drop n):=by rw[<-aaD,List.take_append_drop]
    refine Vt tD (k1.congr lf) rfl λt2 a2 w2 ca aF dw lZ=>hn t2 a2 w2 ca (k2.trans aF) ?_ lZ
    rw[e]
    exact gj.trans (gj.left λn hn=>(lf n).trans (k3 n hn)) dw.right
   rwa[List.take_append_drop]at this
  ·exact hv.elim
theorem lift_seq {N:Nat} {a b:List Nat} {t0 t1:Env} {w0 w1:World} {Q:EN->Env->J->Prop} (ha:gj a t0 t1) (hs:cH w0 w1):
 ∀e x w,lift N b t1 w1 Q e x w->lift N (a++b) t0 w0 Q e x w:=by
 intro e x w h
 cases e<;>simp only[lift]at h⊢
 all_goals
  obtain⟨t,h1,h2,h3,h4⟩:=h
  exact⟨t,h1,hs.trans h2,(ha.left).trans h3.right,h4⟩
theorem ap2 {N:Nat} {A:zn} (hd:NV P N A.drawn):∀(c:Code) (cur:Nat) (Q:EN->Env->J->Prop) (t:Env) (h:J) (a:Act) (w:World),
 kS P N A c cur Q t h->Rel N t a->w.heap=h->c.wp P (lift N (oo c) t w Q) a w:=by
 intro c
 induction c with
 |skip=>intro cur Q t h a w hv U hw;exact wp_skip ⟨t,U,cH.refl w,gj.refl _ _,hw▸hv⟩
 |region id ops d=>
  intro cur Q t h a w hv U hw
  cases d with
  |false=>
   refine wp_region_list ?_
   have:=Vt (P:=P) (Q:=lift N (oo (.region id ops false)) t w Q) hv U hw λaR ay w' h1 h2 h3 h4=>⟨aR,h1,h2,h3,h4⟩
   simpa using this
  |true=>
   have:=hd id ops.toList t h (Q .normal) a w (lift N (oo (.region id ops true)) t w Q) hv U hw (λ_ _ _ hq=>hq) λaR ay w' h1 h2 h3 h4=>⟨aR,h1,h2,h3,h4⟩
   simpa using this
 |seq x y GC GD=>
  intro cur Q t h a w hv U hw
  refine wp_seq ?_
  unfold kS at hv
  split at hv
  ·refine wp_mono (GC _ _ _ _ _ _ hv U hw) λe ay w' hl=>?_
   cases e<;>simp only[lift]at hl
   case normal=>
    obtain⟨aR,h1,h2,h3,h4⟩:=hl
    exact wp_mono (GD _ _ _ _ _ _ h4 h1 rfl) (lift_seq h3 h2)
   case exit=>obtain⟨aR,h1,h2,h3,h4⟩:=hl;exact⟨aR,h1,h2,h3.left,h4⟩
   case ret=>obtain⟨aR,h1,h2,h3,h4⟩:=hl;exact⟨aR,h1,h2,h3.left,h4⟩
  ·rename_i gh _
   split at hv
   ·rename_i De
    obtain⟨i7,h1,h2⟩:=hv
    refine wp_mono (GC _ _ _ _ _ _ h1 U hw) λe ay w' hl=>?_
    cases e<;>simp only[lift]at hl
    case normal=>
     obtain⟨aR,k1,k2,k3,k4⟩:=hl
     obtain⟨cp,j6⟩:=uB (tl gh) k4
     obtain⟨bn,n,lf,_,tD⟩:=uC De (Kt k3) j6 (h2 aR)
     exact wp_mono (GD _ _ _ _ _ _ tD (k1.congr lf) rfl) (lift_seq (λn hn=>(lf n).trans (k3 n hn)) k2)
    case exit=>obtain⟨aR,k1,k2,k3,k4⟩:=hl;exact⟨aR,k1,k2,k3.left,k4⟩
    case ret=>obtain⟨aR,k1,k2,k3,k4⟩:=hl;exact⟨aR,k1,k2,k3.left,k4⟩
   ·exact hv.elim
 |cond c x y GC GD=>
  intro cur Q t h a w hv U hw
  unfold kS at hv
  split at hv
  ·rename_i b hb
   have hc:a.eval c= .bool b:=by rw[U.eval];exact hb
   rcases B5 hv with⟨rfl,h1⟩|⟨rfl,h1⟩
   ·refine wp_cond_true hc (wp_mono (GC _ _ _ _ _ _ h1 U hw) λe ay w' hl=>?_)
    cases e<;>simp only[lift]at hl⊢
    all_goals obtain⟨aR,k1,k2,k3,k4⟩:=hl;exact⟨aR,k1,k2,k3.left,k4⟩
   ·refine wp_cond_false hc (wp_mono (GD _ _ _ _ _ _ h1 U hw) λe ay w' hl=>?_)
    cases e<;>simp only[lift]at hl⊢
    all_goals obtain⟨aR,k1,k2,k3,k4⟩:=hl;exact⟨aR,k1,k2,k3.right,k4⟩
  ·exact hv.elim
 |block id b b9=>
  intro cur Q t h a w hv U hw
  refine wp_block (wp_mono (b9 _ _ _ _ _ _ hv U hw) λe ay w' hl=>?_)
  cases e<;>simp only[lift]at hl
  case normal=>exact hl
  case ret=>exact hl
  case exit k=>
   obtain⟨aR,k1,k2,k3,k4⟩:=hl
   simp only[Exit.inBlock]
   split at k4
   ·rename_i I
    rw[if_pos (Nat.eq_of_beq_eq_true I)]
    exact⟨aR,k1,k2,k3,k4⟩
   ·rename_i I
    rw[if_neg (λe=>by subst e;simp at I)]
    exact⟨aR,k1,k2,k3,k4⟩
 |loop b b9=>
  intro cur Q t h a w hv U hw
  unfold kS at hv
  split at hv
  ·rename_i De
   obtain⟨dC,m,h1,h2⟩:=hv
   obtain⟨cp,j6⟩:=uB m h1
   subst hw
   refine wp_loop_ghost (λn ay w'=>∃aR,Rel N aR ay/\cH w w'/\gj (oo b) t aR/\kG (A.loop cur) dC m aR w'.heap n) cp ⟨t,U,cH.refl w,gj.refl _ _,j6⟩ ?_
   intro n ay w' ⟨aR,r1,r2,tS,xc⟩
   obtain⟨bn,wS,lf,Lu,tD⟩:=uC De (Kt tS) xc (h2 aR)
   refine wp_mono (b9 _ _ _ _ _ _ tD (r1.congr lf) rfl) λe a2 w2 hl=>?_
   have ix:gj (oo b) t bn:= λn hn=>(lf n).trans (tS n hn)
   cases e<;>simp only[lift]at hl
   case normal=>
    obtain⟨t2,ca,aF,dw,lZ⟩:=hl
    exact⟨wS,Lu,t2,ca,r2.trans aF,ix.trans dw,lZ⟩
   case exit=>obtain⟨t2,ca,aF,dw,lZ⟩:=hl;exact⟨t2,ca,r2.trans aF,ix.trans dw,lZ⟩
   case ret=>obtain⟨t2,ca,aF,dw,lZ⟩:=hl;exact⟨t2,ca,r2.trans aF,ix.trans dw,lZ⟩
  ·exact hv.elim
 |exit id=>intro cur Q t h a w hv U hw;exact wp_exit ⟨t,U,cH.refl w,gj.refl _ _,hw▸hv⟩
 |ret=>intro cur Q t h a w hv U hw;exact wp_ret ⟨t,U,cH.refl w,gj.refl _ _,hw▸hv⟩
 |_=>intro cur Q t h a w hv U hw;exact hv.elim
end Go.Vc
