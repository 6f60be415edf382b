import Derived.Test.YtjlkfjnfnonekaaGreatDoorVcEf
set_option linter.all false
namespace Go.Vc
variable{P:Program}
def kY (F:(Value->Prop)->Prop) (K:Value->Prop):Prop:=∃v,K v/\∀bS:Value->Prop,bS v->F bS
theorem kY.here {K:Value->Prop} {v:Value} (h:K v):kY (λK=>K v) K:=⟨v,h,λ_ k=>k⟩
theorem kY.of {F:(Value->Prop)->Prop} {K:Value->Prop} {v:Value} (h:K v) (f:∀bS:Value->Prop,bS v->F bS):kY F K:=⟨v,h,f⟩
theorem Fb {x:Bool} {k:IntKind} {e:Int} {K:Value->Prop} (h:arith x k e K):kY (arith x k e) K:=by
 cases x
 ·exact .of h λ_ k=>k
 ·exact .of h.2 λ_ k=>⟨h.1,k⟩
theorem afj {x:Bool} {op:BinOp} {k:IntKind} {m n:Int} {K:Value->Prop} (h:Dn x op k m n K):kY (Dn x op k m n) K:=by
 cases op<;>first
  |exact Fb h
  |exact .of h λ_ k=>k
  |exact h.elim
  |(cases x
    ·exact .of h.2 λ_ k=>⟨h.1,k⟩
    ·exact .of h.2 λ_ k=>⟨h.1,k⟩)
theorem VA {x:Bool} {op:BinOp} {k:IntKind} {m n:Int} {K:Value->Prop} (h:Bl x op k m n K):kY (Bl x op k m n) K:=by
 cases op<;>first
  |exact h.elim
  |exact .of h.2 λ_ k=>⟨h.1,k⟩
  |(obtain⟨h1,h2⟩:=h;obtain⟨v,h3,h4⟩:=Fb h2;exact⟨v,h3,λbS k=>⟨h1,h4 bS k⟩⟩)
theorem OQ {t:TypeId} {xs ys:Array Value} {f:Bool->Value} {K:Value->Prop} (h:vJ P t xs ys λc=>K (f c)):kY (λK=>vJ P t xs ys λc=>K (f c)) K:=by
 unfold vJ at h
 split at h
 ·rename_i n e hu
  split at h
  ·rename_i k he hg
   split at h
   ·rename_i hs hi
    obtain⟨l,r,h1,h2,h3,h4⟩:=h
    exact .of h4 λ_ k=>(by unfold vJ;simp only[hu,he,hg,hs,hi];exact⟨l,r,h1,h2,h3,k⟩)
   ·exact h.elim
  ·exact h.elim
 ·exact h.elim
theorem Y8 {x:Bool} {op:BinOp} {t:TypeId} {a b:Value} {K:Value->Prop} (h:pS P x op t a b K):kY (pS P x op t a b) K:=by
 unfold pS at h
 split at h
 ·split at h
  ·exact VA h
  ·exact VA h
  ·rename_i G8 bC eE
   split at h
   ·rename_i I
    cases G8<;>first|exact(bC rfl).elim|exact(eE rfl).elim|(obtain⟨v,k1,k2⟩:=afj h;exact⟨v,k1,λbS k=>(by unfold pS;simp only[I];exact k2 bS k)⟩)
   ·exact h.elim
 ·split at h
  ·rename_i hu;exact .of h λ_ k=>(by unfold pS;simp only[hu];exact k)
  ·rename_i hu;exact .of h λ_ k=>(by unfold pS;simp only[hu];exact k)
  ·exact h.elim
 ·split at h
  ·exact .of h.2 λ_ k=>⟨h.1,k⟩
  ·exact .of h λ_ k=>k
  ·exact .of h λ_ k=>k
  ·exact h.elim
 ·split at h
  ·rename_i hu;exact .of h λ_ k=>(by unfold pS;simp only[hu];exact k)
  ·rename_i hu;exact .of h λ_ k=>(by unfold pS;simp only[hu];exact k)
  ·exact h.elim
 ·split at h
  ·rename_i hu;exact .of h λ_ k=>(by unfold pS;simp only[hu];exact k)
  ·rename_i hu;exact .of h λ_ k=>(by unfold pS;simp only[hu];exact k)
  ·exact h.elim
 ·split at h
  ·exact OQ h
  ·exact OQ h
  ·exact h.elim
 ·exact h.elim
theorem Y6 {x:Bool} {op:BinOp} {t:TypeId} {iJ iK:Operand} {a b:Value} {K:Value->Prop} (h:sa P x op t iJ iK a b K):kY (sa P x op t iJ iK a b) K:=by
 unfold sa at h
 split at h
 ·rename_i hu
  split at h
  ·obtain⟨c,h1,h2⟩:=h
   exact .of h2 λ_ k=>(by unfold sa;simp only[hu];exact⟨c,h1,k⟩)
  ·obtain⟨c,h1,h2⟩:=h
   exact .of h2 λ_ k=>(by unfold sa;simp only[hu];exact⟨c,h1,k⟩)
  ·exact h.elim
 ·rename_i hu
  split at h
  ·obtain⟨c,h1,h2⟩:=h
   exact .of h2 λ_ k=>(by unfold sa;simp only[hu];exact⟨c,h1,k⟩)
  ·obtain⟨c,h1,h2⟩:=h
   exact .of h2 λ_ k=>(by unfold sa;simp only[hu];exact⟨c,h1,k⟩)
  ·exact h.elim
 ·rename_i hu hO
  obtain⟨v,k1,k2⟩:=Y8 h
  refine⟨v,k1,λbS k=>?_⟩
  unfold sa
  split
  ·rename_i ms he;exact absurd he (hu ms)
  ·rename_i av dW he;exact absurd he (hO av dW)
  ·exact k2 bS k
theorem amg {x:Bool} {op:UnOp} {a:Value} {K:Value->Prop} (h:Bx x op a K):kY (Bx x op a) K:=by
 unfold Bx at h
 split at h
 ·exact .of h λ_ k=>k
 ·exact Fb h
 ·exact .of h λ_ k=>k
 ·exact h.elim
theorem aab {x:Bool} {s d:TypeId} {a:Value} {K:Value->Prop} (h:xZ P x s d a K):kY (xZ P x s d a) K:=by
 unfold xZ at h
 split at h
 ·rename_i hs hd;(obtain⟨v,k1,k2⟩:=Fb h;exact⟨v,k1,λbS k=>(by unfold xZ;simp only[hs,hd];exact k2 bS k)⟩)
 ·exact h.elim
theorem ain {d:TypeDesc} {c:Option Value} {K:Value->Prop} (h:one d c K):kY (one d c) K:=by
 unfold one at h
 split at h
 ·obtain⟨n,h1,h2⟩:=h;exact .of h2 λ_ k=>⟨_,h1,k⟩
 ·obtain⟨n,h1,h2⟩:=h;exact .of h2 λ_ k=>⟨_,h1,k⟩
 ·obtain⟨n,h1,h2⟩:=h;exact .of h2 λ_ k=>⟨_,h1,k⟩
 ·obtain⟨n,l,m,h1,h2⟩:=h;exact .of h2 λ_ k=>⟨_,_,_,h1,k⟩
 ·obtain⟨n,h1,h2⟩:=h;exact .of h2 λ_ k=>⟨_,h1,k⟩
 ·rename_i bC eE yM qD DK
  obtain⟨n,h1,h2⟩:=h
  refine .of h2 λ_ k=>?_
  cases d<;>first|exact(bC _ rfl).elim|exact(eE rfl).elim|exact(yM _ rfl).elim|exact(qD _ rfl).elim|exact(DK rfl).elim|exact⟨_,h1,k⟩
theorem Oq {t:TypeId} {a:Value} {off:Nat} {K:Value->Prop} (h:rb P t a off K):kY (rb P t a off) K:=by
 unfold rb at h
 split at h
 ·split at h
  ·rename_i hu
   split at h
   ·rename_i hi;exact .of h λ_ k=>(by unfold rb;simp only[hu,hi];exact k)
   ·exact h.elim
  ·rename_i hu
   split at h
   ·rename_i hi;exact .of h λ_ k=>(by unfold rb;simp only[hu,hi];exact k)
   ·exact h.elim
  ·rename_i d bC eE hu
   obtain⟨v,h1,h2⟩:=ain h
   refine⟨v,h1,λbS k=>?_⟩
   have:=h2 bS k
   unfold rb
   simp only[hu]
   cases d<;>first|exact(bC _ rfl).elim|exact(eE _ _ rfl).elim|exact this
  ·exact h.elim
 ·exact h.elim
theorem Q7 {t:TypeId} {f:Nat} {G:Nat->TypeId->Prop}:x8 P t f G↔∃ki fd,P.underlying t=some (.struct ki)/\ki[f]?=some fd/\hM P fd.type=true/\sz P fd.type≠0/\G fd.offset fd.type:=by
 refine⟨Cn,λ⟨ki,fd,h1,h2,h3,h4,aA⟩=>?_⟩
 unfold x8
 simp only[h1,h2,h3]
 cases hs:sz P fd.type with
 |zero=>exact absurd hs h4
 |succ n=>exact aA
theorem akR {t:TypeId} {v:Value} {cw hi:Option Value} {po:Value} {K:Value->Prop} (h:xj P t v cw hi po K):kY (xj P t v cw hi po) K:=by
 unfold xj at h
 split at h
 ·rename_i e a len cap hu
  split at h
  ·rename_i hi'
   rcases AV h with⟨rfl,h2⟩|⟨k,n,rfl,h2⟩
   ·split at h2
    ·exact .of h2.2 λ_ k=>(by unfold xj;simp only[hu,hi'];exact⟨h2.1,k⟩)
    ·exact h2.elim
   ·split at h2
    ·exact .of h2.2 λ_ k=>(by unfold xj;simp only[hu,hi'];exact⟨h2.1,k⟩)
    ·exact h2.elim
  ·exact h.elim
 ·exact h.elim
theorem akT {t:TypeId} {v:Value} {cw hi:Option Value} {K:Value->Prop} (h:oJ P t v cw hi K):kY (oJ P t v cw hi) K:=by
 unfold oJ at h
 split at h
 ·rename_i e a len cap hu
  split at h
  ·rename_i hi'
   rcases AV h with⟨rfl,h2⟩|⟨k,n,rfl,h2⟩
   ·split at h2
    ·exact .of h2.2 λ_ k=>(by unfold oJ;simp only[hu,hi'];exact⟨h2.1,k⟩)
    ·exact .of h2.2 λ_ k=>(by unfold oJ;simp only[hu,hi'];exact⟨h2.1,k⟩)
    ·exact h2.elim
   ·split at h2
    ·exact .of h2.2 λ_ k=>(by unfold oJ;simp only[hu,hi'];exact⟨h2.1,k⟩)
    ·exact .of h2.2 λ_ k=>(by unfold oJ;simp only[hu,hi'];exact⟨h2.1,k⟩)
    ·exact h2.elim
  ·exact h.elim
 ·rename_i n e p hu
  split at h
  ·rename_i hi'
   obtain⟨b,o,rfl,h2⟩:=yP h
   exact .of h2 λ_ k=>(by unfold oJ;simp only[hu,hi'];exact k)
  ·exact h.elim
 ·rename_i s hu
  rcases AV h with⟨rfl,h2⟩|⟨k,n,rfl,h2⟩
  ·split at h2
   ·exact .of h2.2 λ_ k=>(by unfold oJ;simp only[hu];exact⟨h2.1,k⟩)
   ·exact .of h2.2 λ_ k=>(by unfold oJ;simp only[hu];exact⟨h2.1,k⟩)
   ·exact h2.elim
  ·split at h2
   ·exact .of h2.2 λ_ k=>(by unfold oJ;simp only[hu];exact⟨h2.1,k⟩)
   ·exact .of h2.2 λ_ k=>(by unfold oJ;simp only[hu];exact⟨h2.1,k⟩)
   ·exact h2.elim
 ·exact h.elim
theorem agQ {a b:Value} {K:Value->Prop} (h:yJ a b K):kY (yJ a b) K:=by
 unfold yJ at h
 split at h
 ·split at h
  ·rename_i I;exact .of h λ_ k=>(by unfold yJ;simp only[I];exact k)
  ·exact h.elim
 ·exact h.elim
theorem ag2 {a b:Value} {K:Value->Prop} (h:yL a b K):kY (yL a b) K:=by
 unfold yL at h
 split at h
 ·split at h
  ·rename_i I;exact .of h λ_ k=>(by unfold yL;simp only[I];exact k)
  ·exact h.elim
 ·exact h.elim
theorem Zf {b:Builtin} {ts:List TypeId} {vs:List Value} {K:Value->Prop} (h:s6 P b ts vs K):kY (s6 P b ts vs) K:=by
 unfold s6 at h
 split at h
 ·split at h
  ·rename_i hu;exact .of h λ_ k=>(by unfold s6;simp only[hu];exact k)
  ·rename_i hu;exact .of h λ_ k=>(by unfold s6;simp only[hu];exact k)
  ·rename_i hu;exact .of h λ_ k=>(by unfold s6;simp only[hu];exact k)
  ·exact h.elim
 ·split at h
  ·rename_i hu;exact .of h λ_ k=>(by unfold s6;simp only[hu];exact k)
  ·exact h.elim
 ·exact agQ h
 ·exact ag2 h
 ·exact h.elim
theorem XN {T:TypeId} {ok:Bool} {a:Value} {K:Value->Prop} (U:vK P T ok a K):kY (vK P T ok a) K:=by
 unfold vK at U
 split at U
 ·exact U.elim
 ·rename_i d wT hu
  obtain⟨x,h1,h2⟩:=OE U
  cases ok
  ·refine .of h1.2 λbS k=>?_
   unfold vK
   split
   ·rename_i gY;rw[hu]at gY;exact wT _ (Option.some.inj gY)
   ·exact h2 _ ⟨h1.1,k⟩
   ·rename_i gY;rw[hu]at gY;cases gY
  ·obtain⟨t,h3,h4⟩:=h1
   refine .of h4 λbS k=>?_
   unfold vK
   split
   ·rename_i gY;rw[hu]at gY;exact wT _ (Option.some.inj gY)
   ·exact h2 _ ⟨t,h3,k⟩
   ·rename_i gY;rw[hu]at gY;cases gY
 ·exact U.elim
def G4:Op->Bool
 | .load .. =>true
 |_=>false
theorem ajF {x:hI} {aJ:Operand->Value} {op:Op} {h h':J} {K:Value->Prop} (hn:G4 op=false) (U:rd P x aJ op h K):rd P x aJ op h' K:=by
 cases op
 case slice t a cw hi po=>cases po<;>exact U
 case call c=>obtain⟨callee,args,ts⟩:=c;cases callee<;>exact U
 case load=>cases hn
 all_goals exact U
theorem ahL {nm:Bool} {v:Value} {K:Value->Prop} (k:K v):DL nm v K:=by
 unfold DL
 split
 ·exact k
 ·split
  ·intro x hx;rw[hx];exact k
  ·exact k
theorem ajG {x:hI} {aJ:Operand->Value} {op:Op} {h:J} {K:Value->Prop} (hn:G4 op=false) (U:rd P x aJ op h K):kY (rd P x aJ op h) K:=by
 unfold rd at U
 split at U
 ·exact .of U λ_ k=>k
 ·exact .of (TP U) λbS k=>ahL k
 ·split at U
  ·rename_i t ht
   rcases B5 U with⟨rfl,h1⟩|⟨rfl,h1⟩<;>exact .of h1 λ_ k=>(by unfold rd;simp only[ht];exact k)
  ·exact U.elim
 ·exact Y6 U
 ·exact amg U
 ·exact aab U
 ·split at U
  ·rename_i p hp
   obtain⟨b,o,rfl,h1⟩:=yP U
   exact .of h1 λ_ k=>(by unfold rd;simp only[hp];exact k)
  ·exact U.elim
 ·rename_i t a f
  obtain⟨b,o,hp,h1⟩:=tN U
  obtain⟨ki,fd,k1,k2,k3,k4,j6⟩:=Cn h1
  exact .of j6 λbS k=>(by unfold rd;simp only[hp];exact(Q7 (G:= λoff _=>bS (.pointer (some ⟨b,o+off,none⟩)))).2 ⟨ki,fd,k1,k2,k3,k4,k⟩)
 ·rename_i t a f
  obtain⟨ki,fd,k1,k2,k3,k4,j6⟩:=Cn U
  obtain⟨v,lf,tD⟩:=Oq j6
  exact⟨v,lf,λbS k=>(by unfold rd;exact(Q7 (G:= λoff ty=>rb P ty (aJ a) off bS)).2 ⟨ki,fd,k1,k2,k3,k4,tD bS k⟩)⟩
 ·split at U
  ·rename_i hi
   split at U
   ·rename_i hu
    split at U
    ·rename_i hi'
     obtain⟨b,o,hp,h1⟩:=tN U
     exact .of h1.2 λ_ k=>(by unfold rd;simp only[hi,hu,hi',hp];exact⟨h1.1,k⟩)
    ·exact U.elim
   ·rename_i hu ha
    split at U
    ·rename_i hi'
     obtain⟨b,o,rfl,h1⟩:=yP U.2
     exact .of h1 λ_ k=>(by unfold rd;simp only[hi,hu,ha,hi'];exact⟨U.1,k⟩)
    ·exact U.elim
   ·exact U.elim
  ·exact U.elim
 ·cases hn
 ·split at U
  ·rename_i hi
   split at U
   ·rename_i hu
    split at U
    ·rename_i hi'
     obtain⟨v,h3,h4⟩:=Oq U.2
     exact⟨v,h3,λbS k=>(by unfold rd;simp only[hi,hu,hi'];exact⟨U.1,h4 bS k⟩)⟩
    ·exact U.elim
   ·rename_i hu ha
    exact .of U.2 λ_ k=>(by unfold rd;simp only[hi,hu,ha];exact⟨U.1,k⟩)
   ·exact U.elim
  ·exact U.elim
 ·split at U
  ·rename_i vs hv
   split at U
   ·rename_i v hi;exact .of U λ_ k=>(by unfold rd;simp only[hv,hi];exact k)
   ·exact U.elim
  ·exact U.elim
 ·exact akT U
 ·exact akR U
 ·exact XN U
 ·split at U
  ·exact U.elim
  ·rename_i d bC hu
   refine .of U λ_ k=>?_
   unfold rd
   simp only[hu]
   cases d<;>first|exact(bC _ rfl).elim|exact k
  ·exact U.elim
 ·exact .of U λ_ k=>k
 ·obtain⟨v,h1,h2,_⟩:=PE (P:=P) U
  exact⟨v,h1,h2⟩
 ·exact Zf U
 ·exact U.elim
theorem ajH {x:hI} {aJ:Operand->Value} {o:Oper} {h:J} {K:Value->Prop} (hn:G4 o.op=false) (U:rd P x aJ o.op h K):
 ∃v,K v/\∀w:World,(execOp aJ o).run P w= .ok (.value v) w:=by
 obtain⟨v,h1,h2⟩:=ajG hn U
 refine⟨v,h1,λw=>?_⟩
 obtain⟨u,hu,h3⟩:=HJ (P:=P) (o:=o) (ajF (h':=w.heap) hn (h2 (λu=>u=v) rfl))
 subst hu
 exact h3 w rfl
end Go.Vc
