import Derived.OrdersHeld
import Derived.Test.YtjlkfjnfnonekaaGreatDoorVcSound
import Derived.Test.YtjlkfjnfnonekaaGreatDoorVcPoint
set_option linter.all false
namespace Go.Vc
variable{P:Program}
def x3 (wt:Nat->Nat->Bool) (j:Nat) (T:Nat->World->Prop):Nat->World->Prop:= λk w=>wt j k=true\/T k w
def vw (P:Program) (ops:Array Oper) (wt:Nat->Nat->Bool) (Q:Exit->Act->World->Prop):Nat->(Nat->World->Prop)->Array Bool->Act->World->Prop
 |0,_,listed,a,w=>Region.ready .any ops listed=[]/\Q .normal a w
 |fuel+1,T,listed,a,w=>
  (Region.ready .any ops listed=[]->Q .normal a w)/\
  ∀i∈Region.ready .any ops listed,wpOp P ops Q i (λay w'=>(∀k,x3 wt i T k w')/\vw P ops wt Q fuel (x3 wt i T) (listed.setIfInBounds i true) ay w') a w
theorem WK {ops:Array Oper} {wt:Nat->Nat->Bool} {Q:Exit->Act->World->Prop}:∀(fuel:Nat) (T:Nat->World->Prop) (listed:Array Bool) (a:Act) (w:World),
 vw P ops wt Q fuel T listed a w->wpAny P .any ops Q fuel listed a w
 |0,_,_,_,_,h=>h
 |fuel+1,_,_,_,_,h=>⟨h.1,λi hi=>wpOp_mono (λay w' h'=>WK fuel _ _ ay w' h'.2) (h.2 i hi)⟩
theorem EF {ops:Array Oper} {wt:Nat->Nat->Bool} {Q:Exit->Act->World->Prop}:∀(fuel:Nat) (T q7:Nat->World->Prop) (listed:Array Bool) (a:Act) (w:World),(∀k w,T k w->q7 k w)->
 vw P ops wt Q fuel T listed a w->vw P ops wt Q fuel q7 listed a w
 |0,_,_,_,_,_,_,h=>h
 |fuel+1,T,q7,_,_,_,hm,h=>⟨h.1,λi hi=>wpOp_mono (λay w' h'=>⟨λk=>(h'.1 k).imp id (hm k w'),EF fuel _ _ _ ay w' (λk w I=>I.imp id (hm k w)) h'.2⟩) (h.2 i hi)⟩
def rY (ops:Array Oper) (L:Array Bool):Prop:=∀k,L.getD k false=true->∀ok,ops[k]?=some ok->∀e∈ok.after,Region.binds .any e=true->L.getD e.on false=true
theorem U2 {ops:Array Oper} {L:Array Bool} {j:Nat} (ah:j∈Region.ready .any ops L) {jK:Oper} (aw:ops[j]?=some jK):∀e∈jK.after,Region.binds .any e=true->L.getD e.on false=true:=by
 obtain⟨_,o,h1,h2⟩:=mem_ready.1 ah
 rw[aw]at h1;cases h1
 intro e he hb
 have:=h2 e he hb
 simpa using this
theorem Rs {L:Array Bool} {j k:Nat} (h:L.getD k false=true):(L.setIfInBounds j true).getD k false=true:=by
 by_cases I:j=k
 ·subst I
  rcases Nat.lt_or_ge j L.size with h'|h'
  ·simp[h']
  ·simp[Array.getElem?_eq_none h']at h
 ·simp[Array.getElem?_setIfInBounds,I]at h⊢;exact h
theorem rY.set {ops:Array Oper} {L:Array Bool} {j:Nat} (hd:rY ops L) (ah:j∈Region.ready .any ops L):rY ops (L.setIfInBounds j true):=by
 intro k I ok aw e he hb
 by_cases KJ:k=j
 ·subst KJ;exact Rs (U2 ah aw e he hb)
 ·refine Rs (hd k ?_ ok aw e he hb)
  simp[Array.getElem?_setIfInBounds,Ne.symm KJ]at I⊢;exact I
theorem rY.none {ops:Array Oper} {n:Nat}:rY ops (Array.replicate n false):=by
 intro k I
 exfalso
 rcases Nat.lt_or_ge k n with h|h
 ·simp[Array.getElem?_replicate,h]at I
 ·simp[Array.getElem?_replicate,Nat.not_lt.2 h]at I
theorem aqz {ops:Array Oper} {wt:Nat->Nat->Bool} {Q:Exit->Act->World->Prop} {i:Nat} {rF:Oper} {v:Value} {uf:World->Prop} (hi:ops[i]?=some rF)
 (Gp:∀(j:Nat) (o:Oper) cs b,ops[j]?=some o->o.op≠ .select cs b)
 (Gy:∀(L:Array Bool) j,rY ops L->j∈Region.ready .any ops L->wt j i=true->L.getD i false=true)
 (CI:∀c a w,Q (.panic c) (a.put rF.dst v) w->Q (.panic c) a w):
 ∀(fuel:Nat) (T:Nat->World->Prop) (listed:Array Bool) (a:Act) (w:World),
  (∀j jK,ops[j]?=some jK->j≠i->listed.getD j true=false->(∀e∈jK.after,Region.binds .any e=true->e.on≠i)->rF.apart ops jK=true)->
  rY ops listed->i∈Region.ready .any ops listed->YieldsIf P ops uf rF v a->uf w->(∀k,T k w)->(∀w,T i w)->
  vw P ops wt Q fuel (λk=>if k=i then uf else T k) (listed.setIfInBounds i true) (a.put rF.dst v) w->vw P ops wt Q (fuel+1) T listed a w:=by
 intro fuel
 induction fuel with
 |zero=>
  intro T listed a w _ _ U hy CK nO FY H
  refine⟨λh=>(by rw[h]at U;cases U),λj ah=>?_⟩
  by_cases wv:j=i
  ·subst wv
   exact hy.wpOp hi CK ⟨λk=> .inr (nO k),H⟩
  ·have:=ready_mono ah wv
   rw[H.1]at this
   cases this
 |succ fuel b9=>
  intro T listed a w F6 yi U hy CK nO FY H
  refine⟨λh=>(by rw[h]at U;cases U),λj ah=>?_⟩
  by_cases wv:j=i
  ·subst wv
   refine hy.wpOp hi CK ⟨λk=> .inr (nO k),EF _ _ _ _ _ _ (λk w I=>?_) H⟩
   by_cases ig:k=j
   ·subst ig;exact .inr (FY w)
   ·rw[if_neg ig]at I;exact .inr I
  ·have h1:=H.2 j (ready_mono ah wv)
   obtain⟨R8,jK,KV,hall⟩:=mem_ready.1 ah
   have yr:∀e∈jK.after,Region.binds .any e=true->e.on≠i:= λe he hb heq=>by
    have h1:=hall e he hb
    have h0:=(mem_ready.1 U).1
    rw[heq]at h1
    rcases Nat.lt_or_ge i listed.size with h'|h'
    ·simp[h']at h0 h1;rw[h0]at h1;cases h1
    ·simp[Array.getElem?_eq_none h']at h1
   have fv:¬wt j i=true:= λhl=>by
    have h1:=Gy listed j yi ah hl
    have h0:=(mem_ready.1 U).1
    rcases Nat.lt_or_ge i listed.size with h'|h'
    ·simp[h']at h0 h1;rw[h0]at h1;cases h1
    ·simp[Array.getElem?_eq_none h']at h1
   have h2:=wpOp_putIf KV (F6 j jK KV wv R8 yr) (λcs b=>Gp i rF cs b hi) (λcs b=>Gp j jK cs b KV) CI hy h1
   have ada:∀k ok,ops[k]?=some ok->k≠i->(listed.setIfInBounds j true).getD k true=false->
    (∀e∈ok.after,Region.binds .any e=true->e.on≠i)->rF.apart ops ok=true:= λk ok I Au yz hno=>by
    refine F6 k ok I Au ?_ hno
    by_cases ym:j=k
    ·subst ym;exact R8
    ·rw[getD_set_ne true ym]at yz;exact yz
   refine wpOp_mono (λay w' h3=>?_) h2
   have acs:uf w':=by
    have:=(h3.2.1 i).resolve_left fv
    simpa using this
   have RK:∀k,x3 wt j T k w':= λk=>by
    by_cases ig:k=i
    ·subst ig;exact .inr (FY w')
    ·have:=h3.2.1 k
     simpa[x3,ig]using this
   refine⟨RK,b9 _ (listed.setIfInBounds j true) ay w' ada (yi.set ah) (ready_mono U (Ne.symm wv)) h3.1 acs RK (λw=> .inr (FY w)) ?_⟩
   rw[Array.setIfInBounds_comm _ _ wv]
   refine EF _ _ _ _ _ _ (λk w I=>?_) h3.2.2
   by_cases ig:k=i
   ·subst ig
    have:=I.resolve_left fv
    simpa using this
   ·simp only[if_neg ig]at I⊢
    exact I.imp id (by simp[ig])
def Io (ops:List Oper):Nat->Nat->Nat->Bool
 |0,_,_=>false
 |f+1,j,i=>match ops[j]?with
  |some jK=>jK.after.toList.any λe=>Region.binds .any e&&(Nat.beq e.on i||Io ops f e.on i)
  |none=>false
def rP (ops:List Oper) (j i:Nat):Bool:=Io ops 4 j i
structure jc where
 i:Nat
 t:TypeId
 b:Nat
 o:Nat
 v:Value
def still (P:Program) (e:jc) (h:J):Prop:=
 match P.underlying e.t with
 |some (.struct _)|some (.array _ _)=>match e.v with
  | .agg cs=>row h e.b e.o (sz P e.t)=some cs.toList
  |_=>False
 |some _=>cell h e.b e.o=some e.v
 |none=>False
def o4 (ops:List Oper) (j:Nat):List jc->List jc
 |[]=>[]
 |e::r=>match rP ops j e.i with|true=>o4 ops j r|false=>e::o4 ops j r
def H3 (P:Program) (h:J) (X:Prop):List jc->Prop
 |[]=>X
 |e::r=>still P e h/\H3 P h X r
def GH:Op->Bool
 | .alloc _| .box .. | .buildSlice .. | .makeSlice .. =>true
 |_=>false
def DR (P:Program) (ops:List Oper) (listed:Array Bool):List Nat->Option Nat
 |[]=>none
 |i::r=>match ops[i]?with
  |some o=>(match Lp P o.op,Region.free .any ops.toArray listed i with
   |true,true=>some i
   |_,_=>DR P ops listed r)
  |none=>DR P ops listed r
def allI (l:List Nat) (B:Nat->Prop):Prop:=
 match l with
 |[]=>True
 |[i]=>B i
 |i::r=>B i/\allI r B
def JU (P:Program) (x:hI) (N:Nat) (ops:List Oper) (i:Nat) (R:List jc) (t:Env) (h:J) (K:List jc->Env->Prop):Prop:=
 match ops[i]?with
 |some o=>guarded ops o.guard t
  (λt=>match o.op with
    | .load ty a=>pr (jh t a) λb off=>yG P ty h b off λv=>put N t o.dst v λaR=>K (⟨i,ty,b,off,v⟩::R) aR
    |op=>match G4 op with
     |true=>False
     |false=>rd P x (jh t) op h λv=>put N t o.dst v λaR=>K R aR)
  (λt=>put N t o.dst undef λaR=>K R aR)
 |none=>False
def QA (P:Program) (x:hI) (N:Nat) (ops:List Oper) (i:Nat) (R:List jc) (t:Env) (h:J) (K:List jc->Env->J->Prop):Prop:=
 match ops[i]?with
 |some o=>guarded ops o.guard t
  (λt=>fO P x (jh t) o.op o.type h λv h'=>match GH o.op with
    |true=>put N t o.dst v λaR=>K (o4 ops i R) aR h'
    |false=>H3 P h' (put N t o.dst v λaR=>K (o4 ops i R) aR h') (o4 ops i R))
  (λt=>put N t o.dst undef λaR=>K (o4 ops i R) aR h)
 |none=>False
def vY (P:Program) (x:hI) (N:Nat) (ops:List Oper):Nat->List jc->Array Bool->Env->J->(Env->J->Prop)->Prop
 |0,_,listed,t,h,K=>match Region.ready .any ops.toArray listed with|[]=>K t h|_=>False
 |f+1,R,listed,t,h,K=>match Region.ready .any ops.toArray listed with
  |[]=>K t h
  |rs=>match DR P ops listed rs with
   |some i=>JU P x N ops i R t h λfM aR=>vY P x N ops f fM (listed.setIfInBounds i true) aR h K
   |none=>allI rs λi=>QA P x N ops i R t h λfM aR h'=>vY P x N ops f fM (listed.setIfInBounds i true) aR h' K
def JQ (P:Program) (exact:Nat->hI) (N:Nat) (id:Nat) (ops:List Oper) (t:Env) (h:J) (K:Env->J->Prop):Prop:=
 match P.follows .mixedOrders,Region.noSelect ops.toArray with
 |true,true=>vY P (exact id) N ops ops.length [] (Array.replicate ops.length false) t h K
 |_,_=>False
theorem Wy {ops:List Oper} {L:Array Bool} (hd:rY ops.toArray L) {i:Nat}:∀{f j:Nat},(∀jK,ops[j]?=some jK->∀e∈jK.after,Region.binds .any e=true->L.getD e.on false=true)->Io ops f j i=true->L.getD i false=true
 |0,_,_,h=>by cases h
 |f+1,j,ah,h=>by
  unfold Io at h
  split at h
  ·rename_i jK aw
   obtain⟨e,he,h1⟩:=List.any_eq_true.1 h
   simp only[Bool.and_eq_true,Bool.or_eq_true]at h1
   obtain⟨hb,h2⟩:=h1
   have hl:=ah jK aw e (by simpa using he) hb
   rcases h2 with h2|h2
   ·rw[<-Nat.eq_of_beq_eq_true h2];exact hl
   ·exact Wy hd (λok I e' acY tu=>hd _ hl ok (by simpa using I) e' acY tu) h2
  ·cases h
theorem aqk {ops:List Oper} {L:Array Bool} {j i:Nat} (hd:rY ops.toArray L) (ah:j∈Region.ready .any ops.toArray L) (h:rP ops j i=true):L.getD i false=true:=
 Wy hd (λjK aw=>U2 ah (by simpa using aw)) h
theorem Mm {ops:List Oper} {listed:Array Bool} {i:Nat}:∀{rs:List Nat},DR P ops listed rs=some i->
 i∈rs/\∃o,ops[i]?=some o/\Lp P o.op=true/\Region.free .any ops.toArray listed i=true
 |[],h=>by cases h
 |k::r,h=>by
  unfold DR at h
  split at h
  ·rename_i o aw
   split at h
   ·rename_i h1 h2
    cases h
    exact⟨by simp,o,aw,h1,h2⟩
   ·obtain⟨a,b⟩:=Mm h;exact⟨by simp[a],b⟩
  ·obtain⟨a,b⟩:=Mm h;exact⟨by simp[a],b⟩
theorem Ox {B:Nat->Prop}:∀{l:List Nat},allI l B->∀i∈l,B i
 |[],_,i,hi=>by cases hi
 |[k],h,i,hi=>by simp at hi;subst hi;exact h
 |k::k2::r,h,i,hi=>by
  cases hi with
  |head=>exact h.1
  |tail _ hi=>exact Ox h.2 i hi
theorem TJ {n i:Nat}:∀{l:List Oper} {o:Oper},l[i]?=some o->km n (lx l)=false->o.dst≠some n:=by
 induction i with
 |zero=>
  intro l o hi hm
  cases l with
  |nil=>simp at hi
  |cons o' r=>simp at hi;subst hi;exact(LP hm).1
 |succ i b9=>
  intro l o hi hm
  cases l with
  |nil=>simp at hi
  |cons o' r=>simp at hi;exact b9 hi (LP hm).2
theorem VO {h:J} {X:Prop}:∀{R:List jc},H3 P h X R->X/\∀e∈R,still P e h
 |[],k=>⟨k,λe he=>by cases he⟩
 |e::r,k=>by
  obtain⟨h1,h2⟩:=k
  obtain⟨h3,h4⟩:=VO h2
  refine⟨h3,λe' he=>?_⟩
  cases he with
  |head=>exact h1
  |tail _ he=>exact h4 e' he
theorem JR {ops:List Oper} {j:Nat}:∀{R:List jc} {e:jc},e∈R->rP ops j e.i=true\/e∈o4 ops j R
 |e'::r,e,he=>by
  unfold o4
  cases he with
  |head=>
   split
   ·rename_i h;exact .inl h
   ·exact .inr (by simp)
  |tail _ he=>
   rcases JR (ops:=ops) (j:=j) he with h|h
   ·exact .inl h
   ·split
    ·exact .inr h
    ·exact .inr (by simp[h])
theorem Ci {ops:List Oper} {j:Nat}:∀{R:List jc} {e:jc},e∈o4 ops j R->e∈R
 |e'::r,e,he=>by
  unfold o4 at he
  split at he
  ·exact List.mem_cons_of_mem _ (Ci he)
  ·cases he with
   |head=>simp
   |tail _ he=>exact List.mem_cons_of_mem _ (Ci he)
theorem PS {h:J} {o:Obj} {b i:Nat} {v:Value} (hc:cell h b i=some v):cell (h.push o) b i=some v:=by
 unfold cell at hc⊢
 have hb:b<h.size:=by
  rcases Nat.lt_or_ge b h.size with h'|h'
  ·exact h'
  ·rw[Array.getElem?_eq_none h']at hc;cases hc
 rw[Array.getElem?_push_lt hb]
 rw[Array.getElem?_eq_getElem hb]at hc
 exact hc
theorem MM {h:J} {o:Obj} {b:Nat}:∀{n i:Nat} {cs:List Value},row h b i n=some cs->row (h.push o) b i n=some cs
 |0,_,_,hc=>hc
 |n+1,i,cs,hc=>by
  simp only[row]at hc⊢
  split at hc
  ·rename_i v r h1 h2
   rw[PS h1,MM h2];exact hc
  ·cases hc
theorem alh {h:J} {o:Obj} {e:jc} (hs:still P e h):still P e (h.push o):=by
 unfold still at hs⊢
 split at hs
 ·rename_i ki hu
  split at hs
  ·rename_i cs hv;exact MM hs
  ·exact hs.elim
 ·rename_i n ou hu
  split at hs
  ·rename_i cs hv;exact MM hs
  ·exact hs.elim
 ·exact PS hs
 ·exact hs.elim
theorem af0 {ty:TypeId} {h:J} {b o:Nat} {K:Value->Prop} (U:yG P ty h b o K):∃v,K v/\∀i,still P ⟨i,ty,b,o,v⟩ h/\
 ∀w:World,still P ⟨i,ty,b,o,v⟩ w.heap->(Instr.loadAt ty (.pointer (some ⟨b,o,none⟩))).run P w= .ok v w:=by
 unfold yG at U
 split at U
 ·rename_i hu
  split at U
  ·rename_i hi
   obtain⟨cs,h1,h2⟩:=U
   refine⟨_,h2,λi=>⟨by unfold still;simp only[hu];exact h1,λw hw=>?_⟩⟩
   unfold still at hw
   simp only[hu]at hw
   have af:=run_underlying (P:=P) hu w
   have ag:=run_sizeOf (P:=P) hi w
   have aI:=Be (P:=P) (show row w.heap b o (sz P ty)=some cs from hw) rfl
   simp[Instr.loadAt,Instr.sureAddr,loadVar,isAgg,af,ag,aI]
  ·exact U.elim
 ·rename_i hu
  split at U
  ·rename_i hi
   obtain⟨cs,h1,h2⟩:=U
   refine⟨_,h2,λi=>⟨by unfold still;simp only[hu];exact h1,λw hw=>?_⟩⟩
   unfold still at hw
   simp only[hu]at hw
   have af:=run_underlying (P:=P) hu w
   have ag:=run_sizeOf (P:=P) hi w
   have aI:=Be (P:=P) (show row w.heap b o (sz P ty)=some cs from hw) rfl
   simp[Instr.loadAt,Instr.sureAddr,loadVar,isAgg,af,ag,aI]
  ·exact U.elim
 ·rename_i d bC eE hu
  obtain⟨v,h1,h2⟩:=Mc U
  refine⟨v,h2,λi=>⟨by unfold still;simp only[hu];cases d<;>first|exact(bC _ rfl).elim|exact(eE _ _ rfl).elim|exact h1,λw hw=>?_⟩⟩
  have af:=run_underlying (P:=P) hu w
  have ag:w.cell? ⟨b,o,none⟩=some v:=by
   rw[cell?_eq]
   unfold still at hw
   simp only[hu]at hw
   cases d<;>first|exact(bC _ rfl).elim|exact(eE _ _ rfl).elim|exact hw
  cases d<;>first|exact(bC _ rfl).elim|exact(eE _ _ rfl).elim|simp[Instr.loadAt,Instr.sureAddr,loadVar,isAgg,af,ag]
 ·exact U.elim
theorem aiO {n:Nat} {v:Value} {K bS:List Value->Prop} (I:∀cs,K cs->bS cs) (h:w6 n v K):w6 n v bS:=by
 obtain⟨h1,h2,_⟩:=Ui h
 exact Ug h1 (Uh h) (I _ h2)
theorem UK {sizes:List Nat}:∀{parts:List (Nat×Value)} {ch:List (List Value)} {K bS:List (List Value)->Prop},(∀c,K c->bS c)->sP sizes parts ch K->sP sizes parts ch bS
 |[],_,_,_,I,h=>I _ h
 |(i,v)::r,ch,K,bS,I,h=>by
  simp only[sP]at h⊢
  split at h
  ·exact aiO (λcs=>UK I) h
  ·exact h.elim
theorem abc {x:hI} {aJ:Operand->Value} {op:Op} {ty:TypeId} {h:J} {K:Value->J->Prop} (hn:GH op=true) (U:fO P x aJ op ty h K):
 fO P x aJ op ty h λv h'=>K v h'/\∃o,h'=h.push o:=by
 cases op
 case alloc e=>
  unfold fO rX at U⊢
  simp only at U⊢
  split at U
  ·split at U
   ·intro b h1 k1 k2;exact⟨U b h1 k1 k2,_,k2⟩
   ·exact U.elim
  ·exact U.elim
 case box e a=>intro b h1 k1 k2;exact⟨U b h1 k1 k2,_,k2⟩
 case buildSlice t len parts=>
  unfold fO Fo at U⊢
  simp only at U⊢
  split at U
  ·split at U
   ·unfold rX at U⊢
    split at U
    ·split at U
     ·exact UK (λc hc b h1 k1 k2=>⟨hc b h1 k1 k2,_,k2⟩) U
     ·exact U.elim
    ·exact U.elim
   ·exact U.elim
  ·exact U.elim
 case makeSlice t l c=>
  unfold fO GX at U⊢
  simp only at U⊢
  split at U
  ·split at U
   ·refine⟨U.1,?_⟩
    have U:=U.2
    unfold rX at U⊢
    split at U
    ·split at U
     ·intro b h1 k1 k2;exact⟨U b h1 k1 k2,_,k2⟩
     ·exact U.elim
    ·exact U.elim
   ·exact U.elim
  ·exact U.elim
 all_goals cases hn
def q9 (P:Program) (R:List jc) (k:Nat) (w:World):Prop:=∀e∈R,e.i=k->still P e w.heap
theorem Xa {ops:List Oper} {j:Nat} {R:List jc} {k:Nat} {w:World} (h:∀e∈o4 ops j R,still P e w.heap):x3 (rP ops) j (q9 P R) k w:=by
 cases hw:rP ops j k with
 |true=>exact .inl hw
 |false=>
  refine .inr λe he I=>?_
  rcases JR (ops:=ops) (j:=j) he with h1|h1
  ·rw[I,hw]at h1;cases h1
  ·exact h e h1
theorem aaF {x:hI} {N:Nat} {ops:List Oper} {K:Env->J->Prop} {Q:Exit->Act->World->Prop} (Gp:Region.noSelect ops.toArray=true) (CI:∀c a w,¬Q (.panic c) a w):
 ∀(f:Nat) (R:List jc) (listed:Array Bool) (t:Env) (h:J) (a:Act) (w:World),vY P x N ops f R listed t h K->Rel N t a->w.heap=h->(∀e∈R,still P e h)->(∀e∈R,listed[e.i]?=some true)->rY ops.toArray listed->
  (∀aR ay w',Rel N aR ay->cH w w'->gj (lx ops) t aR->K aR w'.heap->Q .normal ay w')->
  vw P ops.toArray (rP ops) Q f (q9 P R) listed a w:=by
 intro f
 induction f with
 |zero=>
  intro R listed t h a w hv U hw iC hL yi hn
  unfold vY at hv
  split at hv
  ·rename_i K1;exact⟨K1,hn t a w U (cH.refl w) (gj.refl _ _) (hw▸hv)⟩
  ·exact hv.elim
 |succ f b9=>
  intro R listed t h a w hv U hw iC hL yi hn
  have FX:∀(fM:List jc) (i:Nat),(∀e∈fM,listed[e.i]?=some true)->∀e∈fM,(listed.setIfInBounds i true)[e.i]?=some true:= λfM i h e he=>by
   rw[Array.getElem?_setIfInBounds]
   split
   ·rename_i KG
    have:=h e he
    rw[<-KG]at this
    have cn:=(Array.getElem?_eq_some_iff.1 this).1
    simp[cn]
   ·exact h e he
  unfold vY at hv
  split at hv
  ·rename_i K1
   refine⟨λ_=>hn t a w U (cH.refl w) (gj.refl _ _) (hw▸hv),λi hi=>?_⟩
   rw[K1]at hi;cases hi
  ·rename_i b6
   split at hv
   ·rename_i i hp
    obtain⟨hmem,o,aw,arV,F6⟩:=Mm hp
    have Sp:ops.toArray[i]?=some o:=by simpa using aw
    have yz:listed[i]?=some false:=by
     have h0:=(mem_ready.1 hmem).1
     rcases Nat.lt_or_ge i listed.size with h'|h'
     ·simp[h']at h0⊢;exact h0
     ·simp[Array.getElem?_eq_none h']at h0
    have adj:=(Array.getElem?_eq_some_iff.1 yz).1
    unfold JU at hv
    simp only[aw]at hv
    obtain⟨t1,af,oy,hc⟩:=Kn U hv
    have CK:∀w:World,q9 P R i w:= λw e he I=>by
     have:=hL e he
     rw[I,yz]at this;cases this
    have go:∀v (fM:List jc) (uf:World->Prop),YieldsIf P ops.toArray uf o v a->uf w->(∀e∈fM,still P e h)->(∀e∈fM,(listed.setIfInBounds i true)[e.i]?=some true)->
     (∀k w,q9 P fM k w->if k=i then uf w else q9 P R k w)->
     put N t1 o.dst v (λaR=>vY P x N ops f fM (listed.setIfInBounds i true) aR h K)->
     vw P ops.toArray (rP ops) Q (f+1) (q9 P R) listed a w:=by
     intro v fM uf hy wF acn acm acr adO
     obtain⟨t2,h3,h4,aA⟩:=yV oy adO
     refine aqz Sp (Region.noSelect_spec Gp) (λL j hd ah hl=>aqk hd ah hl) (λc a w hq=>absurd hq (CI c _ w)) f (q9 P R) listed a w
      (Region.free_spec Sp F6) yi hmem hy wF (λk e he I=>by rw[hw];exact iC e he) CK ?_
     refine EF _ (q9 P fM) _ _ _ _ (λk w' I=>?_) (b9 fM _ t2 h _ w h3 h4 hw acn acm (yi.set hmem) λaR ay w' k1 k2 k3 k4=>hn aR ay w' k1 k2 (λn hm=>?_) k4)
     ·have:=acr k w' I
      by_cases Au:k=i
      ·simp only[Au,if_true]at this⊢;exact this
      ·simp only[Au,if_false]at this⊢;exact this
     ·exact(k3 n hm).trans ((aA n (TJ aw hm)).trans (af n))
    rcases hc with⟨kk,hc⟩|⟨kk,hc⟩
    ·rw[<-oy.eval]at hc
     split at hc
     ·rename_i ty eo qk
      obtain⟨b,off,adJ,h1⟩:=tN hc
      obtain⟨v,h2,h3⟩:=af0 (P:=P) h1
      refine go v (⟨i,ty,b,off,v⟩::R) (λw=>still P ⟨i,ty,b,off,v⟩ w.heap) (.inl ⟨kk,λw' hs=>?_⟩) (by rw[hw];exact(h3 i).1) ?_ ?_ ?_ h2
      ·have:=(h3 i).2 w' hs
       rw[execOp,qk]
       simp[adJ,this]
      ·intro e he
       cases he with
       |head=>exact(h3 i).1
       |tail _ he=>exact iC e he
      ·intro e he
       cases he with
       |head=>simp[adj]
       |tail _ he=>exact FX R i hL e he
      ·intro k w' I
       split
       ·rename_i Au;exact I _ (by simp) Au.symm
       ·exactλe he tx=>I e (by simp[he]) tx
     ·split at hc
      ·exact hc.elim
      ·rename_i adB
       obtain⟨v,h1,h2⟩:=ajH (P:=P) (o:=o) adB hc
       refine go v R (λ_=>True) (.inl ⟨kk,λw' _=>h2 w'⟩) trivial iC (FX R i hL) (λk w' I=>?_) h1
       split
       ·trivial
       ·exact I
    ·refine go undef R (λ_=>True) (.inr ⟨kk,rfl⟩) trivial iC (FX R i hL) (λk w' I=>?_) hc
     split
     ·trivial
     ·exact I
   ·refine⟨λadT=>(b6 adT).elim,λi hi=>?_⟩
    have hb:=Ox hv i hi
    unfold QA at hb
    unfold wpOp
    split at hb
    ·rename_i o aw
     simp only[List.getElem?_toArray,aw]
     obtain⟨t1,af,oy,hc⟩:=Kn U hb
     have fin:∀(t2:Env) (v:Value) (w':World),Rel N t2 (a.put o.dst v)->cH w w'->(∀n,o.dst≠some n->t2 n=t1 n)->(∀e∈o4 ops i R,still P e w'.heap)->
      vY P x N ops f (o4 ops i R) (listed.setIfInBounds i true) t2 w'.heap K->
      (∀k,x3 (rP ops) i (q9 P R) k w')/\vw P ops.toArray (rP ops) Q f (x3 (rP ops) i (q9 P R)) (listed.setIfInBounds i true) (a.put o.dst v) w':=by
      intro t2 v w' h3 hs aA aU h4
      refine⟨λk=>Xa aU,EF _ (q9 P (o4 ops i R)) _ _ _ _ (λk w2 I=>?_) (b9 _ _ t2 _ _ w' h4 h3 rfl aU (FX _ i λe he=>hL e (Ci he)) (yi.set hi) λaR ay w2 k1 k2 k3 k4=>hn aR ay w2 k1 (hs.trans k2) (λn hm=>?_) k4)⟩
      ·cases Gy:rP ops i k with
       |true=>exact .inl Gy
       |false=>
        refine .inr λe he tx=>?_
        rcases JR (ops:=ops) (j:=i) he with h1|h1
        ·rw[tx,Gy]at h1;cases h1
        ·exact I e h1 tx
      ·exact(k3 n hm).trans ((aA n (TJ aw hm)).trans (af n))
     rcases hc with⟨kk,hc⟩|⟨kk,hc⟩
     ·rw[if_pos kk]
      refine .inl ?_
      rw[<-oy.eval]at hc
      cases KT:GH o.op with
      |true=>
       simp only[KT]at hc
       refine J2 (P:=P) (abc KT hc) hw λv w' hs I=>?_
       obtain⟨pc,ase,adG⟩:=I
       obtain⟨t2,h3,h4,aA⟩:=yV oy pc
       exact fin t2 v w' h4 hs aA (λe he=>by rw[adG];exact alh (iC e (Ci he))) h3
      |false=>
       simp only[KT]at hc
       refine J2 (P:=P) hc hw λv w' hs I=>?_
       obtain⟨pc,bD⟩:=VO I
       obtain⟨t2,h3,h4,aA⟩:=yV oy pc
       exact fin t2 v w' h4 hs aA bD h3
     ·rw[if_neg (by simp[kk])]
      obtain⟨t2,h3,h4,aA⟩:=yV oy hc
      exact fin t2 undef w h4 (cH.refl w) aA (λe he=>by rw[hw];exact iC e (Ci he)) (by rw[hw];exact h3)
    ·exact hb.elim
theorem aay {exact:Nat->hI} {N:Nat}:NV P N (JQ P exact N):=by
 intro id ops t h K a w Q hv U hw CI hn
 unfold JQ at hv
 split at hv
 ·rename_i hm hs
  refine wp_region_any hm (WK (wt:=rP ops) _ (q9 P []) _ a _ ?_)
  have:=aaF (P:=P) (Q:=Q) hs CI ops.length [] (Array.replicate ops.length false) t h a {w with drawn:=w.drawn+1} hv U hw (λe he=>by cases he) (λe he=>by cases he) rY.none λaR ay w' k1 k2 k3 k4=>hn aR ay w' k1 ⟨k2.os,k2.tape,k2.output,Nat.le_trans (Nat.le_succ _) k2.drawn⟩ k3 k4
  simpa using this
 ·exact hv.elim
end Go.Vc
