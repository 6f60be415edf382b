import Derived.Deep.LoopGhost
import Derived.Test.YtjlkfjnfnonekaaGreatDoorVcEf
set_option linter.all false
namespace Go.Vc
inductive EN where
 |normal
 |exit (id:Nat)
 |ret
inductive jH where
 |int (k:IntKind)
 |bool
 |ptr
 |slice
 |str
 |any
def kW (A:Type):List (Nat×jH)->Type
 |[]=>J->A
 |(_, .int _)::r=>Int->kW A r
 |(_, .bool)::r=>Bool->kW A r
 |(_, .ptr)::r=>Option Addr->kW A r
 |(_, .slice)::r=>Option Addr->Nat->Nat->kW A r
 |(_, .str)::r=>ByteArray->kW A r
 |(_, .any)::r=>Value->kW A r
def tl:(gh:List (Nat×jH))->kW Nat gh
 |[]=> λ_=>0
 |(_, .int _)::r=> λ_=>tl r
 |(_, .bool)::r=> λ_=>tl r
 |(_, .ptr)::r=> λ_=>tl r
 |(_, .slice)::r=> λ_ _ _=>tl r
 |(_, .str)::r=> λ_=>tl r
 |(_, .any)::r=> λ_=>tl r
def nh:(gh:List (Nat×jH))->kW Prop gh->Env->J->Prop
 |[],dC,_,h=>dC h
 |(n, .int k)::r,dC,t,h=>match t n with| .int k' x=>(match yF k' k with|true=>nh r (dC x) t h|false=>False)|_=>False
 |(n, .bool)::r,dC,t,h=>match t n with| .bool x=>nh r (dC x) t h|_=>False
 |(n, .ptr)::r,dC,t,h=>match t n with| .pointer x=>nh r (dC x) t h|_=>False
 |(n, .slice)::r,dC,t,h=>match t n with| .slice x l c=>nh r (dC x l c) t h|_=>False
 |(n, .str)::r,dC,t,h=>match t n with| .string x=>nh r (dC x) t h|_=>False
 |(n, .any)::r,dC,t,h=>nh r (dC (t n)) t h
def kG:(gh:List (Nat×jH))->kW Prop gh->kW Nat gh->Env->J->Nat->Prop
 |[],dC,m,_,h,cp=>dC h/\m h<cp
 |(n, .int k)::r,dC,m,t,h,cp=>match t n with| .int k' x=>(match yF k' k with|true=>kG r (dC x) (m x) t h cp|false=>False)|_=>False
 |(n, .bool)::r,dC,m,t,h,cp=>match t n with| .bool x=>kG r (dC x) (m x) t h cp|_=>False
 |(n, .ptr)::r,dC,m,t,h,cp=>match t n with| .pointer x=>kG r (dC x) (m x) t h cp|_=>False
 |(n, .slice)::r,dC,m,t,h,cp=>match t n with| .slice x l c=>kG r (dC x l c) (m x l c) t h cp|_=>False
 |(n, .str)::r,dC,m,t,h,cp=>match t n with| .string x=>kG r (dC x) (m x) t h cp|_=>False
 |(n, .any)::r,dC,m,t,h,cp=>kG r (dC (t n)) (m (t n)) t h cp
def tk:(gh:List (Nat×jH))->kW Prop gh->kW Nat gh->Env->(Env->J->Nat->Prop)->Prop
 |[],dC,m,E,B=>∀h,dC h->B E h (m h)
 |(n, .int k)::r,dC,m,E,B=>∀x:Int,tk r (dC x) (m x) (jO E n (.int k x)) B
 |(n, .bool)::r,dC,m,E,B=>∀x:Bool,tk r (dC x) (m x) (jO E n (.bool x)) B
 |(n, .ptr)::r,dC,m,E,B=>∀x:Option Addr,tk r (dC x) (m x) (jO E n (.pointer x)) B
 |(n, .slice)::r,dC,m,E,B=>∀(x:Option Addr) (l c:Nat),tk r (dC x l c) (m x l c) (jO E n (.slice x l c)) B
 |(n, .str)::r,dC,m,E,B=>∀x:ByteArray,tk r (dC x) (m x) (jO E n (.string x)) B
 |(n, .any)::r,dC,m,E,B=>∀x:Value,tk r (dC x) (m x) (jO E n x) B
def guarded (ops:List Oper) (g:Option (Nat×Bool)) (t:Env) (run skip:Env->Prop):Prop:=
 match g with
 |none=>run t
 |some (j,want)=>match ops[j]?with
  |some jK=>match jK.dst with
   |some d=>match t d with
    | .bool b=>match want with
     |true=>ec b (run (jO t d (.bool true))) (skip (jO t d (.bool false)))
     |false=>ec b (skip (jO t d (.bool true))) (run (jO t d (.bool false)))
    | .tuple _=>skip t
    |_=>False
   |none=>skip t
  |none=>skip t
def Me (P:Program) (x:hI) (N:Nat) (ops:List Oper) (o:Oper) (t:Env) (h:J) (K:Env->J->Prop):Prop:=
 guarded ops o.guard t
  (λt=>match Lp P o.op with
    |true=>MG P x (jh t) o.op h λv=>put N t o.dst v λaR=>K aR h
    |false=>fO P x (jh t) o.op o.type h λv h'=>put N t o.dst v λaR=>K aR h')
  (λt=>put N t o.dst undef λaR=>K aR h)
def A8 (P:Program) (x:hI) (N:Nat) (ops:List Oper):List Oper->Env->J->(Env->J->Prop)->Prop
 |[],t,h,K=>K t h
 |o::r,t,h,K=>Me P x N ops o t h λt h=>A8 P x N ops r t h K
def km (n:Nat):List Nat->Bool
 |[]=>false
 |m::r=>match Nat.beq n m with|true=>true|false=>km n r
def lx:List Oper->List Nat
 |[]=>[]
 |o::r=>match o.dst with|some d=>d::lx r|none=>lx r
def oo:Code->List Nat
 | .region _ ops _=>lx ops.toList
 | .seq a b=>oo a++oo b
 | .cond _ a b=>oo a++oo b
 | .block _ b=>oo b
 | .loop b=>oo b
 |_=>[]
def gW (ds:List Nat) (u t:Env):Env:= λn=>bif km n ds then u n else t n
def xk (ds:List Nat):List (Nat×jH)->Bool
 |[]=>true
 |(n,_)::r=>match km n ds with|true=>xk ds r|false=>false
def HP (P:Program) (x:hI) (N:Nat) (ops:List Oper):List (Nat×List (Nat×jH))->List Oper->Env->J->(Env->J->Prop)->Prop
 |[],l,t,h,K=>A8 P x N ops l t h K
 |(n,gh)::r,l,t,h,K=>match xk (lx (l.take n)) gh with
  |true=>∃i7:kW Prop gh,A8 P x N ops (l.take n) t h (λt h=>nh gh i7 t h)/\
   ∀u:Env,tk gh i7 (tl gh) (gW (lx (l.take n)) u t) λt h _=>HP P x N ops r (l.drop n) t h K
  |false=>False
def T6 (a b:Option Nat):Option Nat:=match a with|none=>b|some n=>some n
def ya:Code->Option Nat
 | .region id _ _=>some id
 | .seq a b=>T6 (ya a) (ya b)
 | .cond _ a b=>T6 (ya a) (ya b)
 | .block _ b=>ya b
 | .loop b=>ya b
 |_=>none
structure zn where
 exact:Nat->hI
 loop:Nat->List (Nat×jH)
 cut:Nat->Option (List (Nat×jH))
 Bh:Nat->List (Nat×List (Nat×jH))
 drawn:(id:Nat)->(ops:List Oper)->Env->J->(Env->J->Prop)->Prop
def aam (A:zn) (b:Code):Option (List (Nat×jH)):=match ya b with|some id=>A.cut id|none=>none
def kS (P:Program) (N:Nat) (A:zn):Code->Nat->(EN->Env->J->Prop)->Env->J->Prop
 | .skip,_,Q,t,h=>Q .normal t h
 | .region id ops d,_,Q,t,h=>match d with
  |false=>HP P (A.exact id) N ops.toList (A.Bh id) ops.toList t h (Q .normal)
  |true=>A.drawn id ops.toList t h (Q .normal)
 | .seq a b,cur,Q,t,h=>match aam A b with
  |none=>kS P N A a cur (λe t h=>match e with| .normal=>kS P N A b cur Q t h|e=>Q e t h) t h
  |some gh=>match xk (oo a) gh with
   |true=>∃i7:kW Prop gh,kS P N A a cur (λe t h=>match e with| .normal=>nh gh i7 t h|e=>Q e t h) t h/\
    ∀u:Env,tk gh i7 (tl gh) (gW (oo a) u t) λt h _=>kS P N A b cur Q t h
   |false=>False
 | .cond c a b,cur,Q,t,h=>match jh t c with
  | .bool x=>ec x (kS P N A a cur Q t h) (kS P N A b cur Q t h)
  |_=>False
 | .block id b,_,Q,t,h=>kS P N A b id (λe t h=>match e with| .exit k=>(match Nat.beq k id with|true=>Q .normal t h|false=>Q (.exit k) t h)|e=>Q e t h) t h
 | .exit id,_,Q,t,h=>Q (.exit id) t h
 | .ret,_,Q,t,h=>Q .ret t h
 | .loop b,cur,Q,t,h=>match xk (oo b) (A.loop cur)with
  |true=>∃(dC:kW Prop (A.loop cur)) (m:kW Nat (A.loop cur)),nh (A.loop cur) dC t h/\
   ∀u:Env,tk (A.loop cur) dC m (gW (oo b) u t) λt h n=>
    kS P N A b cur (λe t h=>match e with| .normal=>kG (A.loop cur) dC m t h n|e=>Q e t h) t h
  |false=>False
 |_,_,_,_,_=>False
def D3 (P:Program) (rs:List ResultVar) (t:Env) (h:J) (K:List Value->Prop):Prop:=
 match rs with
 |[]=>K []
 | .tmp n::r=>du (t n) λv=>D3 P r t h λvs=>K (v::vs)
 | .cell a T::r=>pr (t a) λb o=>yG P T h b o λv=>D3 P r t h λvs=>K (v::vs)
def pack (vs:List Value):Value:=match vs with|[v]=>v|vs=> .tuple vs.toArray
def GG (args:List Value):Env:= λn=>match args[n]?with|some v=>v|none=>undef
def Cu (P:Program) (A:zn) (fn:Func) (c:Code) (args:List Value) (h:J) (Post:Value->J->Prop):Prop:=
 kS P fn.ntmps A c 0 (λe t h=>match e with
  | .exit _=>False
  |_=>D3 P fn.results.toList t h λvs=>Post (pack vs) h) (GG args) h
end Go.Vc
