import Derived.WalkKit
import Derived.Deep.Quiet
set_option linter.all false
namespace Go.Vc
abbrev J:=Array Obj
abbrev Env:=Nat->Value
def cell (h:J) (b o:Nat):Option Value:=
 match h[b]?with
 |some (.cells c _ _)=>c[o]?
 |_=>none
def wr (h:J) (b o:Nat):Prop:=∃c e cw hi,h[b]?=some (.cells c e (cw,hi))/\o<c.size/\¬(cw<=o/\o<hi)
def b3 (h:J) (b o:Nat) (v:Value):J:=h.modify b λ
 | .cells c e f=> .cells (c.setIfInBounds o v) e f
 |x=>x
def bm (h:J) (b o:Nat):List Value->J
 |[]=>h
 |v::vs=>bm (b3 h b o v) b (o+1) vs
def row (h:J) (b o:Nat):Nat->Option (List Value)
 |0=>some []
 |n+1=>match cell h b o,row h b (o+1) n with
  |some v,some r=>some (v::r)
  |_,_=>none
structure cH (w w':World):Prop where
 os:w'.os=w.os
 tape:w'.tape=w.tape
 output:w'.output=w.output
 drawn:w.drawn<=w'.drawn
theorem cH.refl (w:World):cH w w:=⟨rfl,rfl,rfl,Nat.le_refl _⟩
theorem cH.trans {a b c:World} (h:cH a b) (k:cH b c):cH a c:=⟨k.os.trans h.os,k.tape.trans h.tape,k.output.trans h.output,Nat.le_trans h.drawn k.drawn⟩
def aj (P:Program) (f:FuncId) (args:Array Value) (h:J) (Post:Value->J->Prop):Prop:=
 ∀w:World,w.heap=h->Calls P f args w λe w'=>∃v,e= .returned v/\Post v w'.heap/\cH w w'
theorem aj.mono {P:Program} {f:FuncId} {args:Array Value} {h:J} {Post N5:Value->J->Prop} (U:aj P f args h Post)
 (hp:∀v h',Post v h'->N5 v h'):aj P f args h N5:=
 λw hw=>(U w hw).mono λ_ _ ⟨v,e,p,s⟩=>⟨v,e,hp _ _ p,s⟩
def jO (t:Env) (d:Nat) (v:Value):Env:= λn=>bif Nat.beq n d then v else t n
def du (v:Value) (K:Value->Prop):Prop:=K v
def eL (l:List Value) (K:List Value->Prop):Prop:=K l
def eM (n:Nat) (K:Nat->Prop):Prop:=K n
def ic (n:Int) (K:Int->Prop):Prop:=K n
def iI (t:Env) (d:Nat) (v:Value) (K:Env->Prop):Prop:=K (jO t d v)
def put (N:Nat) (t:Env) (dst:Option Nat) (v:Value) (K:Env->Prop):Prop:=
 match dst with
 |none=>K t
 |some d=>match Nat.blt d N with
  |true=>iI t d v K
  |false=>False
def jh (t:Env):Operand->Value
 | .tmp n=>t n
 | .const v=>v
 | .global g=> .pointer (some ⟨g,0,none⟩)
 | .func f=> .func (.func f) #[] #[]
def ec (b:Bool) (x y:Prop):Prop:=match b with|true=>x|false=>y
theorem bH {b:Bool} {x y:Prop} (hx:b=true->x) (hy:b=false->y):ec b x y:=by
 cases b
 ·exact hy rfl
 ·exact hx rfl
theorem aC {p:Prop} [Decidable p] {x y:Prop} (hx:p->x) (hy:¬p->y):ec (decide p) x y:=by
 by_cases h:p
 ·rw[show decide p=true by simp[h]];exact hx h
 ·rw[show decide p=false by simp[h]];exact hy h
theorem df {b:Bool} {x y:Prop} (h:b=true) (hx:x):ec b x y:=by subst h;exact hx
theorem aZ {b:Bool} {x y:Prop} (h:b=false) (hy:y):ec b x y:=by subst h;exact hy
theorem fB {p:Prop} [Decidable p] {x y:Prop} (h:p) (hx:x):ec (decide p) x y:=aC (λ_=>hx) (λk=>absurd h k)
theorem bF {p:Prop} [Decidable p] {x y:Prop} (h:¬p) (hy:y):ec (decide p) x y:=aC (λk=>absurd k h) (λ_=>hy)
def eu (p:Option Addr) (K:Nat->Nat->Prop):Prop:=
 match p with
 |some ⟨b,o,none⟩=>K b o
 |_=>False
theorem sM {p:Option Addr} {b o:Nat} {K:Nat->Nat->Prop} (hp:p=some ⟨b,o,none⟩) (h:K b o):eu p K:=by subst hp;exact h
def pr (v:Value) (K:Nat->Nat->Prop):Prop:=
 match v with
 | .pointer p=>eu p K
 |_=>False
def fits (k:IntKind) (n:Int):Prop:=
 match k with
 | .i8=>-128<=n/\n<=127
 | .i16=>-32768<=n/\n<=32767
 | .i32=>-2147483648<=n/\n<=2147483647
 | .i64=>-9223372036854775808<=n/\n<=9223372036854775807
 | .u8=>0<=n/\n<=255
 | .u16=>0<=n/\n<=65535
 | .u32=>0<=n/\n<=4294967295
 | .u64=>0<=n/\n<=18446744073709551615
def nW (k:IntKind):Nat:=
 match k with
 | .i8=>8| .u8=>8| .i16=>16| .u16=>16| .i32=>32| .u32=>32| .i64=>64| .u64=>64
def yF (a b:IntKind):Bool:=
 match a,b with
 | .i8, .i8=>true| .i16, .i16=>true| .i32, .i32=>true| .i64, .i64=>true
 | .u8, .u8=>true| .u16, .u16=>true| .u32, .u32=>true| .u64, .u64=>true
 |_,_=>false
def arith (x:Bool) (k:IntKind) (e:Int) (K:Value->Prop):Prop:=
 match x with
 |true=>fits k e/\K (.int k e)
 |false=>K (.int k (k.wrap e))
def dU (n:Int):Int:=2^n.toNat
def Dn (x:Bool) (op:BinOp) (k:IntKind) (m n:Int) (K:Value->Prop):Prop:=
 match op with
 | .add=>arith x k (m+n) K
 | .sub=>arith x k (m -n) K
 | .mul=>arith x k (m*n) K
 | .quo=>match x with
  |true=>(0<=m/\0<n/\fits k (m/n))/\K (.int k (m/n))
  |false=>n≠0/\K (.int k (k.wrap (m.tdiv n)))
 | .rem=>match x with
  |true=>(0<=m/\0<n)/\K (.int k (m%n))
  |false=>n≠0/\K (.int k (m.tmod n))
 | .and=>K (.int k (bits .and k m n))
 | .or=>K (.int k (bits .or k m n))
 | .xor=>K (.int k (bits .xor k m n))
 | .andNot=>K (.int k (bits .andNot k m n))
 | .eql=>K (.bool (decide (m=n)))
 | .neq=>K (.bool (!decide (m=n)))
 | .lss=>K (.bool (decide (m<n)))
 | .leq=>K (.bool (decide (m<=n)))
 | .gtr=>K (.bool (decide (n<m)))
 | .geq=>K (.bool (decide (n<=m)))
 |_=>False
def Bl (x:Bool) (op:BinOp) (k:IntKind) (m n:Int) (K:Value->Prop):Prop:=
 match op with
 | .shl=>(0<=n/\n<=nW k)/\ic (dU n) λp=>arith x k (m*p) K
 | .shr=>(0<=n/\n<=nW k)/\ic (dU n) λp=>K (.int k (m/p))
 |_=>False
def ph (p:Option Addr):Bool:=match p with|none=>true|some _=>false
def sz (P:Program) (t:TypeId):Nat:=match P.info? t with|some i=>i.size|none=>0
def hM (P:Program) (t:TypeId):Bool:=match P.info? t with|some _=>true|none=>false
def vJ (P:Program) (t:TypeId) (xs ys:Array Value) (K:Bool->Prop):Prop:=
 match P.underlying t with
 |some (.array n e)=>match P.underlying e,P.eqGuardType P.depth t with
  |some (.int k),false=>match Nat.beq (sz P e) 1,hM P e with
   |true,true=>∃l r:List Int,xs.toList=l.map (Value.int k)/\ys.toList=r.map (Value.int k)/\(l.length=n/\r.length=n)/\K (decide (l=r))
   |_,_=>False
  |_,_=>False
 |_=>False
def pS (P:Program) (x:Bool) (op:BinOp) (t:TypeId) (a b:Value) (K:Value->Prop):Prop:=
 match a,b with
 | .int k m, .int k' n=>match op with
  | .shl=>Bl x .shl k m n K
  | .shr=>Bl x .shr k m n K
  |op=>match yF k k' with|true=>Dn x op k m n K|false=>False
 | .bool m, .bool n=>match P.underlying t,op with
  |some .bool, .eql=>K (.bool (m==n))
  |some .bool, .neq=>K (.bool (!(m==n)))
  |_,_=>False
 | .string m, .string n=>match op with
  | .add=>((m.size+n.size:Nat):Int)<=9223372036854775807/\K (.string (m++n))
  | .eql=>K (.bool (m.toList==n.toList))
  | .neq=>K (.bool (!(m.toList==n.toList)))
  |_=>False
 | .pointer p, .pointer none=>match P.underlying t,op with
  |some (.pointer _), .eql=>K (.bool (ph p))
  |some (.pointer _), .neq=>K (.bool (!ph p))
  |_,_=>False
 | .slice p _ _, .slice none _ _=>match P.underlying t,op with
  |some (.slice _), .eql=>K (.bool (ph p))
  |some (.slice _), .neq=>K (.bool (!ph p))
  |_,_=>False
 | .agg xs, .agg ys=>match op with
  | .eql=>vJ P t xs ys λc=>K (.bool c)
  | .neq=>vJ P t xs ys λc=>K (.bool (!c))
  |_=>False
 |_,_=>False
def pg (c:Bool) (a b:Value):Option Bool:=
 match a,b with
 | .nilIface, .nilIface=>match c with|true=>some true|false=>none
 | .nilIface, .iface _ _=>some false
 | .iface _ _, .nilIface=>some false
 |_,_=>none
def Dr (m:Option Nat):Bool:=match m with|none=>true|some _=>false
def GU (a b:Value):Option Bool:=match a,b with| .map m, .map none=>some (Dr m)|_,_=>none
def isConst:Operand->Bool| .const _=>true|_=>false
def sa (P:Program) (x:Bool) (op:BinOp) (t:TypeId) (iJ iK:Operand) (a b:Value) (K:Value->Prop):Prop:=
 match P.underlying t with
 |some (.interface _)=>match op with
  | .eql=>∃c:Bool,pg (isConst iJ||isConst iK) a b=some c/\K (.bool c)
  | .neq=>∃c:Bool,pg (isConst iJ||isConst iK) a b=some c/\K (.bool (!c))
  |_=>False
 |some (.map _ _)=>match op with
  | .eql=>∃c:Bool,GU a b=some c/\K (.bool c)
  | .neq=>∃c:Bool,GU a b=some c/\K (.bool (!c))
  |_=>False
 |_=>pS P x op t a b K
def DS (h:J) (b:Nat):Bool:=match h[b]?with|some (.cells _ _ (cw,hi))=>Nat.beq cw 0&&Nat.beq hi 0|_=>false
def D8 (h:J) (p q:Addr):Option Bool:=if p=q then some true else match DS h p.block&&DS h q.block with|true=>some false|false=>none
def DU (P:Program) (u:TypeId):Bool:=match P.underlying u with
 |some (.pointer e)=>(match P.info? u with|some i=>i.comparable|none=>false)&&(match P.info? e with|some j=>!Nat.beq j.size 0|none=>false)
 |_=>false
def qt (P:Program) (h:J) (c:Bool) (a b:Value):Option Bool:=
 match a,b with
 | .iface u x, .iface v y=>match Nat.beq u v with
  |false=>some false
  |true=>match DU P u,x,y with
   |true, .pointer (some p), .pointer (some q)=>D8 h p q
   |_,_,_=>none
 |a,b=>pg c a b
def isIf (P:Program) (t:TypeId):Bool:=match P.underlying t with|some (.interface _)=>true|_=>false
def Pu (P:Program) (op:BinOp) (iJ iK:Operand) (a b:Value) (h:J) (K:Value->Prop):Prop:=
 match op with
 | .eql=>∃c:Bool,qt P h (isConst iJ||isConst iK) a b=some c/\K (.bool c)
 | .neq=>∃c:Bool,qt P h (isConst iJ||isConst iK) a b=some c/\K (.bool (!c))
 |_=>False
def afo (P:Program) (t:TypeId):Bool:=match P.underlying t with|some (.pointer _)=>true|_=>false
def ptrEq (h:J) (a b:Option Addr):Option Bool:=
 match b with
 |none=>some (ph a)
 |some q=>match a with|none=>some false|some p=>D8 h p q
def Pv (P:Program) (op:BinOp) (t:TypeId) (a b:Value) (h:J) (K:Value->Prop):Prop:=
 match a,b with
 | .pointer p, .pointer q=>match DU P t,op with
  |true, .eql=>∃c:Bool,ptrEq h p q=some c/\K (.bool c)
  |true, .neq=>∃c:Bool,ptrEq h p q=some c/\K (.bool (!c))
  |_,_=>False
 |_,_=>False
def Bx (x:Bool) (op:UnOp) (a:Value) (K:Value->Prop):Prop:=
 match op,a with
 | .not, .bool b=>K (.bool (!b))
 | .neg, .int k n=>arith x k (0 -n) K
 | .xor, .int k n=>K (.int k (bits .xor k (if k.signed then-1 else k.max) n))
 |_,_=>False
def xZ (P:Program) (x:Bool) (s d:TypeId) (a:Value) (K:Value->Prop):Prop:=
 match P.underlying s,P.underlying d,a with
 |some (.int _),some (.int k), .int _ n=>arith x k n K
 |_,_,_=>False
def qC (s n:Nat):Nat:=match s with|1=>n|s=>n*s
theorem GZ {n:Nat}:qC 1 n=n:=rfl
theorem GY {n:Nat}:qC 0 n=n*0:=rfl
theorem G0 {k n:Nat}:qC (k+2) n=n*(k+2):=rfl
def x8 (P:Program) (t:TypeId) (f:Nat) (K:Nat->TypeId->Prop):Prop:=
 match P.underlying t with
 |some (.struct ki)=>match ki[f]?with
  |some fd=>match hM P fd.type,sz P fd.type with
   |true,_+1=>eM fd.offset λoff=>K off fd.type
   |_,_=>False
  |none=>False
 |_=>False
def one (d:TypeDesc) (c:Option Value) (K:Value->Prop):Prop:=
 match d with
 | .int k=>∃n:Int,c=some (.int k n)/\K (.int k n)
 | .bool=>∃b:Bool,c=some (.bool b)/\K (.bool b)
 | .pointer _=>∃p:Option Addr,c=some (.pointer p)/\K (.pointer p)
 | .slice _=>∃(p:Option Addr) (l m:Nat),c=some (.slice p l m)/\K (.slice p l m)
 | .string=>∃s:ByteArray,c=some (.string s)/\K (.string s)
 |_=>∃v:Value,c=some v/\K v
def yG (P:Program) (t:TypeId) (h:J) (b o:Nat) (K:Value->Prop):Prop:=
 match P.underlying t with
 |some (.struct _)|some (.array _ _)=>match hM P t with
  |true=>eM (sz P t) λn=>∃cs:List Value,row h b o n=some cs/\K (.agg cs.toArray)
  |false=>False
 |some d=>one d (cell h b o) K
 |none=>False
def rb (P:Program) (t:TypeId) (a:Value) (off:Nat) (K:Value->Prop):Prop:=
 match a with
 | .agg cs=>match P.underlying t with
  |some (.struct _)|some (.array _ _)=>match hM P t with
   |true=>eM (sz P t) λn=>eL ((cs.toList.drop off).take n) λl=>K (.agg l.toArray)
   |false=>False
  |some d=>one d (cs.toList[off]?) K
  |none=>False
 |_=>False
def en (a:Option Addr) (l cap n:Nat):Option Addr:=if cap=l then a else a.map (·.add n)
def DC (cw:Option Value) (K:Int->Prop):Prop:=match cw with|none=>K 0|some (.int _ n)=>K n|_=>False
def oJ (P:Program) (t:TypeId) (v:Value) (cw hi:Option Value) (K:Value->Prop):Prop:=
 match P.underlying t,v with
 |some (.slice e), .slice a len cap=>match hM P e with
  |true=>DC cw λl=>match hi with
   |none=>(0<=l/\l<=(len:Int))/\eM (sz P e) λz=>K (.slice (en a l.toNat cap (l.toNat*z)) (len -l.toNat) (cap -l.toNat))
   |some (.int _ m)=>(0<=l/\l<=m/\m<=(cap:Int))/\eM (sz P e) λz=>K (.slice (en a l.toNat cap (l.toNat*z)) (m.toNat -l.toNat) (cap -l.toNat))
   |_=>False
  |false=>False
 |some (.array n e), .pointer p=>match hM P e,cw,hi with
  |true,none,none=>eu p λb o=>K (.slice (some ⟨b,o,none⟩) n n)
  |_,_,_=>False
 |some .string, .string s=>DC cw λl=>match hi with
  |none=>(0<=l/\l<=(s.size:Int))/\K (.string (s.extract l.toNat s.size))
  |some (.int _ m)=>(0<=l/\l<=m/\m<=(s.size:Int))/\K (.string (s.extract l.toNat m.toNat))
  |_=>False
 |_,_=>False
def xj (P:Program) (t:TypeId) (v:Value) (cw hi:Option Value) (po:Value) (K:Value->Prop):Prop:=
 match P.underlying t,v with
 |some (.slice e), .slice a len cap=>match hM P e with
  |true=>DC cw λl=>match hi,po with
   |some (.int _ m), .int _ x=>(0<=l/\l<=m/\m<=x/\x<=(cap:Int))/\eM (sz P e) λz=>K (.slice (en a l.toNat x.toNat (l.toNat*z)) (m.toNat -l.toNat) (x.toNat -l.toNat))
   |_,_=>False
  |false=>False
 |_,_=>False
def yJ (a b:Value) (K:Value->Prop):Prop:=
 match a,b with
 | .int k m, .int k' n=>(match yF k k' with|true=>K (.int k (min m n))|false=>False)
 |_,_=>False
def yL (a b:Value) (K:Value->Prop):Prop:=
 match a,b with
 | .int k m, .int k' n=>(match yF k k' with|true=>K (.int k (max m n))|false=>False)
 |_,_=>False
def s6 (P:Program) (b:Builtin) (ts:List TypeId) (vs:List Value) (K:Value->Prop):Prop:=
 match b,ts,vs with
 | .len,[t],[v]=>match P.underlying t,v with
  |some (.slice _), .slice _ n _=>K (.int .i64 (n:Nat))
  |some .string, .string s=>K (.int .i64 (s.size:Nat))
  |some (.array n _),_=>K (.int .i64 (n:Nat))
  |_,_=>False
 | .cap,[t],[v]=>match P.underlying t,v with
  |some (.slice _), .slice _ _ n=>K (.int .i64 (n:Nat))
  |_,_=>False
 | .min,_,[a,b]=>yJ a b K
 | .max,_,[a,b]=>yL a b K
 |_,_,_=>False
structure hI where
 ex:Bool
 nm:Bool
def DL (nm:Bool) (v:Value) (K:Value->Prop):Prop:=
 match nm with
 |false=>K v
 |true=>match v with
  | .int k e=>∀x:Int,x=e->K (.int k x)
  |v=>K v
def Nf (s:ByteArray) (i:Nat):Int:=((s.data.toList.getD i 0).toNat:Int)
def DO (v:Value) (X:Prop):Prop:=
 match v with
 | .agg _=>False
 | .tuple _=>False
 | .int _ _=>X
 | .bool _=>X
 | .pointer _=>X
 | .slice _ _ _=>X
 | .string _=>X
 | .func _ _ _=>X
 | .nilFunc=>X
 | .nilIface=>X
 | .iface _ _=>X
 | .map _=>X
 |_=>X
def lay (P:Program):List Field->Nat->Option (List Nat)
 |[],_=>some []
 |f::r,o=>match Nat.beq f.offset o,hM P f.type,lay P r (o+sz P f.type)with
  |true,true,some l=>some (sz P f.type::l)
  |_,_,_=>none
def ze:List Nat->List Value->List (List Value)
 |[],_=>[]
 |n::r,l=>l.take n::ze r (l.drop n)
def kP:List Nat->Nat
 |[]=>0
 |n::r=>n+kP r
def cX:List (List Value)->List Value
 |[]=>[]
 |a::r=>a++cX r
def gV (ch:List (List Value)) (K:List Value->Prop):Prop:=K (cX ch)
def w6 (n:Nat) (v:Value) (K:List Value->Prop):Prop:=
 match v with
 | .agg cs=>eM n λm=>cs.toList.length=m/\eL cs.toList K
 |v=>match n with
  |1=>DO v (du v λv=>K [v])
  |_=>False
def sP (sizes:List Nat):List (Nat×Value)->List (List Value)->(List (List Value)->Prop)->Prop
 |[],ch,K=>K ch
 |(i,v)::r,ch,K=>match sizes[i]?with
  |some n=>w6 n v λcs=>sP sizes r (ch.set i cs) K
  |none=>False
def zK (P:Program) (t:TypeId) (parts:List (Nat×Value)) (K:Value->Prop):Prop:=
 match P.info? t,P.underlying t with
 |some it,some (.struct ki)=>match it.zero,lay P ki.toList 0 with
  |some z,some sizes=>match Nat.beq z.cells.toList.length (kP sizes)with
   |true=>sP sizes parts (ze sizes z.cells.toList) λch=>gV ch λl=>K (.agg l.toArray)
   |false=>False
  |_,_=>False
 |some it,some (.array n e)=>match it.zero,hM P e with
  |some z,true=>match Nat.beq z.cells.toList.length (kP (List.replicate n (sz P e)))with
   |true=>sP (List.replicate n (sz P e)) parts (ze (List.replicate n (sz P e)) z.cells.toList) λch=>gV ch λl=>K (.agg l.toArray)
   |false=>False
  |_,_=>False
 |_,_=>False
def mZ (P:Program) (t:TypeId) (K:Value->Prop):Prop:=
 match P.underlying t with
 |some (.int k)=>∃n:Int,K (.int k n)
 |some .bool=>∃b:Bool,K (.bool b)
 |some (.pointer _)=>∃p:Option Addr,K (.pointer p)
 |some (.slice _)=>∃(p:Option Addr) (l m:Nat),K (.slice p l m)
 |some .string=>∃s:ByteArray,K (.string s)
 |some (.struct _)=>∃cs:List Value,K (.agg cs.toArray)
 |some (.array _ _)=>∃cs:List Value,K (.agg cs.toArray)
 |_=>∃v:Value,K v
def zeroOf (P:Program) (t:TypeId):Option Value:=match P.info? t with|some i=>i.zero|none=>none
def Fc (P:Program) (T:TypeId) (v:Value):Option (Value×Bool):=
 match v with
 | .iface u x=>match Nat.beq u T with
  |true=>some (x,true)
  |false=>match zeroOf P T with|some z=>some (z,false)|none=>none
 | .nilIface=>match zeroOf P T with|some z=>some (z,false)|none=>none
 |_=>none
def vK (P:Program) (T:TypeId) (ok:Bool) (v:Value) (K:Value->Prop):Prop:=
 match P.underlying T with
 |some (.interface _)=>False
 |some _=>mZ P T λx=>match ok with
  |true=>∃t:Bool,Fc P T v=some (x,t)/\K (.tuple #[x, .bool t])
  |false=>Fc P T v=some (x,true)/\K x
 |none=>False
def tK (h:J) (m:Option Nat):Option (List MapEntry×Nat):=
 match m with
 |none=>some ([],0)
 |some r=>match h[r]?with
  |some (.map es c)=>some (es.toList,c)
  |_=>none
def Lz (P:Program) (t:TypeId) (x k:Value) (h:J):Option (Value×Bool):=
 match P.underlying t,x with
 |some (.map key elem), .map m=>match P.underlying key,tK h m with
  |some (.int lg),some (es,_)=>match Instr.findNow (.int lg) k es 0 with
   |some (some (_,v))=>some (v,true)
   |some none=>match zeroOf P elem with
    |some z=>some (z,false)
    |none=>none
   |none=>none
  |_,_=>none
 |_,_=>none
def LA (P:Program) (t:TypeId) (x k:Value) (ok:Bool) (h:J) (K:Value->Prop):Prop:=
 match P.underlying t with
 |some (.map _ elem)=>mZ P elem λv=>∃b:Bool,Lz P t x k h=some (v,b)/\match ok with
  |true=>K (.tuple #[v, .bool b])
  |false=>K v
 |_=>False
def A3 (es:List MapEntry) (c:Nat) (k v:Value):Option (Nat×Value)->List MapEntry×Nat
 |some (i,_)=>(es.modify i λe=>{e with key:=k,val:=v},c)
 |none=>(es++[{key:=k,val:=v,born:=c}],c+1)
def hS (P:Program) (t:TypeId) (m k v:Value) (h:J) (K:J->Prop):Prop:=
 match P.underlying t,m with
 |some (.map key _), .map (some r)=>match P.underlying key with
  |some (.int lg)=>∃(es:List MapEntry) (c:Nat) (f:Option (Nat×Value)),tK h (some r)=some (es,c)/\Instr.findNow (.int lg) k es 0=some f/\
   ∀h1,h1=h.setIfInBounds r (.map (A3 es c k v f).1.toArray (A3 es c k v f).2)->K h1
  |_=>False
 |_,_=>False
def GS (es:List MapEntry):Option (Nat×Value)->List MapEntry
 |some (i,_)=>es.eraseIdx i
 |none=>es
def hP (P:Program) (t:TypeId) (m k:Value) (h:J) (K:J->Prop):Prop:=
 match P.underlying t,m with
 |some (.map key _), .map (some r)=>match P.underlying key with
  |some (.int lg)=>∃(es:List MapEntry) (c:Nat) (f:Option (Nat×Value)),tK h (some r)=some (es,c)/\Instr.findNow (.int lg) k es 0=some f/\
   ∀h1,h1=h.setIfInBounds r (.map (GS es f).toArray c)->K h1
  |_=>False
 |some (.map key _), .map none=>match P.underlying key with
  |some (.int _)=>K h
  |_=>False
 |_,_=>False
def im (h:J) (m:Value) (K:Nat->Prop):Prop:=
 match m with
 | .map m=>∃(es:List MapEntry) (c:Nat),tK h m=some (es,c)/\K es.length
 |_=>False
def S3 (P:Program) (ts:List TypeId):Bool:=match ts with
 |[t]=>match P.underlying t with|some (.map _ _)=>true|_=>false
 |_=>false
def hZ (P:Program) (t:TypeId) (x:Value) (h:J) (K:Nat->J->Prop):Prop:=
 match P.underlying t,x with
 |some (.map _ _), .map m=>∃(es:List MapEntry) (c:Nat),tK h m=some (es,c)/\
  ∀b h1,b=h.size->h1=h.push (.mapIter m c #[] c)->K b h1
 |_,_=>False
def iq (b:Nat) (h:J) (over:Prop) (dD:MapEntry->J->Prop):Prop:=
 ∃(m:Option Nat) (since:Nat) (seen:Array Nat) (last:Nat) (es:List MapEntry) (c:Nat),h[b]?=some (.mapIter m since seen last)/\tK h m=some (es,c)/\
  (∀e∈es,e.born<since)/\since<=last/\((∀e∈es,e.born∈seen.toList)->over)/\
  ∀e∈es,e.born∉seen.toList->∀h1,h1=h.setIfInBounds b (.mapIter m since (seen.push e.born) c)->dD e h1
def ia (b:Nat) (h:J) (K:Value->Value->Prop):Prop:=
 ∃(r since:Nat) (seen:Array Nat) (H0:Nat) (es:List MapEntry) (c:Nat) (e:MapEntry),h[b]?=some (.mapIter (some r) since seen c)/\seen.back?=some H0/\tK h (some r)=some (es,c)/\
  es.find? (·.born==H0)=some e/\K e.key e.val
def rd (P:Program) (x:hI) (aJ:Operand->Value) (op:Op) (h:J) (K:Value->Prop):Prop:=
 match op with
 | .move a=>K (aJ a)
 | .assign a=>DL x.nm (aJ a) K
 | .pick c a b=>match aJ c with| .bool t=>ec t (K (aJ a)) (K (aJ b))|_=>False
 | .binOp op t a b _=>du (aJ a) λu=>du (aJ b) λv=>sa P x.ex op t a b u v K
 | .unOp op _ a=>Bx x.ex op (aJ a) K
 | .convert s d a=>xZ P x.ex s d (aJ a) K
 | .nilCheck a=>match aJ a with
  | .pointer p=>eu p λb o=>K (.pointer (some ⟨b,o,none⟩))
  |_=>False
 | .fieldAddr t a f=>pr (aJ a) λb o=>x8 P t f λoff _=>K (.pointer (some ⟨b,o+off,none⟩))
 | .field t a f=>x8 P t f λoff ty=>rb P ty (aJ a) off K
 | .indexAddr t a i=>match aJ i with
  | .int _ n=>match P.underlying t,aJ a with
   |some (.array len e),v=>match hM P e with
    |true=>eM (sz P e) λz=>pr v λb o=>(0<=n/\n<(len:Int))/\K (.pointer (some ⟨b,o+qC z n.toNat,none⟩))
    |false=>False
   |some (.slice e), .slice p len _=>match hM P e with
    |true=>eM (sz P e) λz=>(0<=n/\n<(len:Int))/\eu p λb o=>K (.pointer (some ⟨b,o+qC z n.toNat,none⟩))
    |false=>False
   |_,_=>False
  |_=>False
 | .load t a=>pr (aJ a) λb o=>yG P t h b o K
 | .index t a i=>match aJ i with
  | .int _ n=>match P.underlying t,aJ a with
   |some (.array len e),v=>match hM P e with
    |true=>eM (sz P e) λz=>(0<=n/\n<(len:Int))/\rb P e v (qC z n.toNat) K
    |false=>False
   |some .string, .string s=>(0<=n/\n<(s.size:Int))/\K (.int .u8 (Nf s n.toNat))
   |_,_=>False
  |_=>False
 | .extract a i=>match aJ a with
  | .tuple vs=>match vs.toList[i]?with|some v=>K v|none=>False
  |_=>False
 | .slice t a cw hi none=>oJ P t (aJ a) (cw.map aJ) (hi.map aJ) K
 | .slice t a cw hi (some po)=>xj P t (aJ a) (cw.map aJ) (hi.map aJ) (aJ po) K
 | .typeAssert a _ T ok=>du (aJ a) λv=>vK P T ok v K
 | .makeInterface t a=>match P.underlying t with|some (.interface _)=>False|some _=>du (aJ a) λv=>K (.iface t v)|none=>False
 | .makeFunc f a b=>eL (a.toList.map aJ) λu=>eL (b.toList.map aJ) λv=>K (.func f u.toArray v.toArray)
 | .build t parts=>zK P t (parts.toList.map λ(i,x)=>(i,aJ x)) K
 | .call ⟨.builtin b,args,ts⟩=>s6 P b ts.toList (args.toList.map aJ) K
 |_=>False
def MG (P:Program) (x:hI) (aJ:Operand->Value) (op:Op) (h:J) (K:Value->Prop):Prop:=
 match op with
 | .binOp op t a b ty=>match isIf P t with
  |true=>du (aJ a) λu=>du (aJ b) λv=>Pu P op a b u v h K
  |false=>match afo P t&&!(isConst a||isConst b)with
   |true=>Pv P op t (aJ a) (aJ b) h K
   |false=>rd P x aJ (.binOp op t a b ty) h K
 | .call ⟨.builtin .len,args,ts⟩=>match S3 P ts.toList with
  |true=>match args.toList.map aJ with
   |[m]=>du m λm=>im h m λn=>K (.int .i64 (n:Nat))
   |_=>False
  |false=>rd P x aJ (.call ⟨.builtin .len,args,ts⟩) h K
 |op=>rd P x aJ op h K
def afl (P:Program) (s d:TypeId):Bool:=match P.underlying s,P.underlying d with
 |some .string,some (.slice _)=>true
 |some (.slice _),some .string=>true
 |_,_=>false
def Lp (P:Program):Op->Bool
 | .convert s d _=>!afl P s d
 | .move _| .assign _| .pick .. | .binOp .. | .unOp .. | .nilCheck _| .fieldAddr .. | .field .. | .indexAddr .. | .index .. | .load .. | .extract .. | .typeAssert .. | .makeInterface .. | .makeFunc .. | .build .. =>true
 | .slice _ _ _ _ _=>true
 | .call ⟨.builtin .len,_,_⟩| .call ⟨.builtin .cap,_,_⟩| .call ⟨.builtin .min,_,_⟩| .call ⟨.builtin .max,_,_⟩=>true
 |_=>false
def c0 (h:J) (b o n:Nat):Prop:=∃c e cw hi,h[b]?=some (.cells c e (cw,hi))/\o+n<=c.size/\(n=0\/hi<=o\/o+n<=cw\/hi<=cw)
def BU (h:J) (T:TypeId) (vs:List Value) (K:Nat->J->Prop):Prop:=eL vs λvs=>∀b h1,b=h.size->h1=h.push (.cells vs.toArray T)->K b h1
def rX (P:Program) (t:TypeId) (K:Value->Prop):Prop:=
 match P.info? t with
 |some i=>match i.zero with
  |some z=>K z
  |none=>False
 |none=>False
def Em (P:Program) (t:TypeId) (h:J) (b o:Nat) (v:Value) (K:J->Prop):Prop:=
 match P.underlying t with
 |some (.struct _)|some (.array _ _)=>match hM P t,v with
  |true, .agg cs=>eM (sz P t) λn=>eL cs.toList λl=>(l.length=n/\c0 h b o n/\∀u∈l,u.oneCell'=true)/\∀h1,h1=bm h b o l->K h1
  |_,_=>False
 |some _=>match hM P t,sz P t with
  |true,1=>du v λv=>DO v (wr h b o/\∀h1,h1=b3 h b o v->K h1)
  |_,_=>False
 |none=>False
def src (h:J) (a:Option Addr) (n:Nat) (cs:List Value):Prop:=
 match a with
 |none=>cs=[]
 |some ⟨b,o,none⟩=>row h b o n=some cs
 |some ⟨_,_,some _⟩=>n=0/\cs=[]
def bytesOf (P:Program) (t:TypeId):Nat:=match P.info? t with|some i=>i.bytes|none=>0
def BC (P:Program) (t:TypeId):Bool:=
 match P.info? t with
 |some i=>match i.zero with
  |some z=>Nat.beq z.cells.toList.length i.size
  |none=>false
 |none=>false
def E9 (a:Option Addr) (X:Prop) (K:Nat->Nat->Prop):Prop:=
 match a with
 |none=>X
 |some ⟨b,o,none⟩=>K b o
 |_=>False
def e8 (h:J) (a:Option Addr) (len cap k sz e bytes:Nat) (news:List Value) (K:Option Addr->Nat->J->Prop):Prop:=
 (len+k<=cap->E9 a (K none cap h) λb o=>c0 h b (o+len*sz) news.length/\∀h1,h1=bm h b (o+len*sz) news->K (some ⟨b,o,none⟩) cap h1)/\
 (cap<len+k->((len+k)*bytes<=140737488355328/\0<bytes)/\∃rI:List Value,src h a (len*sz) rI/\
   ∀(u6:Nat) (ck:List Value) b h1,len+k<=u6->ck.length=(u6 -(len+k))*sz->b=h.size->h1=h.push (.cells (rI++news++ck).toArray e)->K (some ⟨b,0,none⟩) u6 h1)
def Jc (P:Program) (T:TypeId) (s x:Value) (h:J) (K:Value->J->Prop):Prop:=
 match P.underlying T with
 |some (.slice e)=>match BC P e,s,x with
  |true, .slice a len cap, .slice a2 il _=>eM (sz P e) λz=>eM (bytesOf P e) λy=>
   ∃news:List Value,(src h a2 (il*z) news/\∀u∈news,u.oneCell'=true)/\
    e8 h a len cap il z e y news λp c h=>K (.slice p (len+il) c) h
  |_,_,_=>False
 |_=>False
def Jb (P:Program) (T:TypeId) (s x:Value) (h:J) (K:Value->J->Prop):Prop:=
 match P.underlying T with
 |some (.slice e)=>match BC P e,s,x with
  |true, .slice a len cap, .int .i64 n=>eM (sz P e) λIv=>eM (bytesOf P e) λy=>(0<=n/\n.toNat*y<=281474976710656/\n.toNat<=9223372036854775807)/\rX P e λz=>eL z.cells.toList λck=>(∀u∈ck,u.oneCell'=true)/\
   e8 h a len cap n.toNat Iv e y (cX (List.replicate n.toNat ck)) λp c h=>K (.slice p (len+n.toNat) c) h
  |_,_,_=>False
 |_=>False
def Fo (P:Program) (t:TypeId) (len:Nat) (parts:List (Nat×Value)) (h:J) (K:Value->J->Prop):Prop:=
 match P.underlying t with
 |some (.slice e)=>match BC P e,Nat.ble (len*sz P e) 16777216 with
  |true,true=>rX P e λz=>sP (List.replicate len (sz P e)) parts (List.replicate len z.cells.toList) λch=>
   gV ch λl=>BU h e l λb h1=>K (.slice (some ⟨b,0,none⟩) len len) h1
  |_,_=>False
 |_=>False
def GX (P:Program) (t:TypeId) (l c:Value) (h:J) (K:Value->J->Prop):Prop:=
 match P.underlying t with
 |some (.slice e)=>match BC P e,l,c with
  |true, .int _ l, .int _ c=>eM (bytesOf P e) λy=>(0<=l/\l<=c/\((y:Nat):Int)*c<=281474976710656/\c<=9223372036854775807)/\
   rX P e λz=>eL z.cells.toList λck=>BU h e (cX (List.replicate c.toNat ck)) λb h1=>K (.slice (some ⟨b,0,none⟩) l.toNat c.toNat) h1
  |_,_,_=>False
 |_=>False
def gb (a:Option Addr) (h:J) (vs:List Value) (K:J->Prop):Prop:=
 match a with
 |none=>K h
 |some ⟨b,o,none⟩=>c0 h b o vs.length/\∀h1,h1=bm h b o vs->K h1
 |_=>False
def gR (P:Program) (T:TypeId) (s:Value) (h:J) (K:J->Prop):Prop:=
 match P.underlying T,s with
 |some (.slice e), .slice a len _=>match len with
  |0=>K h
  |len+1=>rX P e λz=>(∀u∈z.cells.toList,u.oneCell'=true)/\gb a h (cX (List.replicate (len+1) z.cells.toList)) K
 |_,_=>False
def JJ (P:Program) (T:TypeId) (d s:Value) (h:J) (K:Value->J->Prop):Prop:=
 match P.underlying T with
 |some (.slice e)=>match hM P e,d,s with
  |true, .slice a len _, .slice a2 il _=>
   eM (sz P e) λz=>∃news:List Value,(src h a2 (min il len*z) news/\∀u∈news,u.oneCell'=true)/\gb a h news λh1=>K (.int .i64 (min il len:Nat)) h1
  |_,_,_=>False
 |_=>False
def pV (P:Program) (f:FuncId):Bool:=match P.funcs[f]?with|some fn=>!(fn.name== "runtime.NumGoroutine")&&fn.body.isSome|none=>false
def er (P:Program) (f:Value) (args:List Value) (h:J) (K:Value->J->Prop):Prop:=
 match f with
 | .func (.func g) first captured=>match pV P g with
  |true=>aj P g (first.toList++(args++captured.toList)).toArray h K
  |false=>False
 |_=>False
def u5 (P:Program) (t:TypeId) (name:String):Option FuncId:=
 match P.info? t with
 |some i=>match i.methods.find? (·.name==name)with
  |some m=>match m.path.toList,m.func,P.underlying t with
   |[],some (f,true),some (.pointer _)=>some f
   |_,_,_=>none
  |none=>none
 |none=>none
def fR (P:Program) (v:Value) (name:String) (args:List Value) (h:J) (K:Value->J->Prop):Prop:=
 match v with
 | .iface t x=>∃f,u5 P t name=some f/\pV P f=true/\aj P f (x::args).toArray h K
 |_=>False
theorem Dt {P:Program} {t:TypeId} {x:Value} {name:String} {args:List Value} {h:J} {K:Value->J->Prop} {f:FuncId} (hm:u5 P t name=some f) (hb:pV P f=true)
 (U:aj P f (x::args).toArray h K):fR P (.iface t x) name args h K:=⟨f,hm,hb,U⟩
def I7 (P:Program):List TypeId->(List Value->Prop)->Prop
 |[],K=>K []
 |t::r,K=>mZ P t λv=>I7 P r λvs=>K (v::vs)
def Ih (P:Program) (t:TypeId) (v:Value) (K:Value->Prop):Prop:=
 match P.underlying t with
 |some (.tuple ts)=>match ts.toList with
  |[]=>K v
  |t1::r=>I7 P (t1::r) λvs=>v= .tuple vs.toArray/\K (.tuple vs.toArray)
 |_=>mZ P t λu=>v=u/\K u
def ajE (P:Program) (aJ:Operand->Value) (op:Op) (ty:TypeId) (h:J) (K:Value->J->Prop):Prop:=
 ∀(w:World) (o:Oper),o.op=op->o.type=ty->w.heap=h->∃v w',((execOp aJ o).run P w= .ok (.value v) w'\/(execOp aJ o).run P w= .ok .skip w'/\v=undef)/\cH w w'/\K v w'.heap
def B7 (b:UInt8):Value:= .int .u8 (b.toNat:Nat)
def JN (P:Program) (s d:TypeId) (v:Value) (h:J) (K:Value->J->Prop):Prop:=
 match P.underlying s,P.underlying d,v with
 |some .string,some (.slice e), .string x=>match P.underlying e with
  |some (.int .u8)=>∀(u6:Nat) (ck:List Value) (b:Nat) (h1:J),x.size<=u6->ck.length=u6 -x.size->b=h.size->h1=h.push (.cells (x.data.toList.map B7++ck).toArray e (u6,u6+1))->K (.slice (some ⟨b,0,none⟩) x.size u6) h1
  |_=>False
 |some (.slice e),some .string, .slice a len _=>match P.underlying e with
  |some (.int .u8)=>∃xs:List UInt8,src h a len (xs.map B7)/\K (.string ⟨xs.toArray⟩) h
  |_=>False
 |_,_,_=>False
def fO (P:Program) (x:hI) (aJ:Operand->Value) (op:Op) (ty:TypeId) (h:J) (K:Value->J->Prop):Prop:=
 match op with
 | .alloc e=>rX P e λz=>BU h e z.cells.toList λb h1=>K (.pointer (some ⟨b,0,none⟩)) h1
 | .box e a=>BU h e (aJ a).cells.toList λb h1=>K (.pointer (some ⟨b,0,none⟩)) h1
 | .store t a v=>pr (aJ a) λb o=>du (aJ v) λv=>Em P t h b o v λh1=>K undef h1
 | .call ⟨.value f,args,_⟩=>du (aJ f) λf=>eL (args.toList.map aJ) λl=>er P f l h λv h1=>Ih P ty v λu=>K u h1
 | .call ⟨.invoke r name,args,_⟩=>du (aJ r) λr=>eL (args.toList.map aJ) λl=>fR P r name l h λv h=>Ih P ty v λu=>K u h
 | .call ⟨.builtin .append,args,ts⟩=>match args.toList.map aJ,ts.toList with
  |[s,y],[T,T2]=>match P.underlying T2 with
   |some (.slice _)=>Jc P T s y h K
   |some (.int _)=>Jb P T s y h K
   |_=>False
  |_,_=>False
 | .buildSlice t len parts=>Fo P t len (parts.toList.map λ(i,x)=>(i,aJ x)) h K
 | .makeSlice t l c=>GX P t (aJ l) (aJ c) h K
 | .call ⟨.builtin .copy,args,ts⟩=>match args.toList.map aJ,ts.toList with
  |[d,s],[T,T2]=>JJ P T d s h K
  |_,_=>False
 | .convert s d a=>JN P s d (aJ a) h K
 | .makeMap t none=>∀b h1,b=h.size->h1=h.push (.map #[] 0)->K (.map (some b)) h1
 | .makeMap t (some r)=>match aJ r with
  | .int _ _=>match P.underlying t with
   |some (.map _ _)=>∀b h1,b=h.size->h1=h.push (.map #[] 0)->K (.map (some b)) h1
   |_=>False
  |_=>False
 | .lookup t a i ok=>du (aJ a) λa=>du (aJ i) λi=>LA P t a i ok h λv=>K v h
 | .mapUpdate t m k v=>du (aJ m) λm=>du (aJ k) λk=>du (aJ v) λv=>hS P t m k v h λh1=>K undef h1
 | .call ⟨.builtin .delete,args,ts⟩=>match args.toList.map aJ,ts.toList with
  |[m,k],t::_=>du m λm=>du k λk=>hP P t m k h λh1=>K (.tuple #[]) h1
  |_,_=>False
 | .range t a=>du (aJ a) λa=>hZ P t a h λb h1=>K (.pointer (some ⟨b,0,none⟩)) h1
 | .next a str=>match str with
  |false=>pr (aJ a) λb o=>o=0/\iq b h (K (.tuple #[.bool false]) h) λe h1=>K (.tuple #[.bool true,e.key,e.val]) h1
  |true=>False
 | .entry a=>pr (aJ a) λb o=>o=0/\ia b h λk v=>K (.tuple #[k,v]) h
 | .panic _=>False
 | .call ⟨.builtin .clear,args,ts⟩=>match args.toList.map aJ,ts.toList with
  |[s],[T]=>du s λs=>gR P T s h λh1=>K undef h1
  |_,_=>False
 |_=>ajE P aJ op ty h K
end Go.Vc
