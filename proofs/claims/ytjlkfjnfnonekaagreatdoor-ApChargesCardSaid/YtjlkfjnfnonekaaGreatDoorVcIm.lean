import Derived.Test.YtjlkfjnfnonekaaGreatDoorVc
set_option linter.all false
namespace Go.Vc
variable{P:Program}
inductive xF where
 |z
 |r (i n:Nat) (s:xF)
 |a (i:Nat) (gZ:List Nat) (s:xF)
 |b (i:Nat) (gZ:List Nat) (s o:xF)
def zX (gZ:List Nat):List jc->List jc
 |[]=>[]
 |e::r=>match km e.i gZ with|true=>zX gZ r|false=>e::zX gZ r
def JT (P:Program) (x:hI) (N:Nat) (ops:List Oper) (i:Nat) (gZ:List Nat) (R:List jc) (t:Env) (h:J) (K:List jc->Env->J->Prop):Prop:=
 match ops[i]?with
 |some o=>guarded ops o.guard t
  (λt=>fO P x (jh t) o.op o.type h λv h'=>match GH o.op with
    |true=>put N t o.dst v λaR=>K (zX gZ R) aR h'
    |false=>H3 P h' (put N t o.dst v λaR=>K (zX gZ R) aR h') (zX gZ R))
  (λt=>put N t o.dst undef λaR=>K (zX gZ R) aR h)
 |none=>False
def QB (P:Program) (x:hI) (N:Nat) (ops:List Oper) (h:J) (K:List jc->Env->Prop):Nat->Nat->List jc->Env->Prop
 |_,0,R,t=>K R t
 |i,n+1,R,t=>JU P x N ops i R t h λfM aR=>QB P x N ops h K (i+1) n fM aR
def zY (P:Program) (x:hI) (N:Nat) (ops:List Oper):xF->List jc->Env->J->(Env->J->Prop)->Prop
 | .z,R,t,h,K=>K t h
 | .r i n s,R,t,h,K=>QB P x N ops h (λfM aR=>zY P x N ops s fM aR h K) i n R t
 | .a i gZ s,R,t,h,K=>JT P x N ops i gZ R t h λfM aR h'=>zY P x N ops s fM aR h' K
 | .b i gZ s o,R,t,h,K=>(JT P x N ops i gZ R t h λfM aR h'=>zY P x N ops s fM aR h' K)/\zY P x N ops o R t h K
def iQ (P:Program) (exact:Nat->hI) (HO:Nat->xF) (N:Nat) (id:Nat) (ops:List Oper) (t:Env) (h:J) (K:Env->J->Prop):Prop:=zY P (exact id) N ops (HO id) [] t h K
structure bg where
 e:Nat->hI:= λ_=>⟨true,false⟩
 l:Nat->List (Nat×jH):= λ_=>[]
 c:Nat->Option (List (Nat×jH)):= λ_=>none
 g:Nat->List (Nat×List (Nat×jH)):= λ_=>[]
 s:Nat->xF:= λ_=> .z
def I5 (P:Program) (N:Nat) (n:bg):zn:=⟨n.e,n.l,n.c,n.g,iQ P n.e n.s N⟩
theorem Hf:dU 1=2:=rfl
theorem Hn:dU 2=4:=rfl
theorem Hp:dU 3=8:=rfl
theorem Hr:dU 4=16:=rfl
theorem Ht:dU 5=32:=rfl
theorem Hu:dU 6=64:=rfl
theorem Hv:dU 7=128:=rfl
theorem yU:dU 8=256:=rfl
theorem Hw:dU 9=512:=rfl
theorem Hg:dU 10=1024:=rfl
theorem Hh:dU 11=2048:=rfl
theorem Hi:dU 12=4096:=rfl
theorem Hj:dU 13=8192:=rfl
theorem Hk:dU 14=16384:=rfl
theorem Hl:dU 15=32768:=rfl
theorem Hm:dU 16=65536:=rfl
theorem Ho:dU 24=16777216:=rfl
theorem Hq:dU 32=4294967296:=rfl
theorem Hs:dU 48=281474976710656:=rfl
structure bV (Q G:Prop):Prop where
 t:True
abbrev N4 (q g:Prop):Prop:=q->g
abbrev aqV (q g:Prop):Prop:=bV q g->N4 q g
theorem aeu {A B nG:Prop} (h:bV nG B):bV (A/\nG) (A/\B):=⟨trivial⟩
theorem aev {A B NT nG:Prop} (h':bV NT A) (h:bV nG B):bV (NT/\nG) (A/\B):=⟨trivial⟩
theorem aeJ {α:Type} {p q:α->Prop} (h:∀x,bV (q x) (p x)):bV (∃x,q x) (∃x,p x):=⟨trivial⟩
theorem aet {α:Type} {p q:α->Prop} (h:∀x,bV (q x) (p x)):bV (∀x,q x) (∀x,p x):=⟨trivial⟩
theorem aeO {A B nG:Prop} (h:bV nG B):bV (A->nG) (A->B):=⟨trivial⟩
theorem aex {b:Bool} {x y x' fy:Prop} (h:bV x' x) (k:bV fy y):bV (ec b x' fy) (ec b x y):=⟨trivial⟩
theorem aez {Q x y:Prop} (h:bV Q x):bV Q (ec true x y):=⟨trivial⟩
theorem aey {Q x y:Prop} (h:bV Q y):bV Q (ec false x y):=⟨trivial⟩
theorem aeX {p:Option Addr} {K bS:Nat->Nat->Prop} (h:∀b o,bV (bS b o) (K b o)):bV (eu p bS) (eu p K):=⟨trivial⟩
theorem aeY {b o:Nat} {Q:Prop} {K:Nat->Nat->Prop} (h:bV Q (K b o)):bV Q (eu (some ⟨b,o,none⟩) K):=⟨trivial⟩
theorem ae0 {f:FuncId} {args:Array Value} {h:J} {K bS:Value->J->Prop} (I:∀v h,bV (bS v h) (K v h)):bV (aj P f args h bS) (aj P f args h K):=⟨trivial⟩
theorem Lj {A:Prop}:bV A A:=⟨trivial⟩
theorem ae3 {Q:Prop} {t:Env} {d:Nat} {v:Value} {K:Env->Prop} (h:bV Q (K (jO t d v))):bV Q (iI t d v K):=⟨trivial⟩
theorem aeL {Q:Prop} {v:Value} {K:Value->Prop} (h:bV Q (K v)):bV Q (du v K):=⟨trivial⟩
theorem aeN {Q:Prop} {v:Nat} {K:Nat->Prop} (h:bV Q (K v)):bV Q (eM v K):=⟨trivial⟩
theorem aeM {Q:Prop} {v:Int} {K:Int->Prop} (h:bV Q (K v)):bV Q (ic v K):=⟨trivial⟩
theorem aeU {Q:Prop} {K:List Value->Prop} (h:bV Q (K [])):bV Q (eL [] K):=⟨trivial⟩
theorem aeB {Q:Prop} {v:Value} {r:List Value} {K:List Value->Prop} (h:bV Q (du v λv=>eL r λl=>K (v::l))):bV Q (eL (v::r) K):=⟨trivial⟩
theorem aeQ {Q:Prop} {l:List Value} {K:List Value->Prop} (h:bV Q (K l)):bV Q (eL l K):=⟨trivial⟩
theorem aer {Q:Prop} {K:List Value->Prop} (h:bV Q (K [])):bV Q (gV [] K):=⟨trivial⟩
theorem aes {Q:Prop} {a:List Value} {r:List (List Value)} {K:List Value->Prop} (h:bV Q (eL a λl=>gV r λbI=>K (l++bI))):bV Q (gV (a::r) K):=⟨trivial⟩
theorem ae2 {Q N6 G:Prop} (h:bV N6 G) (k:bV Q N6):bV Q G:=⟨trivial⟩
theorem aeH {Q:Prop} {exact:Nat->hI} {HO:Nat->xF} {N id:Nat} {ops:List Oper} {t:Env} {h:J} {K:Env->J->Prop}
 (hq:bV Q (zY P (exact id) N ops (HO id) [] t h K)):bV Q (iQ P exact HO N id ops t h K):=⟨trivial⟩
theorem aeG {Q:Prop} {g:FuncId} {u c:Array Value} {l:List Value} {h:J} {K:Value->J->Prop} (I:bV Q (eL (u.toList++(l++c.toList)) λl=>aj P g l.toArray h K)):bV Q (er P (.func (.func g) u c) l h K):=⟨trivial⟩
theorem aeF {f:Value} {l:List Value} {h:J} {K bS:Value->J->Prop} (I:∀v h,bV (bS v h) (K v h)):bV (er P f l h bS) (er P f l h K):=⟨trivial⟩
theorem aeP {f:Value} {n:String} {l:List Value} {h:J} {K bS:Value->J->Prop} (I:∀v h,bV (bS v h) (K v h)):bV (fR P f n l h bS) (fR P f n l h K):=⟨trivial⟩
theorem aeA {T:TypeId} {f:Value} {h:J} {K bS:J->Prop} (I:∀h,bV (bS h) (K h)):bV (gR P T f h bS) (gR P T f h K):=⟨trivial⟩
theorem aeE {Q:Prop} {b o:Nat} {h:J} {vs:List Value} {K:J->Prop} (I:bV Q (c0 h b o vs.length/\∀h1,h1=bm h b o vs->K h1)):bV Q (gb (some ⟨b,o,none⟩) h vs K):=⟨trivial⟩
theorem aeD {Q:Prop} {h:J} {vs:List Value} {K:J->Prop} (I:bV Q (K h)):bV Q (gb none h vs K):=⟨trivial⟩
theorem aeC {a:Option Addr} {h:J} {vs:List Value} {K bS:J->Prop} (I:∀h,bV (bS h) (K h)):bV (gb a h vs bS) (gb a h vs K):=⟨trivial⟩
theorem aeT {T:TypeId} {m k v:Value} {h:J} {K bS:J->Prop} (I:∀h,bV (bS h) (K h)):bV (hS P T m k v h bS) (hS P T m k v h K):=⟨trivial⟩
theorem aeR {T:TypeId} {m k:Value} {h:J} {K bS:J->Prop} (I:∀h,bV (bS h) (K h)):bV (hP P T m k h bS) (hP P T m k h K):=⟨trivial⟩
theorem aeS {m:Value} {h:J} {K bS:Nat->Prop} (I:∀n,bV (bS n) (K n)):bV (im h m bS) (im h m K):=⟨trivial⟩
theorem aeZ {T:TypeId} {m:Value} {h:J} {K bS:Nat->J->Prop} (I:∀b h,bV (bS b h) (K b h)):bV (hZ P T m h bS) (hZ P T m h K):=⟨trivial⟩
theorem aeV {b:Nat} {h:J} {o o':Prop} {K bS:MapEntry->J->Prop} (aw:bV o' o) (I:∀e h,bV (bS e h) (K e h)):bV (iq b h o' bS) (iq b h o K):=⟨trivial⟩
theorem aeI {b:Nat} {h:J} {K bS:Value->Value->Prop} (I:∀u v,bV (bS u v) (K u v)):bV (ia b h bS) (ia b h K):=⟨trivial⟩
theorem ae1 {t:TypeId} {h:J} {b o:Nat} {v:Value} {K bS:J->Prop} (I:∀h,bV (bS h) (K h)):bV (Em P t h b o v bS) (Em P t h b o v K):=⟨trivial⟩
theorem aeW {v:Value} {X Od:Prop} (h:bV Od X):bV (DO v Od) (DO v X):=⟨trivial⟩
theorem aew {a:Option Addr} {len cap k sz e bytes:Nat} {h:J} {news:List Value} {K bS:Option Addr->Nat->J->Prop} (I:∀p c h,bV (bS p c h) (K p c h)):bV (e8 h a len cap k sz e bytes news bS) (e8 h a len cap k sz e bytes news K):=⟨trivial⟩
theorem ar7 {Q:Prop} {f:FuncId} {fn:Func} {c:Code} {args:List Value} {h:J} {Post:Value->J->Prop} (n:bg)
 (hf:P.funcs[f]?=some fn) (hb:fn.body=some c) (hv:bV Q (Cu P (I5 P fn.ntmps n) fn c args h Post)):bV Q (aj P f args.toArray h Post):=⟨trivial⟩
theorem abT {Q:Prop} {f:FuncId} {fn:Func} {c:Code} {args:List Value} {h:J} {Post:Value->J->Prop} (n:bg)
 (hf:P.funcs[f]?=some fn) (hb:fn.body=some c) (hl:Nat.ble args.length fn.ntmps=true) (e:Q=Cu P (E3 P fn.ntmps n.e n.l n.c n.g) fn c args h Post) (q:Q):aj P f args.toArray h Post:=
 akg n.e n.l n.c n.g hf hb (Nat.le_of_ble_eq_true hl) (e▸q)
end Go.Vc
