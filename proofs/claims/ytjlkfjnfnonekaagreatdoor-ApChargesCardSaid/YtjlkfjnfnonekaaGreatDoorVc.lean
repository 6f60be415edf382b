import Derived.Below
import Derived.Test.YtjlkfjnfnonekaaGreatDoorVcDraw
set_option linter.all false
namespace Go.Vc
variable{P:Program}
def y2 (tmps:Array Value):ResultVar->Sem Value
 | .tmp t=>pure (tmps.getD t undef)
 | .cell a t=>do loadVar t (<-asAddr (tmps.getD a undef))
theorem ajR (fn:Func) (tmps:Array Value):results fn tmps=(do
 let vs<-fn.results.mapM (y2 tmps)
 pure (if h:vs.size=1 then vs[0]else .tuple vs)):=by
 unfold results
 have:(λx:ResultVar=>(match x with
  | .tmp t=>pure (tmps.getD t undef)
  | .cell a t=>do loadVar t (<-asAddr (tmps.getD a undef)):Sem Value))=y2 tmps:=by
  funext x;cases x<;>rfl
 rw[<-this]
 rfl
theorem MH {N:Nat} {t:Env} {a:Act} {w:World} {h:J} (U:Rel N t a) (hw:w.heap=h):∀{rs:List ResultVar} {K:List Value->Prop},D3 P rs t h K->
 ∃vs,K vs/\(rs.mapM (y2 a.tmps)).run P w= .ok vs w
 |[],K,hv=>⟨[],hv,rfl⟩
 | .tmp n::r,K,hv=>by
  obtain⟨vs,h1,h2⟩:=MH U hw (rs:=r) hv
  refine⟨_,h1,?_⟩
  have af:(y2 a.tmps (.tmp n)).run P w= .ok (t n) w:=by simp[y2,U.read]
  simp only[List.mapM_cons,Sem.run_bind,af,Result.andThen_ok,h2,Sem.run_pure]
 | .cell x T::r,K,hv=>by
  obtain⟨b,o,hp,h1⟩:=tN hv
  obtain⟨v,h2,h3⟩:=To (P:=P) h1
  obtain⟨vs,h4,aA⟩:=MH U hw (rs:=r) h2
  refine⟨_,h4,?_⟩
  have af:=h3 w hw
  simp only[Instr.loadAt,Instr.sureAddr,Sem.run_bind,Sem.run_pure,Result.andThen_ok]at af
  have ag:(y2 a.tmps (.cell x T)).run P w= .ok v w:=by simp[y2,U.read,hp,asAddr,af]
  simp only[List.mapM_cons,Sem.run_bind,ag,Result.andThen_ok,aA,Sem.run_pure]
theorem U6 {N:Nat} {t:Env} {a:Act} {w:World} {h:J} {fn:Func} {K:Value->Prop} (U:Rel N t a) (hw:w.heap=h) (hv:D3 P fn.results.toList t h λvs=>K (pack vs)):
 ∃v,K v/\(results fn a.tmps).run P w= .ok v w:=by
 obtain⟨vs,h1,h2⟩:=MH U hw hv
 refine⟨_,h1,?_⟩
 rw[ajR,Array.mapM_eq_mapM_toList]
 simp only[Sem.run_bind,Sem.run_map]
 rw[h2]
 simp only[Result.andThen_ok,Sem.run_pure]
 match vs with
 |[]=>rfl
 |[v]=>rfl
 |v::u::r=>rfl
def E3 (P:Program) (N:Nat) (exact:Nat->hI) (loop:Nat->List (Nat×jH)) (cut:Nat->Option (List (Nat×jH))) (Bh:Nat->List (Nat×List (Nat×jH))):zn:=⟨exact,loop,cut,Bh,JQ P exact N⟩
theorem akg {f:FuncId} {fn:Func} {c:Code} {args:List Value} {h:J} {Post:Value->J->Prop} (exact:Nat->hI) (loop:Nat->List (Nat×jH)) (cut:Nat->Option (List (Nat×jH))) (Bh:Nat->List (Nat×List (Nat×jH)))
 (hf:P.funcs[f]?=some fn) (hb:fn.body=some c) (hl:args.length<=fn.ntmps)
 (hv:Cu P (E3 P fn.ntmps exact loop cut Bh) fn c args h Post):aj P f args.toArray h Post:=by
 intro w hw
 refine calls_of_wp hf hb ?_
 have U:Rel fn.ntmps (GG args) {tmps:=args.toArray++Array.replicate (fn.ntmps -args.toArray.size) undef,defers:=[]}:=by
  refine⟨rfl,by simp;omega,λn=>?_⟩
  unfold GG
  rw[Array.getD_eq_getD_getElem?,Array.getElem?_append]
  split
  ·rename_i cn
   simp at cn
   simp[cn]
  ·rename_i cn
   simp at cn
   rw[Array.getElem?_replicate]
   have:args[n]?=none:=by simp;omega
   simp only[this]
   split<;>rfl
 have:=ap2 (P:=P) (A:=E3 P fn.ntmps exact loop cut Bh) aay c 0 _ (GG args) h _ w hv U hw
 refine wp_mono this λe ay w' hl=>?_
 cases e<;>simp only[lift]at hl
 case normal=>
  obtain⟨t,h1,h2,_,h4⟩:=hl
  obtain⟨v,aA,aU⟩:=U6 (K:= λv=>Post v w'.heap) h1 rfl h4
  exact⟨h1.defers,v,aU,v,rfl,aA,h2⟩
 case ret=>
  obtain⟨t,h1,h2,_,h4⟩:=hl
  obtain⟨v,aA,aU⟩:=U6 (K:= λv=>Post v w'.heap) h1 rfl h4
  exact⟨h1.defers,v,aU,v,rfl,aA,h2⟩
 case exit=>
  obtain⟨t,h1,h2,_,h4⟩:=hl
  exact h4.elim
def Kept (h h':J):Prop:=h.size<=h'.size/\∀b,b<h.size->h'[b]?=h[b]?
theorem Kept.refl (h:J):Kept h h:=⟨Nat.le_refl _,λ_ _=>rfl⟩
theorem Kept.trans {a b c:J} (h:Kept a b) (k:Kept b c):Kept a c:=⟨Nat.le_trans h.1 k.1,λi hi=>(k.2 i (Nat.lt_of_lt_of_le hi h.1)).trans (h.2 i hi)⟩
theorem Zw {f:FuncId} {args:Array Value} {w:World} {v:Value} (h:aj P f args w.heap λu h'=>u=v/\Kept w.heap h'):
 Calls P f args w λe w'=>e= .returned v/\Go.RowKit.Below w.heap.size w w':=
 (h w rfl).mono λe w' ⟨u,he,⟨hu,I⟩,hs⟩=>⟨by rw[he,hu],⟨hs.os,hs.tape,hs.output,I.1,I.2⟩⟩
theorem aj.ret {f:FuncId} {args:Array Value} {h:J} {v0:Value} {Post:Value->J->Prop} (U:aj P f args h λv h'=>v=v0/\h'=h) (k:Post v0 h):aj P f args h Post:=
 U.mono (by rintro _ _ ⟨rfl,rfl⟩;exact k)
end Go.Vc
