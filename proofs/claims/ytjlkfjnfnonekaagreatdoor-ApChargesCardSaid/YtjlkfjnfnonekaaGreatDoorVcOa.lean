import Derived.Test.YtjlkfjnfnonekaaGreatDoorVcIm
set_option linter.all false
namespace Go.Vc
variable{P:Program}
structure N3 {f:FuncId} {fn:Func} (n:bg) (hf:P.funcs[f]?=some fn) (q g:Prop):Prop where
 t:True
def IH {f:FuncId} {fn:Func} (n:bg) (hf:P.funcs[f]?=some fn) (q g:Prop):Prop:=q->g
abbrev bQ {f:FuncId} {fn:Func} (n:bg) (hf:P.funcs[f]?=some fn) (q g:Prop):Prop:=N3 n hf q g->IH n hf q g
theorem aeK {Q:Prop} {f:FuncId} {fn:Func} {c:Code} {args:List Value} {h:J} {Post:Value->J->Prop} {n:bg} {hf:P.funcs[f]?=some fn}
 (hb:fn.body=some c) (hv:bV Q (Cu P (I5 P fn.ntmps n) fn c args h Post)):N3 n hf Q (aj P f args.toArray h Post):=⟨trivial⟩
theorem abx {Q:Prop} {f:FuncId} {fn:Func} {c:Code} {args:List Value} {h:J} {Post:Value->J->Prop} {n:bg} {hf:P.funcs[f]?=some fn}
 (hb:fn.body=some c) (hl:Nat.ble args.length fn.ntmps=true) (e:Q=Cu P (E3 P fn.ntmps n.e n.l n.c n.g) fn c args h Post):IH n hf Q (aj P f args.toArray h Post):=abT n hf hb hl e
theorem ar {Q:Prop} {f:FuncId} {fn:Func} (n:bg) (hf:P.funcs[f]?=some fn) (args:Array Value) (h:J) (Post:Value->J->Prop) (x:IH n hf Q (aj P f args h Post):=by
 refine(?_:bQ _ _ _ _) ?_
 rotate_left
 focus
  apply aeK rfl
  apply ae2
  focus
   repeat' (first
   |with_reducible exact(Lj:bV _ (@LT.lt Nat instLTNat _ _))
   |((with_reducible refine(?_:bV _ _));(conv=>arg 2;whnf);(first
   |((with_reducible refine(?_:bV _ (iI _ _ _ _)));(conv=>arg 2;arg 3;whnf;try dsimp only[GZ,GY,G0,isConst,Bool.or_self,Bool.or_true,Bool.true_or,Bool.or_false,Bool.false_or,Nat.add_zero,Nat.zero_add,Nat.sub_zero,Nat.zero_mul,List.nil_append,List.cons_append,Nat.reduceAdd,Nat.reduceMul,Int.reduceToNat,Hf,Hn,Hp,Hr,Ht,Hu,Hv,yU,Hw,Hg,Hh,Hi,Hj,Hk,Hl,Hm,Ho,Hq,Hs]);with_reducible apply ae3)
   |((with_reducible refine(?_:bV _ (du _ _)));(conv=>arg 2;arg 1;whnf;try dsimp only[GZ,GY,G0,isConst,Bool.or_self,Bool.or_true,Bool.true_or,Bool.or_false,Bool.false_or,Nat.add_zero,Nat.zero_add,Nat.sub_zero,Nat.zero_mul,List.nil_append,List.cons_append,Nat.reduceAdd,Nat.reduceMul,Int.reduceToNat,Hf,Hn,Hp,Hr,Ht,Hu,Hv,yU,Hw,Hg,Hh,Hi,Hj,Hk,Hl,Hm,Ho,Hq,Hs]);with_reducible apply aeL)
   |((with_reducible refine(?_:bV _ (ic _ _)));(conv=>arg 2;arg 1;try dsimp only[GZ,GY,G0,isConst,Bool.or_self,Bool.or_true,Bool.true_or,Bool.or_false,Bool.false_or,Nat.add_zero,Nat.zero_add,Nat.sub_zero,Nat.zero_mul,List.nil_append,List.cons_append,Nat.reduceAdd,Nat.reduceMul,Int.reduceToNat,Hf,Hn,Hp,Hr,Ht,Hu,Hv,yU,Hw,Hg,Hh,Hi,Hj,Hk,Hl,Hm,Ho,Hq,Hs]);with_reducible apply aeM)
   |((with_reducible refine(?_:bV _ (eM _ _)));(conv=>arg 2;arg 1;whnf);with_reducible apply aeN)
   |((with_reducible refine(?_:bV _ (eL _ _)));(conv=>arg 2;arg 1;whnf);with_reducible (first|apply aeU|apply aeB|((conv=>arg 2;arg 1;try dsimp only[cX,List.replicate_zero,List.replicate_succ,List.append_eq]);apply aeQ)))
   |((with_reducible refine(?_:bV _ (gV _ _)));(conv=>arg 2;arg 1;whnf);with_reducible (first|apply aer|apply aes))
   |with_reducible apply aeH
   |(with_reducible apply aeJ;intro _)
   |((with_reducible (first|refine(?_:bV _ (kS _ _ _ _ _ _ _ _/\_))|refine(?_:bV _ (A8 _ _ _ _ _ _ _ _/\_))|refine(?_:bV _ (JT _ _ _ _ _ _ _ _ _ _/\_))|refine(?_:bV _ (still _ _ _/\_))|refine(?_:bV _ (nh _ _ _ _/\_))));with_reducible apply aev)
   |with_reducible apply aeu
   |with_reducible apply aez
   |with_reducible apply aey
   |with_reducible apply aex
   |with_reducible apply aeY
   |(with_reducible apply aeX;intro _ _)
   |(with_reducible apply aew;intro _ _ _)
   |with_reducible (first|apply aeG|apply aeE|apply aeD|apply aeW)
   |(with_reducible (first|apply aeF|apply aeP|apply aeZ|apply aeI);intro _ _)
   |(with_reducible (first|apply aeA|apply aeC|apply aeT|apply aeR|apply aeS|apply ae1);intro _)
   |(with_reducible apply aeV;rotate_left;intro _ _)
   |(with_reducible apply ae0;intro _ _)
   |apply aeO
   |(with_reducible apply aet;intro _)
   |exact Lj)))
  dsimp only[I5,kW,pack,GZ,GY,G0,isConst,Bool.or_self,Bool.or_true,Bool.true_or,Bool.or_false,Bool.false_or,Nat.add_zero,Nat.zero_add,Nat.sub_zero,Nat.zero_mul,List.nil_append,List.cons_append,Nat.reduceAdd,Nat.reduceMul,Int.reduceToNat,Hf,Hn,Hp,Hr,Ht,Hu,Hv,yU,Hw,Hg,Hh,Hi,Hj,Hk,Hl,Hm,Ho,Hq,Hs]
  exact Lj
 exactλ_=>abx rfl (by kernel_rfl) (by kernel_rfl)):N4 Q (aj P f args h Post):=x
end Go.Vc
