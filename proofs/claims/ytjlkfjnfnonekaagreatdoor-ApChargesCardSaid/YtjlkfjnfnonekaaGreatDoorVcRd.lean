import Derived.ChangeKeysEq
import Derived.Test.YtjlkfjnfnonekaaGreatDoorVcDefs
set_option linter.all false
namespace Go.Vc
variable{P:Program} {w:World}
theorem Ti {a b:IntKind} (h:yF a b=true):a=b:=by cases a<;>cases b<;>first|rfl|cases h
theorem cell?_eq (w:World) (b o:Nat):w.cell? ⟨b,o,none⟩=cell w.heap b o:=by
 unfold World.cell? cell
 cases h:w.heap[b]?with
 |none=>rfl
 |some x=>cases x<;>rfl
theorem add_eq (b o n:Nat):(⟨b,o,none⟩:Addr).add n=⟨b,o+n,none⟩:=by
 unfold Addr.add;split<;>simp_all
theorem mP {k:IntKind} {n:Int} (h:fits k n):k.wrap n=n:=by
 cases k
 ·exact IntWalk.i8_in n h
 ·exact IntWalk.i16_in n h
 ·exact IntWalk.i32_in n h
 ·exact IntWalk.i64_in n h
 ·exact IntWalk.u8_in n h
 ·exact IntWalk.u16_in n h
 ·exact IntWalk.u32_in n h
 ·exact IntWalk.u64_in n h
theorem yP {p:Option Addr} {K:Nat->Nat->Prop} (h:eu p K):∃b o,p=some ⟨b,o,none⟩/\K b o:=by
 unfold eu at h
 split at h
 ·exact⟨_,_,rfl,h⟩
 ·exact h.elim
theorem tN {v:Value} {K:Nat->Nat->Prop} (h:pr v K):∃b o,v= .pointer (some ⟨b,o,none⟩)/\K b o:=by
 unfold pr at h
 split at h
 ·obtain⟨b,o,rfl,h⟩:=yP h
  exact⟨b,o,rfl,h⟩
 ·exact h.elim
theorem B5 {b:Bool} {x y:Prop} (h:ec b x y):(b=true/\x)\/(b=false/\y):=by
 cases b
 ·exact .inr ⟨rfl,h⟩
 ·exact .inl ⟨rfl,h⟩
theorem zF {x:Bool} {k:IntKind} {e:Int} {K:Value->Prop} (h:arith x k e K):K (.int k (k.wrap e)):=by
 cases x
 ·exact h
 ·rw[mP h.1];exact h.2
def Yields (P:Program) (s:Sem Value) (h:J) (v:Value):Prop:=∀w:World,w.heap=h->s.run P w= .ok v w
theorem afk {x:Bool} {op:BinOp} {k:IntKind} {m n:Int} {K:Value->Prop} (t:TypeId) (h:J) (U:Dn x op k m n K) (arL:op≠ .shl/\op≠ .shr):
 ∃v,K v/\Yields P (Go.binOp op t (.int k m) (.int k n)) h v:=by
 cases op<;>simp only[Dn]at U
 case add=>exact⟨_,zF U,λw _=>by simp[Go.binOp,Op.intArith]⟩
 case sub=>exact⟨_,zF U,λw _=>by simp[Go.binOp,Op.intArith]⟩
 case mul=>exact⟨_,zF U,λw _=>by simp[Go.binOp,Op.intArith]⟩
 case quo=>
  cases x
  ·exact⟨_,U.2,λw _=>by simp[Go.binOp,Op.intDiv,U.1]⟩
  ·obtain⟨⟨h1,h2,h3⟩,h4⟩:=U
   have e:m.tdiv n=m/n:=Int.tdiv_eq_ediv_of_nonneg h1
   exact⟨_,h4,λw _=>by simp[Go.binOp,Op.intDiv,show¬n=0 by omega,e,mP h3]⟩
 case rem=>
  cases x
  ·exact⟨_,U.2,λw _=>by simp[Go.binOp,Op.intDiv,U.1]⟩
  ·obtain⟨⟨h1,h2⟩,h4⟩:=U
   have e:m.tmod n=m%n:=Int.tmod_eq_emod_of_nonneg h1
   exact⟨_,h4,λw _=>by simp[Go.binOp,Op.intDiv,show¬n=0 by omega,e]⟩
 case and=>exact⟨_,U,λw _=>by simp[Go.binOp,intBits_and]⟩
 case or=>exact⟨_,U,λw _=>by simp[Go.binOp,intBits_or]⟩
 case xor=>exact⟨_,U,λw _=>by simp[Go.binOp,intBits_xor]⟩
 case andNot=>exact⟨_,U,λw _=>by simp[Go.binOp,intBits_andNot]⟩
 case eql=>exact⟨_,U,λw _=>by simp[Go.binOp,Op.intCmp,BEq.beq]⟩
 case neq=>exact⟨_,U,λw _=>by simp[Go.binOp,Op.intCmp,bne,BEq.beq]⟩
 case lss=>exact⟨_,U,λw _=>by simp[Go.binOp,Op.intCmp]⟩
 case leq=>exact⟨_,U,λw _=>by simp[Go.binOp,Op.intCmp]⟩
 case gtr=>exact⟨_,U,λw _=>by simp[Go.binOp,Op.intCmp]⟩
 case geq=>exact⟨_,U,λw _=>by simp[Go.binOp,Op.intCmp]⟩
theorem Tf (k:IntKind):nW k=k.bits:=by cases k<;>rfl
theorem VB {x:Bool} {op:BinOp} {k yk:IntKind} {m n:Int} {K:Value->Prop} (t:TypeId) (h:J) (U:Bl x op k m n K):
 ∃v,K v/\Yields P (Go.binOp op t (.int k m) (.int yk n)) h v:=by
 cases op<;>simp only[Bl]at U
 case shl=>exact⟨_,zF U.2,λw _=>by
  have:=shift_shl k yk m n U.1.1 (by have:=U.1.2;rw[Tf]at this;exact this)
  simp[Go.binOp,this,dU]⟩
 case shr=>exact⟨_,U.2,λw _=>by
  have:=shift_shr k yk m n U.1.1 (by have:=U.1.2;rw[Tf]at this;exact this)
  simp[Go.binOp,this,dU]⟩
def IV (P:Program) (op:BinOp) (t:TypeId) (x y:Operand) (a b:Value) (h:J) (v:Value):Prop:=
 Yields P (do eqGuard op t x y a b;Go.binOp op t a b) h v
theorem abq {op:BinOp} {t:TypeId} {x y:Operand} {k k':IntKind} {m n:Int}:(eqGuard op t x y (.int k m) (.int k' n)).run P w= .ok () w:=by
 unfold eqGuard;cases op<;>rfl
theorem QV {op:BinOp} {t:TypeId} {x y:Operand} {m n:Bool}:(eqGuard op t x y (.bool m) (.bool n)).run P w= .ok () w:=by
 unfold eqGuard;cases op<;>rfl
theorem J7 {op:BinOp} {t:TypeId} {x y:Operand} {m n:ByteArray}:(eqGuard op t x y (.string m) (.string n)).run P w= .ok () w:=by
 unfold eqGuard;cases op<;>rfl
theorem FH {op:BinOp} {t:TypeId} {x y:Operand} {m n:Option Addr}:(eqGuard op t x y (.pointer m) (.pointer n)).run P w= .ok () w:=by
 unfold eqGuard;cases op<;>rfl
theorem QY {op:BinOp} {t:TypeId} {x y:Operand} {m n:Option Addr} {a b c d:Nat}:(eqGuard op t x y (.slice m a b) (.slice n c d)).run P w= .ok () w:=by
 unfold eqGuard;cases op<;>rfl
theorem Vk (t e:TypeId) (p:Option Addr) (hu:P.underlying t=some (.pointer e)) (w:World):(Op.equal t (.pointer p) (.pointer none)).run P w= .ok (ph p) w:=by
 have gY:=run_underlying (P:=P) hu w
 have key:∀d,(Op.equalIn (d+1) t (.pointer p) (.pointer none)).run P w= .ok (ph p) w:=by
  intro d;cases p<;>simp[Op.equalIn,gY,ph]
 exact key 9999
theorem Vm (t e:TypeId) (p:Option Addr) (ca aK aF aG:Nat) (hu:P.underlying t=some (.slice e)) (w:World):(Op.equal t (.slice p ca aK) (.slice none aF aG)).run P w= .ok (ph p) w:=by
 have gY:=run_underlying (P:=P) hu w
 have key:∀d,(Op.equalIn (d+1) t (.slice p ca aK) (.slice none aF aG)).run P w= .ok (ph p) w:=by
  intro d;cases p<;>simp[Op.equalIn,gY,ph]
 exact key 9999
theorem QX {op:BinOp} {t:TypeId} {x y:Operand} {m n:Option Nat}:(eqGuard op t x y (.map m) (.map n)).run P w= .ok () w:=by
 unfold eqGuard;cases op<;>rfl
theorem Vj (t k e:TypeId) (m:Option Nat) (hu:P.underlying t=some (.map k e)) (w:World):(Op.equal t (.map m) (.map none)).run P w= .ok (Dr m) w:=by
 have gY:=run_underlying (P:=P) hu w
 have key:∀d,(Op.equalIn (d+1) t (.map m) (.map none)).run P w= .ok (Dr m) w:=by
  intro d;cases m<;>simp[Op.equalIn,gY,Dr]
 exact key 9999
theorem TL {a b:Value} {c:Bool} (h:GU a b=some c):∃m,a= .map m/\b= .map none/\c=Dr m:=by
 unfold GU at h
 split at h
 ·cases h;exact⟨_,rfl,rfl,rfl⟩
 ·cases h
theorem alA {e:TypeId} (hi:hM P e=true):∃i,P.info? e=some i/\P.cellsOf e=sz P e:=by
 unfold hM at hi
 split at hi
 ·rename_i i h;exact⟨i,h,by simp[sz,h,Program.cellsOf]⟩
 ·cases hi
theorem Ue {e:TypeId} {k:IntKind} {xs:Array Value} {l:List Int} {i:Nat} (he:P.underlying e=some (.int k)) (hx:xs.toList=l.map (Value.int k)) (hi:i<l.length):(part e xs i).run P w= .ok (.int k l[i]) w:=by
 have h1:xs[i]?=some (.int k l[i]):=by rw[<-Array.getElem?_toList,hx];simp[hi]
 simp[part,isAgg,run_underlying he,h1]
theorem S6 {e:TypeId} {k:IntKind} {xs ys:Array Value} {l r:List Int} (he:P.underlying e=some (.int k)) (hx:xs.toList=l.map (Value.int k)) (hy:ys.toList=r.map (Value.int k)) (d:Nat):
 ∀is:List Nat,(∀i∈is,i<l.length/\i<r.length)->(Op.eqItems (d+1) e 1 xs ys is).run P w= .ok (is.all λi=>decide (l[i]?=r[i]?)) w
 |[],_=>rfl
 |i::is,h=>by
  obtain⟨h1,h2⟩:=h i (by simp)
  have b9:=S6 he hx hy d is λj ah=>h j (by simp[ah])
  have p1:=Ue (P:=P) (w:=w) he hx h1
  have p2:=Ue (P:=P) (w:=w) he hy h2
  have vd:=run_equalIn_int (P:=P) w d e k k l[i] r[i] he
  simp only[Op.eqItems,Sem.run_bind,Nat.mul_one,p1,p2,vd,Result.andThen_ok,List.all_cons]
  by_cases hq:l[i]=r[i]
  ·simp[hq,b9,h1,h2]
  ·simp[hq,h1,h2]
theorem OR {t:TypeId} {xs ys:Array Value} {K:Bool->Prop} (U:vJ P t xs ys K):∃c,K c/\P.eqGuardType P.depth t=false/\∀w:World,(Op.equal t (.agg xs) (.agg ys)).run P w= .ok c w:=by
 unfold vJ at U
 split at U
 ·rename_i n e hu
  split at U
  ·rename_i k he hg
   split at U
   ·rename_i hs hi
    obtain⟨l,r,hx,hy,⟨hl,Sw⟩,I⟩:=U
    obtain⟨i,lW,hc⟩:=alA hi
    have lD:sz P e=1:=Nat.eq_of_beq_eq_true hs
    refine⟨_,I,hg,λw=>?_⟩
    have af:=run_equalIn_array (P:=P) w 9999 xs ys hu lW
    rw[hc,lD]at af
    have ag:=S6 (P:=P) (w:=w) he hx hy 9998 (List.range n) λi hi=>by
     have:=List.mem_range.1 hi;omega
    have aI:((List.range n).all λi=>decide (l[i]?=r[i]?))=decide (l=r):=by
     rw[Bool.eq_iff_iff]
     simp only[List.all_eq_true,decide_eq_true_eq,List.mem_range]
     constructor
     ·intro h
      refine List.ext_getElem? λi=>?_
      by_cases hi:i<n
      ·exact h i hi
      ·rw[List.getElem?_eq_none (by omega),List.getElem?_eq_none (by omega)]
     ·intro h i _;rw[h]
    rw[aI]at ag
    exact af.trans ag
   ·exact U.elim
  ·exact U.elim
 ·exact U.elim
theorem QU {op:BinOp} {t:TypeId} {x y:Operand} {xs ys:Array Value} (hg:P.eqGuardType P.depth t=false):(eqGuard op t x y (.agg xs) (.agg ys)).run P w= .ok () w:=by
 unfold eqGuard;cases op<;>first|rfl|simp[hg]
theorem Y9 {x:Bool} {op:BinOp} {t:TypeId} {a b:Value} {K:Value->Prop} (iJ iK:Operand) (h:J) (U:pS P x op t a b K):
 ∃v,K v/\IV P op t iJ iK a b h v:=by
 unfold pS at U
 split at U
 ·rename_i k m k' n
  have key:∀{v},Yields P (Go.binOp op t (.int k m) (.int k' n)) h v->IV P op t iJ iK (.int k m) (.int k' n) h v:=by
   intro v hy w hw
   have e:=abq (P:=P) (w:=w) (op:=op) (t:=t) (x:=iJ) (y:=iK) (k:=k) (k':=k') (m:=m) (n:=n)
   have:=hy w hw
   simp[e,this]
  split at U
  ·obtain⟨v,h1,h2⟩:=VB (P:=P) (yk:=k') t h U;exact⟨v,h1,key h2⟩
  ·obtain⟨v,h1,h2⟩:=VB (P:=P) (yk:=k') t h U;exact⟨v,h1,key h2⟩
  ·rename_i bC eE
   split at U
   ·rename_i I
    have I:=Ti I
    subst I
    obtain⟨v,h1,h2⟩:=afk (P:=P) t h U ⟨λe=>bC e,λe=>eE e⟩
    exact⟨v,h1,key h2⟩
   ·exact U.elim
 ·rename_i m n
  split at U
  ·rename_i hu
   refine⟨_,U,λw hw=>?_⟩
   have e:=QV (P:=P) (w:=w) (op:= .eql) (t:=t) (x:=iJ) (y:=iK) (m:=m) (n:=n)
   have:=run_eql_bool (P:=P) w t m n hu
   simp[e,this]
  ·rename_i hu
   refine⟨_,U,λw hw=>?_⟩
   have e:=QV (P:=P) (w:=w) (op:= .neq) (t:=t) (x:=iJ) (y:=iK) (m:=m) (n:=n)
   have:=run_equal_bool (P:=P) w t m n hu
   simp[e,Go.binOp,this]
  ·exact U.elim
 ·rename_i m n
  split at U
  ·refine⟨_,U.2,λw hw=>?_⟩
   have e:=J7 (P:=P) (w:=w) (op:= .add) (t:=t) (x:=iJ) (y:=iK) (m:=m) (n:=n)
   have h1:=U.1
   have h2:¬((m.size+n.size:Nat):Int)>IntKind.i64.max:=by
    have:IntKind.i64.max=9223372036854775807:=by decide
    omega
   simp[e,Go.binOp,Op.stringOp,h2]
   omega
  ·refine⟨_,U,λw hw=>?_⟩
   have e:=J7 (P:=P) (w:=w) (op:= .eql) (t:=t) (x:=iJ) (y:=iK) (m:=m) (n:=n)
   simp[e,Go.binOp,Op.stringOp]
  ·refine⟨_,U,λw hw=>?_⟩
   have e:=J7 (P:=P) (w:=w) (op:= .neq) (t:=t) (x:=iJ) (y:=iK) (m:=m) (n:=n)
   simp[e,Go.binOp,Op.stringOp]
  ·exact U.elim
 ·rename_i p
  split at U
  ·rename_i hu
   refine⟨_,U,λw hw=>?_⟩
   have e:=FH (P:=P) (w:=w) (op:= .eql) (t:=t) (x:=iJ) (y:=iK) (m:=p) (n:=none)
   have:=Vk (P:=P) t _ p hu w
   simp[e,Go.binOp,this]
  ·rename_i hu
   refine⟨_,U,λw hw=>?_⟩
   have e:=FH (P:=P) (w:=w) (op:= .neq) (t:=t) (x:=iJ) (y:=iK) (m:=p) (n:=none)
   have:=Vk (P:=P) t _ p hu w
   simp[e,Go.binOp,this]
  ·exact U.elim
 ·rename_i p ca aK aF aG
  split at U
  ·rename_i hu
   refine⟨_,U,λw hw=>?_⟩
   have e:=QY (P:=P) (w:=w) (op:= .eql) (t:=t) (x:=iJ) (y:=iK) (m:=p) (n:=none) (a:=ca) (b:=aK) (c:=aF) (d:=aG)
   have:=Vm (P:=P) t _ p ca aK aF aG hu w
   simp[e,Go.binOp,this]
  ·rename_i hu
   refine⟨_,U,λw hw=>?_⟩
   have e:=QY (P:=P) (w:=w) (op:= .neq) (t:=t) (x:=iJ) (y:=iK) (m:=p) (n:=none) (a:=ca) (b:=aK) (c:=aF) (d:=aG)
   have:=Vm (P:=P) t _ p ca aK aF aG hu w
   simp[e,Go.binOp,this]
  ·exact U.elim
 ·rename_i xs ys
  split at U
  ·obtain⟨c,h1,h2,h3⟩:=OR U
   refine⟨_,h1,λw hw=>?_⟩
   have e:=QU (P:=P) (w:=w) (op:= .eql) (t:=t) (x:=iJ) (y:=iK) (xs:=xs) (ys:=ys) h2
   simp[e,Go.binOp,h3 w]
  ·obtain⟨c,h1,h2,h3⟩:=OR U
   refine⟨_,h1,λw hw=>?_⟩
   have e:=QU (P:=P) (w:=w) (op:= .neq) (t:=t) (x:=iJ) (y:=iK) (xs:=xs) (ys:=ys) h2
   simp[e,Go.binOp,h3 w]
  ·exact U.elim
 ·exact U.elim
theorem J6 {op:BinOp} {t:TypeId} {x y:Operand} {a b:Value} {c:Bool} (he:pg (isConst x||isConst y) a b=some c):(eqGuard op t x y a b).run P w= .ok () w:=by
 unfold pg at he
 split at he
 ·split at he
  ·rename_i hc
   unfold eqGuard
   cases x<;>cases y<;>simp[isConst]at hc<;>cases op<;>rfl
  ·cases he
 ·unfold eqGuard;cases op<;>rfl
 ·unfold eqGuard;cases op<;>rfl
 ·cases he
theorem MO (t:TypeId) (ms:_) {a b:Value} {k c:Bool} (hu:P.underlying t=some (.interface ms)) (he:pg k a b=some c) (w:World):(Op.equal t a b).run P w= .ok c w:=by
 have gY:=run_underlying (P:=P) hu w
 have key:∀d,(Op.equalIn (d+1) t a b).run P w= .ok c w:=by
  intro d
  unfold pg at he
  split at he
  ·split at he
   ·cases he;simp[Op.equalIn,gY]
   ·cases he
  ·cases he;simp[Op.equalIn,gY]
  ·cases he;simp[Op.equalIn,gY]
  ·cases he
 exact key 9999
theorem Y7 {x:Bool} {op:BinOp} {t:TypeId} {a b:Value} {K:Value->Prop} (iJ iK:Operand) (h:J) (U:sa P x op t iJ iK a b K):
 ∃v,K v/\IV P op t iJ iK a b h v:=by
 unfold sa at U
 split at U
 ·rename_i ms hu
  split at U
  ·obtain⟨c,h1,h2⟩:=U
   refine⟨_,h2,λw hw=>?_⟩
   have e:=J6 (P:=P) (w:=w) (op:= .eql) (t:=t) h1
   have:=MO (P:=P) t ms hu h1 w
   unfold pg at h1
   split at h1<;>(try cases h1)<;>simp[e,Go.binOp,this]
  ·obtain⟨c,h1,h2⟩:=U
   refine⟨_,h2,λw hw=>?_⟩
   have e:=J6 (P:=P) (w:=w) (op:= .neq) (t:=t) h1
   have:=MO (P:=P) t ms hu h1 w
   unfold pg at h1
   split at h1<;>(try cases h1)<;>simp[e,Go.binOp,this]
  ·exact U.elim
 ·rename_i k e hu
  split at U
  ·obtain⟨c,h1,h2⟩:=U
   obtain⟨m,rfl,rfl,rfl⟩:=TL h1
   refine⟨_,h2,λw hw=>?_⟩
   have e:=QX (P:=P) (w:=w) (op:= .eql) (t:=t) (x:=iJ) (y:=iK) (m:=m) (n:=none)
   have:=Vj (P:=P) t _ _ m hu w
   simp[e,Go.binOp,this]
  ·obtain⟨c,h1,h2⟩:=U
   obtain⟨m,rfl,rfl,rfl⟩:=TL h1
   refine⟨_,h2,λw hw=>?_⟩
   have e:=QX (P:=P) (w:=w) (op:= .neq) (t:=t) (x:=iJ) (y:=iK) (m:=m) (n:=none)
   have:=Vj (P:=P) t _ _ m hu w
   simp[e,Go.binOp,this]
  ·exact U.elim
 ·exact Y9 iJ iK h U
theorem amh {x:Bool} {op:UnOp} {a:Value} {K:Value->Prop} (h:J) (U:Bx x op a K):∃v,K v/\Yields P (Op.unary op a) h v:=by
 unfold Bx at U
 split at U
 ·exact⟨_,U,λw _=>by simp[Op.unary]⟩
 ·exact⟨_,zF U,λw _=>by simp[Op.unary,Op.intArith]⟩
 ·exact⟨_,U,λw _=>by simp[Op.unary,intBits_xor]⟩
 ·exact U.elim
theorem aac {x:Bool} {s d:TypeId} {a:Value} {K:Value->Prop} (h:J) (U:xZ P x s d a K):∃v,K v/\Yields P (convert s d a) h v:=by
 unfold xZ at U
 split at U
 ·rename_i hs hd
  exact⟨_,zF U,λw _=>by
   have h1:=run_underlying (P:=P) hs w
   have h2:=run_underlying (P:=P) hd w
   simp[convert,h1,h2,Conv.intToInt]⟩
 ·exact U.elim
theorem Ks {t:TypeId} (h:hM P t=true):∃i,P.info? t=some i/\sz P t=i.size:=by
 unfold hM at h
 split at h
 ·rename_i i hi;exact⟨i,hi,by simp[sz,hi]⟩
 ·cases h
theorem run_sizeOf {t:TypeId} (h:hM P t=true) (w:World):(sizeOf t).run P w= .ok (sz P t) w:=by
 obtain⟨i,hi,hs⟩:=Ks h
 simp[sizeOf,typeInfo,hi,hs]
theorem Cn {t:TypeId} {f:Nat} {K:Nat->TypeId->Prop} (U:x8 P t f K):
 ∃ki fd,P.underlying t=some (.struct ki)/\ki[f]?=some fd/\hM P fd.type=true/\sz P fd.type≠0/\K fd.offset fd.type:=by
 unfold x8 at U
 split at U
 ·rename_i ki hu
  split at U
  ·rename_i fd hf
   split at U
   ·rename_i n hi hs
    exact⟨ki,fd,hu,hf,hi,by rw[hs];omega,U⟩
   ·exact U.elim
  ·exact U.elim
 ·exact U.elim
theorem abG {t:TypeId} {a:Value} {f:Nat} {K:Value->Prop} (h:J)
 (U:pr a λb o=>x8 P t f λoff _=>K (.pointer (some ⟨b,o+off,none⟩))):∃v,K v/\Yields P (Instr.fieldAt t a f) h v:=by
 obtain⟨b,o,rfl,sx⟩:=tN U
 obtain⟨ki,fd,hu,hf,hi,hs,AA⟩:=Cn sx
 refine⟨_,AA,λw _=>?_⟩
 have h1:=run_underlying (P:=P) hu w
 have h2:=run_sizeOf (P:=P) hi w
 simp[Instr.fieldAt,h1,hf,Instr.sureAddr,fieldPlace,h2,hs,add_eq]
theorem ML {h:J} {b:Nat}:∀{n o:Nat} {cs:List Value},row h b o n=some cs->cs.length=n/\∀j v,cs[j]?=some v->cell h b (o+j)=some v
 |0,o,cs,U=>by simp[row]at U;subst U;simp
 |n+1,o,cs,U=>by
  simp only[row]at U
  split at U
  ·rename_i v r h1 h2
   cases U
   obtain⟨uX,i2⟩:=ML h2
   refine⟨by simp[uX],λj u ah=>?_⟩
   cases j with
   |zero=>simp at ah;subst ah;simpa using h1
   |succ j=>simp at ah;have:=i2 j u ah;rw[show o+1+j=o+(j+1) by omega]at this;exact this
  ·cases U
theorem Be {h:J} {b o n:Nat} {cs:List Value} (U:row h b o n=some cs) (hw:w.heap=h):(loadCells ⟨b,o,none⟩ n).run P w= .ok cs.toArray w:=by
 obtain⟨h1,h2⟩:=ML U
 subst h1
 refine run_loadCells_list w _ cs λj v ah=>?_
 rw[add_eq,cell?_eq,hw];exact h2 j v ah
theorem Mc {d:TypeDesc} {c:Option Value} {K:Value->Prop} (h:one d c K):∃v,c=some v/\K v:=by
 unfold one at h
 split at h
 ·obtain⟨n,h1,h2⟩:=h;exact⟨_,h1,h2⟩
 ·obtain⟨n,h1,h2⟩:=h;exact⟨_,h1,h2⟩
 ·obtain⟨n,h1,h2⟩:=h;exact⟨_,h1,h2⟩
 ·obtain⟨n,l,m,h1,h2⟩:=h;exact⟨_,h1,h2⟩
 ·obtain⟨n,h1,h2⟩:=h;exact⟨_,h1,h2⟩
 ·obtain⟨n,h1,h2⟩:=h;exact⟨_,h1,h2⟩
theorem To {t:TypeId} {h:J} {b o:Nat} {K:Value->Prop} (U:yG P t h b o K):∃v,K v/\Yields P (Instr.loadAt t (.pointer (some ⟨b,o,none⟩))) h v:=by
 unfold yG at U
 split at U
 ·rename_i hu
  split at U
  ·rename_i hi
   obtain⟨cs,h1,h2⟩:=U
   refine⟨_,h2,λw hw=>?_⟩
   have af:=run_underlying (P:=P) hu w
   have ag:=run_sizeOf (P:=P) hi w
   have aI:=Be (P:=P) h1 hw
   simp[Instr.loadAt,Instr.sureAddr,loadVar,isAgg,af,ag,aI]
  ·exact U.elim
 ·rename_i hu
  split at U
  ·rename_i hi
   obtain⟨cs,h1,h2⟩:=U
   refine⟨_,h2,λw hw=>?_⟩
   have af:=run_underlying (P:=P) hu w
   have ag:=run_sizeOf (P:=P) hi w
   have aI:=Be (P:=P) h1 hw
   simp[Instr.loadAt,Instr.sureAddr,loadVar,isAgg,af,ag,aI]
  ·exact U.elim
 ·rename_i d bC eE hu
  obtain⟨v,h1,h2⟩:=Mc U
  refine⟨v,h2,λw hw=>?_⟩
  have af:=run_underlying (P:=P) hu w
  have ag:w.cell? ⟨b,o,none⟩=some v:=by rw[cell?_eq,hw];exact h1
  cases d<;>first|exact(bC _ rfl).elim|exact(eE _ _ rfl).elim|simp[Instr.loadAt,Instr.sureAddr,loadVar,isAgg,af,ag]
 ·exact U.elim
theorem Ot {t:TypeId} {a:Value} {off:Nat} {K:Value->Prop} (h:J) (U:rb P t a off K):
 ∃cs,a= .agg cs/\∃v,K v/\Yields P (part t cs off) h v:=by
 unfold rb at U
 split at U
 ·rename_i cs
  refine⟨cs,rfl,?_⟩
  split at U
  ·rename_i hu
   split at U
   ·rename_i hi
    refine⟨_,U,λw hw=>?_⟩
    have af:=run_underlying (P:=P) hu w
    have ag:=run_sizeOf (P:=P) hi w
    have aI:cs.extract off (off+sz P t)=(List.take (sz P t) (List.drop off cs.toList)).toArray:=by
     apply Array.ext';simp[List.take_drop]
    simp[part,isAgg,af,ag,aI]
   ·exact U.elim
  ·rename_i hu
   split at U
   ·rename_i hi
    refine⟨_,U,λw hw=>?_⟩
    have af:=run_underlying (P:=P) hu w
    have ag:=run_sizeOf (P:=P) hi w
    have aI:cs.extract off (off+sz P t)=(List.take (sz P t) (List.drop off cs.toList)).toArray:=by
     apply Array.ext';simp[List.take_drop]
    simp[part,isAgg,af,ag,aI]
   ·exact U.elim
  ·rename_i d bC eE hu
   obtain⟨v,h1,h2⟩:=Mc U
   refine⟨v,h2,λw hw=>?_⟩
   have af:=run_underlying (P:=P) hu w
   have ag:cs[off]?=some v:=by simpa using h1
   cases d<;>first|exact(bC _ rfl).elim|exact(eE _ _ rfl).elim|simp[part,isAgg,af,ag]
  ·exact U.elim
 ·exact U.elim
end Go.Vc
