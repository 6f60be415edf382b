import Derived.Laws.MakeOwn
import Derived.Test.YtjlkfjnfnonekaaGreatDoorVcRd2
set_option linter.all false
namespace Go.Vc
variable{P:Program} {w:World}
theorem cH.alloc (w:World) (o:Obj):cH w {w with heap:=w.heap.push o}:=⟨rfl,rfl,rfl,Nat.le_refl _⟩
theorem aky (w:World) (b o:Nat) (v:Value):w.setCell ⟨b,o,none⟩ v={w with heap:=b3 w.heap b o v}:=by
 unfold World.setCell b3;rfl
theorem aqA {h:J} {b o:Nat} (hw:wr h b o):∃v,cell h b o=some v:=by
 obtain⟨c,e,cw,hi,h1,h2,_⟩:=hw
 exact⟨c[o],by simp[cell,h1,h2]⟩
theorem aqB {w:World} {b o:Nat} (hw:wr w.heap b o):w.frozen? ⟨b,o,none⟩=false:=by
 obtain⟨c,e,cw,hi,h1,h2,h3⟩:=hw
 simp only[World.frozen?,h1]
 simpa usingλa=>by omega
theorem akf {b o:Nat} {v:Value} (hw:wr w.heap b o) (hv:v.oneCell'=true):(store ⟨b,o,none⟩ v).run P w= .ok () {w with heap:=b3 w.heap b o v}:=by
 obtain⟨u,hu⟩:=aqA hw
 have h1:w.cell? ⟨b,o,none⟩=some u:=by rw[cell?_eq];exact hu
 rw[run_store P w _ v .plain hv,h1]
 simp[aqB hw,aky]
theorem Vy {h:J} {b o:Nat} {v:Value} {c:Array Value} {e:TypeId} {f:Nat×Nat} (hb:h[b]?=some (.cells c e f)):(b3 h b o v)[b]?=some (.cells (c.setIfInBounds o v) e f):=by
 have cn:=(Array.getElem?_eq_some_iff.1 hb).1
 have hv:=(Array.getElem?_eq_some_iff.1 hb).2
 unfold b3
 rw[Array.getElem?_eq_getElem (by simpa using cn),Array.getElem_modify_self,hv]
theorem aqE {h:J} {b o n i:Nat} (hw:c0 h b o n) (hi:i<n):wr h b (o+i):=by
 obtain⟨c,e,cw,hi',h1,h2,h3⟩:=hw
 exact⟨c,e,cw,hi',h1,by omega,by omega⟩
theorem aqD {h:J} {b o n:Nat} {v:Value} (hw:c0 h b o (n+1)):c0 (b3 h b o v) b (o+1) n:=by
 obtain⟨c,e,cw,hi',h1,h2,h3⟩:=hw
 exact⟨_,e,cw,hi',Vy h1,by simp;omega,by omega⟩
theorem Bf {b o:Nat}:∀{vs:List Value} {i:Nat} {w:World},c0 w.heap b (o+i) vs.length->(∀u∈vs,u.oneCell'=true)->
 (storeCells ⟨b,o,none⟩ vs i).run P w= .ok () {w with heap:=bm w.heap b (o+i) vs}
 |[],i,w,_,_=>rfl
 |v::vs,i,w,hw,h1=>by
  have af:(store ⟨b,o+i,none⟩ v).run P w= .ok () {w with heap:=b3 w.heap b (o+i) v}:=
   akf (by have:=aqE hw (i:=0) (by simp);simpa using this) (h1 v (by simp))
  have ag:=Bf (b:=b) (o:=o) (vs:=vs) (i:=i+1) (w:={w with heap:=b3 w.heap b (o+i) v}) (by have:=aqD (v:=v) hw;simpa[Nat.add_assoc]using this) (λu hu=>h1 u (by simp[hu]))
  simp only[storeCells,Sem.run_bind,add_eq,af,Result.andThen_ok,ag]
  simp[bm,Nat.add_assoc]
theorem aih {v:Value} {X:Prop} (h:DO v X):v.oneCell'=true/\X:=by cases v<;>first|exact⟨rfl,h⟩|exact h.elim
theorem ZD {v:Value} (h:v.oneCell'=true):v.cells=#[v]:=by cases v<;>first|rfl|cases h
theorem aln {t:TypeId} {h:J} {b o:Nat} {v:Value} {K:J->Prop} (U:Em P t h b o v K) (hw:w.heap=h):
 ∃w',(Instr.storeAt t (.pointer (some ⟨b,o,none⟩)) v).run P w= .ok () w'/\cH w w'/\K w'.heap:=by
 subst hw
 have main:∀{t:TypeId},hM P t=true->∀{v:Value},v.cells.toList.length=sz P t->c0 w.heap b o v.cells.toList.length->(∀u∈v.cells.toList,u.oneCell'=true)->
  (Instr.storeAt t (.pointer (some ⟨b,o,none⟩)) v).run P w= .ok () {w with heap:=bm w.heap b o v.cells.toList}:=by
  intro t hi v hl uS h1
  have ag:=run_sizeOf (P:=P) hi w
  have aI:=Bf (P:=P) (b:=b) (o:=o) (vs:=v.cells.toList) (i:=0) (w:=w) (by simpa using uS) h1
  have C6:v.cells.size=sz P t:=by simpa using hl
  simp only[Nat.add_zero]at aI
  simp[Instr.storeAt,Instr.sureAddr,storeVar,ag,C6,aI]
 unfold Em at U
 split at U
 ·rename_i hu
  split at U
  ·rename_i cs hi
   obtain⟨⟨h1,h2,h3⟩,h4⟩:=U
   exact⟨_,main hi (v:= .agg cs) h1 (by simp only[Value.cells];rw[h1];exact h2) h3,⟨rfl,rfl,rfl,Nat.le_refl _⟩,h4 _ rfl⟩
  ·exact U.elim
 ·rename_i hu
  split at U
  ·rename_i cs hi
   obtain⟨⟨h1,h2,h3⟩,h4⟩:=U
   exact⟨_,main hi (v:= .agg cs) h1 (by simp only[Value.cells];rw[h1];exact h2) h3,⟨rfl,rfl,rfl,Nat.le_refl _⟩,h4 _ rfl⟩
  ·exact U.elim
 ·split at U
  ·rename_i hi hs
   obtain⟨hv,wH,mi⟩:=aih U
   have hc:=ZD hv
   refine⟨_,main hi (v:=v) (by rw[hc,hs];rfl) ?_ (by rw[hc];simpa using hv),⟨rfl,rfl,rfl,Nat.le_refl _⟩,mi _ (by rw[hc];rfl)⟩
   rw[hc]
   obtain⟨c,e,cw,hi',h1,h2,h3⟩:=wH
   exact⟨c,e,cw,hi',h1,by simp;omega,by simp;omega⟩
  ·exact U.elim
 ·exact U.elim
theorem D6 {size n:Nat} {a:Option Addr} {l c:Nat} {cs:List Value} (hs:src w.heap a (n*size) cs):(Builtin.firstCells size n (.slice a l c)).run P w= .ok cs.toArray w:=by
 unfold src at hs
 split at hs
 ·subst hs;rfl
 ·exact Be hs rfl
 ·obtain⟨h1,rfl⟩:=hs
  simp only[Builtin.firstCells,h1]
  exact run_loadCells_list w _ [] (by simp)
theorem GF {e:TypeId} {i:TypeInfo} (hi:P.info? e=some i):bytesOf P e=i.bytes:=by simp[bytesOf,hi]
theorem It {t:TypeId} (h:BC P t=true):∃i,P.info? t=some i/\∃z,i.zero=some z/\z.cells.size=i.size:=by
 unfold BC at h
 split at h
 ·rename_i i hi
  split at h
  ·rename_i z hz
   exact⟨i,hi,z,hz,by simpa using Nat.eq_of_beq_eq_true h⟩
  ·cases h
 ·cases h
theorem XL {T T2 ag:TypeId} {s x:Value} {h:J} {K:Value->J->Prop} (nq:P.underlying T2=some (.slice ag)) (U:Jc P T s x h K) (hw:w.heap=h) (ty:TypeId):
 ∃v w',(Builtin.append_ #[T,T2] ty #[s,x]).run P w= .ok v w'/\cH w w'/\K v w'.heap:=by
 subst hw
 unfold Jc at U
 split at U
 ·rename_i e hu
  split at U
  ·rename_i a len cap a2 il aG Lc
   obtain⟨news,⟨h1,h2⟩,mu,CZ⟩:=U
   obtain⟨i,lW,z,qs,yB⟩:=It Lc
   have hi:hM P e=true:=by simp[hM,lW]
   have qo:sz P e=i.size:=by simp[sz,lW]
   have af:=run_underlying (P:=P) hu w
   have aI:=run_underlying (P:=P) nq w
   have mg:=run_sizeOf (P:=P) hi w
   have Cl:=D6 (P:=P) (size:=sz P e) (n:=il) (a:=a2) (l:=il) (c:=aG) h1
   by_cases hle:len+il<=cap
   ·have I:=mu hle
    unfold E9 at I
    split at I
    ·refine⟨_,w,?_,cH.refl w,I⟩
     simp[Builtin.append_,af,aI,mg,Builtin.lenOf,hle,Cl]
    ·rename_i b o
     obtain⟨uS,mi⟩:=I
     have nN:=Bf (P:=P) (b:=b) (o:=o+len*sz P e) (vs:=news) (i:=0) (w:=w) (by simpa using uS) h2
     simp only[Nat.add_zero]at nN
     refine⟨_,{w with heap:=bm w.heap b (o+len*sz P e) news},?_,⟨rfl,rfl,rfl,Nat.le_refl _⟩,mi _ rfl⟩
     simp[Builtin.append_,af,aI,mg,Builtin.lenOf,hle,Cl,add_eq,nN]
    ·exact I.elim
   ·obtain⟨⟨gn,nQ⟩,rI,aw,mi⟩:=CZ (by omega)
    rw[GF lW]at gn nQ
    have mo:¬Builtin.nextslicecap (len+il) cap*i.bytes>281474976710656:=by
     have:=growslice_fits (need:=len+il) (old:=cap) (bytes:=i.bytes) (by omega) gn
     omega
    have fj:¬i.bytes=0:=by omega
    have c9:=mi (grownCap w (len+il) cap e) (Builtin.zeroCells z.cells (grownCap w (len+il) cap e -(len+il))).toList w.heap.size
     (w.heap.push (.cells (rI++news++(Builtin.zeroCells z.cells (grownCap w (len+il) cap e -(len+il))).toList).toArray e)) (grownCap_ge w _ _ _)
     (by rw[Array.length_toList,size_zeroCells,yB,qo]) rfl rfl
    have hA:(rI++news++(Builtin.zeroCells z.cells (grownCap w (len+il) cap e -(len+il))).toList).toArray=rI.toArray++news.toArray++Builtin.zeroCells z.cells (grownCap w (len+il) cap e -(len+il)):=by
     apply Array.ext';simp
    rw[hA]at c9
    refine⟨_,w.drew.alloc (.cells (rI.toArray++news.toArray++Builtin.zeroCells z.cells (grownCap w (len+il) cap e -(len+il))) e),?_,⟨rfl,rfl,rfl,Nat.le_succ _⟩,c9⟩
    have dW:=D6 (P:=P) (w:=w.drew) (size:=sz P e) (n:=len) (a:=a) (l:=len) (c:=cap) aw
    have aaT:=D6 (P:=P) (w:=w.drew) (size:=sz P e) (n:=il) (a:=a2) (l:=il) (c:=aG) h1
    simp[Builtin.append_,af,aI,mg,Builtin.lenOf,hle,typeInfo,lW,fj,mo,Question.forced,dW,aaT,zeroValue,qs,newRow,grownCap]
    have JB:∀x y:Array Value,x=y->w.drew.alloc (.cells x e)=w.drew.alloc (.cells y e):= λ_ _ h=>by rw[h]
    exact JB _ _ (by apply Array.ext';simp)
  ·exact U.elim
 ·exact U.elim
theorem Ow {h:J} {T:TypeId} {v:Value} {K:Value->J->Prop} (U:BU h T v.cells.toList λb h1=>K (.pointer (some ⟨b,0,none⟩)) h1) (hw:w.heap=h):
 ∃w',(Instr.box T v).run P w= .ok (.pointer (some ⟨w.heap.size,0,none⟩)) w'/\cH w w'/\K (.pointer (some ⟨w.heap.size,0,none⟩)) w'.heap:=by
 subst hw
 refine⟨{w with heap:=w.heap.push (.cells v.cells T)},?_,⟨rfl,rfl,rfl,Nat.le_refl _⟩,U _ _ rfl (by simp)⟩
 simp[Instr.box,newVar,newRow]
theorem EJ {t:TypeId} {K:Value->Prop} (h:rX P t K):∃i z,P.info? t=some i/\i.zero=some z/\K z:=by
 unfold rX at h
 split at h
 ·rename_i i hi
  split at h
  ·rename_i z hz;exact⟨i,z,hi,hz,h⟩
  ·exact h.elim
 ·exact h.elim
theorem Tc (z:List Value):∀(n j:Nat),j<n*z.length->(cX (List.replicate n z))[j]?=z[j%z.length]?
 |0,j,h=>by simp at h
 |n+1,j,h=>by
  rw[List.replicate_succ];simp only[cX]
  rw[List.getElem?_append]
  split
  ·rename_i cn;rw[Nat.mod_eq_of_lt cn]
  ·rename_i cn
   rw[Tc z n (j -z.length) (by rw[Nat.succ_mul]at h;omega),<-Nat.mod_eq_sub_mod (by omega)]
theorem Ng (n m:Nat):kP (List.replicate n m)=n*m:=by
 induction n with
 |zero=>simp[kP]
 |succ n b9=>rw[List.replicate_succ];simp only[kP];rw[b9,Nat.succ_mul];omega
theorem ME (z:Array Value) (n:Nat):(Array.range (n*z.size)).map (λi=>z[i%z.size]!)=(cX (List.replicate n z.toList)).toArray:=by
 apply Array.ext
 ·simp only[Array.size_map,Array.size_range,List.size_toArray,Du,List.map_replicate,Ng,Array.length_toList]
 ·intro i h1 h2
  simp only[Array.size_map,Array.size_range]at h1
  have hz:0<z.size:=by
   rcases Nat.eq_zero_or_pos z.size with h|h
   ·rw[h]at h1;simp at h1
   ·exact h
  have hm:i%z.size<z.size:=Nat.mod_lt _ hz
  have e:=Tc z.toList n i (by simpa using h1)
  have ag:(cX (List.replicate n z.toList))[i]?=some z[i%z.size]:=by
   rw[e];simp[hm]
  have aI:(cX (List.replicate n z.toList)).toArray[i]=z[i%z.size]:=by
   have:=List.getElem?_eq_some_iff.1 ag
   obtain⟨_,h4⟩:=this
   simpa using h4
  rw[aI]
  simp[hm]
theorem Zl {t:TypeId} {len:Nat} {parts:List (Nat×Value)} {h:J} {K:Value->J->Prop} (U:Fo P t len parts h K) (hw:w.heap=h):
 ∃v w',(Instr.buildSlice t len parts.toArray).run P w= .ok v w'/\cH w w'/\K v w'.heap:=by
 subst hw
 unfold Fo at U
 split at U
 ·rename_i e hu
  split at U
  ·rename_i Lf hle
   obtain⟨i,z,hi,hz,sx⟩:=EJ U
   obtain⟨AL,hi',NR,Dj,hs⟩:=It Lf
   rw[hi]at hi';cases hi'
   rw[hz]at Dj;cases Dj
   have qo:sz P e=i.size:=by simp[sz,hi]
   have hle:=Nat.le_of_ble_eq_true hle
   obtain⟨tc,k1,_,k3⟩:=FK (place:= λj=>some (j*sz P e,sz P e)) (λj n hn=>by
    obtain⟨r1,r2⟩:=U4 hn
    rw[VV r1,r2]) (by rw[List.map_replicate,Array.length_toList,hs,qo]) sx
   refine⟨_,_,?_,cH.alloc w _,k1 _ _ rfl rfl⟩
   have af:=run_underlying (P:=P) hu w
   have hno:¬16777216<len*i.size:=by rw[qo]at hle;omega
   have hn:Instr.fill (λj=>some (j*i.size,i.size)) ((Array.range (len*i.size)).map (λj=>(if len*i.size=0 then#[]else z.cells)[j%(if len*i.size=0 then#[]else z.cells).size]!)) parts=some (cX tc).toArray:=by
    rw[qo]at k3
    rw[<-k3]
    congr 1
    by_cases h0:len*i.size=0
    ·have:(cX (List.replicate len z.cells.toList)).toArray=#[]:=by
      have hl:(cX (List.replicate len z.cells.toList)).length=0:=by
       rw[Du,List.map_replicate,Ng,Array.length_toList,hs,h0]
      rw[List.eq_nil_of_length_eq_zero hl]
     rw[this,h0];simp
    ·rw[if_neg h0,<-ME,hs]
   by_cases h0:len*i.size=0
   ·have adx:Instr.fill (λj=>some (j*i.size,i.size)) #[] parts=some (cX tc).toArray:=by rw[<-hn,h0];simp[Array.range_zero']
    simp[Instr.buildSlice,af,sizeOf,typeInfo,hi,zeroValue,hz,hno,h0,adx,newRow,Array.range_zero']
   ·simp only[h0,if_false]at hn
    simp[Instr.buildSlice,af,sizeOf,typeInfo,hi,zeroValue,hz,hno,h0,hn,newRow]
  ·exact U.elim
 ·exact U.elim
theorem agZ {t:TypeId} {l c:Value} {h:J} {K:Value->J->Prop} (U:GX P t l c h K) (hw:w.heap=h):
 ∃v w',(Instr.makeSlice t l c).run P w= .ok v w'/\cH w w'/\K v w'.heap:=by
 subst hw
 unfold GX at U
 split at U
 ·rename_i e hu
  split at U
  ·rename_i afD l mz c Lf
   obtain⟨⟨h1,h2,h3,h4⟩,U⟩:=U
   obtain⟨i,z,hi,hz,sx⟩:=EJ U
   obtain⟨AL,hi',NR,Dj,hs⟩:=It Lf
   rw[hi]at hi';cases hi'
   rw[hz]at Dj;cases Dj
   rw[GF hi]at h3
   have hm:=run_make (P:=P) w t e i z hu hi hz afD mz l c h1 h2 h3 h4
   refine⟨_,_,hm,?_,sx _ _ rfl ?_⟩
   ·exact cH.alloc w _
   ·have:madeCells z.cells (c.toNat*i.size)=(cX (List.replicate c.toNat z.cells.toList)).toArray:=by
     rw[<-hs,<-ME];rfl
    rw[this];rfl
  ·exact U.elim
 ·exact U.elim
theorem aad {T T2:TypeId} {d s:Value} {h:J} {K:Value->J->Prop} (U:JJ P T d s h K) (hw:w.heap=h) (ty:TypeId):
 ∃v w',(Builtin.copy_ #[T,T2] ty #[d,s]).run P w= .ok v w'/\cH w w'/\K v w'.heap:=by
 subst hw
 unfold JJ at U
 split at U
 ·rename_i e hu
  split at U
  ·rename_i a len cap a2 il aG hi
   obtain⟨news,⟨h1,h2⟩,I⟩:=U
   have af:=run_underlying (P:=P) hu w
   have mg:=run_sizeOf (P:=P) hi w
   have Cl:=D6 (P:=P) (size:=sz P e) (n:=min il len) (a:=a2) (l:=il) (c:=aG) h1
   have em:Nat.min il len=min il len:=rfl
   unfold gb at I
   split at I
   ·refine⟨_,w,?_,cH.refl w,I⟩
    simp[Builtin.copy_,af,mg,Builtin.lenOf,em,Cl,goInt]
   ·rename_i b o
    obtain⟨uS,mi⟩:=I
    have nN:=Bf (P:=P) (b:=b) (o:=o) (vs:=news) (i:=0) (w:=w) (by simpa using uS) h2
    simp only[Nat.add_zero]at nN
    refine⟨_,{w with heap:=bm w.heap b o news},?_,⟨rfl,rfl,rfl,Nat.le_refl _⟩,mi _ rfl⟩
    simp[Builtin.copy_,af,mg,Builtin.lenOf,em,Cl,goInt,nN]
   ·exact I.elim
  ·exact U.elim
 ·exact U.elim
theorem WT {i:TypeInfo} {z:Value} (n:Nat):Builtin.zeroCells z.cells n=(cX (List.replicate n z.cells.toList)).toArray:=ME z.cells n
theorem wK {l:List Value} (h1:∀u∈l,u.oneCell'=true):∀n:Nat,∀u∈cX (List.replicate n l),u.oneCell'=true
 |0,u,hu=>by cases hu
 |n+1,u,hu=>by
  have hu:u∈l++cX (List.replicate n l):=hu
  rcases List.mem_append.1 hu with h|h
  ·exact h1 u h
  ·exact wK h1 n u h
theorem Z6 {T:TypeId} {s:Value} {h:J} {K:J->Prop} (U:gR P T s h K) (hw:w.heap=h) (ty:TypeId):
 ∃w',(Builtin.clear_ #[T] ty #[s]).run P w= .ok (.tuple #[]) w'/\cH w w'/\K w'.heap:=by
 subst hw
 unfold gR at U
 split at U
 ·rename_i e a len cap hu
  have af:=run_underlying (P:=P) hu w
  split at U
  ·exact⟨w,by cases a<;>simp[Builtin.clear_,af],cH.refl w,U⟩
  ·rename_i len
   obtain⟨i,z,hi,hz,h1,I⟩:=EJ U
   have dW:(zeroValue e).run P w= .ok z w:=by simp[zeroValue,typeInfo,hi,hz]
   unfold gb at I
   split at I
   ·exact⟨w,by simp[Builtin.clear_,af],cH.refl w,I⟩
   ·rename_i b o
    obtain⟨uS,mi⟩:=I
    have nN:=Bf (P:=P) (b:=b) (o:=o) (vs:=cX (List.replicate (len+1) z.cells.toList)) (i:=0) (w:=w) (by simpa using uS) (wK h1 _)
    simp only[Nat.add_zero]at nN
    refine⟨{w with heap:=bm w.heap b o (cX (List.replicate (len+1) z.cells.toList))},?_,⟨rfl,rfl,rfl,Nat.le_refl _⟩,mi _ rfl⟩
    simp[Builtin.clear_,af,dW,WT (i:=i),nN]
   ·exact I.elim
 ·exact U.elim
theorem XJ {T T2:TypeId} {k2:IntKind} {s x:Value} {h:J} {K:Value->J->Prop} (nq:P.underlying T2=some (.int k2)) (U:Jb P T s x h K) (hw:w.heap=h) (ty:TypeId):
 ∃v w',(Builtin.append_ #[T,T2] ty #[s,x]).run P w= .ok v w'/\cH w w'/\K v w'.heap:=by
 subst hw
 unfold Jb at U
 split at U
 ·rename_i e hu
  split at U
  ·rename_i a len cap n Lc
   obtain⟨⟨KS,RO,Gh⟩,U⟩:=U
   obtain⟨i,z,lW,qs,h2,mu,CZ⟩:=EJ U
   obtain⟨AL,R6,NR,SL,yB⟩:=It Lc
   rw[lW]at R6;cases R6
   rw[qs]at SL;cases SL
   obtain⟨m,rfl⟩:∃m:Nat,n=(m:Int):=⟨n.toNat,by omega⟩
   simp only[Int.toNat_natCast]at mu CZ RO Gh
   have hi:hM P e=true:=by simp[hM,lW]
   have qo:sz P e=i.size:=by simp[sz,lW]
   have af:=run_underlying (P:=P) hu w
   have aI:=run_underlying (P:=P) nq w
   have mg:=run_sizeOf (P:=P) hi w
   have dW:∀w:World,(zeroValue e).run P w= .ok z w:= λw=>by simp[zeroValue,typeInfo,lW,qs]
   generalize KU:cX (List.replicate m z.cells.toList)=news at mu CZ
   have AK:Builtin.zeroCells z.cells m=news.toArray:=by rw[WT (i:=i),KU]
   have h1:∀u∈news,u.oneCell'=true:=by rw[<-KU];exact wK h2 m
   have Ax:news.length=m*sz P e:=by rw[<-KU,Du,List.map_replicate,Ng,Array.length_toList,yB,qo]
   have z7:∀w:World,(asInt (.int .i64 (m:Int))).run P w= .ok (m:Int) w:= λw=>rfl
   have wH:IntKind.i64.wrap (m:Int)=(m:Int):=IntWalk.i64_in _ (by omega)
   have rv:¬((m:Int)<0):=by omega
   have dK:¬((m:Int)*(i.bytes:Int)>281474976710656):=by
    rw[GF lW]at RO
    have:((m*i.bytes:Nat):Int)=(m:Int)*(i.bytes:Int):=by push_cast;rfl
    omega
   by_cases hle:len+m<=cap
   ·have I:=mu hle
    unfold E9 at I
    split at I
    ·refine⟨_,w,?_,cH.refl w,I⟩
     by_cases h0:m*sz P e=0
     ·simp[Builtin.append_,af,aI,mg,z7,wH,rv,dK,typeInfo,lW,hle,h0]
     ·simp[Builtin.append_,af,aI,mg,z7,wH,rv,dK,typeInfo,lW,hle,h0,dW,AK]
    ·rename_i b o
     obtain⟨uS,mi⟩:=I
     have nN:=Bf (P:=P) (b:=b) (o:=o+len*sz P e) (vs:=news) (i:=0) (w:=w) (by simpa using uS) h1
     simp only[Nat.add_zero]at nN
     refine⟨_,{w with heap:=bm w.heap b (o+len*sz P e) news},?_,⟨rfl,rfl,rfl,Nat.le_refl _⟩,mi _ rfl⟩
     by_cases h0:m*sz P e=0
     ·have:news=[]:=List.eq_nil_of_length_eq_zero (by omega)
      subst this
      simp[Builtin.append_,af,aI,mg,z7,wH,rv,dK,typeInfo,lW,hle,h0,add_eq,nN,bm]
     ·simp[Builtin.append_,af,aI,mg,z7,wH,rv,dK,typeInfo,lW,hle,h0,dW,AK,add_eq,nN]
    ·exact I.elim
   ·obtain⟨⟨gn,nQ⟩,rI,aw,mi⟩:=CZ (by omega)
    rw[GF lW]at gn nQ
    have mo:¬Builtin.nextslicecap (len+m) cap*i.bytes>281474976710656:=by
     have:=growslice_fits (need:=len+m) (old:=cap) (bytes:=i.bytes) (by omega) gn
     omega
    have fj:¬i.bytes=0:=by omega
    have arI:len+m<=(len+m)*i.bytes:=by
     have:(len+m)*1<=(len+m)*i.bytes:=Nat.mul_le_mul_left _ (by omega)
     omega
    have Sm:¬(9223372036854775807:Int)<(len:Int)+(m:Int):=by omega
    have c9:=mi (grownCap w (len+m) cap e) (Builtin.zeroCells z.cells (grownCap w (len+m) cap e -(len+m))).toList w.heap.size
     (w.heap.push (.cells (rI++news++(Builtin.zeroCells z.cells (grownCap w (len+m) cap e -(len+m))).toList).toArray e)) (grownCap_ge w _ _ _)
     (by rw[Array.length_toList,size_zeroCells,yB,qo]) rfl rfl
    have hA:(rI++news++(Builtin.zeroCells z.cells (grownCap w (len+m) cap e -(len+m))).toList).toArray=rI.toArray++news.toArray++Builtin.zeroCells z.cells (grownCap w (len+m) cap e -(len+m)):=by
     apply Array.ext';simp
    rw[hA]at c9
    refine⟨_,w.drew.alloc (.cells (rI.toArray++news.toArray++Builtin.zeroCells z.cells (grownCap w (len+m) cap e -(len+m))) e),?_,⟨rfl,rfl,rfl,Nat.le_succ _⟩,c9⟩
    have QE:=D6 (P:=P) (w:=w.drew) (size:=sz P e) (n:=len) (a:=a) (l:=len) (c:=cap) aw
    have JB:∀x y:Array Value,x=y->w.drew.alloc (.cells x e)=w.drew.alloc (.cells y e):= λ_ _ h=>by rw[h]
    by_cases h0:m*sz P e=0
    ·have:news=[]:=List.eq_nil_of_length_eq_zero (by omega)
     subst this
     simp[Builtin.append_,af,aI,mg,z7,wH,rv,dK,Sm,hle,h0,typeInfo,lW,fj,mo,Question.forced,QE,zeroValue,qs,newRow,grownCap]
    ·simp[Builtin.append_,af,aI,mg,z7,wH,rv,dK,Sm,hle,h0,typeInfo,lW,fj,mo,Question.forced,QE,zeroValue,qs,AK,newRow,grownCap]
     exact JB _ _ (by apply Array.ext';simp)
  ·exact U.elim
 ·exact U.elim
theorem I6 {t:TypeId} {K:Value->Prop} (h:mZ P t K):∃v,K v:=by
 unfold mZ at h
 split at h
 ·obtain⟨n,h⟩:=h;exact⟨_,h⟩
 ·obtain⟨n,h⟩:=h;exact⟨_,h⟩
 ·obtain⟨n,h⟩:=h;exact⟨_,h⟩
 ·obtain⟨n,l,m,h⟩:=h;exact⟨_,h⟩
 ·obtain⟨n,h⟩:=h;exact⟨_,h⟩
 ·obtain⟨n,h⟩:=h;exact⟨_,h⟩
 ·obtain⟨n,h⟩:=h;exact⟨_,h⟩
 ·exact h
theorem OG:∀{ts:List TypeId} {K:List Value->Prop},I7 P ts K->∃vs,K vs
 |[],K,h=>⟨[],h⟩
 |t::r,K,h=>by
  obtain⟨v,h1⟩:=I6 h
  obtain⟨vs,h2⟩:=OG h1
  exact⟨_,h2⟩
theorem We {t:TypeId} {v:Value} {K:Value->Prop} (h:Ih P t v K):K v:=by
 unfold Ih at h
 split at h
 ·split at h
  ·exact h
  ·obtain⟨vs,h1,h2⟩:=OG h;rw[h1];exact h2
 ·obtain⟨u,h1,h2⟩:=I6 h;rw[h1];exact h2
theorem aak (a:Value) (xs:Array Value):(#[a]++xs)[0]?=some a:=by
 rw[Array.getElem?_append_left (by simp)];rfl
theorem aal (a:Value) (xs:Array Value):(#[a]++xs).extract 1 (#[a]++xs).size=xs:=by
 rw[Array.extract_append]
 simp
theorem ag0 {t:TypeId} {x:Value} {name:String} {f:FuncId} {w:World} (hm:u5 P t name=some f):(Go.method (P.types.size+Made.depth) t x name).run P w= .ok (f,x) w:=by
 unfold u5 at hm
 split at hm
 ·rename_i i hi
  split at hm
  ·rename_i m hf
   split at hm
   ·rename_i aq7 e hp hfn hu
    cases hm
    obtain⟨n,hn⟩:∃n,P.types.size+Made.depth=n+1:=⟨P.types.size+99,by simp[Made.depth]⟩
    rw[hn]
    simp[method,typeInfo,hi,hf,hp,hfn,follow,receiverAt,run_underlying hu,Place.get]
   ·cases hm
  ·cases hm
 ·cases hm
theorem yK {r:Nat} {es:List MapEntry} {c:Nat} (h:tK w.heap (some r)=some (es,c)):w.heap[r]?=some (.map es.toArray c)/\(getObj r).run P w= .ok (.map es.toArray c) w:=by
 unfold tK at h
 dsimp only at h
 split at h
 ·rename_i abr c' hb
  cases h
  exact⟨by simpa using hb,by simp[getObj,Sem.run,hb]⟩
 ·cases h
theorem run_setObj_map {r:Nat} {es:Array MapEntry} {c:Nat} {o:Obj} (h:w.heap[r]?=some (.map es c)):(setObj r o).run P w= .ok () {w with heap:=w.heap.setIfInBounds r o}:=by
 simp[setObj,Sem.run,h]
theorem cH.heap (w:World) (h:J):cH w {w with heap:=h}:=⟨rfl,rfl,rfl,Nat.le_refl _⟩
theorem vT {key:TypeId} {lg:IntKind} {b:Bool} {k:Value} (I:P.underlying key=some (.int lg)):(Instr.checkKey b 10000 key k).run P w= .ok () w:=by
 show(Instr.checkKey b (9999+1) key k).run P w=_
 unfold Instr.checkKey
 simp[run_underlying I]
theorem Ae {key:TypeId} {lg:IntKind} {k:Value} {es:List MapEntry} {f:Option (Nat×Value)} (I:P.underlying key=some (.int lg)) (hf:Instr.findNow (.int lg) k es 0=some f):(Instr.findKey key k es).run P w= .ok f w:=by
 simp[Instr.findKey,run_underlying I,hf]
theorem aqO {t:TypeId} {z:Value} (h:zeroOf P t=some z):(zeroValue t).run P w= .ok z w:=by
 unfold zeroOf at h
 split at h
 ·rename_i i hi;simp[zeroValue,typeInfo,hi,h]
 ·cases h
theorem af8 {t:TypeId} {x k v:Value} {b ok:Bool} (h:Lz P t x k w.heap=some (v,b)):(Instr.lookup t x k ok).run P w= .ok (if ok then .tuple #[v, .bool b]else v) w:=by
 unfold Lz at h
 split at h
 ·rename_i key elem m hu
  split at h
  ·rename_i lg es c I hm
   split at h
   ·rename_i i xp hf
    cases h
    have ag:=Ae (P:=P) (w:=w) I hf
    cases m with
    |none=>cases hm;simp[Instr.findNow]at hf
    |some r=>
     have aI:=(yK (P:=P) hm).2
     have af:(Instr.checkKey es.isEmpty 10000 key k).run P w= .ok () w:=vT I
     simp[Instr.lookup,run_underlying hu,aI,af,ag]
   ·rename_i hf
    split at h
    ·rename_i z hz
     cases h
     have ag:=Ae (P:=P) (w:=w) I hf
     have cx:=aqO (P:=P) (w:=w) hz
     cases m with
     |none=>
      cases hm
      have af:(Instr.checkKey true 10000 key k).run P w= .ok () w:=vT I
      simp[Instr.lookup,run_underlying hu,af,ag,cx]
     |some r=>
      have aI:=(yK (P:=P) hm).2
      have af:(Instr.checkKey es.isEmpty 10000 key k).run P w= .ok () w:=vT I
      simp[Instr.lookup,run_underlying hu,aI,af,ag,cx]
    ·cases h
   ·cases h
  ·cases h
 ·cases h
theorem af9 {t:TypeId} {x k:Value} {ok:Bool} {h:J} {K:Value->Prop} (U:LA P t x k ok h K) (hw:w.heap=h):∃v,(Instr.lookup t x k ok).run P w= .ok v w/\K v:=by
 subst hw
 unfold LA at U
 split at U
 ·obtain⟨v,b,h1,h2⟩:=I6 U
  refine⟨_,af8 h1,?_⟩
  cases ok with
  |true=>exact h2
  |false=>exact h2
 ·exact U.elim
theorem found {lg:IntKind} {k:Value}:∀{es:List MapEntry} {j i:Nat} {v:Value},Instr.findNow (.int lg) k es j=some (some (i,v))->∃e,j<=i/\es[i -j]?=some e/\e.val=v/\Instr.sameNow (.int lg) k e.key=some true
 |[],j,i,v,h=>by simp[Instr.findNow]at h
 |e::es,j,i,v,h=>by
  unfold Instr.findNow at h
  split at h
  ·rename_i hs
   cases h
   exact⟨e,Nat.le_refl _,by simp,rfl,hs⟩
  ·obtain⟨e',h1,h2,h3,h4⟩:=found h
   refine⟨e',by omega,?_,h3,h4⟩
   rw[show i -j=(i -(j+1))+1 by omega]
   simpa using h2
  ·cases h
theorem ako {lg:IntKind} {k l:Value} (h:Instr.sameNow (.int lg) k l=some true):Instr.sameBits 10000 l k=true:=by
 unfold Instr.sameNow at h
 split at h
 ·split at h
  ·rename_i h1 h2
   subst h2
   simp at h
   subst h
   unfold Instr.sameBits
   simp
  ·cases h
 ·exact absurd (by assumption:TypeDesc.int lg=TypeDesc.string) (by simp)
 ·exact absurd (by assumption:TypeDesc.int lg=TypeDesc.bool) (by simp)
 ·cases h
theorem ag1 {t:TypeId} {m k v:Value} {h:J} {K:J->Prop} (U:hS P t m k v h K) (hw:w.heap=h):∃w',(Instr.mapUpdate t m k v).run P w= .ok () w'/\cH w w'/\K w'.heap:=by
 subst hw
 unfold hS at U
 split at U
 ·rename_i key elem r hu
  split at U
  ·rename_i lg I
   obtain⟨es,c,f,h1,h2,h3⟩:=U
   obtain⟨h4,aA⟩:=yK (P:=P) h1
   refine⟨{w with heap:=w.heap.setIfInBounds r (.map (A3 es c k v f).1.toArray (A3 es c k v f).2)},?_,cH.heap _ _,h3 _ rfl⟩
   cases f with
   |none=>
    simp[Instr.mapUpdate,run_underlying hu,aA,vT (P:=P) I,Ae (P:=P) I h2,run_setObj_map (P:=P) h4,A3]
   |some p=>
    obtain⟨i,v0⟩:=p
    obtain⟨e,af,ag,aI,cx⟩:=found h2
    rw[Nat.sub_zero]at ag
    have p5:=ako cx
    have abd:(Instr.keyThatStays e.key k).run P w= .ok k w:=by simp[Instr.keyThatStays,p5]
    have hi:es.toArray[i]?=some e:=by simpa using ag
    simp[Instr.mapUpdate,run_underlying hu,aA,vT (P:=P) I,Ae (P:=P) I h2,ag,abd,run_setObj_map (P:=P) h4,A3]
  ·exact U.elim
 ·exact U.elim
theorem agM {t:TypeId} {ts:Array TypeId} {r:List TypeId} {ty:TypeId} {m k:Value} {h:J} {K:J->Prop} (ht:ts.toList=t::r) (U:hP P t m k h K) (hw:w.heap=h):∃w',(Builtin.delete_ ts ty #[m,k]).run P w= .ok (.tuple #[]) w'/\cH w w'/\K w'.heap:=by
 subst hw
 have h0:ts[0]?=some t:=by rw[<-Array.getElem?_toList,ht];rfl
 unfold hP at U
 split at U
 ·rename_i key elem r hu
  split at U
  ·rename_i lg I
   obtain⟨es,c,f,h1,h2,h3⟩:=U
   obtain⟨h4,aA⟩:=yK (P:=P) h1
   refine⟨{w with heap:=w.heap.setIfInBounds r (.map (GS es f).toArray c)},?_,cH.heap _ _,h3 _ rfl⟩
   cases f with
   |none=>
    simp[Builtin.delete_,h0,run_underlying hu,aA,vT (P:=P) I,Ae (P:=P) I h2,run_setObj_map (P:=P) h4,GS]
   |some p=>
    obtain⟨i,v0⟩:=p
    simp[Builtin.delete_,h0,run_underlying hu,aA,vT (P:=P) I,Ae (P:=P) I h2,run_setObj_map (P:=P) h4,GS]
  ·exact U.elim
 ·rename_i key elem hu
  split at U
  ·rename_i lg I
   exact⟨w,by simp[Builtin.delete_,h0,run_underlying hu,vT (P:=P) I],cH.refl w,U⟩
  ·exact U.elim
 ·exact U.elim
theorem ajW {t:TypeId} {x:Value} {h:J} {K:Value->J->Prop} (U:hZ P t x h λb h1=>K (.pointer (some ⟨b,0,none⟩)) h1) (hw:w.heap=h):∃v w',(Instr.range t x).run P w= .ok v w'/\cH w w'/\K v w'.heap:=by
 subst hw
 unfold hZ at U
 split at U
 ·rename_i key elem m hu
  obtain⟨es,c,h1,h2⟩:=U
  refine⟨_,w.alloc (.mapIter m c #[] c),?_,cH.alloc _ _,h2 _ _ rfl rfl⟩
  cases m with
  |none=>cases h1;simp[Instr.range,run_underlying hu]
  |some r=>simp[Instr.range,run_underlying hu,(yK (P:=P) h1).2]
 ·exact U.elim
theorem ahP (seen:Array Nat) (es:Array MapEntry) (since cW:Nat) (hold:∀x∈es.toList,x.born<since) (K3:since<=cW):
 (!seen.isEmpty&&!es.isEmpty&&es.all (λx=>decide (x.born>=cW)))=false:=by
 obtain⟨l⟩:=es
 cases l with
 |nil=>simp
 |cons a r=>
  have:=hold a (by simp)
  have h1:decide (a.born>=cW)=false:=decide_eq_false (by omega)
  simp[h1]
theorem ahQ (ty:TypeId) {b s7 since cW:Nat} {seen:Array Nat} {es:Array MapEntry} {clock:Nat} (hi:w.heap[b]?=some (.mapIter (some s7) since seen cW)) (hb:w.heap[s7]?=some (.map es clock)) (hold:∀x∈es.toList,x.born<since) (K3:since<=cW):
 ((∀e∈es.toList,e.born∈seen.toList)/\(Instr.next (.pointer (some ⟨b,0,none⟩)) false ty).run P w= .ok (.tuple #[.bool false]) w)\/
 ∃e∈es.toList,e.born∉seen.toList/\∃w':World,cH w w'/\w'.heap=w.heap.setIfInBounds b (.mapIter (some s7) since (seen.push e.born) clock)/\(Instr.next (.pointer (some ⟨b,0,none⟩)) false ty).run P w= .ok (.tuple #[.bool true,e.key,e.val]) w':=by
 simp only[Instr.next,getObj,Sem.run_bind,Sem.run,hi,hb,Result.andThen,ahP seen es since cW hold K3,Bool.false_eq_true,if_false]
 have hmem:∀x∈(Array.filter (λe=>!seen.contains e.born) es).toList,x.born<since/\x∈es.toList/\x.born∉seen.toList:= λx hx=>by
  simp at hx
  exact⟨hold x (by simpa using hx.1),by simpa using hx.1,by simpa using hx.2⟩
 have hall:∀x∈es.toList,x.born∉seen.toList->x∈(Array.filter (λe=>!seen.contains e.born) es).toList:= λx hx hn=>by
  simp;exact⟨by simpa using hx,by simpa using hn⟩
 generalize Array.filter (λe=>!seen.contains e.born) es=L at hmem hall⊢
 have af:L.filter (λx=>decide (x.born<since))=L:=Array.filter_eq_self.2 (λx hx=>by simpa using(hmem x (by simpa using hx)).1)
 have ag:L.filter (λx=>decide (x.born>=since))=#[]:=by
  rw[Array.filter_eq_empty_iff]
  intro x hx
  have:=(hmem x (by simpa using hx)).1
  simp
  omega
 simp only[af,ag,Array.append_empty]
 by_cases h0:L.size=0
 ·left
  have hL:L=#[]:=Array.eq_empty_of_size_eq_zero h0
  subst hL
  refine⟨λe he=>Classical.byContradiction λhn=>?_,?_⟩
  ·have:=hall e he hn;simp at this
  ·simp[choose,Sem.run,Question.forced]
 ·right
  have b6:L.isEmpty=false:=by simp[Array.isEmpty,h0]
  simp only[b6,Bool.false_eq_true,if_false,Array.empty_append]
  have key:∀n,n<L.size->∃e∈es.toList,e.born∉seen.toList/\L[n]?=some e:= λn hn=>by
   have hm:=hmem L[n] (by simp)
   exact⟨L[n],hm.2.1,hm.2.2,by simp[hn]⟩
  by_cases hf:L.size<=1
  ·obtain⟨e,h1,h2,h3⟩:=key 0 (by omega)
   refine⟨e,h1,h2,{w with heap:=w.heap.setIfInBounds b (.mapIter (some s7) since (seen.push e.born) clock)},cH.heap _ _,rfl,?_⟩
   have hq:(Question.mapNext L.size).forced=true:=by simp[Question.forced,hf]
   simp[choose,Sem.run,hq,h3,setObj,hi]
  ·obtain⟨e,h1,h2,h3⟩:=key (w.tape w.drawn (.mapNext L.size)%L.size) (Nat.mod_lt _ (by omega))
   refine⟨e,h1,h2,{w with heap:=w.heap.setIfInBounds b (.mapIter (some s7) since (seen.push e.born) clock),drawn:=w.drawn+1},⟨rfl,rfl,rfl,Nat.le_succ _⟩,rfl,?_⟩
   have hq:(Question.mapNext L.size).forced=false:=by simp[Question.forced];omega
   have hc:(Question.mapNext L.size).cut (w.tape w.drawn (.mapNext L.size))=w.tape w.drawn (.mapNext L.size)%L.size:=by simp[Question.cut]
   have hi':w.drew.heap[b]?=some (.mapIter (some s7) since seen cW):=hi
   simp[choose,Sem.run,hq,hc,h3,setObj,hi']
   exact⟨rfl,rfl,rfl⟩
theorem ahY {it:Value} {ty:TypeId} {h:J} {K:Value->J->Prop} (U:pr it λb o=>o=0/\iq b h (K (.tuple #[.bool false]) h) λe h1=>K (.tuple #[.bool true,e.key,e.val]) h1) (hw:w.heap=h):
 ∃v w',(Instr.next it false ty).run P w= .ok v w'/\cH w w'/\K v w'.heap:=by
 subst hw
 obtain⟨b,o,rfl,rfl,m,since,seen,last,es,c,h1,h2,h3,h4,aA,aU⟩:=tN U
 cases m with
 |none=>
  cases h2
  refine⟨_,w,?_,cH.refl w,aA λe he=>(by cases he)⟩
  simp[Instr.next,getObj,Sem.run,h1]
 |some r=>
  obtain⟨bW,_⟩:=yK (P:=P) h2
  rcases ahQ (P:=P) ty h1 bW (by simpa using h3) h4 with⟨q1,q2⟩|⟨e,q1,q2,w',aE,bP,eO⟩
  ·exact⟨_,w,q2,cH.refl w,aA (by simpa using q1)⟩
  ·refine⟨_,w',eO,aE,?_⟩
   exact aU e (by simpa using q1) q2 _ bP
theorem UI {f:UInt8->ByteArray->Sem (ForInStep ByteArray)} (hf:∀b s,f b s=pure (.yield (s.push b))):∀(xs:List UInt8) (s:ByteArray),forIn xs s f=(pure ⟨s.data++xs.toArray⟩:Sem ByteArray)
 |[],s=>by simp
 |x::xs,s=>by
  rw[List.forIn_cons,hf]
  simp only[pure_bind]
  rw[UI hf xs]
  congr 1
  simp[ByteArray.push]
theorem ake {w:World} {a:Addr} {n:Nat} {cs:List Value} (hs:src w.heap (some a) n cs):(loadCells a n).run P w= .ok cs.toArray w:=by
 unfold src at hs
 split at hs
 ·rename_i he;cases he
 ·rename_i he;cases he;exact Be hs rfl
 ·rename_i he
  cases he
  obtain⟨rfl,rfl⟩:=hs
  exact run_loadCells_list w _ [] (by simp)
theorem ajl (h:J) (o:Obj) (f:Obj->Obj):(h.push o).modify h.size f=h.push (f o):=by
 apply Array.ext
 ·simp
 ·intro i h1 h2
  rw[Array.getElem_modify]
  by_cases hi:h.size=i
  ·subst hi;simp
  ·rw[if_neg hi]
   simp only[Array.size_push]at h2
   rw[Array.getElem_push_lt (by omega),Array.getElem_push_lt (by omega)]
def Rp (n:Nat) (o:Obj):Obj:=match o with
 | .cells c elem (cw,hi)=> .cells c elem (if cw==hi then(n,n+1)else(min cw n,max hi (n+1)))
 |o=>o
theorem abZ {w:World} {O:Obj} {n:Nat}:(w.drew.alloc O).freeze ⟨w.heap.size,n,none⟩ 1={w with heap:=(w.heap.push O).modify w.heap.size (Rp n),drawn:=w.drawn+1}:=by
 unfold World.freeze
 rw[if_neg (by decide)]
 rfl
theorem aan {s d:TypeId} {v:Value} {h:J} {K:Value->J->Prop} (U:JN P s d v h K) (hw:w.heap=h):∃xp w',(convert s d v).run P w= .ok xp w'/\cH w w'/\K xp w'.heap:=by
 subst hw
 unfold JN at U
 split at U
 ·rename_i e x hs hd
  split at U
  ·rename_i he
   have af:=run_underlying (P:=P) hs w
   have ag:=run_underlying (P:=P) hd w
   have aI:=run_underlying (P:=P) he w
   generalize hn:(Question.appendCap x.size 0 e).cut (w.tape w.drawn (.appendCap x.size 0 e))=n at*
   have hc:x.size<=n:=by rw[<-hn];simp[Question.cut]
   refine⟨.slice (some ⟨w.heap.size,0,none⟩) x.size n,{w with heap:=w.heap.push (.cells (x.data.toList.map B7++List.replicate (n -x.size) (Value.int .u8 0)).toArray e (n,n+1)),drawn:=w.drawn+1},?_,⟨rfl,rfl,rfl,Nat.le_succ _⟩,U n (List.replicate (n -x.size) (Value.int .u8 0)) _ _ hc (by simp) rfl rfl⟩
   have qo:x.data.size=x.size:=rfl
   have hq:(Question.appendCap x.size 0 e).forced=false:=rfl
   simp[convert,af,ag,aI,Conv.stringToBytes,choose,Sem.run,hq,hn,newRow,markStringish,shape,World.shape?,freeze,World.freeze,newObj]
   have so:∀O:Obj,(w.drew.alloc O).heap=w.heap.push O:= λ_=>rfl
   simp only[so,Array.getElem_push_eq,Array.size_append,Array.size_map,Array.size_replicate,qo,Nat.add_sub_cancel' hc,Sem.run,abZ,ajl,Rp,Result.andThen,beq_self_eq_true,if_true]
   congr 3
   simp[B7]
  ·exact U.elim
 ·rename_i e a len c hs hd
  split at U
  ·rename_i he
   obtain⟨xs,h1,I⟩:=U
   have af:=run_underlying (P:=P) hs w
   have ag:=run_underlying (P:=P) hd w
   have aI:=run_underlying (P:=P) he w
   refine⟨_,w,?_,cH.refl w,I⟩
   cases a with
   |none=>
    have:xs=[]:=by simpa[src]using h1
    subst this
    simp[convert,af,ag,aI,Conv.bytesToString]
    rfl
   |some eo=>
    have h2:=ake (P:=P) h1
    simp[convert,af,ag,aI,Conv.bytesToString,h2]
    rw[UI (λb s=>by simp[B7])]
    simp
  ·exact U.elim
 ·exact U.elim
theorem abk {it:Value} {h:J} {K:Value->J->Prop} (U:pr it λb o=>o=0/\ia b h λk v=>K (.tuple #[k,v]) h) (hw:w.heap=h):∃v,(Instr.entry it).run P w= .ok v w/\K v h:=by
 obtain⟨b,o,rfl,rfl,r,since,seen,H0,es,c,e,h1,h2,h3,h4,aA⟩:=tN U
 subst hw
 obtain⟨aU,bW⟩:=yK (P:=P) h3
 refine⟨_,?_,aA⟩
 have bJ:es.toArray.find? (λx=>x.born==H0)=some e:=by simpa using h4
 have ct:(getObj b).run P w= .ok (.mapIter (some r) since seen c) w:=by simp[getObj,Sem.run,h1]
 simp[Instr.entry,ct,h2,bW,h4]
theorem J2 {x:hI} {o:Oper} {a:Act} {h:J} {K:Value->J->Prop} {next:Act->World->Prop} {Q:Exit->Act->World->Prop}
 (U:fO P x a.eval o.op o.type h K) (hw:w.heap=h) (hn:∀v w',cH w w'->K v w'.heap->next (a.put o.dst v) w'):o.wp P a w next Q:=by
 have val:∀{v:Value} {w':World},(execOp a.eval o).run P w= .ok (.value v) w'->cH w w'->K v w'.heap->o.wp P a w next Q:=by
  intro v w' he hs I
  unfold Oper.wp
  rw[he]
  exact hn v w' hs I
 have M5:∀{w':World},(execOp a.eval o).run P w= .ok .skip w'->cH w w'->K undef w'.heap->o.wp P a w next Q:=by
  intro w' he hs I
  unfold Oper.wp
  rw[he]
  exact hn undef w' hs I
 obtain⟨dst,op,ty,pos,after,guard⟩:=o
 simp only at U
 unfold fO at U
 split at U
 ·rename_i e
  obtain⟨i,z,hi,hz,I⟩:=EJ U
  obtain⟨w',h1,h2,h3⟩:=Ow (P:=P) (T:=e) (v:=z) I hw
  refine val (v:= .pointer (some ⟨w.heap.size,0,none⟩)) (w':=w') ?_ h2 h3
  have dW:(zeroValue e).run P w= .ok z w:=by simp[zeroValue,typeInfo,hi,hz]
  have:(Instr.alloc e true (.tuple #[])).run P w= .ok (.pointer (some ⟨w.heap.size,0,none⟩)) w':=by
   simp only[Instr.box]at h1
   simp only[Instr.alloc,Sem.run_bind,dW,Result.andThen_ok]
   exact h1
  simp[execOp,this]
 ·rename_i e b
  obtain⟨w',h1,h2,h3⟩:=Ow (P:=P) (T:=e) (v:=a.eval b) U hw
  exact val (v:= .pointer (some ⟨w.heap.size,0,none⟩)) (w':=w') (by simp[execOp,h1]) h2 h3
 ·rename_i t p v
  obtain⟨b,o,hp,I⟩:=tN U
  obtain⟨w',h1,h2,h3⟩:=aln (P:=P) I hw
  exact M5 (w':=w') (by simp[execOp,hp,h1]) h2 h3
 ·rename_i f args ts
  simp only[du,eL,er]at U
  split at U
  ·rename_i g first captured hf
   split at U
   ·rename_i hb
    unfold pV at hb
    split at hb
    ·rename_i fn hfn
     simp only[Bool.and_eq_true,Bool.not_eq_true',beq_eq_false_iff_ne]at hb
     have hc:=U w hw
     have he:(execOp a.eval ⟨dst, .call ⟨.value f,args,ts⟩,ty,pos,after,guard⟩).run P w= .ok (.enter g (first.toList++(args.toList.map a.eval++captured.toList)).toArray) w:=by
      have Am:¬fn.body=none:= λh=>by rw[h]at hb;exact absurd hb.2 (by simp)
      simp[execOp,resolve,hf,Deferred.ofValue,invoke,callFunc,hfn,hb.1,Am]
     unfold Oper.wp
     rw[he]
     simp only[Oper.upon_enter]
     refine hc.mono λe w' ⟨v,hv,I,hs⟩=>?_
     subst hv
     exact hn v w' hs (We I)
    ·cases hb
   ·exact U.elim
  ·exact U.elim
 ·rename_i r name args ts
  simp only[du,eL,fR]at U
  split at U
  ·rename_i t x hv
   obtain⟨f,hm,hb,U⟩:=U
   unfold pV at hb
   split at hb
   ·rename_i fn hfn
    simp only[Bool.and_eq_true,Bool.not_eq_true',beq_eq_false_iff_ne]at hb
    have hc:=U w hw
    have yp:(Go.method (P.types.size+Made.depth) t x name).run P w= .ok (f,x) w:=ag0 hm
    have he:(execOp a.eval ⟨dst, .call ⟨.invoke r name,args,ts⟩,ty,pos,after,guard⟩).run P w= .ok (.enter f (x::args.toList.map a.eval).toArray) w:=by
     have Am:¬fn.body=none:= λh=>by rw[h]at hb;exact absurd hb.2 (by simp)
     have af:=aak (.iface t x) (args.map a.eval)
     have ag:=aal (.iface t x) (args.map a.eval)
     have aI:#[x]++args.map a.eval=(x::args.toList.map a.eval).toArray:=by simp
     have cx:(callMethod (.iface t x) name (args.map a.eval)).run P w= .ok (.enter f (x::args.toList.map a.eval).toArray) w:=by
      simp[callMethod,yp,callFunc,hfn,hb.1,Am]
     simp only[execOp,resolve,hv,Sem.run_bind,Sem.run_pure,Result.andThen_ok,invoke,af,ag]
     exact cx
    unfold Oper.wp
    rw[he]
    simp only[Oper.upon_enter]
    refine hc.mono λe w' ⟨v,hv,I,hs⟩=>?_
    subst hv
    exact hn v w' hs (We I)
   ·cases hb
  ·exact U.elim
 ·rename_i args ts
  split at U
  ·rename_i s y T T2 ha ht
   split at U
   ·rename_i ag hO
    obtain⟨v,w',h1,h2,h3⟩:=XL (P:=P) hO U hw ty
    refine val (v:=v) (w':=w') ?_ h2 h3
    have rp:args.map a.eval=#[s,y]:=by apply Array.ext';simpa using ha
    have gu:ts=#[T,T2]:=by apply Array.ext';simpa using ht
    subst gu
    simp[execOp,resolve,invoke,builtin,rp,h1]
   ·rename_i k2 hO
    obtain⟨v,w',h1,h2,h3⟩:=XJ (P:=P) hO U hw ty
    refine val (v:=v) (w':=w') ?_ h2 h3
    have rp:args.map a.eval=#[s,y]:=by apply Array.ext';simpa using ha
    have gu:ts=#[T,T2]:=by apply Array.ext';simpa using ht
    subst gu
    simp[execOp,resolve,invoke,builtin,rp,h1]
   ·exact U.elim
  ·exact U.elim
 ·rename_i t len parts
  obtain⟨v,w',h1,h2,h3⟩:=Zl (P:=P) U hw
  have e:(parts.toList.map λ(i,x)=>(i,a.eval x)).toArray=parts.map λ(i,x)=>(i,a.eval x):=by apply Array.ext';simp
  rw[e]at h1
  exact val (v:=v) (w':=w') (by simp[execOp,h1]) h2 h3
 ·rename_i t l c
  obtain⟨v,w',h1,h2,h3⟩:=agZ (P:=P) U hw
  exact val (v:=v) (w':=w') (by simp[execOp,h1]) h2 h3
 ·rename_i args ts
  split at U
  ·rename_i d s T T2 ha ht
   obtain⟨v,w',h1,h2,h3⟩:=aad (P:=P) (T2:=T2) U hw ty
   refine val (v:=v) (w':=w') ?_ h2 h3
   have rp:args.map a.eval=#[d,s]:=by apply Array.ext';simpa using ha
   have gu:ts=#[T,T2]:=by apply Array.ext';simpa using ht
   subst gu
   simp[execOp,resolve,invoke,builtin,rp,h1]
  ·exact U.elim
 ·rename_i s d x
  obtain⟨v,w',h1,h2,h3⟩:=aan (P:=P) U hw
  exact val (v:=v) (w':=w') (by simp[execOp,h1]) h2 h3
 ·rename_i t
  have I:=U w.heap.size _ (by rw[hw]) rfl
  refine val (v:= .map (some w.heap.size)) (w':=w.alloc (.map #[] 0)) (by simp[execOp,Instr.makeMap]) (cH.alloc _ _) ?_
  subst hw;exact I
 ·rename_i t r
  split at U
  ·rename_i k n Sw
   split at U
   ·rename_i key elem hu
    have I:=U w.heap.size _ (by rw[hw]) rfl
    refine val (v:= .map (some w.heap.size)) (w':=w.alloc (.map #[] 0)) (by simp[execOp,Instr.makeMap,run_underlying hu,Sw,asInt,asIntOf]) (cH.alloc _ _) ?_
    subst hw;exact I
   ·exact U.elim
  ·exact U.elim
 ·rename_i t m i ok
  simp only[du]at U
  obtain⟨v,h1,h2⟩:=af9 (P:=P) U hw
  exact val (v:=v) (w':=w) (by simp[execOp,h1]) (cH.refl w) (by rw[hw];exact h2)
 ·rename_i t m k v
  simp only[du]at U
  obtain⟨w',h1,h2,h3⟩:=ag1 (P:=P) U hw
  exact M5 (w':=w') (by simp[execOp,h1]) h2 h3
 ·rename_i args ts
  split at U
  ·rename_i m k t r ha ht
   simp only[du]at U
   obtain⟨w',h1,h2,h3⟩:=agM (P:=P) (ts:=ts) (ty:=ty) (r:=r) ht U hw
   have rp:args.map a.eval=#[m,k]:=by apply Array.ext';simpa using ha
   refine val (v:= .tuple #[]) (w':=w') ?_ h2 h3
   simp[execOp,resolve,invoke,builtin,rp,h1]
  ·exact U.elim
 ·rename_i t m
  simp only[du]at U
  obtain⟨v,w',h1,h2,h3⟩:=ajW (P:=P) U hw
  exact val (v:=v) (w':=w') (by simp[execOp,h1]) h2 h3
 ·rename_i it str
  split at U
  ·obtain⟨v,w',h1,h2,h3⟩:=ahY (P:=P) (ty:=ty) U hw
   exact val (v:=v) (w':=w') (by simp[execOp,h1]) h2 h3
  ·exact U.elim
 ·rename_i it
  obtain⟨v,h1,h2⟩:=abk (P:=P) U hw
  exact val (v:=v) (w':=w) (by simp[execOp,h1]) (cH.refl w) (by rw[hw];exact h2)
 ·exact U.elim
 ·rename_i args ts
  split at U
  ·rename_i s T ha ht
   simp only[du]at U
   obtain⟨w',h1,h2,h3⟩:=Z6 (P:=P) U hw ty
   refine val (v:=undef) (w':=w') ?_ h2 h3
   have rp:args.map a.eval=#[s]:=by apply Array.ext';simpa using ha
   have gu:ts=#[T]:=by apply Array.ext';simpa using ht
   subst gu
   simp[execOp,resolve,invoke,builtin,rp,h1,undef]
  ·exact U.elim
 ·obtain⟨v,w',h1,h2,h3⟩:=U w ⟨dst,op,ty,pos,after,guard⟩ rfl rfl hw
  rcases h1 with h1|⟨h1,rfl⟩
  ·exact val h1 h2 h3
  ·exact M5 h1 h2 h3
end Go.Vc
