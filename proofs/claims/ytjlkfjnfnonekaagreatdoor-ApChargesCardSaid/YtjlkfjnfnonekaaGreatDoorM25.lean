import Derived.Test.YtjlkfjnfnonekaaGreatDoorM24
import Derived.Shelf.Small.Bits
import Derived.Shelf.Strconv.Itoa0
import Derived.Shelf.Bytes.SlEqualAll
import Derived.Shelf.Bytes.Small
import Derived.Shelf.Bytes.IndexByte
import Derived.Test.YtjlkfjnfnonekaaGreatDoorProg
import Derived.Test.YtjlkfjnfnonekaaGreatDoorM17
set_option linter.all false
set_option maxRecDepth 8000
namespace Go.Proofs.YtjlkfjnfnonekaaGreatDoor
open Go.Vc
section
variable{W W':Wd} {h h':J} {b t j n:Nat} {T:TypeId} {size:Int} {css:List (List Value)} {cs us vs:List Value} {G G':List ao} {v:Value} {x:cu} {f:bQ} {wR:Option Nat} {Q:J->Prop} {E:ao}
end
section
variable{W W':Wd} {h h':J} {b t j n c:Nat} {a:Option Addr} {T:TypeId} {size:Int} {css:List (List Value)} {cs us vs:List Value} {G G':List ao} {v:Value} {x:cu} {f:bQ} {wR:Option Nat} {Q:J->Prop} {E:ao}
theorem Xl {to fr:List Int} {tid sq mp:Int} (h1:to.length=6) (h2:fr.length=6):(js to fr tid sq mp).length=15:=by simp[js,ints,h1,h2]
theorem xy.mono {es:List MapEntry} (hm:∀f cs,ir W f cs->ir W' f cs):∀{es:List MapEntry} {l:List bQ},xy W es l->xy W' es l
 |[],l,h=>h
 |e::es,l,⟨f,r,cs,af,ag,aI,h1,h2⟩=>⟨f,r,cs,af,ag,aI,hm f cs h1,xy.mono (es:=es) hm h2⟩
theorem ER.le {l:List bQ} (hl:W.le W') (I:ER W wR l):ER W' wR l:=by
 unfold ER at I⊢
 split
 ·exact I
 ·rename_i r
  obtain⟨es,c,h1,h2,h3,h4⟩:=I.v
  exact⟨es,c,hl _ _ h1,xy.mono (es:=es) (λf cs hv=>hv.le hl) h2,h3,h4⟩
end
end Go.Proofs.YtjlkfjnfnonekaaGreatDoor
namespace Go.Proofs
open Go.Shelf
def Tryz.lays134_ren : Go.Shelf.Ren := ⟨fun | 134 => 308 | 129 => 309 | n => n, fun | 53 => 35 | 3 => 3 | 4 => 4 | 46 => 155 | 5 => 5 | 9 => 9 | n => n, fun | n => n⟩
theorem Tryz.lays134 : Go.Proofs.Lays.n134 Tryz.prog Tryz.lays134_ren := {
  mixed := by kernel_rfl
  f129 := Tryz.func309.trans (congrArg some (by kernel_rfl))
  f134 := Tryz.func308.trans (congrArg some (by kernel_rfl))
  t3 := Tryz.underlying3
  a3 := Tryz.isAgg3
  z3 := Tryz.sizeOf3
  v3 := Tryz.zeroValue3
  t4 := Tryz.underlying4
  a4 := Tryz.isAgg4
  z4 := Tryz.sizeOf4
  v4 := Tryz.zeroValue4
  t5 := Tryz.underlying5
  a5 := Tryz.isAgg5
  z5 := Tryz.sizeOf5
  v5 := Tryz.zeroValue5
  t9 := Tryz.underlying9
  a9 := Tryz.isAgg9
  z9 := Tryz.sizeOf9
  v9 := Tryz.zeroValue9
  t46 := Tryz.underlying155
  a46 := Tryz.isAgg155
  z46 := Tryz.sizeOf155
  v46 := Tryz.zeroValue155
  t53 := Tryz.underlying35
  a53 := Tryz.isAgg35
  z53 := Tryz.sizeOf35
  v53 := Tryz.zeroValue35 }
theorem Tryz.bits_LeadingZeros64 (x : Int) (w : World) (h0 : 0 ≤ x) (h1 : x ≤ 18446744073709551615) :
    Calls Tryz.prog 308 #[.int .u64 x] w fun e w' => e = .returned (.int .i64 (64 - (Lib.bitLen x.toNat : Int))) ∧ w' = w := Any.bits_LeadingZeros64 Tryz.lays134 x w h0 h1
def Tryz.lays129_ren : Go.Shelf.Ren := ⟨fun | 129 => 309 | n => n, fun | 53 => 35 | 3 => 3 | 4 => 4 | 46 => 155 | 5 => 5 | 9 => 9 | n => n, fun | n => n⟩
theorem Tryz.lays129 : Go.Proofs.Lays.n129 Tryz.prog Tryz.lays129_ren := {
  mixed := by kernel_rfl
  f129 := Tryz.func309.trans (congrArg some (by kernel_rfl))
  t3 := Tryz.underlying3
  a3 := Tryz.isAgg3
  z3 := Tryz.sizeOf3
  v3 := Tryz.zeroValue3
  t4 := Tryz.underlying4
  a4 := Tryz.isAgg4
  z4 := Tryz.sizeOf4
  v4 := Tryz.zeroValue4
  t5 := Tryz.underlying5
  a5 := Tryz.isAgg5
  z5 := Tryz.sizeOf5
  v5 := Tryz.zeroValue5
  t9 := Tryz.underlying9
  a9 := Tryz.isAgg9
  z9 := Tryz.sizeOf9
  v9 := Tryz.zeroValue9
  t46 := Tryz.underlying155
  a46 := Tryz.isAgg155
  z46 := Tryz.sizeOf155
  v46 := Tryz.zeroValue155
  t53 := Tryz.underlying35
  a53 := Tryz.isAgg35
  z53 := Tryz.sizeOf35
  v53 := Tryz.zeroValue35 }
theorem Tryz.bits_Len64 (x : Int) (w : World) (h0 : 0 ≤ x) (h1 : x ≤ 18446744073709551615) :
    Calls Tryz.prog 309 #[.int .u64 x] w fun e w' => e = .returned (.int .i64 (Lib.bitLen x.toNat)) ∧ w' = w := Any.bits_Len64 Tryz.lays129 x w h0 h1
def Tryz.laysnb115_ren : Go.Shelf.Ren := ⟨fun | 115 => 237 | n => n, fun | 37 => 36 | 4 => 4 | 9 => 9 | 5 => 5 | n => n, fun | n => n⟩
theorem Tryz.laysnb115 : Go.Proofs.Lays.nb115 Tryz.prog Tryz.laysnb115_ren := {
  mixed := by kernel_rfl
  f115 := Tryz.func237.trans (congrArg some (by kernel_rfl))
  t4 := Tryz.underlying4
  a4 := Tryz.isAgg4
  z4 := Tryz.sizeOf4
  v4 := Tryz.zeroValue4
  t9 := Tryz.underlying9
  a9 := Tryz.isAgg9
  z9 := Tryz.sizeOf9
  v9 := Tryz.zeroValue9
  t37 := Tryz.underlying36
  a37 := Tryz.isAgg36
  z37 := Tryz.sizeOf36
  v37 := Tryz.zeroValue36
  t5 := Tryz.underlying5
  a5 := Tryz.isAgg5
  z5 := Tryz.sizeOf5
  v5 := Tryz.zeroValue5 }
theorem Tryz.bytes_Equal_all (p1 p2 : Option Addr) (n c m d : Nat) (xs ys : List Int) (w : World) (hx : xs.length = n) (hy : ys.length = m) (h1 : Lib.BytesIn w p1 n xs) (h2 : Lib.BytesIn w p2 m ys) :
    Calls Tryz.prog 237 #[.slice p1 n c, .slice p2 m d] w fun e w' => e = .returned (.bool (Lib.bytesOf xs == Lib.bytesOf ys)) ∧ w' = w := Any.bytes_Equal_all Tryz.laysnb115 p1 p2 n c m d xs ys w hx hy h1 h2
def Tryz.lays115_ren : Go.Shelf.Ren := ⟨fun | 115 => 237 | n => n, fun | 37 => 36 | 4 => 4 | 9 => 9 | 5 => 5 | n => n, fun | n => n⟩
theorem Tryz.lays115 : Go.Proofs.Lays.n115 Tryz.prog Tryz.lays115_ren := {
  mixed := by kernel_rfl
  f115 := Tryz.func237.trans (congrArg some (by kernel_rfl))
  t4 := Tryz.underlying4
  a4 := Tryz.isAgg4
  z4 := Tryz.sizeOf4
  v4 := Tryz.zeroValue4
  t9 := Tryz.underlying9
  a9 := Tryz.isAgg9
  z9 := Tryz.sizeOf9
  v9 := Tryz.zeroValue9
  t37 := Tryz.underlying36
  a37 := Tryz.isAgg36
  z37 := Tryz.sizeOf36
  v37 := Tryz.zeroValue36 }
theorem Tryz.bytes_Equal (v1 v2 : Value) (xs ys : List Int) (w : World) (h1 : (convert 36 9 v1).run Tryz.prog w = .ok (.string (strOfNums xs)) w) (h2 : (convert 36 9 v2).run Tryz.prog w = .ok (.string (strOfNums ys)) w) :
    Calls Tryz.prog 237 #[v1, v2] w fun e w' => e = .returned (.bool (Lib.bytesOf xs == Lib.bytesOf ys)) ∧ w' = w := Any.bytes_Equal Tryz.lays115 v1 v2 xs ys w h1 h2
def Tryz.lays187_ren : Go.Shelf.Ren := ⟨fun | 187 => 276 | 255 => 291 | n => n, fun | 37 => 36 | 5 => 5 | 3 => 3 | n => n, fun | n => n⟩
theorem Tryz.lays187 : Go.Proofs.Lays.n187 Tryz.prog Tryz.lays187_ren := {
  mixed := by kernel_rfl
  f187 := Tryz.func276.trans (congrArg some (by kernel_rfl))
  f255 := Tryz.func291.trans (congrArg some (by kernel_rfl))
  t3 := Tryz.underlying3
  a3 := Tryz.isAgg3
  z3 := Tryz.sizeOf3
  v3 := Tryz.zeroValue3
  t5 := Tryz.underlying5
  a5 := Tryz.isAgg5
  z5 := Tryz.sizeOf5
  v5 := Tryz.zeroValue5
  t37 := Tryz.underlying36
  a37 := Tryz.isAgg36
  z37 := Tryz.sizeOf36
  v37 := Tryz.zeroValue36 }
theorem Tryz.bytes_IndexByte (b o n c : Nat) (xs : List Int) (cv : Int) (w : World) (hx : xs.length = n) (hc : ∀ i, i < n → w.cell? ⟨b, o + i, none⟩ = some (.int .u8 (xs.getD i 0))) :
    Calls Tryz.prog 276 #[.slice (some ⟨b, o, none⟩) n c, .int .u8 cv] w fun e w' => e = .returned (.int .i64 (Lib.indexByte (Lib.bytesOf xs) cv.toNat.toUInt8)) ∧ w' = w := Any.bytes_IndexByte Tryz.lays187 b o n c xs cv w hx hc
theorem Tryz.bytes_IndexByte_nil (cv : Int) (w : World) :
    Calls Tryz.prog 276 #[.slice none 0 0, .int .u8 cv] w fun e w' => e = .returned (.int .i64 (-1)) ∧ w' = w := Any.bytes_IndexByte_nil Tryz.lays187 cv w
end Go.Proofs
set_option maxRecDepth 8000
namespace Go.Proofs.YtjlkfjnfnonekaaGreatDoor
open Go.Vc
theorem HN {P:Program} {f:FuncId} {args:Array Value} {h:J} {v:Value} (hc:∀w:World,w.heap=h->Calls P f args w λe w'=>e= .returned v/\w'=w):
 aj P f args h λu h'=>u=v/\h'=h:=
 λw hw=>(hc w hw).mono λe w' ⟨he,kj⟩=>⟨v,he,⟨rfl,by rw[kj,hw]⟩,by rw[kj];exact cH.refl w⟩
def w2 (n:Int):List Int:=[n%256,n/256%256]
def yj (what:Int) (to fr bss:List Int):List Int:=([208,0,0,0]:List Int)++(to++(fr++(bss++[0,0,3,what])))
section
variable{W W':Wd} {h h':J} {G:List ao} {E:ao} {a a2:Option Addr} {l r c aG n k:Nat} {vs us:List Value} {bs xs ys to fr bss:List Int} {token tid size sq:Int}
theorem Bt {n m:Int} {h:J} {Post:Value->J->Prop} (hn:0<=n/\n<=m) (k:Post (.bool true) h):aj Tryz.prog 196 #[.int .i64 n, .int .i64 m] h Post:=
 Wp _ _ _ _ (fB hn.1 (by rwa[show decide (n<=m)=true from decide_eq_true hn.2]))
theorem zG (z:Int) (m:ai W h G):aj Tryz.prog 198 #[.int .i64 z] h λv h'=>∃b T,v= .slice (some ⟨b,0,none⟩) 2 2/\ai W h' ([(b,ints .u8 (w2 z),T)]::G):=by
 refine amv _ _ _ ⟨by decide,?_⟩
 rw[pI,pI]
 intro al h1 af ag
 exact⟨al,_,rfl,m.push ag af⟩
theorem Ft {w:World} (hw:w.heap=h) (m:ai W h G) (hb:cm W (.slice a n c) xs):Lib.BytesIn w a n xs:=by
 intro hn
 obtain⟨h1,h2,h3⟩:=kC hb
 obtain⟨b,o,rfl,-,-,hx⟩:=s8 hb (by omega)
 refine⟨b,o,rfl,λi hi=>?_⟩
 have SF:xs[i]?=some xs[i]:=List.getElem?_eq_getElem (by omega)
 rw[cell?_eq,hw,m.bT (hx i _ SF),List.getD_eq_getElem?_getD,SF];rfl
theorem abo (m:ai W h G) (h1:cm W (.slice a n c) xs) (h2:cm W (.slice a2 k aG) xs):
 aj Tryz.prog 237 #[.slice a n c, .slice a2 k aG] h λv h'=>v= .bool true/\h'=h:=
 HN λw hw=>by
  have:=Tryz.bytes_Equal_all a a2 n c k aG xs xs w (kC h1).2.1 (kC h2).2.1 (Ft hw m h1) (Ft hw m h2)
  rwa[show(Lib.bytesOf xs==Lib.bytesOf xs)=true from beq_self_eq_true _]at this
theorem FP (what:Int) (m:ai W h G) (h1:to.length=6) (h2:fr.length=6) (h3:bss.length=6):
 aj Tryz.prog 197 #[.agg (ints .u8 to).toArray, .agg (ints .u8 fr).toArray, .agg (ints .u8 bss).toArray, .int .u8 what] h λv h'=>∃a c E,v= .slice a 26 c/\ai W h' (E::G)/\au a 26 c 1 (ints .u8 (yj what to fr bss)) E:=by
 obtain⟨bj,aY,bz,bq,bU,aV,rfl⟩:=fV h1
 obtain⟨b0,b8,bO,cd,cf,cj,rfl⟩:=fV h2
 obtain⟨cN,z2,z3,z4,z5,eF,rfl⟩:=fV h3
 refine amu _ _ _ _ _ _ ?_
 intro al g1 af ag aP g2 aI cx bx g3 cy dP dO g4 h8 gl
 replace m:=(((m.push ag af).push cx aI).push dP cy).push gl h8
 refine⟨_,m.row 3 rfl rfl (Nat.le_of_ble_eq_true rfl),_,m.row 2 rfl rfl (Nat.le_of_ble_eq_true rfl),_,m.row 1 rfl rfl (Nat.le_of_ble_eq_true rfl),rfl,rfl,rfl,?_⟩
 intro fh g5 o5 zZ
 replace m:=m.push zZ o5
 replace m:ai W g5 ([(dO,ints .u8 [208,0,0,0],5)]::[(fh,ints .u8 [bj,aY,bz,bq,bU,aV,b0,b8,bO,cd,cf,cj,cN,z2,z3,z4,z5,eF],26)]::G):=by
  have ax:=u3 m
  exact ax.sub ⟨[(bx,ints .u8 [cN,z2,z3,z4,z5,eF],26)]++([(aP,ints .u8 [b0,b8,bO,cd,cf,cj],26)]++[(al,ints .u8 [bj,aY,bz,bq,bU,aV],26)]),by
   simp only[List.flatten_cons,List.append_assoc]
   refine List.Perm.append_left _ (List.Perm.append_left _ ?_)
   have:=List.perm_append_comm (l₁:=[(bx,ints .u8 [cN,z2,z3,z4,z5,eF],(26:TypeId))]++([(aP,ints .u8 [b0,b8,bO,cd,cf,cj],(26:TypeId))]++[(al,ints .u8 [bj,aY,bz,bq,bU,aV],(26:TypeId))])) (l₂:=G.flatten)
   simpa only[List.append_assoc]using this⟩
 refine⟨λay bI c' i h=>∃(k:Nat) (bn:ao),i=k/\k<=3/\bI=4+6*k/\au ay (4+6*k) c' 1 (ints .u8 ([208,0,0,0]++[bj,aY,bz,bq,bU,aV,b0,b8,bO,cd,cf,cj,cN,z2,z3,z4,z5,eF].take (6*k))) bn/\ai W h (bn::[(fh,ints .u8 [bj,aY,bz,bq,bU,aV,b0,b8,bO,cd,cf,cj,cN,z2,z3,z4,z5,eF],26)]::G),λ_ _ _ i _=>(3 -i).toNat,⟨0,_,rfl,by omega,rfl,au.wb rfl,m⟩,λ_=>?_⟩
 rintro ay bI c' _ aU ⟨k,bn,rfl,I,rfl,o',m⟩
 refine aC (λq=>?_) λq=>?_
 ·have:k=0\/k=1\/k=2:=by omega
  rcases this with rfl|rfl|rfl
  ·skip
   refine⟨⟨by decide,by decide⟩,ints .u8 [bj,aY,bz,bq,bU,aV],m.row 1 rfl rfl (Nat.le_of_ble_eq_true rfl),?_⟩
   intro ey bW f1 f2
   replace m:=m.push f2 f1
   refine⟨⟨rfl,m.dR 0 rfl rfl,dM⟩,λbJ f3=>?_⟩
   replace m:=m.bm 0 rfl f3
   simp only[List.set_cons_zero]at m
   refine⟨ints .u8 [bj,aY,bz,bq,bU,aV],⟨m.row 0 rfl rfl (Nat.le_of_ble_eq_true rfl),dM⟩,?_⟩
   refine o'.app m 1 rfl rfl (by omega) (by decide) λa9 om vB ct m9 nz=>?_
   simp only[List.set_cons_zero,List.set_cons_succ]at m9
   exact⟨by simp only[fits];omega,⟨0+1,vB,rfl,by decide,rfl,nz,m9.aB⟩,by dsimp only;omega⟩
  ·skip
   refine⟨⟨by decide,by decide⟩,ints .u8 [b0,b8,bO,cd,cf,cj],m.row 1 rfl rfl (Nat.le_of_ble_eq_true rfl),?_⟩
   intro ey bW f1 f2
   replace m:=m.push f2 f1
   refine⟨⟨rfl,m.dR 0 rfl rfl,dM⟩,λbJ f3=>?_⟩
   replace m:=m.bm 0 rfl f3
   simp only[List.set_cons_zero]at m
   refine⟨ints .u8 [b0,b8,bO,cd,cf,cj],⟨m.row 0 rfl rfl (Nat.le_of_ble_eq_true rfl),dM⟩,?_⟩
   refine o'.app m 1 rfl rfl (by omega) (by decide) λa9 om vB ct m9 nz=>?_
   simp only[List.set_cons_zero,List.set_cons_succ]at m9
   exact⟨by simp only[fits];omega,⟨1+1,vB,rfl,by decide,rfl,nz,m9.aB⟩,by dsimp only;omega⟩
  ·skip
   refine⟨⟨by decide,by decide⟩,ints .u8 [cN,z2,z3,z4,z5,eF],m.row 1 rfl rfl (Nat.le_of_ble_eq_true rfl),?_⟩
   intro ey bW f1 f2
   replace m:=m.push f2 f1
   refine⟨⟨rfl,m.dR 0 rfl rfl,dM⟩,λbJ f3=>?_⟩
   replace m:=m.bm 0 rfl f3
   simp only[List.set_cons_zero]at m
   refine⟨ints .u8 [cN,z2,z3,z4,z5,eF],⟨m.row 0 rfl rfl (Nat.le_of_ble_eq_true rfl),dM⟩,?_⟩
   refine o'.app m 1 rfl rfl (by omega) (by decide) λa9 om vB ct m9 nz=>?_
   simp only[List.set_cons_zero,List.set_cons_succ]at m9
   exact⟨by simp only[fits];omega,⟨2+1,vB,rfl,by decide,rfl,nz,m9.aB⟩,by dsimp only;omega⟩
 ·obtain rfl:k=3:=by omega
  refine o'.s4 m rfl (by simp[Value.oneCell']) (by omega) (by decide) λa4 c7 r3 h4 m4 hF=>?_
  exact⟨a4,c7,r3,rfl,(u3 m4).aB,hF⟩
structure aqS (token tid size sq:Int):Prop where
 k:0<=token/\token<=255
 t:0<=tid/\tid<=7
 z:0<=size/\size<=1023
 s:0<=sq/\sq<=4095
theorem Ai {Q:Option Addr->Nat->J->Prop} {ju:Nat} {T:TypeId} {z:Int} (o:au a l c 1 (ints .u8 bs) E) (m:ai W h ([(ju,ints .u8 (w2 z),T)]::E::G)) (hl:l<=1048576)
 (q:∀ay c' bn h',ai W h' (bn::G)->au ay (l+2) c' 1 (ints .u8 (bs++w2 z)) bn->Q ay c' h'):
 ∃news:List Value,(src h (some ⟨ju,0,none⟩) (2*1) news/\∀u∈news,u.oneCell'=true)/\e8 h a l c 2 1 5 1 news Q:=by
 refine⟨ints .u8 (w2 z),⟨m.row 0 rfl rfl (Nat.le_of_ble_eq_true rfl),dM⟩,?_⟩
 refine o.app m 1 rfl rfl (by omega) (by decide) λhJ gB i6 bW m7 gv=>?_
 simp only[List.set_cons_zero,List.set_cons_succ]at m7
 exact q hJ gB i6 bW m7.aB (by rw[kI];exact gv)
end
end Go.Proofs.YtjlkfjnfnonekaaGreatDoor
set_option maxRecDepth 8000
namespace Go.Proofs.YtjlkfjnfnonekaaGreatDoor
open Go.Vc
section
variable{W W':Wd} {h h':J} {G:List ao} {E:ao} {a a2:Option Addr} {l r c aG n k:Nat} {vs us:List Value} {bs xs ys to fr bss:List Int} {token tid size sq:Int}
def NS:List Value:=ints .u8 [0,0,0,0,0,0,0,0,0,0,0,0]++[.int .i64 0, .int .i64 0]
end
end Go.Proofs.YtjlkfjnfnonekaaGreatDoor
set_option maxRecDepth 8000
namespace Go.Proofs.YtjlkfjnfnonekaaGreatDoor
open Go.Vc
def dt (xs:List Int) (i:Nat):Int:=xs.getD i 0
def wd (xs:List Int) (i:Nat):Int:=dt xs i+dt xs (i+1)*256
def fJ (xs:List Int) (i:Nat):List Int:=(xs.drop i).take 6
theorem aca {xs:List Int} {k:Nat} (h:k<xs.length):xs[k]?=some (dt xs k):=by
 rw[List.getElem?_eq_getElem h]
 simp[dt,List.getD,h]
theorem Fp {xs:List Int} {k:Nat} (h:k<xs.length):dt xs k∈xs:=List.mem_of_getElem? (aca h)
theorem VS {xs:List Int} {i:Nat} (h:i+6<=xs.length):(fJ xs i).length=6:=by unfold fJ;rw[List.length_take,List.length_drop];omega
theorem jv {n:Nat} {xs:List Int} (h:n+1<=xs.length):∃x r,xs=x::r/\n<=r.length:=by
 cases xs with
 |nil=>simp at h
 |cons x r=>exact⟨x,r,rfl,by simpa using h⟩
def zA (to fr bss:List Int) (nK:Bool) (token tid size tmo sq st:Int):List Value:=ints .u8 to++(ints .u8 fr++(ints .u8 bss++[.bool nK, .int .i64 token, .int .i64 tid, .int .i64 size, .int .i64 tmo, .int .i64 sq, .int .i64 st]))
section
variable{W W':Wd} {h h':J} {G:List ao} {E:ao} {a a2:Option Addr} {l r c aG n k:Nat} {vs us:List Value} {bs xs ys to fr bss:List Int} {token tid size sq tmo st:Int}
theorem al0 {n m:Int} {h:J} {Post:Value->J->Prop} (h0:0<=n) (hn:m<n) (k:Post (.bool false) h):aj Tryz.prog 196 #[.int .i64 n, .int .i64 m] h Post:=
 Wp _ _ _ _ (fB h0 (by rwa[show decide (n<=m)=false from decide_eq_false (by omega)]))
theorem ahM (m:ai W h G) (h1:cm W (.slice a n c) xs) (h2:cm W (.slice a2 k aG) ys) (b6:Lib.bytesOf xs≠Lib.bytesOf ys):
 aj Tryz.prog 237 #[.slice a n c, .slice a2 k aG] h λv h'=>v= .bool false/\h'=h:=
 HN λw hw=>by
  have:=Tryz.bytes_Equal_all a a2 n c k aG xs ys w (kC h1).2.1 (kC h2).2.1 (Ft hw m h1) (Ft hw m h2)
  rwa[show(Lib.bytesOf xs==Lib.bytesOf ys)=false from beq_false_of_ne b6]at this
end
end Go.Proofs.YtjlkfjnfnonekaaGreatDoor
set_option maxRecDepth 8000
namespace Go.Proofs.YtjlkfjnfnonekaaGreatDoor
open Go.Vc
def pR (to fr:List Int) (tid sq:Int):List Value:=ints .u8 to++(ints .u8 fr++[.int .i64 tid, .int .i64 sq])
theorem B4 (to fr:List Int) (tid sq:Int):∀u∈pR to fr tid sq,u.oneCell'=true:=by
 intro u hu
 unfold pR at hu
 simp only[List.mem_append]at hu
 rcases hu with hu|hu|hu
 ·exact dM u hu
 ·exact dM u hu
 ·simp only[List.mem_cons,List.not_mem_nil,or_false]at hu
  rcases hu with rfl|rfl<;>rfl
section
variable{W W':Wd} {h h':J} {G:List ao} {E:ao} {a a2:Option Addr} {l r c aG n k:Nat} {vs us:List Value} {bs xs ys to fr:List Int} {tid sq:Int}
theorem Ql {x y:Int} (m:ai W h G) (hb:cm W (.slice a n c) xs) (h0:xs[0]?=some x) (h1:xs[1]?=some y) (hx:0<=x/\x<256) (hy:0<=y/\y<256):
 aj Tryz.prog 233 #[.slice a n c] h λv h'=>v= .int .i64 (x+y*256)/\h'=h:=by
 have hl:=(List.getElem?_eq_some_iff.1 h1).1
 obtain⟨b,o,rfl,hn,hc,c9⟩:=s8 hb (by omega)
 refine an7 _ _ _ _ _ ⟨⟨by decide,by omega⟩,x,m.bT (by simpa using c9 0 x h0),by simp only[fits];omega,⟨by decide,by omega⟩,y,m.bT (c9 1 y h1),by simp only[fits];omega,by decide,by simp only[fits];omega,?_,rfl⟩
 rw[Mf hx hy]
theorem ZB (m:ai W h G) (h1:to.length=6) (h2:fr.length=6) (ht:0<=tid/\tid<=7) (hs:0<=sq/\sq<=4095):
 aj Tryz.prog 112 #[.agg (pR to fr tid sq).toArray] h (BD W G (k5 132 to fr tid sq) λv=> .tuple #[v, .nilIface]):=by
 have hL:=OT (tid:=tid) (sq:=sq) 132 h1 h2
 obtain⟨bj,aY,bz,bq,bU,aV,rfl⟩:=fV h1
 obtain⟨b0,b8,bO,cd,cf,cj,rfl⟩:=fV h2
 refine an4 _ _ _ ?_
 intro al g1 af ag
 replace m:=m.push ag af
 refine⟨_,m.row 0 rfl rfl (Nat.le_of_ble_eq_true rfl),_,m.row 0 rfl rfl (Nat.le_of_ble_eq_true rfl),_,m.cell 0 rfl rfl,_,m.cell 0 rfl rfl,?_⟩
 refine(OU (to:=[bj,aY,bz,bq,bU,aV]) (fr:=[b0,b8,bO,cd,cf,cj]) 132 m rfl rfl ht hs).mono ?_
 rintro _ g2 ⟨a2,aG,cD,rfl,m,aM⟩
 refine⟨_,_,_,_,rfl,?_⟩
 have DM:au a2 (k5 132 [bj,aY,bz,bq,bU,aV] [b0,b8,bO,cd,cf,cj] tid sq).length aG 1 (ints .u8 (k5 132 [bj,aY,bz,bq,bU,aV] [b0,b8,bO,cd,cf,cj] tid sq)) cD:=by rw[hL];exact aM
 obtain⟨W',hl,m10,acE⟩:=w5 DM m
 exact⟨W',a2,aG,hl,by rw[hL],m10.aB,acE⟩
end
end Go.Proofs.YtjlkfjnfnonekaaGreatDoor
set_option maxRecDepth 8000
namespace Go.Proofs.YtjlkfjnfnonekaaGreatDoor
open Go.Vc
def Pt (xs:List Int):List Value:=pR (fJ xs 4) (fJ xs 10) (wd xs 16/4096) (wd xs 18/16)
theorem PL:∀{l m:List Int},(∀x∈l,0<=x/\x<256)->(∀x∈m,0<=x/\x<256)->Lib.bytesOf l=Lib.bytesOf m->l=m
 |[],[],_,_,_=>rfl
 |[],y::m,_,_,e=>by simp[Lib.bytesOf]at e
 |x::l,[],_,_,e=>by simp[Lib.bytesOf]at e
 |x::l,y::m,hl,hm,e=>by
  simp only[Lib.bytesOf,List.map_cons,List.cons.injEq]at e
  have h1:=hl x (by simp)
  have h2:=hm y (by simp)
  have h3:=congrArg UInt8.toNat e.1
  simp only[UInt8.toNat_ofNat']at h3
  rw[show x=y by omega,PL (l:=l) (m:=m) (λz hz=>hl z (by simp[hz])) (λz hz=>hm z (by simp[hz])) e.2]
section
variable{W W':Wd} {h h':J} {G:List ao} {E:ao} {a a2:Option Addr} {l r c aG n k:Nat} {vs us:List Value} {bs xs ys to fr:List Int} {tid sq:Int}
theorem OS {kind:Int} (h1:∀x∈to,0<=x/\x<256) (h2:∀x∈fr,0<=x/\x<256) (I:0<=kind/\kind<256):∀x∈k5 kind to fr tid sq,0<=x/\x<256:=by
 intro x hx
 simp only[k5,List.mem_append,List.mem_cons,List.not_mem_nil,or_false]at hx
 rcases hx with(rfl|rfl|rfl|rfl)|hx|hx|rfl|rfl|rfl|rfl
 all_goals first|exact h1 _ hx|exact h2 _ hx|omega
theorem VR (hx:∀x∈xs,0<=x/\x<256) (i:Nat):∀x∈fJ xs i,0<=x/\x<256:= λx h=>hx x (List.mem_of_mem_drop (List.mem_of_mem_take h))
theorem abp (m:ai W h G) (h1:cm W (.slice a n c) xs) (h2:cm W (.slice a2 k aG) ys) (hx:∀x∈xs,0<=x/\x<256) (hy:∀x∈ys,0<=x/\x<256):
 aj Tryz.prog 237 #[.slice a n c, .slice a2 k aG] h λv h'=>v= .bool (decide (xs=ys))/\h'=h:=by
 by_cases he:xs=ys
 ·subst he
  rw[decide_eq_true rfl]
  exact abo m h1 h2
 ·rw[decide_eq_false he]
  exact ahM m h1 h2 λe=>he (PL hx hy e)
theorem Z4 {first:Int} {N:Nat} (hE:ud W) (m:ai W h G) (hb:cm W (.slice a n c) xs) (iB:0<N):
 aj Tryz.prog 232 #[.slice a n c, .int .u8 first, .int .i64 (N:Int)] h λv h'=>((v= .nilIface/\xs[0]?=some first/\xs.length=N)\/((∃e,v=ptE e)/\¬(xs[0]?=some first/\xs.length=N)))/\h'=h:=by
 obtain⟨QC,RU⟩:=hE 7 (by decide)
 obtain⟨aaS,ac1⟩:=hE 5 (by decide)
 obtain⟨mg,Kz⟩:=hE 6 (by decide)
 obtain⟨-,hn,-⟩:=kC hb
 by_cases hl:0<xs.length
 ·obtain⟨b',o,rfl,hn,hc,hx⟩:=s8 hb hl
  have h0:=List.getElem?_eq_getElem (l:=xs) (i:=0) hl
  refine Wu _ _ _ _ _ _ _ (fB (by omega) ⟨⟨by decide,by omega⟩,_,m.bT (by simpa using hx 0 _ h0),bH (λq=>?_) λq=>?_⟩)
  ·refine⟨_,m.bT ac1, .inr ⟨⟨aaS,rfl⟩,λhh=>?_⟩,rfl⟩
   have:=hh.1
   rw[h0]at this
   simp at q this
   exact q this
  have q0:xs[0]=first:=by simpa using q
  refine aC (λaE=>⟨_,m.bT RU, .inr ⟨⟨QC,rfl⟩,λhh=>by have:=hh.2;omega⟩,rfl⟩) λaE=>?_
  refine aC (λbP=>⟨_,m.bT Kz, .inr ⟨⟨mg,rfl⟩,λhh=>by have:=hh.2;omega⟩,rfl⟩) λbP=>?_
  exact⟨.inl ⟨rfl,by rw[h0,q0],by omega⟩,rfl⟩
 ·refine Wu _ _ _ _ _ _ _ (bF (by omega) (fB (by omega) ⟨_,m.bT RU, .inr ⟨⟨QC,rfl⟩,λhh=>by have:=hh.2;omega⟩,rfl⟩))
end
end Go.Proofs.YtjlkfjnfnonekaaGreatDoor
set_option maxRecDepth 8000
namespace Go.Proofs.YtjlkfjnfnonekaaGreatDoor
open Go.Vc
theorem Jv {p:Nat->Bool} (h:(List.range 256).all p=true) {x:Int} (hx:0<=x/\x<256):p x.toNat=true:=List.all_eq_true.1 h _ (List.mem_range.2 (by omega))
def oH (x:Int):Bool:=decide (x=2)||decide (x=10)||decide (x=34)||decide (x=42)
def ll (x:Int):Bool:=decide (x<=7)||decide (16<=x/\x<=23)
theorem aie {x:Int} (hx:0<=x/\x<256):decide (bits .and .u8 x 215=2)=oH x:=by
 have:=Jv (p:= λn=>decide (bits .and .u8 (n:Int) 215=2)==oH (n:Int)) (by kernel_rfl) hx
 rw[show((x.toNat:Nat):Int)=x by omega]at this
 exact eq_of_beq this
def vi (xs:List Int):Prop:=26<=xs.length/\dt xs 0=136/\oH (dt xs 1)=true/\dt xs 2=0/\dt xs 3=0/\dt xs 25=0/\wd xs 22%16=0/\ll (dt xs 24)=true/\xs.length<=1526
def jM (xs:List Int):bQ:=⟨fJ xs 4,fJ xs 10,fJ xs 16,dt xs 24%16,wd xs 22/16,decide (dt xs 1=10\/dt xs 1=42),decide (dt xs 1=34\/dt xs 1=42),decide (16<=dt xs 24),xs.drop 26⟩
theorem Q3 {xs:List Int} (h:26<=xs.length):∃oR bj aY bz bq bU aV mQ fK gJ rT lu rU rV kU rW qS qT qU qV qW qX jQ lN fc qY body,xs=oR::bj::aY::bz::bq::bU::aV::mQ::fK::gJ::rT::lu::rU::rV::kU::rW::qS::qT::qU::qV::qW::qX::jQ::lN::fc::qY::body:=by
 obtain⟨oR,r0,dW,lF⟩:=jv (n:=25) h
 obtain⟨bj,r1,af,ca⟩:=jv (n:=24) lF
 obtain⟨aY,r2,ag,aF⟩:=jv (n:=23) ca
 obtain⟨bz,tS,aI,dw⟩:=jv (n:=22) aF
 obtain⟨bq,xc,cx,lZ⟩:=jv (n:=21) dw
 obtain⟨bU,yZ,cy,afU⟩:=jv (n:=20) lZ
 obtain⟨aV,MD,dP,afV⟩:=jv (n:=19) afU
 obtain⟨mQ,ajB,h8,GM⟩:=jv (n:=18) afV
 obtain⟨fK,UX,gl,Ly⟩:=jv (n:=17) GM
 obtain⟨gJ,UY,o5,afW⟩:=jv (n:=16) Ly
 obtain⟨rT,ash,zZ,l10⟩:=jv (n:=15) afW
 obtain⟨lu,asi,aaG,afG⟩:=jv (n:=14) l10
 obtain⟨rU,asj,z1,afH⟩:=jv (n:=13) afG
 obtain⟨rV,asl,Cj,afI⟩:=jv (n:=12) afH
 obtain⟨kU,HG,Ck,afJ⟩:=jv (n:=11) afI
 obtain⟨rW,HH,aaH,afK⟩:=jv (n:=10) afJ
 obtain⟨qS,asm,aaI,afL⟩:=jv (n:=9) afK
 obtain⟨qT,asn,aaJ,afM⟩:=jv (n:=8) afL
 obtain⟨qU,aso,JV,afN⟩:=jv (n:=7) afM
 obtain⟨qV,asp,aaK,afO⟩:=jv (n:=6) afN
 obtain⟨qW,asq,aaL,afP⟩:=jv (n:=5) afO
 obtain⟨qX,asr,aaM,afQ⟩:=jv (n:=4) afP
 obtain⟨jQ,HI,aaN,afR⟩:=jv (n:=3) afQ
 obtain⟨lN,MC,aaO,afS⟩:=jv (n:=2) afR
 obtain⟨fc,yY,aaP,afT⟩:=jv (n:=1) afS
 obtain⟨qY,ass,aaQ,asb⟩:=jv (n:=0) afT
 subst aaQ aaP aaO aaN aaM aaL aaK JV aaJ aaI aaH Ck Cj z1 aaG zZ o5 gl h8 dP cy cx aI ag af dW
 exact⟨oR,bj,aY,bz,bq,bU,aV,mQ,fK,gJ,rT,lu,rU,rV,kU,rW,qS,qT,qU,qV,qW,qX,jQ,lN,fc,qY,_,rfl⟩
theorem MB {xs:List Int} (h:vi xs) (hx:∀x∈xs,0<=x/\x<256):gK (jM xs)/\gg (jM xs)=xs:=by
 obtain⟨h0,h1,h2,h3,h4,aA,aU,bW,bJ⟩:=h
 obtain⟨oR,bj,aY,bz,bq,bU,aV,mQ,fK,gJ,rT,lu,rU,rV,kU,rW,qS,qT,qU,qV,qW,qX,jQ,lN,fc,qY,body,rfl⟩:=Q3 h0
 have HI:=hx jQ (by simp)
 have MC:=hx lN (by simp)
 have yY:=hx fc (by simp)
 obtain rfl:oR=136:=h1
 obtain rfl:aY=0:=h3
 obtain rfl:bz=0:=h4
 obtain rfl:qY=0:=aA
 replace aU:(jQ+lN*256)%16=0:=aU
 have nO:fc<=7\/(16<=fc/\fc<=23):=by
  have Ko:ll fc=true:=bW
  simpa[ll]using Ko
 have pb:bj=2\/bj=10\/bj=34\/bj=42:=by
  have Rw:oH bj=true:=h2
  simpa[oH,or_assoc]using Rw
 replace bJ:body.length+26<=1526:=bJ
 refine⟨⟨rfl,rfl,rfl,?_,?_,?_,?_,?_⟩,?_⟩
 ·show 0<=fc%16;omega
 ·show fc%16<=7;omega
 ·show 0<=(jQ+lN*256)/16;omega
 ·show(jQ+lN*256)/16<=4095;omega
 ·show body.length<=1500;omega
 ·have z6:(2:Int)+(if decide (bj=10\/bj=42)=true then 8 else 0)+(if decide (bj=34\/bj=42)=true then 32 else 0)=bj:=by
   rcases pb with rfl|rfl|rfl|rfl<;>decide
  have FB:(jQ+lN*256)/16*16%256=jQ:=by omega
  have nN:(jQ+lN*256)/16*16/256%256=lN:=by omega
  have aaR:fc%16+(if decide (16<=fc)=true then(16:Int)else 0)=fc:=by
   by_cases q:16<=fc
   ·rw[decide_eq_true q,if_pos rfl];omega
   ·rw[decide_eq_false q,if_neg (by decide)];omega
  show(136:Int)::((2:Int)+(if decide (bj=10\/bj=42)=true then 8 else 0)+(if decide (bj=34\/bj=42)=true then 32 else 0))::0::0::bq::bU::aV::mQ::fK::gJ::rT::lu::rU::rV::kU::rW::qS::qT::qU::qV::qW::qX::((jQ+lN*256)/16*16%256)::((jQ+lN*256)/16*16/256%256)::(fc%16+(if decide (16<=fc)=true then(16:Int)else 0))::0::body=_
  rw[z6,FB,nN,aaR]
theorem WS:∀u∈z24,u.oneCell'=true:=wa ⟨[0,0,0,0,0,0],[0,0,0,0,0,0],[0,0,0,0,0,0],0,0,false,false,false,[]⟩ none 0 0
section
variable{W W':Wd} {h h':J} {G:List ao} {E:ao} {a a2:Option Addr} {l r c aG n k:Nat} {vs us:List Value} {bs xs ys to fr:List Int} {tid sq:Int}
def N7 (W:Wd) (G:List ao) (xs:List Int) (ok:Value) (bad:Value->Prop) (v:Value) (h':J):Prop:=
 ∃W',W.le W'/\ai W' h' G/\((vi xs/\∃cs,v= .tuple #[.agg cs.toArray,ok]/\ir W' (jM xs) cs)\/(¬vi xs/\∃e,v= .tuple #[.agg z24.toArray,e]/\bad e))
end
end Go.Proofs.YtjlkfjnfnonekaaGreatDoor
set_option maxRecDepth 8000
namespace Go.Proofs.YtjlkfjnfnonekaaGreatDoor
open Go.Vc
section
variable{W W':Wd} {h h':J} {G:List ao} {E:ao} {a a2:Option Addr} {l r c aG n k:Nat} {vs us:List Value} {bs xs ys to fr:List Int} {tid sq:Int}
theorem afv (n:Nat):(cX (List.replicate n [Value.int .u8 0])).length=n:=by
 induction n with
 |zero=>rfl
 |succ n b9=>rw[List.replicate_succ];show([Value.int .u8 0]++cX (List.replicate n [Value.int .u8 0])).length=n+1;rw[List.length_append,b9];simp;omega
theorem Fk {A B y:Bool} (h:y=!A) (q:y=true):true=!(A&&B):=by subst h;cases A<;>simp_all
theorem Fj {A B y:Bool} (h:y=!A) (q:y=false):(!B)=!(A&&B):=by subst h;cases A<;>simp_all
theorem alK {xs:List Int} {k:Nat} {x:Int} (hx:xs[k]?=some x):xs.take k++[x]=xs.take (k+1):=by
 rw[List.take_add_one,hx];rfl
theorem U0 (m:ai W h G) (hb:cm W (.slice a n c) xs) (hl:xs.length<=1000000):
 aj Tryz.prog 55 #[.slice a n c] h (BD W G xs λv=>v):=by
 obtain⟨hs,hn,hc⟩:=kC hb
 refine aoY _ _ _ _ _ ⟨by omega,?_⟩
 intro al h1 af ag
 replace m:=m.push ag af
 clear af ag
 refine⟨λs eE c i h'=>∃(k:Nat) (E:ao),i=k/\k<=n/\eE=k/\ai W h' (E::G)/\au s k c 1 (ints .u8 (xs.take k)) E,λ_ _ _ i _=>((n:Int) -i).toNat,
  ⟨0,_,rfl,by omega,rfl,m,?_⟩,λ_=>?_⟩
 ·have:=au.fresh (b:=al) (l:=0) (c:=n) (sz:=1) (vs:=[]) (rest:=cX (List.replicate n [.int .u8 0])) (T:=5) (by simp) (by rw[afv];simp) (by omega)
  simpa[ints]using this
 clear m
 rintro s eE aG _ h2 ⟨k,E,rfl,I,wA,m,o⟩
 subst eE
 refine aC (λq=>?_) λq=>?_
 ·obtain⟨x,hx⟩:∃y,xs[k]?=some y:=⟨_,List.getElem?_eq_getElem (by omega)⟩
  obtain⟨aP,aM,rfl,-,-,c9⟩:=s8 hb (by omega)
  refine⟨⟨by omega,by omega⟩,x,m.bT (by simpa using c9 k x hx),?_⟩
  intro bx h3 aI cx
  replace m:=m.push cx aI
  refine⟨[.int .u8 x],⟨m.row 0 rfl rfl (Nat.le_of_ble_eq_true rfl),by simp[Value.oneCell']⟩,?_⟩
  refine o.app m 1 rfl rfl (by omega) (by decide) λay c' bn h' ax o'=>?_
  simp only[List.set_cons_zero,List.set_cons_succ]at ax
  refine⟨by simp only[fits];omega,⟨k+1,bn,by omega,by omega,rfl,ax.aB,?_⟩,by dsimp only;omega⟩
  rw[<-alK hx,kI];exact o'
 ·obtain rfl:k=n:=by omega
  rw[List.take_of_length_le (by omega)]at o
  rw[<-hn]at o⊢
  obtain⟨W',h1,h2,h3⟩:=w5 o m
  exact⟨W',_,_,h1,rfl,h2,h3⟩
def yX (xs:List Int) (v:Value):List Value:=ints .u8 (fJ xs 4)++(ints .u8 (fJ xs 10)++(ints .u8 (fJ xs 16)++[.int .i64 (bits .and .u8 (dt xs 24) 15), .int .i64 (wd xs 22/16), .bool (!decide (bits .and .u8 (dt xs 1) 8=0)), .bool (!decide (bits .and .u8 (dt xs 1) 32=0)), .bool (!decide (bits .and .u8 (dt xs 24) 16=0)),v]))
theorem E2 {x:Int} (hx:0<=x/\x<256):bits .and .u8 x 15=x%16:=by
 have:=Jv (p:= λn=>bits .and .u8 (n:Int) 15==(n:Int)%16) (by kernel_rfl) hx
 rw[show((x.toNat:Nat):Int)=x by omega]at this
 exact eq_of_beq this
theorem aib {x:Int} (hx:0<=x/\x<256) (h:oH x=true):(!decide (bits .and .u8 x 8=0))=decide (x=10\/x=42)/\(!decide (bits .and .u8 x 32=0))=decide (x=34\/x=42):=by
 have pb:x=2\/x=10\/x=34\/x=42:=by simpa[oH,or_assoc]using h
 rcases pb with rfl|rfl|rfl|rfl<;>exact⟨by decide,by decide⟩
theorem aic {x:Int} (hx:0<=x/\x<256) (h:ll x=true):(!decide (bits .and .u8 x 16=0))=decide (16<=x):=by
 have nO:x<=7\/(16<=x/\x<=23):=by simpa[ll]using h
 have:=Jv (p:= λn=>!ll (n:Int)||((!decide (bits .and .u8 (n:Int) 16=0))==decide (16<=(n:Int)))) (by kernel_rfl) hx
 rw[show((x.toNat:Nat):Int)=x by omega,h]at this
 simpa using this
theorem ajz (hx:∀x∈xs,0<=x/\x<256) (hq:vi xs) (v:Value):yX xs v=ef (jM xs) v:=by
 obtain⟨h0,h1,h2,h3,h4,aA,aU,bW,bJ⟩:=hq
 have r1:=hx _ (Fp (k:=1) (by omega))
 have yY:=hx _ (Fp (k:=24) (by omega))
 obtain⟨k1,k2⟩:=aib r1 h2
 unfold yX ef jM
 rw[k1,k2,aic yY bW,E2 yY]
theorem D2 (xs:List Int) (a:Option Addr) (l c:Nat):∀u∈yX xs (.slice a l c),u.oneCell'=true:=wa ⟨fJ xs 4,fJ xs 10,fJ xs 16,bits .and .u8 (dt xs 24) 15,wd xs 22/16,!decide (bits .and .u8 (dt xs 1) 8=0),!decide (bits .and .u8 (dt xs 1) 32=0),!decide (bits .and .u8 (dt xs 24) 16=0),[]⟩ a l c
set_option maxHeartbeats 6000000 in
theorem aj0 (m:ai W h G) (hb:cm W (.slice a n c) xs) (hx:∀x∈xs,0<=x/\x<256) (hl:xs.length<=1000000):
 aj Tryz.prog 147 #[.slice a n c] h (N7 W G xs (.int .i64 0) λv=>∃e:Int,v= .int .i64 e/\e≠0):=by
 obtain⟨tB,hn,-⟩:=kC hb
 refine aoO _ _ _ _ _ ?_
 intro al h1 af ag
 replace m:=m.push ag af
 have fin:∀{h1:J} {G':List ao} {e:Int},ai W h1 (G'++[(al,z24,257)]::G)->¬vi xs->e≠0->((z24.length=24/\c0 h1 al 0 24/\∀u∈z24,u.oneCell'=true)/\∀h2:J,h2=bm h1 al 0 z24->∃uu:List Value,row h2 al 0 24=some uu/\N7 W G xs (.int .i64 0) (λv=>∃e:Int,v= .int .i64 e/\e≠0) (.tuple #[.agg uu.toArray, .int .i64 e]) h2):= λ{h1 G' e} m hq he=>by
  replace m:ai W h1 ([(al,z24,257)]::(G'++G)):=m.perm (by simp only[List.flatten_append,List.flatten_cons];exact List.perm_append_comm_assoc _ _ _)
  refine⟨⟨rfl,m.dR 0 rfl rfl,WS⟩,λh2 aI=>?_⟩
  have m2:=m.bm 0 rfl aI
  exact⟨_,m2.row 0 rfl rfl (Nat.le_of_ble_eq_true rfl),W,Wd.le.refl W,(m2.aB.sub ⟨G'.flatten,by simp only[List.flatten_append];exact List.perm_append_comm⟩), .inr ⟨hq,_,rfl,e,rfl,he⟩⟩
 refine aC (λq0=>fin (G':=[]) m (λhq=>by have:=hq.1;omega) (by decide)) λq0=>?_
 have FV:26<=xs.length:=by omega
 have fj:=hb
 obtain⟨b',o,rfl,-,hc,ael⟩:=s8 hb (by omega)
 obtain⟨oR,bj,aY,bz,bq,bU,aV,mQ,fK,gJ,rT,lu,rU,rV,kU,rW,qS,qT,qU,qV,qW,qX,jQ,lN,fc,qY,body,lE⟩:=Q3 FV
 have ce:∀{h:J} {G:List ao},ai W h G->∀(k:Nat) (x:Int),xs[k]?=some x->cell h b' (o+k)=some (.int .u8 x):= λm k x I=>m.bT (ael k x I)
 have mw:=hx
 subst lE
 have r1:=mw bj (by simp)
 have HI:=mw jQ (by simp)
 have MC:=mw lN (by simp)
 have yY:=mw fc (by simp)
 have t4:=pW hb (k:=4) (by omega)
 have t10:=pW hb (k:=10) (by omega)
 have t16:=pW hb (k:=16) (by omega)
 have t22:=pW hb (k:=22) (by omega)
 have t26:=pW hb (k:=26) (by omega)
 refine⟨⟨by decide,by omega⟩,_,ce m 0 _ rfl,bH (λq1=>fin (G':=[]) m (λhq=>by have:=hq.2.1;simp at q1;exact q1 this) (by decide)) λq1=>?_⟩
 have q1:oR=136:=by simpa using q1
 have aby:fits .i64 (bits .and .u8 fc 15):=by rw[E2 yY];simp only[fits];omega
 have f2:fits .i64 ((jQ+lN*256)/16):=by simp only[fits];omega
 obtain⟨xs,lE⟩:∃xs,xs=oR::bj::aY::bz::bq::bU::aV::mQ::fK::gJ::rT::lu::rU::rV::kU::rW::qS::qT::qU::qV::qW::qX::jQ::lN::fc::qY::body:=⟨_,rfl⟩
 have DJ:∀{h:J} {G:List ao},ai W h G->aj Tryz.prog 143 #[.slice (en (some ⟨b',o,none⟩) 22 c 22) (n -22) (c -22)] h λv h'=>v= .int .i64 (jQ+lN*256)/\h'=h:= λm=>ahU m t22 rfl rfl HI MC
 have Bg:fJ xs 4=[bq,bU,aV,mQ,fK,gJ]:=by rw[lE];rfl
 have sQ:fJ xs 10=[rT,lu,rU,rV,kU,rW]:=by rw[lE];rfl
 have akl:fJ xs 16=[qS,qT,qU,qV,qW,qX]:=by rw[lE];rfl
 have j3:∀v,yX xs v=ints .u8 [bq,bU,aV,mQ,fK,gJ]++(ints .u8 [rT,lu,rU,rV,kU,rW]++(ints .u8 [qS,qT,qU,qV,qW,qX]++[.int .i64 (bits .and .u8 fc 15), .int .i64 ((jQ+lN*256)/16), .bool (!decide (bits .and .u8 bj 8=0)), .bool (!decide (bits .and .u8 bj 32=0)), .bool (!decide (bits .and .u8 fc 16=0)),v])):= λv=>by
  unfold yX;rw[Bg,sQ,akl,lE];rfl
 refine⟨λp ct=>∃e0,p=some ⟨e0,0,none⟩/\ai W ct ([(e0,yX xs (.slice none 0 0),257)]::[(al,z24,257)]::G),?_,λ_=>?_⟩
 rotate_left
 ·rintro _ g5 ⟨e0,rfl,m⟩
  rw[<-lE]at ce hb hx mw fj hn FV t26 fin tB hl⊢
  have aK:dt xs 1=bj:=by rw[lE];rfl
  have aG:dt xs 2=aY:=by rw[lE];rfl
  have bd:dt xs 3=bz:=by rw[lE];rfl
  have PQ:dt xs 25=qY:=by rw[lE];rfl
  have Jx:dt xs 24=fc:=by rw[lE];rfl
  have PO:wd xs 22=jQ+lN*256:=by rw[lE];rfl
  have g1:xs[1]?=some bj:=by rw[lE];rfl
  have g2:xs[2]?=some aY:=by rw[lE];rfl
  have g3:xs[3]?=some bz:=by rw[lE];rfl
  have ab2:xs[25]?=some qY:=by rw[lE];rfl
  have g22:xs[22]?=some jQ:=by rw[lE];rfl
  have g24:xs[24]?=some fc:=by rw[lE];rfl
  have pb:∀p:Prop,(vi xs->p)->¬p->¬vi xs:= λp h1 h2 h3=>h2 (h1 h3)
  refine⟨λx ct=>ct=g5/\x=!(oH bj&&decide (aY=0)),⟨⟨by decide,by omega⟩,_,ce m 1 _ g1,?_⟩,λ_=>?_⟩
  ·rw[aie r1]
   refine bH (λq=>⟨rfl,?_⟩) λq=>⟨⟨by decide,by omega⟩,_,ce m 2 _ g2,rfl,?_⟩
   ·rw[show oH bj=false by simpa using q];rfl
   ·rw[show oH bj=true by simpa using q];simp
  rintro b0 g5 ⟨rfl,SH⟩
  refine⟨λx ct=>ct=g5/\x=!(oH bj&&decide (aY=0)&&decide (bz=0)),bH (λq=>⟨rfl,?_⟩) λq=>⟨⟨by decide,by omega⟩,_,ce m 3 _ g3,rfl,?_⟩,λ_=>?_⟩
  ·exact Fk SH q
  ·exact Fj SH q
  rintro b8 g5 ⟨rfl,Di⟩
  refine⟨λx ct=>ct=g5/\x=!(oH bj&&decide (aY=0)&&decide (bz=0)&&decide (qY=0)),bH (λq=>⟨rfl,?_⟩) λq=>⟨⟨by decide,by omega⟩,_,ce m 25 _ ab2,rfl,?_⟩,λ_=>?_⟩
  ·exact Fk Di q
  ·exact Fj Di q
  rintro bO g5 ⟨rfl,SI⟩
  refine⟨λx ct=>ct=g5/\x=!(oH bj&&decide (aY=0)&&decide (bz=0)&&decide (qY=0)&&decide (jQ%16=0)),bH (λq=>⟨rfl,?_⟩) λq=>⟨⟨by decide,by omega⟩,_,ce m 22 _ g22,rfl,?_⟩,λ_=>?_⟩
  ·exact Fk SI q
  ·rw[E2 HI];exact Fj SI q
  rintro cd g5 ⟨rfl,SJ⟩
  refine⟨λx ct=>ct=g5/\x=!(oH bj&&decide (aY=0)&&decide (bz=0)&&decide (qY=0)&&decide (jQ%16=0)&&decide (fc<=23)),bH (λq=>⟨rfl,?_⟩) λq=>⟨⟨by decide,by omega⟩,_,ce m 24 _ g24,rfl,?_⟩,λ_=>?_⟩
  ·exact Fk SJ q
  ·rw[show decide ((23:Int)<fc)=!decide (fc<=23) by by_cases hh:fc<=23<;>simp[hh]<;>omega]
   exact Fj SJ q
  rintro cf g5 ⟨rfl,SK⟩
  refine bH (λq=>?_) λq=>?_
  ·refine fin (G':=[_]) m ?_ (by decide)
   rintro⟨h0,h1,h2,h3,h4,aA,aU,bW,bJ⟩
   rw[aK]at h2;rw[aG]at h3;rw[bd]at h4;rw[PQ]at aA;rw[PO]at aU;rw[Jx]at bW
   have Ko:fc<=7\/(16<=fc/\fc<=23):=by simpa[ll]using bW
   rw[SK,h2,h3,h4,aA,show jQ%16=0 by omega,show decide (fc<=23)=true by simp;omega]at q
   exact absurd q (by decide)
  rw[SK]at q
  have q:((((oH bj=true/\aY=0)/\bz=0)/\qY=0)/\jQ%16=0)/\fc<=23:=by simpa using q
  obtain⟨⟨⟨⟨⟨k1,k2⟩,k3⟩,k4⟩,j6⟩,lf⟩:=q
  have JM:cell g5 e0 18=some (.int .i64 (fc%16)):=by
   have:=m.cell (o:=18) 0 rfl (by rw[j3];rfl)
   rw[E2 yY]at this
   exact this
  refine⟨_,JM,aC (λq=>?_) λq=>?_⟩
  ·refine fin (G':=[_]) m ?_ (by decide)
   rintro⟨h0,h1,h2,h3,h4,aA,aU,bW,bJ⟩
   rw[Jx]at bW
   have Ko:fc<=7\/(16<=fc/\fc<=23):=by simpa[ll]using bW
   omega
  have nO:ll fc=true:=by
   have:fc<=7\/(16<=fc/\fc<=23):=by omega
   simpa[ll]using this
  refine⟨by simp only[fits];omega,aC (λq2=>?_) λq2=>?_⟩
  ·refine fin (G':=[_]) m ?_ (by decide)
   rintro⟨h0,h1,h2,h3,h4,aA,aU,bW,bJ⟩
   omega
  have hq:vi xs:=⟨FV,by rw[lE];exact q1,by rw[aK];exact k1,by rw[aG];exact k2,by rw[bd];exact k3,by rw[PQ];exact k4,by rw[PO];omega,by rw[Jx];exact nO,by omega⟩
  refine⟨⟨by decide,by omega⟩,?_⟩
  refine(U0 m t26 (by rw[List.length_drop];omega)).mono ?_
  rintro _ g6 ⟨W',uh,o0,hle,rfl,m,Ku⟩
  refine⟨_,_,_,rfl,m.NO 0 rfl (by rw[j3];rfl),λg7 h8=>?_⟩
  have m7:=m.b3 0 rfl h8
  simp only[List.set_cons_zero,List.set_cons_succ]at m7
  have gl:(yX xs (.slice none 0 0)).set 23 (.slice uh (xs.drop 26).length o0)=ef (jM xs) (.slice uh (xs.drop 26).length o0):=by
   rw[<-ajz hx hq,j3,j3];rfl
  replace m7:ai W' g7 ([(e0,ef (jM xs) (.slice uh (xs.drop 26).length o0),257)]::[(al,z24,257)]::G):=by rw[<-gl];exact m7
  have I:=(MB hq hx).1
  have UX:=m7.row 0 (o:=0) (n:=24) (us:=ef (jM xs) (.slice uh (xs.drop 26).length o0)) rfl (by rw[List.drop_zero];exact List.take_of_length_le (by rw[v8 I];decide)) (by rw[v8 I];decide)
  refine⟨_,UX,⟨v8 I,m7.dR 1 rfl rfl,wa _ _ _ _⟩,λg8 gl=>?_⟩
  have m8:=m7.bm 1 rfl gl
  simp only[List.set_cons_zero,List.set_cons_succ]at m8
  rw[tT (by rw[v8 I];rfl)]at m8
  have UY:=m8.row 1 (o:=0) (n:=24) (us:=ef (jM xs) (.slice uh (xs.drop 26).length o0)) rfl (by rw[List.drop_zero];exact List.take_of_length_le (by rw[v8 I];decide)) (by rw[v8 I];decide)
  exact⟨_,UY,W',hle,m8.aB.aB, .inl ⟨hq,_,rfl,_,rfl,Ku⟩⟩
 refine⟨⟨by decide,by omega⟩,⟨by decide,by omega⟩,⟨by decide,by omega⟩,⟨by decide,by omega⟩,⟨by decide,by omega⟩,_,ce m 24 _ rfl,aby,⟨by decide,by omega⟩,_,ce m 1 _ rfl,⟨by decide,by omega⟩,_,ce m 1 _ rfl,⟨by decide,by omega⟩,_,ce m 24 _ rfl,?_,?_⟩
 ·skip
  (refine(vn m t4 (by simp)).mono ?_;rintro _ wc ⟨rfl,jA⟩;replace m:=jA;clear jA;refine⟨ints .u8 [bq,bU,aV,mQ,fK,gJ],rfl,ce m 24 _ rfl,ce m 1 _ rfl,ce m 1 _ rfl,ce m 24 _ rfl,?_⟩)
  refine⟨?_,?_⟩
  ·skip
   (refine(vn m t10 (by simp)).mono ?_;rintro _ wc ⟨rfl,jA⟩;replace m:=jA;clear jA;refine⟨ints .u8 [rT,lu,rU,rV,kU,rW],rfl,ce m 24 _ rfl,ce m 1 _ rfl,ce m 1 _ rfl,ce m 24 _ rfl,?_⟩)
   refine⟨?_,?_⟩
   ·skip
    (refine(vn m t16 (by simp)).mono ?_;rintro _ wc ⟨rfl,jA⟩;replace m:=jA;clear jA;refine⟨ints .u8 [qS,qT,qU,qV,qW,qX],rfl,ce m 24 _ rfl,ce m 1 _ rfl,ce m 1 _ rfl,ce m 24 _ rfl,?_⟩)
    refine⟨?_,?_⟩
    ·skip
     (refine(DJ m).ret ⟨_,rfl,ce m 24 _ rfl,ce m 1 _ rfl,ce m 1 _ rfl,ce m 24 _ rfl,?_⟩;refine⟨⟨by omega,by decide,f2⟩,?_⟩)
     refine⟨rfl,rfl,rfl,?_⟩
     (intro e0 FR o6 o7;replace m:=m.push o7 o6;clear o6 o7)
     rw[<-j3]
     refine⟨⟨by rw[j3];rfl,m.dR 0 rfl (by first|rfl|(rw[j3];rfl)),D2 _ _ _ _⟩,λg5 cy=>?_⟩
     have m5:=m.bm 0 rfl cy
     simp only[List.set_cons_zero,List.set_cons_succ]at m5
     rw[tT (by rw[j3];rfl)]at m5
     exact⟨e0,rfl,m5⟩
    ·skip
     (intro e0 FR o6 o7;replace m:=m.push o7 o6;clear o6 o7)
     (refine(DJ m).ret ⟨_,rfl,ce m 24 _ rfl,ce m 1 _ rfl,ce m 1 _ rfl,ce m 24 _ rfl,?_⟩;refine⟨⟨by omega,by decide,f2⟩,?_⟩)
     refine⟨rfl,rfl,rfl,?_⟩
     rw[<-j3]
     refine⟨⟨by rw[j3];rfl,m.dR 0 rfl (by first|rfl|(rw[j3];rfl)),D2 _ _ _ _⟩,λg5 cy=>?_⟩
     have m5:=m.bm 0 rfl cy
     simp only[List.set_cons_zero,List.set_cons_succ]at m5
     rw[tT (by rw[j3];rfl)]at m5
     exact⟨e0,rfl,m5⟩
   ·skip
    (intro e0 FR o6 o7;replace m:=m.push o7 o6;clear o6 o7)
    (refine(vn m t16 (by simp)).mono ?_;rintro _ wc ⟨rfl,jA⟩;replace m:=jA;clear jA;refine⟨ints .u8 [qS,qT,qU,qV,qW,qX],rfl,ce m 24 _ rfl,ce m 1 _ rfl,ce m 1 _ rfl,ce m 24 _ rfl,?_⟩)
    (refine(DJ m).ret ⟨_,rfl,ce m 24 _ rfl,ce m 1 _ rfl,ce m 1 _ rfl,ce m 24 _ rfl,?_⟩;refine⟨⟨by omega,by decide,f2⟩,?_⟩)
    refine⟨rfl,rfl,rfl,?_⟩
    rw[<-j3]
    refine⟨⟨by rw[j3];rfl,m.dR 0 rfl (by first|rfl|(rw[j3];rfl)),D2 _ _ _ _⟩,λg5 cy=>?_⟩
    have m5:=m.bm 0 rfl cy
    simp only[List.set_cons_zero,List.set_cons_succ]at m5
    rw[tT (by rw[j3];rfl)]at m5
    exact⟨e0,rfl,m5⟩
  ·skip
   (intro e0 FR o6 o7;replace m:=m.push o7 o6;clear o6 o7)
   (refine(vn m t10 (by simp)).mono ?_;rintro _ wc ⟨rfl,jA⟩;replace m:=jA;clear jA;refine⟨ints .u8 [rT,lu,rU,rV,kU,rW],rfl,ce m 24 _ rfl,ce m 1 _ rfl,ce m 1 _ rfl,ce m 24 _ rfl,?_⟩)
   (refine(vn m t16 (by simp)).mono ?_;rintro _ wc ⟨rfl,jA⟩;replace m:=jA;clear jA;refine⟨ints .u8 [qS,qT,qU,qV,qW,qX],rfl,ce m 24 _ rfl,ce m 1 _ rfl,ce m 1 _ rfl,ce m 24 _ rfl,?_⟩)
   (refine(DJ m).ret ⟨_,rfl,ce m 24 _ rfl,ce m 1 _ rfl,ce m 1 _ rfl,ce m 24 _ rfl,?_⟩;refine⟨⟨by omega,by decide,f2⟩,?_⟩)
   refine⟨rfl,rfl,rfl,?_⟩
   rw[<-j3]
   refine⟨⟨by rw[j3];rfl,m.dR 0 rfl (by first|rfl|(rw[j3];rfl)),D2 _ _ _ _⟩,λg5 cy=>?_⟩
   have m5:=m.bm 0 rfl cy
   simp only[List.set_cons_zero,List.set_cons_succ]at m5
   rw[tT (by rw[j3];rfl)]at m5
   exact⟨e0,rfl,m5⟩
 ·skip
  (intro e0 FR o6 o7;replace m:=m.push o7 o6;clear o6 o7)
  (refine(vn m t4 (by simp)).mono ?_;rintro _ wc ⟨rfl,jA⟩;replace m:=jA;clear jA;refine⟨ints .u8 [bq,bU,aV,mQ,fK,gJ],rfl,ce m 24 _ rfl,ce m 1 _ rfl,ce m 1 _ rfl,ce m 24 _ rfl,?_⟩)
  (refine(vn m t10 (by simp)).mono ?_;rintro _ wc ⟨rfl,jA⟩;replace m:=jA;clear jA;refine⟨ints .u8 [rT,lu,rU,rV,kU,rW],rfl,ce m 24 _ rfl,ce m 1 _ rfl,ce m 1 _ rfl,ce m 24 _ rfl,?_⟩)
  (refine(vn m t16 (by simp)).mono ?_;rintro _ wc ⟨rfl,jA⟩;replace m:=jA;clear jA;refine⟨ints .u8 [qS,qT,qU,qV,qW,qX],rfl,ce m 24 _ rfl,ce m 1 _ rfl,ce m 1 _ rfl,ce m 24 _ rfl,?_⟩)
  (refine(DJ m).ret ⟨_,rfl,ce m 24 _ rfl,ce m 1 _ rfl,ce m 1 _ rfl,ce m 24 _ rfl,?_⟩;refine⟨⟨by omega,by decide,f2⟩,?_⟩)
  refine⟨rfl,rfl,rfl,?_⟩
  rw[<-j3]
  refine⟨⟨by rw[j3];rfl,m.dR 0 rfl (by first|rfl|(rw[j3];rfl)),D2 _ _ _ _⟩,λg5 cy=>?_⟩
  have m5:=m.bm 0 rfl cy
  simp only[List.set_cons_zero,List.set_cons_succ]at m5
  rw[tT (by rw[j3];rfl)]at m5
  exact⟨e0,rfl,m5⟩
end
end Go.Proofs.YtjlkfjnfnonekaaGreatDoor
