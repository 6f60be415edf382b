import Derived.Test.YtjlkfjnfnonekaaGreatDoorM22
import Derived.Test.YtjlkfjnfnonekaaGreatDoorM23
import Derived.Test.YtjlkfjnfnonekaaGreatDoorM20
import Derived.Test.YtjlkfjnfnonekaaGreatDoorM19
import Derived.Test.YtjlkfjnfnonekaaGreatDoorM27
import Derived.Test.YtjlkfjnfnonekaaGreatDoorM28
import Derived.Test.YtjlkfjnfnonekaaGreatDoorM33
import Derived.Test.YtjlkfjnfnonekaaGreatDoorM35
set_option linter.all false
namespace Go.Proofs.YtjlkfjnfnonekaaGreatDoor
open Go.Vc
structure jT where
 bss:List Int
 bf:Int
 eh:Int
 bt:Int
 tg:Int
 iv:Int
 wn:Int
 rt:Int
 iT:Int
 ix:Int
 di:List Int
 a7:Int
 aO:Int
structure dk where
 s:aS
 dy:Int
 refused:Bool
 ends:Bool
 under:Bool
structure ba where
 r:bo
 tok:Int
 l:List dk
 air:List Int
structure bR where
 num:Int
 aid:Int
 tid:Int
 ac:Int
 kind:Int
 bB:Int
 agg:Bool
 cO:List Int
 air:Int
 slots:Int
 tok:Int
 bss:List Int
 to:List Int
 r:bo
 start:Int
 size:Int
 most:Int
 ticks:Int
 HQ:Bool
structure ab where
 c:jT
 now:Int
 dh:List jb
 pow:List hr
 book:fZ
 bK:Pl.bL
 cM:eR
 bc:List dm
 ed:List h7
 st:List (Option ba)
 num:Int
 ways:List bR
def ak:dk:=⟨xU 1 0 1,0,false,false,false⟩
def ab.of (x:ab) (aid:Int):Option ba:=if 1<=aid/\aid<=16 then x.st.getD (aD aid) none else none
def ba.aT (s:ba) (t:Int):dk:=s.l.getD t.toNat ak
def ba.aW (s:ba) (t:Int) (y:dk):ba:=⟨s.r,s.tok,s.l.set t.toNat y,s.air⟩
def ba.xi (s:ba) (t:Int):ba:=⟨s.r,t,s.l,s.air⟩
def ab.bw (x:ab) (aid:Int) (s:Option ba):ab:={x with st:=x.st.set (aD aid) s}
def dk.dE (y:dk) (s:aS):dk:=⟨s,y.dy,y.refused,y.ends,y.under⟩
def dk.gx (y:dk) (u:Bool):dk:=⟨y.s,y.dy,y.refused,y.ends,u⟩
def ab.aW (x:ab) (aid tid:Int) (y:dk):ab:=match x.of aid with|none=>x|some s=>x.bw aid (some (s.aW tid y))
def ab.aT (x:ab) (aid tid:Int):dk:=match x.of aid with|none=>ak|some s=>s.aT tid
def p4 (r:Int) (b:fZ) (l:List bh):fZ:=l.foldl (λb p=>oj b p.id r) b
def rl:List cq->List Int->fZ->fZ
 |m::l,r::rs,b=>rl l rs (oj b m.p.id r)
 |_,_,b=>b
def lq (now:Int) (y:dk):dk:=
 if y.ends=true/\(y.s.de now).l=[]then⟨(y.s.de now).gT.1,y.dy,y.refused,false,y.under⟩else y.dE (y.s.de now)
def nD (now:Int) (y:dk) (b:fZ):fZ:=rl (y.s.jE now) (y.s.oa now) b
def ab.dX (x:ab) (b:fZ):ab:={x with book:=b}
def ab.de (x:ab) (aid tid:Int):ab:=(x.aW aid tid (lq x.now (x.aT aid tid))).dX (nD x.now (x.aT aid tid) x.book)
def ab.l4 (x:ab) (aid:Int) (t:Nat):ab:=if(x.aT aid t).under=true then x else x.de aid t
def ab.kQ (x:ab) (aid:Int):Nat->ab
 |0=>x
 |k+1=>(x.kQ aid k).l4 aid k
def ab.lL (x:ab) (l:List Int):ab:=l.foldl (λx a=>x.kQ a 8) x
def ab.wj (x:ab) (aid tid:Int):Bool:=Pl.iY aid tid&&decide (0<(x.bK.b7 (Pl.dJ aid tid)).bB)
def ab.vj (x:ab) (aid tid:Int) (y:dk):Bool:=!y.under&&(y.s.asks||decide (y.s.due.length≠0)||x.wj aid tid&&(decide (0<y.s.w.room)||decide (y.s.st=1)))
def ab.ready (x:ab) (aid tid:Int):Bool:=match x.of aid with|none=>false|some s=>x.vj aid tid (s.aT tid)
def lr:List Int:=[0,1,2,3,4,5,6,7]
def ab.readies (x:ab) (aid ac:Int):List Int:=lr.filter λt=>decide (fA t=ac)&&x.ready aid t
def ab.wants (x:ab) (ac aid:Int):Bool:=px x.pow aid ac&&decide ((x.readies aid ac).length≠0)
def ab.nA (x:ab) (ac:Int):List Int:=(cc x.dh 0).filter (x.wants ac)
def ab.vb (x:ab) (ac:Int):Bool:=(x.nA ac).any x.cM.may
def ab.xJ (x:ab) (ac:Int) (S:dm):dm:=(x.nA ac).foldl (λS a=>(jX S a true).1) ((cc x.dh 0).foldl (λS a=>if x.wants ac a=true then S else(jX S a false).1) S)
def ab.fe (x:ab):Nat->List dm
 |0=>x.bc
 |k+1=>(x.fe k).set k (x.xJ k ((x.fe k).getD k c3))
def ab.ew (x:ab) (T:List dm):ab:={x with bc:=T}
def ab.oY (x:ab):ab:=x.ew (x.fe 4)
def ab.outs (x:ab):List Bool:=[x.vb 0,x.vb 1,x.vb 2,x.vb 3]
def LH (S:dm) (a b:Int):Bool:=match hB S a,hB S b with
 |some x,some y=>decide (x.t<y.t)||decide (x.t=y.t)&&decide (a<b)
 |_,_=>false
def qu (S:dm) (a:Int):List Int->List Int
 |[]=>[a]
 |b::r=>if LH S a b=true then a::b::r else b::qu S a r
def DP (S:dm):List Int:=[1,2,3,4,5,6,7,8,9,10,11,12,13,14,15,16].filter λa=>Ds (hB S a)
def rJ (S:dm):List Int:=(DP S).foldr (qu S) []
def ab.tV (x:ab) (ac:Int):dm:=x.bc.getD ac.toNat c3
def ab.vc (x:ab) (aid tid mb n:Int):Int:=((x.aT aid tid).s.out.length:Int) -(if tid=mb then n else 0)
def ab.tt (x:ab) (aid mb n tid:Int):Bool:=decide (0<x.vc aid tid mb n)||x.wj aid tid
def ab.has (x:ab) (aid mb n:Int):Bool:=lr.any (x.tt aid mb n)
def ab.cZ (x:ab) (aid ac:Int) (more:Bool):ab:={x with pow:=(pz x.pow aid ac more).1}
def ab.addr (x:ab) (aid:Int):List Int:=match sU x.dh aid with|none=>BS|some o=>o.a
def ab.Bu (x:ab) (ac:Int):Int:=if x.c.di.getD ac.toNat 0=0 then 54840 else x.c.di.getD ac.toNat 0
def ab.mO (x:ab) (aid tid:Int) (y:dk):bR:=
 ⟨0,aid,tid,fA tid,0,1,false,[],0,0,0,x.c.bss,x.addr aid,oK,y.s.w.st,y.s.w.sz,x.c.ix,x.Bu (fA tid),decide (y.s.st=3)⟩
def ab.AZ (x:ab) (aid tid:Int) (y:dk):ab×bR:=
 (x.cZ aid (fA tid) (x.has aid 0 0),{x.mO aid tid y with kind:=2,cO:=k5 132 (x.addr aid) x.c.bss tid y.s.w.st})
def ab.pP (x:ab) (aid tid:Int) (s:ba):ab:=x.bw aid (some ((s.aW tid ((s.aT tid).dE ((s.aT tid).s.ask s.tok).1)).xi ((s.tok+1)%256)))
def ab.mkAdd (x:ab) (aid tid:Int) (s:ba):ab×bR:=
 ((x.pP aid tid s).cZ aid (fA tid) ((x.pP aid tid s).has aid 0 0),{x.mO aid tid (s.aT tid)with kind:=3,tok:=s.tok,cO:=l9 (x.addr aid) x.c.bss x.c.bss false s.tok tid x.c.wn 0 (s.aT tid).s.w.dD 0})
def ab.l5 (x:ab) (P:Pl.bL):ab:={x with bK:=P}
def ab.take (x:ab) (aid tid:Int):ab:=(x.l5 (x.bK.gy aid tid x.now).1).dX (p4 2 x.book (x.bK.gy aid tid x.now).2.1)
def ab.sk (x:ab) (aid tid:Int) (p:bh):ab:=(x.aW aid tid ((x.aT aid tid).dE ((x.aT aid tid).s.fresh p x.now))).dX (ma x.book p.id 2)
def ab.fresh (x:ab) (aid tid:Int):ab×Option cq:=match(x.bK.gy aid tid x.now).2.2 with
 |none=>(x.take aid tid,none)
 |some p=>((x.take aid tid).sk aid tid p,some ((x.aT aid tid).s.o9 p x.now))
def u1 (m:cq):Int:=26+max (m.p.body.length:Int) 0
def c2 (l:List cq):List Int:=l.map u1
def ab.k8 (r:bo) (m:lP) (aid tid:Int):Nat->ab->List cq->ab×List cq
 |0,x,all=>(x,all)
 |n+1,x,all=>if 0<(x.aT aid tid).s.w.room/\ib r m (c2 all++[1526])=true then
  (match x.fresh aid tid with
   |(y,none)=>(y,all)
   |(y,some f)=>ab.k8 r m aid tid n y (all++[f]))
  else(x,all)
def ab.jZ (x:ab) (r:bo) (m:lP) (aid tid:Int) (alone:Bool) (all:List cq):ab×List cq×Bool:=
 if alone=true then(x,all.take 1,false)
 else if(iz r m (c2 all)).1<all.length\/(iz r m (c2 all)).2=false then(x,all.take (iz r m (c2 all)).1.toNat,(iz r m (c2 all)).2)
 else((ab.k8 r m aid tid 64 x all).1,(ab.k8 r m aid tid 64 x all).2,true)
def ab.choose (x:ab) (r:bo) (aid tid ticks:Int) (alone:Bool):ab×List cq×Bool:=
 if(x.aT aid tid).s.due.length=0 then(match x.fresh aid tid with
  |(y,none)=>(y,[],false)
  |(y,some f)=>y.jZ r ⟨(x.aT aid tid).s.w.sz,x.c.ix,ticks⟩ aid tid alone [f])
 else x.jZ r ⟨(x.aT aid tid).s.w.sz,x.c.ix,ticks⟩ aid tid alone (x.aT aid tid).s.due
def rm (u:bR) (more eosp:Bool) (m:cq):bQ:=⟨u.to,u.bss,u.bss,u.tid,m.sq,decide (0<m.cZ),more,eosp,m.p.body⟩
def l3 (l:List cq):List Int:=l.map cq.sq
def ko (u:bR) (more eosp:Bool) (l:List cq):List (List Int):=l.map λm=>gg (rm u more eosp m)
def ab.hG (x:ab) (aid tid:Int) (mI:List Int):ab:=x.aW aid tid ((x.aT aid tid).dE ((x.aT aid tid).s.hG mI))
def ab.mf (x:ab) (r:bo) (u:bR) (all:List cq) (packed:Bool):ab×bR:=
 ((x.cZ u.aid u.ac (x.has u.aid u.tid all.length)).hG u.aid u.tid (l3 all),
  {u with kind:=1,bB:=all.length,agg:=packed,r:=r,cO:=if packed=true then nC (ko u (x.has u.aid u.tid all.length) (pz x.pow u.aid u.ac (x.has u.aid u.tid all.length)).2 all)else(ko u (x.has u.aid u.tid all.length) (pz x.pow u.aid u.ac (x.has u.aid u.tid all.length)).2 all).headD []})
def ab.data (x:ab) (r:bo) (u:bR) (alone:Bool):ab×Option bR:=
 if(x.choose r u.aid u.tid u.ticks alone).2.1.length=0 then((x.choose r u.aid u.tid u.ticks alone).1,none)
 else(((x.choose r u.aid u.tid u.ticks alone).1.mf r u (x.choose r u.aid u.tid u.ticks alone).2.1 (x.choose r u.aid u.tid u.ticks alone).2.2).1,
      some ((x.choose r u.aid u.tid u.ticks alone).1.mf r u (x.choose r u.aid u.tid u.ticks alone).2.1 (x.choose r u.aid u.tid u.ticks alone).2.2).2)
def ab.make (x:ab) (aid tid:Int):ab×Option bR:=match x.of aid with
 |none=>(x,none)
 |some s=>
  if(s.aT tid).s.asks=true then((x.AZ aid tid (s.aT tid)).1,some (x.AZ aid tid (s.aT tid)).2)
  else if(s.aT tid).s.st=1/\(s.aT tid).s.due.length=0/\1<x.c.wn/\(s.aT tid).refused=false/\(s.aT tid).dy<=x.c.rt then
   (if((s.aT tid).s.ask s.tok).2=none then((x.mkAdd aid tid s).1,some (x.mkAdd aid tid s).2)else(x,none))
  else x.data s.r (x.mO aid tid (s.aT tid)) (decide ((s.aT tid).s.st=1)||tR x.pow aid)
def bR.fin (u:bR) (num slots:Int):bR:={u with num:=num,slots:=slots,air:=u.r.total u.cO.length}
def xL (l:List Int) (k n:Int):List Int:=l.set k.toNat (l.getD k.toNat 0+n)
def ab.ie (x:ab) (u:bR):ab:=match x.of u.aid with
 |none=>x
 |some s=>x.bw u.aid (some ⟨s.r,s.tok,s.l.set u.tid.toNat ((s.aT u.tid).gx true),xL s.air u.ac u.air⟩)
def ab.tG (x:ab) (u:bR):ab:=
 {(x.ie u)with num:=u.num,bc:=x.bc.set u.ac.toNat (o1 (x.tV u.ac) u.aid u.air).1,cM:=x.cM.add u.aid u.air,ways:=x.ways++[u]}
def ab.nv (x:ab) (u:bR) (slots:Int):ab×bR:=(x.tG (u.fin (x.num+1) slots),u.fin (x.num+1) slots)
def ab.oO (aid slots:Int):List Int->ab->ab×Option bR
 |[],x=>(x,none)
 |t::l,x=>match x.make aid t with
  |(y,none)=>ab.oO aid slots l y
  |(y,some u)=>((y.nv u slots).1,some (y.nv u slots).2)
def ab.n6 (ac slots:Int):List Int->ab->ab×Option bR
 |[],x=>(x,none)
 |a::l,x=>if x.cM.may a=true then(match ab.oO a slots (x.readies a ac) x with
  |(y,none)=>ab.n6 ac slots l y
  |(y,some u)=>(y,some u))
  else ab.n6 ac slots l x
def ab.c6 (x:ab) (now:Int):ab:={x with now:=now}
def ab.l2 (x:ab) (ed:List h7):ab:={x with ed:=ed}
def ab.looks (x:ab) (now:Int):ab:=(x.c6 now).lL (cc x.dh 0)
def ab.y8 (x:ab) (dr:List Int):ab×Option bR:=
 if(gd x.outs dr x.ed).2.2.2=true then
  ab.n6 (gd x.outs dr x.ed).2.1 (gd x.outs dr x.ed).2.2.1 (rJ (x.oY.tV (gd x.outs dr x.ed).2.1)) (x.oY.l2 (gd x.outs dr x.ed).1)
 else(x.oY.l2 (gd x.outs dr x.ed).1,none)
def ab.send (x:ab) (now:Int) (dr:List Int):ab×Option bR:=if now<x.now then(x,none)else(x.looks now).y8 dr
end Go.Proofs.YtjlkfjnfnonekaaGreatDoor
set_option maxRecDepth 8000
namespace Go.Proofs.YtjlkfjnfnonekaaGreatDoor
open Go.Vc
abbrev a8 (b:Nat):Value:= .pointer (some ⟨b,0,none⟩)
def fq (c:jT):List Value:=ints .u8 c.bss++([.int .u32 c.bf, .int .i64 c.eh, .int .i64 c.bt, .int .i64 c.tg, .int .i64 c.iv, .int .i64 c.wn, .int .i64 c.rt, .int .i64 c.iT, .int .i64 c.ix]++(ints .i64 c.di++[.int .i64 c.a7, .int .i64 c.aO]))
def fS (p:Nat) (y:dk):List Value:=[a8 p, .int .i64 y.dy, .bool y.refused, .bool y.ends, .bool y.under]
def fX (u:bR) (a:Option Addr) (c:Nat):List Value:=
 [.int .i64 u.num, .int .i64 u.aid, .int .i64 u.tid, .int .i64 u.ac, .int .i64 u.kind, .int .i64 u.bB, .bool u.agg, .slice a u.cO.length c, .int .i64 u.air, .int .i64 u.slots, .int .i64 u.tok]++
 (ints .u8 u.bss++(ints .u8 u.to++(cK u.r++[.int .i64 u.start, .int .i64 u.size, .int .i64 u.most, .int .i64 u.ticks, .bool u.HQ])))
structure cR where
 gw:Nat
 ik:Nat
 dp:Nat->Nat
 b1:Nat->Option Nat
 sp:Nat->Nat->Nat
 fb:List Nat
structure cQ where
 bk:aL
 jB:ao
 fw:Nat->ao
 cL:Nat->Nat->ao
 tX:Option Addr
 vv:Nat
 ED:ao
 us:List (Option Addr×Nat)
def rC (b:Nat) (p:Nat->Nat) (L:Nat->ao) (s:ba) (t:Nat):aL:=⟨b,6+t*5,fS (p t) (s.l.getD t ak),none⟩::ae (L t)
def pD (b:Nat) (p:Nat->Nat) (L:Nat->ao) (s:ba):List aL:=
 [⟨b,0,cK s.r++[.int .i64 s.tok],none⟩]::[⟨b,46,ints .i64 s.air,none⟩]::(List.range 8).map (rC b p L s)
def lp (y:cR) (g:cQ) (l:List (Option ba)) (k:Nat):aL:=match y.b1 k,l.getD k none with
 |some b,some s=>(pD b (y.sp k) (g.cL k) s).flatten
 |_,_=>[]
def jP:List Nat->List (Option Addr×Nat)->List bR->ao
 |b::bs,u::us,w::ws=>(b,fX w u.1 u.2,180)::jP bs us ws
 |_,_,_=>[]
def y7 (y:cR):List Value:=(List.range 16).map λk=>Mx (y.b1 k)
def aq (a:Nat) (y:cR) (g:cQ) (x:ab):List aL:=
 [[⟨a,0,fq x.c,none⟩],[⟨a,21,[.int .i64 x.now],none⟩],mX a 22 x.dh,q5 a 150 x.pow,g.bk,[⟨a,311,[a8 y.gw,a8 y.ik,a8 (y.dp 0),a8 (y.dp 1),a8 (y.dp 2),a8 (y.dp 3)],none⟩],
  pL a 317 x.ed,[⟨a,329,y7 y,none⟩],[⟨a,345,[.int .i64 x.num],none⟩],[⟨a,346,[.slice g.tX x.ways.length g.vv],none⟩],
  ae g.jB,ae (nI y.ik x.cM),((List.range 4).map λk=>ae (g.fw k)).flatten,((List.range 16).map (lp y g x.st)).flatten,ae g.ED,ae (jP y.fb g.us x.ways)]
structure aH (W:Wd) (a:Nat) (y:cR) (g:cQ) (x:ab):Prop where
 bk:kr a 310 none x.book g.bk
 dY:Pl.iu W y.gw x.bK g.jB
 bc:∀k,k<4->Tn.lR (y.dp k) (x.bc.getD k c3) (g.fw k)
 st:∀k,k<16->(x.st.getD k none).isSome=(y.b1 k).isSome
 lo:∀k s,x.st.getD k none=some s->∀t,t<8->cB W (y.sp k t) (s.l.getD t ak).s (g.cL k t)
 lM:au g.tX x.ways.length g.vv 1 (pA y.fb) g.ED
 wl:y.fb.length=x.ways.length
 ul:g.us.length=x.ways.length
 us:∀(i:Nat) (w:bR) (u:Option Addr×Nat),x.ways[i]?=some w->g.us[i]?=some u->cm W (.slice u.1 w.cO.length u.2) w.cO
def pK (W:Wd) (a:Nat) (y:cR) (x:ab) (R:List aL) (h:J):Prop:=∃W' g,W.le W'/\aH W' a y g x/\aa W' h (aq a y g x++R)
structure eG (x:ab):Prop where
 st:x.st.length=16
 bc:x.bc.length=4
 l:∀k s,x.st.getD k none=some s->s.l.length=8/\s.air.length=4
 bss:x.c.bss.length=6
 di:x.c.di.length=4
section
variable{W W' aQ:Wd} {h h':J} {R:List aL} {a:Nat} {y:cR} {g:cQ} {x:ab} {i j k t:Nat} {v:Value} {A B:aL} {s:ba} {b:Nat}
theorem kr.any {o:Nat} {T:Option TypeId} {l:fZ} {L:aL} (h:kr b o T l L):kr b o T l L:=h
theorem aH.le (hl:W.le W') (q:aH W a y g x):aH W' a y g x:=
 ⟨q.bk,q.dY.le hl,q.bc,q.st,λk s I t ht=>(q.lo k s I t ht).le hl,q.lM,q.wl,q.ul,λi w u h1 h2=>(q.us i w u h1 h2).le hl⟩
theorem pK.mk' (q:aH W a y g x) (m:aa W h (aq a y g x++R)):pK W a y x R h:=⟨W,g,Wd.le.refl W,q,m⟩
theorem pK.of (hl:W.le W') (q:pK W' a y x R h):pK W a y x R h:=by
 obtain⟨bu,g,h1,h2,h3⟩:=q
 exact⟨bu,g,hl.trans h1,h2,h3⟩
theorem vk {α:Type} {n:Nat} {f:Nat->α} {v:α} (I:k<n):((List.range n).map f).set k v=(List.range n).map λj=>if j=k then v else f j:=by
 refine List.ext_getElem (by simp) λi h1 h2=>?_
 simp only[List.getElem_set,List.getElem_map,List.getElem_range]
 by_cases q:k=i
 ·rw[if_pos q,if_pos q.symm]
 ·rw[if_neg q,if_neg (λe=>q e.symm)]
theorem qL {α:Type} {n:Nat} {f:Nat->α} (I:k<n):((List.range n).map f)[k]?=some (f k):=by simp[I]
theorem kz (i:Nat) (hi:(aq a y g x++R)[i]?=some A) (m:aa W h (aq a y g x++R)):aa W h (A::(aq a y g x++R).eraseIdx i):=m.focus i hi
theorem na (i:Nat) (hi:(aq a y g x++R)[i]?=some A) (m:aa W h (B::(aq a y g x++R).eraseIdx i)):aa W h ((aq a y g x++R).set i B):=m.back i hi
theorem zE (m:aa W h (aq a y g x++R)):cell h a 21=some (.int .i64 x.now):=m.cell 1 rfl 0 rfl
theorem E5 (m:aa W h (aq a y g x++R)):cell h a 311=some (a8 y.gw):=m.cell 5 rfl 0 rfl
theorem E4 (m:aa W h (aq a y g x++R)):cell h a 312=some (a8 y.ik):=m.cell 5 rfl 1 rfl
theorem ON (m:aa W h (aq a y g x++R)) (I:k<4):cell h a (313+k)=some (a8 (y.dp k)):=by
 have:k=0\/k=1\/k=2\/k=3:=by omega
 rcases this with rfl|rfl|rfl|rfl
 ·exact m.cell 5 rfl 2 rfl
 ·exact m.cell 5 rfl 3 rfl
 ·exact m.cell 5 rfl 4 rfl
 ·exact m.cell 5 rfl 5 rfl
theorem OL (m:aa W h (aq a y g x++R)):cell h a 345=some (.int .i64 x.num):=m.cell 8 rfl 0 rfl
theorem B0 (m:aa W h (aq a y g x++R)):cell h a 346=some (.slice g.tX x.ways.length g.vv):=m.cell 9 rfl 0 rfl
theorem PT (n:eG x) (j:Nat):(fq x.c)[6+j]?=([.int .u32 x.c.bf, .int .i64 x.c.eh, .int .i64 x.c.bt, .int .i64 x.c.tg, .int .i64 x.c.iv, .int .i64 x.c.wn, .int .i64 x.c.rt, .int .i64 x.c.iT, .int .i64 x.c.ix]++(ints .i64 x.c.di++[.int .i64 x.c.a7, .int .i64 x.c.aO]))[j]?:=by
 unfold fq
 rw[List.getElem?_append_right (by simp[ints,n.bss]),dL,n.bss,Nat.add_sub_cancel_left]
theorem uk (n:eG x) (m:aa W h (aq a y g x++R)) (j:Nat) (ah:([.int .u32 x.c.bf, .int .i64 x.c.eh, .int .i64 x.c.bt, .int .i64 x.c.tg, .int .i64 x.c.iv, .int .i64 x.c.wn, .int .i64 x.c.rt, .int .i64 x.c.iT, .int .i64 x.c.ix]:List Value)[j]?=some v):cell h a (6+j)=some v:=
 m.cell 0 rfl (6+j) (by rw[PT n,List.getElem?_append_left (List.getElem?_eq_some_iff.1 ah).1];exact ah)
theorem XI (n:eG x) (m:aa W h (aq a y g x++R)) (I:k<4):cell h a (15+k)=some (.int .i64 (x.c.di.getD k 0)):=by
 refine m.cell 0 rfl (6+(9+k)) ?_ (by omega)
 rw[PT n,List.getElem?_append_right (by simp),List.getElem?_append_left (by simp[ints,n.di];omega)]
 have bD:k<x.c.di.length:=by rw[n.di];exact I
 have e:([.int .u32 x.c.bf, .int .i64 x.c.eh, .int .i64 x.c.bt, .int .i64 x.c.tg, .int .i64 x.c.iv, .int .i64 x.c.wn, .int .i64 x.c.rt, .int .i64 x.c.iT, .int .i64 x.c.ix]:List Value).length=9:=rfl
 rw[e,Nat.add_sub_cancel_left,j5 (x:=x.c.di.getD k 0)]
 rw[List.getD_eq_getElem?_getD,List.getElem?_eq_getElem bD];rfl
theorem xO (n:eG x) (m:aa W h (aq a y g x++R)):row h a 0 6=some (ints .u8 x.c.bss):=by
 refine m.row 0 rfl 0 ?_ ?_
 ·unfold fq
  rw[List.drop_zero,List.take_left' (by simp[ints,n.bss])]
 ·unfold fq;simp[ints,n.bss]
def y6 (y:cR) (aid:Int):Option Nat:=if 1<=aid/\aid<=16 then y.b1 (aD aid)else none
theorem akp:(y7 y)[k]?=if k<16 then some (Mx (y.b1 k))else none:=by
 unfold y7
 by_cases q:k<16
 ·rw[if_pos q];exact qL q
 ·rw[if_neg q];simp;omega
theorem O8 (aid:Int) (m:aa W h (aq a y g x++R)):aj Tryz.prog 30 #[a8 a, .int .i64 aid] h λv h'=>v=Mx (y6 y aid)/\h'=h:=by
 unfold y6
 refine amV _ _ _ _ (aC (λq=>⟨by rw[if_neg (by omega)];rfl,rfl⟩) λq=>aC (λq2=>⟨by rw[if_neg (by omega)];rfl,rfl⟩) λq2=>?_)
 rw[if_pos ⟨by omega,by omega⟩]
 have I:(aid -1).toNat<16:=by omega
 refine⟨by simp only[fits];omega,⟨by omega,by omega⟩,(y.b1 (aid -1).toNat).map λb=>⟨b,0,none⟩,m.cell 7 rfl (aid -1).toNat ?_,rfl,rfl⟩
 rw[akp,if_pos I];rfl
theorem my {aid:Int} (h:1<=aid/\aid<=16):aD aid<16:=by unfold aD;omega
theorem ab.iU {aid:Int} (hs:x.of aid=some s):(1<=aid/\aid<=16)/\x.st.getD (aD aid) none=some s:=by
 unfold ab.of at hs
 split at hs
 ·exact⟨by assumption,hs⟩
 ·cases hs
theorem aH.da {aid:Int} (q:aH W a y g x) (hs:x.of aid=some s):∃b,y.b1 (aD aid)=some b/\y6 y aid=some b:=by
 obtain⟨h1,h2⟩:=ab.iU hs
 have:=q.st (aD aid) (my h1)
 rw[h2]at this
 obtain⟨b,hb⟩:=Option.isSome_iff_exists.1 this.symm
 exact⟨b,hb,by unfold y6;rw[if_pos h1];exact hb⟩
theorem aH.ahR {aid:Int} (q:aH W a y g x) (hs:x.of aid=none):y6 y aid=none:=by
 unfold y6
 by_cases h1:1<=aid/\aid<=16
 ·rw[if_pos h1]
  unfold ab.of at hs
  rw[if_pos h1]at hs
  have:=q.st (aD aid) (my h1)
  rw[hs]at this
  cases hb:y.b1 (aD aid)with
  |none=>rfl
  |some b=>rw[hb]at this;cases this
 ·rw[if_neg h1]
def aX {α:Type} (f:Nat->α) (k:Nat) (v:α):Nat->α:= λj=>if j=k then v else f j
theorem jC {α:Type} {f:Nat->α} {v:α}:aX f k v k=v:=if_pos rfl
theorem jm {α:Type} {f:Nat->α} {v:α} (h:j≠k):aX f k v j=f j:=if_neg h
theorem fg {α:Type} {l:List α} {d v:α} (I:k<l.length):(l.set k v).getD j d=if j=k then v else l.getD j d:=by
 simp only[List.getD_eq_getElem?_getD,List.getElem?_set]
 by_cases q:k=j
 ·subst q;rw[if_pos rfl,if_pos I,if_pos rfl];rfl
 ·rw[if_neg q,if_neg (λe=>q e.symm)]
theorem xQ (n:eG x) {aid:Int} (hs:x.of aid=some s) (hb:y.b1 (aD aid)=some b) (m:aa W h (aq a y g x++R)):
 aa W h ((pD b (y.sp (aD aid)) (g.cL (aD aid)) s).flatten::(((List.range 16).map (lp y g x.st)).eraseIdx (aD aid)).flatten::(aq a y g x++R).eraseIdx 13):=by
 obtain⟨h1,h2⟩:=ab.iU hs
 refine(kz 13 rfl m).pick (aD aid) ?_
 rw[qL (my h1)]
 unfold lp
 rw[hb,h2]
theorem ak6 {l:List (Option ba)} {L:Nat->Nat->ao} {M:Nat->ao} {s':ba} (hl:l.length=16) (I:k<16) (hb:y.b1 k=some b):
 ((List.range 16).map (lp y g l)).set k (pD b (y.sp k) M s').flatten=(List.range 16).map (lp y {g with cL:=aX g.cL k M} (l.set k (some s'))):=by
 rw[vk I]
 refine List.map_congr_left λj ah=>?_
 by_cases q:j=k
 ·subst q
  rw[if_pos rfl]
  unfold lp
  rw[fg (by omega),if_pos rfl,hb]
  dsimp only
  rw[jC]
 ·rw[if_neg q]
  unfold lp
  rw[fg (by omega),if_neg q]
  dsimp only
  rw[jm q]
theorem E6 (n:eG x) {aid:Int} {s':ba} {M:Nat->ao} (hs:x.of aid=some s) (hb:y.b1 (aD aid)=some b)
 (m:aa W h ((pD b (y.sp (aD aid)) M s').flatten::(((List.range 16).map (lp y g x.st)).eraseIdx (aD aid)).flatten::(aq a y g x++R).eraseIdx 13)):
 aa W h (aq a y {g with cL:=aX g.cL (aD aid) M} (x.bw aid (some s'))++R):=by
 obtain⟨h1,h2⟩:=ab.iU hs
 have m1:=m.n9 (A0:=(pD b (y.sp (aD aid)) (g.cL (aD aid)) s).flatten) (aD aid) (by
  rw[qL (my h1)];unfold lp;rw[hb,h2])
 rw[ak6 (L:=g.cL) n.st (my h1) hb]at m1
 exact na 13 rfl m1
def El (b:Nat) (p:Nat->Nat) (M:Nat->ao) (s:ba) (t:Nat):aL:=((pD b p M s).eraseIdx (2+t)).flatten
theorem VM {p:Nat->Nat} {M:Nat->ao} (ht:t<8):(pD b p M s)[2+t]?=some (rC b p M s t):=by
 unfold pD
 rw[show 2+t=t+1+1 by omega,List.getElem?_cons_succ,List.getElem?_cons_succ,qL ht]
theorem ak7 {p:Nat->Nat} {M:Nat->ao} {z:dk} {E:ao} (hl:s.l.length=8) (ht:t<8):(pD b p M s).set (2+t) (⟨b,6+t*5,fS (p t) z,none⟩::ae E)=pD b p (aX M t E) (s.aW t z):=by
 unfold pD
 rw[show 2+t=t+1+1 by omega,List.set_cons_succ,List.set_cons_succ,vk ht]
 have e:(s.aW t z).r=s.r/\(s.aW t z).tok=s.tok/\(s.aW t z).air=s.air:=⟨rfl,rfl,rfl⟩
 rw[e.1,e.2.1,e.2.2]
 congr 2
 refine List.map_congr_left λj ah=>?_
 by_cases q:j=t
 ·subst q
  rw[if_pos rfl]
  unfold rC ba.aW
  dsimp only
  rw[jC,Int.toNat_natCast,fg (by omega),if_pos rfl]
 ·rw[if_neg q]
  unfold rC ba.aW
  dsimp only
  rw[jm q,Int.toNat_natCast,fg (by omega),if_neg q]
def vI (a:Nat) (y:cR) (g:cQ) (x:ab) (R:List aL) (b aid:Nat) (s:ba) (t:Nat):List aL:=El b (y.sp aid) (g.cL aid) s t::(((List.range 16).map (lp y g x.st)).eraseIdx aid).flatten::(aq a y g x++R).eraseIdx 13
theorem lS (n:eG x) {aid:Int} (hs:x.of aid=some s) (hb:y.b1 (aD aid)=some b) (ht:t<8) (m:aa W h (aq a y g x++R)):
 aa W h (ae (g.cL (aD aid) t)::[⟨b,6+t*5,fS (y.sp (aD aid) t) (s.l.getD t ak),none⟩]::vI a y g x R b (aD aid) s t):=by
 have m1:=(xQ n hs hb m).pick (2+t) (VM ht)
 exact aa.swap (aa.split (A:=[⟨b,6+t*5,fS (y.sp (aD aid) t) (s.l.getD t ak),none⟩]) m1)
theorem I8 (n:eG x) {aid:Int} {z:dk} {E:ao} (hs:x.of aid=some s) (hb:y.b1 (aD aid)=some b) (ht:t<8)
 (m:aa W h (ae E::[⟨b,6+t*5,fS (y.sp (aD aid) t) z,none⟩]::vI a y g x R b (aD aid) s t)):
 aa W h (aq a y {g with cL:=aX g.cL (aD aid) (aX (g.cL (aD aid)) t E)} (x.bw aid (some (s.aW t z)))++R):=by
 obtain⟨h1,h2⟩:=ab.iU hs
 have m1:=(aa.join m.swap).n9 (A0:=rC b (y.sp (aD aid)) (g.cL (aD aid)) s t) (2+t) (VM ht)
 have e:=ak7 (b:=b) (p:=y.sp (aD aid)) (M:=g.cL (aD aid)) (z:=z) (E:=E) (n.l _ _ h2).1 ht
 rw[show([⟨b,6+t*5,fS (y.sp (aD aid) t) z,none⟩]++ae E:aL)=⟨b,6+t*5,fS (y.sp (aD aid) t) z,none⟩::ae E from rfl,e]at m1
 exact E6 n hs hb m1
theorem lh (n:eG x) {aid:Int} (hs:x.of aid=some s) (hb:y.b1 (aD aid)=some b) (ht:t<8) (m:aa W h (aq a y g x++R)) (ah:(fS (y.sp (aD aid) t) (s.l.getD t ak))[j]?=some v) (o:Nat) (aw:o=6+t*5+j:=by omega):cell h b o=some v:=by
 subst aw;exact(lS n hs hb ht m).cell 1 rfl j ah
theorem aH.aW (n:eG x) (q:aH W a y g x) {aid:Int} {z:dk} {E:ao} (hs:x.of aid=some s) (ht:t<8) (hv:cB W (y.sp (aD aid) t) z.s E):aH W a y {g with cL:=aX g.cL (aD aid) (aX (g.cL (aD aid)) t E)} (x.bw aid (some (s.aW t z))):=by
 obtain⟨h1,h2⟩:=ab.iU hs
 have I:=my h1
 refine⟨q.bk,q.dY,q.bc,λk bD=>?_,λk s' bD aR gu=>?_,q.lM,q.wl,q.ul,q.us⟩
 ·show((x.st.set (aD aid) (some (s.aW t z))).getD k none).isSome=_
  rw[fg (by rw[n.st];exact I),<-q.st k bD]
  split
  ·rename_i e;subst e;rw[h2];rfl
  ·rfl
 ·replace bD:(x.st.set (aD aid) (some (s.aW t z))).getD k none=some s':=bD
  rw[fg (by rw[n.st];exact I)]at bD
  show cB W (y.sp k aR) (s'.l.getD aR ak).s (aX g.cL (aD aid) (aX (g.cL (aD aid)) t E) k aR)
  by_cases e:k=aD aid
  ·subst e
   rw[if_pos rfl]at bD
   cases bD
   rw[jC]
   show cB W (y.sp (aD aid) aR) ((s.l.set (t:Int).toNat z).getD aR ak).s _
   rw[Int.toNat_natCast,fg (by rw[(n.l _ _ h2).1];exact ht)]
   by_cases ag:aR=t
   ·subst ag;rw[if_pos rfl,jC];exact hv
   ·rw[if_neg ag,jm ag];exact q.lo _ _ h2 aR gu
  ·rw[if_neg e]at bD
   rw[jm e];exact q.lo _ _ bD aR gu
end
end Go.Proofs.YtjlkfjnfnonekaaGreatDoor
namespace Go.Proofs.YtjlkfjnfnonekaaGreatDoor
open Go.Vc
def q4 (p:bh):Prop:=p.body.length<=1500/\∀z∈p.body,0<=z/\z<256
structure kf (w:eV):Prop where
 z:1<=w.sz/\w.sz<=64
 s:0<=w.st/\w.st<4096
 n:0<=w.dD/\w.dD<4096
 p:w.out.Pairwise λa b=>cC w.st a<cC w.st b
 b:∀a∈w.out,(0<=a/\a<4096)/\cC w.st a<cC w.st w.dD
 e:w.out=[]->w.st=w.dD
 h:∀a r,w.out=a::r->a=w.st
 d:cC w.st w.dD<=w.sz
structure dB (x:aS):Prop where
 w:kf x.w
 l:x.w.out=x.l.map λf=>f.m.sq
 f:∀f∈x.l,q4 f.m.p/\0<=f.m.cZ/\f.m.cZ<=16
 v:0<=x.dy/\x.dy<=1048576
 sz:1<=x.size/\x.size<=64
 iT:0<=x.fG/\x.fG<=1125899906842624
section
variable{w:eV} {x:aS} {q:bh} {now:Int} {p:Fr->Bool}
theorem SX {f:Int->Int}:∀{l:List Int} {c d:Int},l.Pairwise (λa b=>f a<f b)->(∀a∈l,c<=f a/\f a<d)->c<=d->(l.length:Int)<=d -c
 |[],c,d,_,_,hc=>by simp;omega
 |a::l,c,d,hp,hb,hc=>by
  obtain⟨h1,h2⟩:=List.pairwise_cons.1 hp
  have ha:=hb a (List.mem_cons_self ..)
  have:=SX (l:=l) (c:=f a+1) (d:=d) h2 (λz hz=>⟨by have:=h1 z hz;omega,(hb z (List.mem_cons_of_mem _ hz)).2⟩) (by omega)
  simp only[List.length_cons];omega
theorem kf.len (i:kf w):(w.out.length:Int)<=cC w.st w.dD:=by
 have:=SX (c:=0) (d:=cC w.st w.dD) i.p (λa ha=>⟨(vW _ _).1,(i.b a ha).2⟩) (vW _ _).1
 omega
theorem kf.ok (i:kf w):s0 w:=⟨i.z.1,i.z.2,by have:=i.len;have:=i.d;have:=i.z.2;omega⟩
theorem kf.fm (i:kf w):w.out.Nodup:=i.p.imp λ{a b} h e=>by subst e;omega
theorem kf.next (i:kf w) (U:w.room≠0):kf w.next:=by
 have hd:cC w.st w.dD<w.sz:=by unfold eV.room at U;omega
 have hz:=i.z
 have hs:=i.s
 have hn:=i.n
 have ed:cC w.st (fz w.dD 1)=cC w.st w.dD+1:=by unfold cC fz at*;omega
 refine⟨i.z,i.s,⟨(IX _ _).1,(IX _ _).2⟩,?_,λa ha=>?_,λhe=>?_,λa r he=>?_,?_⟩
 ·show(w.out++[w.dD]).Pairwise _
  refine List.pairwise_append.2 ⟨i.p,List.pairwise_singleton _ _,λa ha b hb=>?_⟩
  simp at hb;subst hb;exact(i.b a ha).2
 ·show _/\cC w.st a<cC w.st (fz w.dD 1)
  replace ha:a∈w.out++[w.dD]:=ha
  rcases List.mem_append.1 ha with ha|ha
  ·have:=i.b a ha;exact⟨this.1,by omega⟩
  ·simp at ha;subst ha;exact⟨hn,by omega⟩
 ·replace he:w.out++[w.dD]=[]:=he
  simp at he
 ·replace he:w.out++[w.dD]=a::r:=he
  show a=w.st
  cases aw:w.out with
  |nil=>rw[aw]at he;simp at he;rw[i.e aw];exact he.1.symm
  |cons b l=>rw[aw]at he;simp at he;rw[<-he.1];exact i.h b l aw
 ·show cC w.st (fz w.dD 1)<=w.sz
  omega
theorem kf.resize (i:kf w) {n:Int} (hn:1<=n/\n<=64) (aw:w.out=[]):kf (w.size n):=by
 refine⟨hn,i.s,i.n,i.p,i.b,i.e,i.h,?_⟩
 show cC w.st w.dD<=n
 rw[i.e aw];unfold cC;omega
theorem kf.drop (i:kf w) {s:Int} (hs:s∈w.out):kf (w.drop s):=by
 have hnd:=i.fm
 have Gt:(w.out.erase s).Sublist w.out:=List.erase_sublist
 have hp:=i.p.sublist Gt
 have hb:∀a∈w.out.erase s,(0<=a/\a<4096)/\cC w.st a<cC w.st w.dD:= λa ha=>i.b a (Gt.subset ha)
 have hz:=i.z
 have h1:=i.s
 have h2:=i.n
 have h3:=i.d
 unfold eV.drop
 cases aw:w.out.erase s with
 |nil=>
  refine⟨i.z,i.n,i.n,List.Pairwise.nil,λa ha=>(by cases ha),λ_=>rfl,λa r e=>(by cases e),?_⟩
  show cC w.dD w.dD<=w.sz
  unfold cC;omega
 |cons c l=>
  rw[aw]at hp hb
  obtain⟨lV,mn⟩:=List.pairwise_cons.1 hp
  have hc:=hb c (List.mem_cons_self ..)
  have key:∀a,0<=a/\a<4096->cC w.st c<=cC w.st a->cC c a=cC w.st a -cC w.st c:= λa ha hle=>by unfold cC at*;omega
  have So:=key w.dD i.n (by omega)
  refine⟨i.z,hc.1,i.n,?_,λa ha=>?_,λe=>(by cases e),λa r e=>(by cases e;rfl),?_⟩
  ·show(c::l).Pairwise λa b=>cC c a<cC c b
   refine List.Pairwise.imp_of_mem ?_ hp
   intro a b ha nQ F0
   have GJ:=hb a ha
   have Lv:=hb b nQ
   have dQ:cC w.st c<=cC w.st a:=by
    rcases List.mem_cons.1 ha with rfl|ha
    ·exact Int.le_refl _
    ·exact Int.le_of_lt (lV a ha)
   rw[key a GJ.1 dQ,key b Lv.1 (by omega)];omega
  ·replace ha:a∈c::l:=ha
   have GJ:=hb a ha
   have dQ:cC w.st c<=cC w.st a:=by
    rcases List.mem_cons.1 ha with rfl|ha
    ·exact Int.le_refl _
    ·exact Int.le_of_lt (lV a ha)
   show _/\cC c a<cC c w.dD
   rw[key a GJ.1 dQ,So];exact⟨GJ.1,by omega⟩
  ·show cC c w.dD<=w.sz
   rw[So]
   have:=(vW w.st c).1
   omega
theorem kf.done (i:kf w) {s:Int}:kf (w.done s):=by
 unfold eV.done
 split
 ·exact i.drop (by assumption)
 ·exact i
theorem aav (i:kf w) {s:Int}:(w.done s).out=w.out.filter λa=>decide (a≠s):=by
 unfold eV.done
 split
 ·show w.out.erase s=_
  rw[i.fm.erase_eq_filter]
  refine List.filter_congr λa _=>?_
  simp[bne]
  rfl
 ·rename_i hn
  refine(List.filter_eq_self.2 λa ha=>?_).symm
  simp;intro e;subst e;exact hn ha
theorem Qu:∀{l:List cq} {w:eV},kf w->kf (nM w l)/\(nM w l).out=w.out.filter λa=>decide (a∉l.map cq.sq)
 |[],w,i=>⟨i,(List.filter_eq_self.2 λa _=>by simp).symm⟩
 |m::l,w,i=>by
  obtain⟨h1,h2⟩:=Qu (l:=l) (i.done (s:=m.sq))
  refine⟨h1,?_⟩
  show(nM (w.done m.sq) l).out=_
  rw[h2,aav i,List.filter_filter]
  refine List.filter_congr λa _=>?_
  simp only[List.map_cons,List.mem_cons,not_or]
  by_cases e:a=m.sq<;>simp[e]
theorem dB.ok (i:dB x):kV x:=⟨i.w.ok,by have:=i.w.ok.n;rw[i.l,List.length_map]at this;exact this,λf hf=>by have:=i.f f hf;have:=this.1.1;exact⟨by omega,by omega,by omega⟩,i.v,i.sz,i.iT⟩
theorem dB.ak1 (i:dB x):∀f∈x.l,∀g∈x.l,f.m.sq=g.m.sq->f=g:=by
 have:=i.w.fm
 rw[i.l]at this
 intro f hf g hg e
 obtain⟨a,ha,rfl⟩:=List.getElem_of_mem hf
 obtain⟨b,hb,rfl⟩:=List.getElem_of_mem hg
 have hp:=List.pairwise_iff_getElem.1 this
 rcases Nat.lt_trichotomy a b with h|h|h
 ·exact absurd (show(x.l.map λf=>f.m.sq)[a]'(by simpa using ha)=(x.l.map λf=>f.m.sq)[b]'(by simpa using hb) by rw[List.getElem_map,List.getElem_map];exact e) (hp a b (by simpa using ha) (by simpa using hb) h)
 ·subst h;rfl
 ·exact absurd (show(x.l.map λf=>f.m.sq)[b]'(by simpa using hb)=(x.l.map λf=>f.m.sq)[a]'(by simpa using ha) by rw[List.getElem_map,List.getElem_map];exact e.symm) (hp b a (by simpa using hb) (by simpa using ha) h)
theorem dB.take (i:dB x):dB (x.take p):=by
 obtain⟨h1,h2⟩:=Qu (l:=(x.l.filter p).map Fr.m) i.w
 refine⟨h1,?_,λf hf=>i.f f (List.mem_filter.1 hf).1,i.v,i.sz,i.iT⟩
 show(nM x.w ((x.l.filter p).map Fr.m)).out=(x.l.filter λf=>!p f).map λf=>f.m.sq
 rw[h2,i.l,List.filter_map]
 congr 1
 refine List.filter_congr λf hf=>?_
 show decide (f.m.sq∉((x.l.filter p).map Fr.m).map cq.sq)=!p f
 by_cases hp:p f=true
 ·rw[hp]
  have:f.m.sq∈((x.l.filter p).map Fr.m).map cq.sq:=List.mem_map.2 ⟨f.m,List.mem_map.2 ⟨f,List.mem_filter.2 ⟨hf,hp⟩,rfl⟩,rfl⟩
  rw[decide_eq_false (λh=>h this)];rfl
 ·have hn:f.m.sq∉((x.l.filter p).map Fr.m).map cq.sq:= λh=>by
   obtain⟨m,hm,e⟩:=List.mem_map.1 h
   obtain⟨g,hg,rfl⟩:=List.mem_map.1 hm
   obtain⟨R2,hg2⟩:=List.mem_filter.1 hg
   have:=i.ak1 g R2 f hf e
   subst this;exact hp hg2
  rw[decide_eq_true hn];simp at hp;rw[hp];rfl
theorem dB.TD (i:dB x) {k:Fr->Fr} (h1:∀f∈x.l,(k f).m.sq=f.m.sq) (h2:∀f∈x.l,q4 (k f).m.p/\0<=(k f).m.cZ/\(k f).m.cZ<=16):dB (x.bG (x.l.map k)):=by
 refine⟨i.w,?_,λf hf=>?_,i.v,i.sz,i.iT⟩
 ·show x.w.out=(x.l.map k).map λf=>f.m.sq
  rw[i.l,List.map_map]
  exact List.map_congr_left λf hf=>(h1 f hf).symm
 ·obtain⟨g,hg,rfl⟩:=List.mem_map.1 hf;exact h2 g hg
theorem dB.land (i:dB x):dB x.land:=i.TD (k:=sH) (λ_ _=>rfl) λf hf=>i.f f hf
theorem dB.e4 (i:dB x) {a:Bool} {v:Int} (hv:0<=v/\v<=1048576):dB (x.e4 a v):=⟨i.w,i.l,i.f,hv,i.sz,i.iT⟩
theorem dB.bw (i:dB x) {s:Int}:dB (x.bw s):=⟨i.w,i.l,i.f,i.v,i.sz,i.iT⟩
theorem dB.de (i:dB x):dB (x.de now):=by
 unfold aS.de
 split
 ·exact dB.e4 i.take ⟨by decide,by decide⟩
 ·exact i.take
theorem dB.fresh (i:dB x) (U:x.w.room≠0) (hq:q4 q):dB (x.fresh q now):=by
 refine⟨i.w.next U,?_,λf hf=>?_,i.v,i.sz,i.iT⟩
 ·show x.w.out++[x.w.dD]=(x.l++[_]:List Fr).map λf=>f.m.sq
  rw[i.l,List.map_append];rfl
 ·rcases List.mem_append.1 hf with hf|hf
  ·exact i.f f hf
  ·simp at hf;subst hf;exact⟨hq,by show(0:Int)<=0;decide,by show(0:Int)<=16;decide⟩
theorem dB.heard (i:dB x) {sq mp:Int}:dB (x.heard sq mp).2:=by
 unfold aS.heard
 split
 ·exact i.take.land
 ·exact i
theorem dB.hG (i:dB x) {l:List Int} (h:∀f∈x.l,f.m.cZ<=15):dB (x.hG l):=i.TD (k:=pH l) (λf _=>by unfold pH;split<;>rfl) λf hf=>by
 have:=i.f f hf
 have:=h f hf
 unfold pH
 split
 ·exact⟨(i.f f hf).1,by show 0<=f.m.cZ+1;omega,by show f.m.cZ+1<=16;omega⟩
 ·exact i.f f hf
theorem dB.ask (i:dB x) {t:Int}:dB (x.ask t).1:=by
 unfold aS.ask
 split
 ·split
  ·exact⟨i.w,i.l,i.f,i.v,i.sz,i.iT⟩
  ·exact i
 ·exact i
theorem aqF (i:dB x) {n:Int}:1<=x.sV n/\x.sV n<=64:=by
 have:=i.sz
 unfold aS.sV
 split<;>omega
theorem dB.answer (i:dB x) {a b c:Int}:dB (x.answer a b c).1:=by
 unfold aS.answer
 split
 ·split
  ·exact i.bw
  ·split
   ·exact i
   ·split
    ·rename_i aw
     exact dB.bw (x:=x.rL (x.w.size (x.sV c))) ⟨i.w.resize (aqF i) aw,i.l,i.f,i.v,i.sz,i.iT⟩
    ·exact i
 ·exact i
theorem dB.gT (i:dB x):dB x.gT.1:=by
 unfold aS.gT
 split
 ·exact i
 ·split
  ·rename_i aw
   exact dB.e4 (x:=(x.rL (x.w.size 1)).bw 1) (dB.bw (x:=x.rL (x.w.size 1)) ⟨i.w.resize ⟨by decide,by decide⟩ aw,i.l,i.f,i.v,i.sz,i.iT⟩) ⟨by decide,by decide⟩
  ·exact i
theorem dB.new {a b c:Int} (h1:1<=a/\a<=64) (h3:0<=c/\c<=1125899906842624):dB (xU a b c):=by
 have hw:kf ⟨0,0,1,[]⟩:=⟨⟨by decide,by decide⟩,⟨by decide,by decide⟩,⟨by decide,by decide⟩,List.Pairwise.nil,λa ha=>(by cases ha),λ_=>rfl,λa r e=>(by cases e),by decide⟩
 exact⟨hw,rfl,λf hf=>(by cases hf),⟨Int.le_refl 0,by show(0:Int)<=1048576;decide⟩,h1,h3⟩
end
end Go.Proofs.YtjlkfjnfnonekaaGreatDoor
namespace Go.Proofs.YtjlkfjnfnonekaaGreatDoor
open Go.Vc
structure q6 (l:List hr):Prop extends xE l where
 o:∀x∈l,0<=x.left/\(x.op=true->0<x.most->1<=x.left)
section
variable{l:List hr} {a ac:Int} {x:hr} {on more:Bool}
theorem Uz (h:qH l a=some x):x∈l:=by
 unfold qH at h
 split at h
 ·split at h
  ·rename_i z hz
   split at h
   ·cases h;exact List.mem_of_getElem? hz
   ·cases h
  ·cases h
 ·cases h
theorem q6.set (i:q6 l) {n:Nat} (h1:0<=x.most/\x.most<=8/\-8<=x.left/\x.left<=8) (h2:0<=x.left/\(x.op=true->0<x.most->1<=x.left)):q6 (l.set n x):=
 ⟨⟨by rw[List.length_set];exact i.n,λz hz=>(List.mem_or_eq_of_mem_set hz).elim (i.m z) λe=>e▸h1⟩,λz hz=>(List.mem_or_eq_of_mem_set hz).elim (i.o z) λe=>e▸h2⟩
theorem q6.cZ (i:q6 l):q6 (pz l a ac more).1:=by
 unfold pz
 split
 ·exact i
 ·rename_i x hx
  have h1:=i.m x (Uz hx)
  have h2:=i.o x (Uz hx)
  split
  ·rename_i hm
   split
   ·exact i
   ·rename_i hs
    split
    ·exact i.set h1 h2
    ·rename_i hp
     have qk:x.op=true:=by
      have:=hm.2
      unfold sK at this
      cases hq:x.op
      ·rw[hq]at this;simp at this;rcases this with h|h
       ·exact absurd h hs
       ·exact absurd h hp
      ·rfl
     unfold oI
     have h3:=h2.2 qk
     split
     ·split
      ·exact i.set ⟨h1.1,h1.2.1,by show(-8:Int)<=0;decide,by show(0:Int)<=8;decide⟩ ⟨Int.le_refl 0,λh=>by cases h⟩
      ·rename_i h4 aA
       have aU:=h3 (by omega)
       have bW:¬x.left -1=0:= λe=>aA (.inl e)
       exact i.set ⟨h1.1,h1.2.1,by show(-8:Int)<=x.left -1;omega,by show x.left -1<=8;omega⟩ ⟨by show 0<=x.left -1;omega,λ_ _=>by show 1<=x.left -1;omega⟩
     ·split
      ·exact i.set ⟨h1.1,h1.2.1,by show(-8:Int)<=0;decide,by show(0:Int)<=8;decide⟩ ⟨Int.le_refl 0,λh=>by cases h⟩
      ·exact i.set h1 h2
  ·exact i
theorem UO:(0<=pB.most/\pB.most<=8/\-8<=pB.left/\pB.left<=8)/\(0<=pB.left/\(pB.op=true->0<pB.most->1<=pB.left)):=⟨⟨by decide,by decide,by decide,by decide⟩,by decide,λh=>by cases h⟩
theorem q6.add (i:q6 l) (h1:0<=x.most/\x.most<=8) (h2:x.left=0) (h3:x.op=false):q6 (w8 l a x):=
 i.set ⟨h1.1,h1.2,by omega,by omega⟩ ⟨by omega,λh=>by rw[h3]at h;cases h⟩
end
end Go.Proofs.YtjlkfjnfnonekaaGreatDoor
