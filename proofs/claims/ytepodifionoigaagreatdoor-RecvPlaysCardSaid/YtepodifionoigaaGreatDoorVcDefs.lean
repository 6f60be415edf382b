import Derived.WalkKit
import Derived.Deep.Quiet
set_option linter.unusedVariables false
set_option linter.unusedSimpArgs false
namespace Go.Vc

abbrev Heap := Array Obj
abbrev Env := Nat → Value

def cell (h : Heap) (b o : Nat) : Option Value :=
  match h[b]? with
  | some (.cells c _ _) => c[o]?
  | _ => none
def wr (h : Heap) (b o : Nat) : Prop := ∃ c e lo hi, h[b]? = some (.cells c e (lo, hi)) ∧ o < c.size ∧ ¬ (lo ≤ o ∧ o < hi)
def setc (h : Heap) (b o : Nat) (v : Value) : Heap := h.modify b fun
  | .cells c e f => .cells (c.setIfInBounds o v) e f
  | x => x
def setr (h : Heap) (b o : Nat) : List Value → Heap
  | [] => h
  | v :: vs => setr (setc h b o v) b (o + 1) vs
def row (h : Heap) (b o : Nat) : Nat → Option (List Value)
  | 0 => some []
  | n + 1 => match cell h b o, row h b (o + 1) n with
    | some v, some r => some (v :: r)
    | _, _ => none

structure Same (w w' : World) : Prop where
  os : w'.os = w.os
  tape : w'.tape = w.tape
  output : w'.output = w.output
  drawn : w.drawn ≤ w'.drawn
theorem Same.refl (w : World) : Same w w := ⟨rfl, rfl, rfl, Nat.le_refl _⟩
theorem Same.trans {a b c : World} (h : Same a b) (k : Same b c) : Same a c := ⟨k.os.trans h.os, k.tape.trans h.tape, k.output.trans h.output, Nat.le_trans h.drawn k.drawn⟩

def Runs (P : Program) (f : FuncId) (args : Array Value) (h : Heap) (Post : Value → Heap → Prop) : Prop :=
  ∀ w : World, w.heap = h → Calls P f args w fun e w' => ∃ v, e = .returned v ∧ Post v w'.heap ∧ Same w w'
theorem Runs.mono {P : Program} {f : FuncId} {args : Array Value} {h : Heap} {Post Post' : Value → Heap → Prop} (hr : Runs P f args h Post)
    (hp : ∀ v h', Post v h' → Post' v h') : Runs P f args h Post' :=
  fun w hw => (hr w hw).mono fun _ _ ⟨v, e, p, s⟩ => ⟨v, e, hp _ _ p, s⟩

def upd (t : Env) (d : Nat) (v : Value) : Env := fun n => bif Nat.beq n d then v else t n
def put (N : Nat) (t : Env) (dst : Option Nat) (v : Value) (K : Env → Prop) : Prop :=
  match dst with
  | none => K t
  | some d => match Nat.blt d N with
    | true => K (upd t d v)
    | false => False
def ev (t : Env) : Operand → Value
  | .tmp n => t n
  | .const v => v
  | .global g => .pointer (some ⟨g, 0, none⟩)
  | .func f => .func (.func f) #[] #[]

def bcase (b : Bool) (x y : Prop) : Prop := match b with | true => x | false => y
theorem bcase_intro {b : Bool} {x y : Prop} (hx : b = true → x) (hy : b = false → y) : bcase b x y := by
  cases b
  · exact hy rfl
  · exact hx rfl
theorem dcase_intro {p : Prop} [Decidable p] {x y : Prop} (hx : p → x) (hy : ¬ p → y) : bcase (decide p) x y := by
  by_cases h : p
  · rw [show decide p = true by simp [h]]; exact hx h
  · rw [show decide p = false by simp [h]]; exact hy h
theorem bcase_true {b : Bool} {x y : Prop} (h : b = true) (hx : x) : bcase b x y := by subst h; exact hx
theorem bcase_false {b : Bool} {x y : Prop} (h : b = false) (hy : y) : bcase b x y := by subst h; exact hy
theorem dcase_pos {p : Prop} [Decidable p] {x y : Prop} (h : p) (hx : x) : bcase (decide p) x y := dcase_intro (fun _ => hx) (fun k => absurd h k)
theorem dcase_neg {p : Prop} [Decidable p] {x y : Prop} (h : ¬ p) (hy : y) : bcase (decide p) x y := dcase_intro (fun k => absurd k h) (fun _ => hy)

def onAddr (p : Option Addr) (K : Nat → Nat → Prop) : Prop :=
  match p with
  | some ⟨b, o, none⟩ => K b o
  | _ => False
def onPtr (v : Value) (K : Nat → Nat → Prop) : Prop :=
  match v with
  | .pointer p => onAddr p K
  | _ => False

def fits (k : IntKind) (n : Int) : Prop :=
  match k with
  | .i8 => -128 ≤ n ∧ n ≤ 127
  | .i16 => -32768 ≤ n ∧ n ≤ 32767
  | .i32 => -2147483648 ≤ n ∧ n ≤ 2147483647
  | .i64 => -9223372036854775808 ≤ n ∧ n ≤ 9223372036854775807
  | .u8 => 0 ≤ n ∧ n ≤ 255
  | .u16 => 0 ≤ n ∧ n ≤ 65535
  | .u32 => 0 ≤ n ∧ n ≤ 4294967295
  | .u64 => 0 ≤ n ∧ n ≤ 18446744073709551615
def kbits (k : IntKind) : Nat :=
  match k with
  | .i8 => 8 | .u8 => 8 | .i16 => 16 | .u16 => 16 | .i32 => 32 | .u32 => 32 | .i64 => 64 | .u64 => 64
def keq (a b : IntKind) : Bool :=
  match a, b with
  | .i8, .i8 => true | .i16, .i16 => true | .i32, .i32 => true | .i64, .i64 => true
  | .u8, .u8 => true | .u16, .u16 => true | .u32, .u32 => true | .u64, .u64 => true
  | _, _ => false
def arith (x : Bool) (k : IntKind) (e : Int) (K : Value → Prop) : Prop :=
  match x with
  | true => fits k e ∧ K (.int k e)
  | false => K (.int k (k.wrap e))
def pow2 (n : Int) : Int := 2 ^ n.toNat
def iop (x : Bool) (op : BinOp) (k : IntKind) (m n : Int) (K : Value → Prop) : Prop :=
  match op with
  | .add => arith x k (m + n) K
  | .sub => arith x k (m - n) K
  | .mul => arith x k (m * n) K
  | .quo => match x with
    | true => (0 ≤ m ∧ 0 < n ∧ fits k (m / n)) ∧ K (.int k (m / n))
    | false => n ≠ 0 ∧ K (.int k (k.wrap (m.tdiv n)))
  | .rem => match x with
    | true => (0 ≤ m ∧ 0 < n) ∧ K (.int k (m % n))
    | false => n ≠ 0 ∧ K (.int k (m.tmod n))
  | .and => K (.int k (bits .and k m n))
  | .or => K (.int k (bits .or k m n))
  | .xor => K (.int k (bits .xor k m n))
  | .andNot => K (.int k (bits .andNot k m n))
  | .eql => K (.bool (decide (m = n)))
  | .neq => K (.bool (!decide (m = n)))
  | .lss => K (.bool (decide (m < n)))
  | .leq => K (.bool (decide (m ≤ n)))
  | .gtr => K (.bool (decide (n < m)))
  | .geq => K (.bool (decide (n ≤ m)))
  | _ => False
def shop (x : Bool) (op : BinOp) (k : IntKind) (m n : Int) (K : Value → Prop) : Prop :=
  match op with
  | .shl => (0 ≤ n ∧ n ≤ kbits k) ∧ arith x k (m * pow2 n) K
  | .shr => (0 ≤ n ∧ n ≤ kbits k) ∧ K (.int k (m / pow2 n))
  | _ => False
def isNilAddr (p : Option Addr) : Bool := match p with | none => true | some _ => false
def sz (P : Program) (t : TypeId) : Nat := match P.info? t with | some i => i.size | none => 0
def hasInfo (P : Program) (t : TypeId) : Bool := match P.info? t with | some _ => true | none => false
def arrEq (P : Program) (t : TypeId) (xs ys : Array Value) (K : Bool → Prop) : Prop :=
  match P.underlying t with
  | some (.array n e) => match P.underlying e, P.eqGuardType P.depth t with
    | some (.int k), false => match Nat.beq (sz P e) 1, hasInfo P e with
      | true, true => ∃ l r : List Int, xs.toList = l.map (Value.int k) ∧ ys.toList = r.map (Value.int k) ∧ (l.length = n ∧ r.length = n) ∧ K (decide (l = r))
      | _, _ => False
    | _, _ => False
  | _ => False
def binv (P : Program) (x : Bool) (op : BinOp) (t : TypeId) (a b : Value) (K : Value → Prop) : Prop :=
  match a, b with
  | .int k m, .int k' n => match op with
    | .shl => shop x .shl k m n K
    | .shr => shop x .shr k m n K
    | op => match keq k k' with | true => iop x op k m n K | false => False
  | .bool m, .bool n => match P.underlying t, op with
    | some .bool, .eql => K (.bool (m == n))
    | some .bool, .neq => K (.bool (!(m == n)))
    | _, _ => False
  | .string m, .string n => match op with
    | .add => ((m.size + n.size : Nat) : Int) ≤ 9223372036854775807 ∧ K (.string (m ++ n))
    | .eql => K (.bool (m.toList == n.toList))
    | .neq => K (.bool (!(m.toList == n.toList)))
    | _ => False
  | .pointer p, .pointer none => match P.underlying t, op with
    | some (.pointer _), .eql => K (.bool (isNilAddr p))
    | some (.pointer _), .neq => K (.bool (!isNilAddr p))
    | _, _ => False
  | .slice p _ _, .slice none _ _ => match P.underlying t, op with
    | some (.slice _), .eql => K (.bool (isNilAddr p))
    | some (.slice _), .neq => K (.bool (!isNilAddr p))
    | _, _ => False
  | .agg xs, .agg ys => match op with
    | .eql => arrEq P t xs ys fun c => K (.bool c)
    | .neq => arrEq P t xs ys fun c => K (.bool (!c))
    | _ => False
  | _, _ => False
def ifeq (c : Bool) (a b : Value) : Option Bool :=
  match a, b with
  | .nilIface, .nilIface => match c with | true => some true | false => none
  | .nilIface, .iface _ _ => some false
  | .iface _ _, .nilIface => some false
  | _, _ => none
def isNilM (m : Option Nat) : Bool := match m with | none => true | some _ => false
def meq (a b : Value) : Option Bool := match a, b with | .map m, .map none => some (isNilM m) | _, _ => none
def isConst : Operand → Bool | .const _ => true | _ => false
def bino (P : Program) (x : Bool) (op : BinOp) (t : TypeId) (xo yo : Operand) (a b : Value) (K : Value → Prop) : Prop :=
  match P.underlying t with
  | some (.interface _) => match op with
    | .eql => ∃ c : Bool, ifeq (isConst xo || isConst yo) a b = some c ∧ K (.bool c)
    | .neq => ∃ c : Bool, ifeq (isConst xo || isConst yo) a b = some c ∧ K (.bool (!c))
    | _ => False
  | some (.map _ _) => match op with
    | .eql => ∃ c : Bool, meq a b = some c ∧ K (.bool c)
    | .neq => ∃ c : Bool, meq a b = some c ∧ K (.bool (!c))
    | _ => False
  | _ => binv P x op t a b K
def plainB (h : Heap) (b : Nat) : Bool := match h[b]? with | some (.cells _ _ (lo, hi)) => Nat.beq lo 0 && Nat.beq hi 0 | _ => false
def sameA (h : Heap) (p q : Addr) : Option Bool := if p = q then some true else match plainB h p.block && plainB h q.block with | true => some false | false => none
def ptrOk (P : Program) (u : TypeId) : Bool := match P.underlying u with
  | some (.pointer e) => (match P.info? u with | some i => i.comparable | none => false) && (match P.info? e with | some j => !Nat.beq j.size 0 | none => false)
  | _ => false
def ifeqH (P : Program) (h : Heap) (c : Bool) (a b : Value) : Option Bool :=
  match a, b with
  | .iface u x, .iface v y => match Nat.beq u v with
    | false => some false
    | true => match ptrOk P u, x, y with
      | true, .pointer (some p), .pointer (some q) => sameA h p q
      | _, _, _ => none
  | a, b => ifeq c a b
def isIf (P : Program) (t : TypeId) : Bool := match P.underlying t with | some (.interface _) => true | _ => false
def binh (P : Program) (op : BinOp) (xo yo : Operand) (a b : Value) (h : Heap) (K : Value → Prop) : Prop :=
  match op with
  | .eql => ∃ c : Bool, ifeqH P h (isConst xo || isConst yo) a b = some c ∧ K (.bool c)
  | .neq => ∃ c : Bool, ifeqH P h (isConst xo || isConst yo) a b = some c ∧ K (.bool (!c))
  | _ => False
def isPt (P : Program) (t : TypeId) : Bool := match P.underlying t with | some (.pointer _) => true | _ => false
def ptrEq (h : Heap) (a b : Option Addr) : Option Bool :=
  match b with
  | none => some (isNilAddr a)
  | some q => match a with | none => some false | some p => sameA h p q
def binp (P : Program) (op : BinOp) (t : TypeId) (a b : Value) (h : Heap) (K : Value → Prop) : Prop :=
  match a, b with
  | .pointer p, .pointer q => match ptrOk P t, op with
    | true, .eql => ∃ c : Bool, ptrEq h p q = some c ∧ K (.bool c)
    | true, .neq => ∃ c : Bool, ptrEq h p q = some c ∧ K (.bool (!c))
    | _, _ => False
  | _, _ => False
def unv (x : Bool) (op : UnOp) (a : Value) (K : Value → Prop) : Prop :=
  match op, a with
  | .not, .bool b => K (.bool (!b))
  | .neg, .int k n => arith x k (0 - n) K
  | .xor, .int k n => K (.int k (bits .xor k (if k.signed then -1 else k.max) n))
  | _, _ => False
def convv (P : Program) (x : Bool) (s d : TypeId) (a : Value) (K : Value → Prop) : Prop :=
  match P.underlying s, P.underlying d, a with
  | some (.int _), some (.int k), .int _ n => arith x k n K
  | _, _, _ => False
def mulc (s n : Nat) : Nat := match s with | 1 => n | s => n * s
def fieldOff (P : Program) (t : TypeId) (f : Nat) (K : Nat → TypeId → Prop) : Prop :=
  match P.underlying t with
  | some (.struct fs) => match fs[f]? with
    | some fd => match hasInfo P fd.type, sz P fd.type with
      | true, _ + 1 => K fd.offset fd.type
      | _, _ => False
    | none => False
  | _ => False
def one (d : TypeDesc) (c : Option Value) (K : Value → Prop) : Prop :=
  match d with
  | .int k => ∃ n : Int, c = some (.int k n) ∧ K (.int k n)
  | .bool => ∃ b : Bool, c = some (.bool b) ∧ K (.bool b)
  | .pointer _ => ∃ p : Option Addr, c = some (.pointer p) ∧ K (.pointer p)
  | .slice _ => ∃ (p : Option Addr) (l m : Nat), c = some (.slice p l m) ∧ K (.slice p l m)
  | .string => ∃ s : ByteArray, c = some (.string s) ∧ K (.string s)
  | _ => ∃ v : Value, c = some v ∧ K v
def ldv (P : Program) (t : TypeId) (h : Heap) (b o : Nat) (K : Value → Prop) : Prop :=
  match P.underlying t with
  | some (.struct _) | some (.array _ _) => match hasInfo P t with
    | true => ∃ cs : List Value, row h b o (sz P t) = some cs ∧ K (.agg cs.toArray)
    | false => False
  | some d => one d (cell h b o) K
  | none => False
def aggv (P : Program) (t : TypeId) (a : Value) (off : Nat) (K : Value → Prop) : Prop :=
  match a with
  | .agg cs => match P.underlying t with
    | some (.struct _) | some (.array _ _) => match hasInfo P t with
      | true => K (.agg ((cs.toList.drop off).take (sz P t)).toArray)
      | false => False
    | some d => one d (cs.toList[off]?) K
    | none => False
  | _ => False
def slcAddr (a : Option Addr) (l cap n : Nat) : Option Addr := if cap = l then a else a.map (·.add n)
def lowv (lo : Option Value) (K : Int → Prop) : Prop := match lo with | none => K 0 | some (.int _ n) => K n | _ => False
def slicev (P : Program) (t : TypeId) (v : Value) (lo hi : Option Value) (K : Value → Prop) : Prop :=
  match P.underlying t, v with
  | some (.slice e), .slice a len cap => match hasInfo P e with
    | true => lowv lo fun l => match hi with
      | none => (0 ≤ l ∧ l ≤ (len : Int)) ∧ K (.slice (slcAddr a l.toNat cap (l.toNat * sz P e)) (len - l.toNat) (cap - l.toNat))
      | some (.int _ m) => (0 ≤ l ∧ l ≤ m ∧ m ≤ (cap : Int)) ∧ K (.slice (slcAddr a l.toNat cap (l.toNat * sz P e)) (m.toNat - l.toNat) (cap - l.toNat))
      | _ => False
    | false => False
  | some (.array n e), .pointer p => match hasInfo P e, lo, hi with
    | true, none, none => onAddr p fun b o => K (.slice (some ⟨b, o, none⟩) n n)
    | _, _, _ => False
  | some .string, .string s => lowv lo fun l => match hi with
    | none => (0 ≤ l ∧ l ≤ (s.size : Int)) ∧ K (.string (s.extract l.toNat s.size))
    | some (.int _ m) => (0 ≤ l ∧ l ≤ m ∧ m ≤ (s.size : Int)) ∧ K (.string (s.extract l.toNat m.toNat))
    | _ => False
  | _, _ => False
def slice3v (P : Program) (t : TypeId) (v : Value) (lo hi : Option Value) (mx : Value) (K : Value → Prop) : Prop :=
  match P.underlying t, v with
  | some (.slice e), .slice a len cap => match hasInfo P e with
    | true => lowv lo fun l => match hi, mx with
      | some (.int _ m), .int _ x => (0 ≤ l ∧ l ≤ m ∧ m ≤ x ∧ x ≤ (cap : Int)) ∧ K (.slice (slcAddr a l.toNat x.toNat (l.toNat * sz P e)) (m.toNat - l.toNat) (x.toNat - l.toNat))
      | _, _ => False
    | false => False
  | _, _ => False
def mnv (a b : Value) (K : Value → Prop) : Prop :=
  match a, b with
  | .int k m, .int k' n => (match keq k k' with | true => K (.int k (min m n)) | false => False)
  | _, _ => False
def mxv (a b : Value) (K : Value → Prop) : Prop :=
  match a, b with
  | .int k m, .int k' n => (match keq k k' with | true => K (.int k (max m n)) | false => False)
  | _, _ => False
def bltv (P : Program) (b : Builtin) (ts : List TypeId) (vs : List Value) (K : Value → Prop) : Prop :=
  match b, ts, vs with
  | .len, [t], [v] => match P.underlying t, v with
    | some (.slice _), .slice _ n _ => K (.int .i64 (n : Nat))
    | some .string, .string s => K (.int .i64 (s.size : Nat))
    | some (.array n _), _ => K (.int .i64 (n : Nat))
    | _, _ => False
  | .cap, [t], [v] => match P.underlying t, v with
    | some (.slice _), .slice _ _ n => K (.int .i64 (n : Nat))
    | _, _ => False
  | .min, _, [a, b] => mnv a b K
  | .max, _, [a, b] => mxv a b K
  | _, _, _ => False
structure Md where
  ex : Bool
  nm : Bool
def namev (nm : Bool) (v : Value) (K : Value → Prop) : Prop :=
  match nm with
  | false => K v
  | true => match v with
    | .int k e => ∀ x : Int, x = e → K (.int k x)
    | v => K v
def strAt (s : ByteArray) (i : Nat) : Int := ((s.data.toList.getD i 0).toNat : Int)
def okc (v : Value) (X : Prop) : Prop :=
  match v with
  | .agg _ => False
  | .tuple _ => False
  | .int _ _ => X
  | .bool _ => X
  | .pointer _ => X
  | .slice _ _ _ => X
  | .string _ => X
  | .func _ _ _ => X
  | .nilFunc => X
  | .nilIface => X
  | .iface _ _ => X
  | .map _ => X
  | _ => X
def lay (P : Program) : List Field → Nat → Option (List Nat)
  | [], _ => some []
  | f :: r, o => match Nat.beq f.offset o, hasInfo P f.type, lay P r (o + sz P f.type) with
    | true, true, some l => some (sz P f.type :: l)
    | _, _, _ => none
def splitL : List Nat → List Value → List (List Value)
  | [], _ => []
  | n :: r, l => l.take n :: splitL r (l.drop n)
def sumL : List Nat → Nat
  | [] => 0
  | n :: r => n + sumL r
def joinL : List (List Value) → List Value
  | [] => []
  | a :: r => a ++ joinL r
def partv (n : Nat) (v : Value) (K : List Value → Prop) : Prop :=
  match v with
  | .agg cs => cs.toList.length = n ∧ K cs.toList
  | v => match n with
    | 1 => okc v (K [v])
    | _ => False
def putParts (sizes : List Nat) : List (Nat × Value) → List (List Value) → (List (List Value) → Prop) → Prop
  | [], ch, K => K ch
  | (i, v) :: r, ch, K => match sizes[i]? with
    | some n => partv n v fun cs => putParts sizes r (ch.set i cs) K
    | none => False
def buildv (P : Program) (t : TypeId) (parts : List (Nat × Value)) (K : Value → Prop) : Prop :=
  match P.info? t, P.underlying t with
  | some it, some (.struct fs) => match it.zero, lay P fs.toList 0 with
    | some z, some sizes => match Nat.beq z.cells.toList.length (sumL sizes) with
      | true => putParts sizes parts (splitL sizes z.cells.toList) fun ch => K (.agg (joinL ch).toArray)
      | false => False
    | _, _ => False
  | some it, some (.array n e) => match it.zero, hasInfo P e with
    | some z, true => match Nat.beq z.cells.toList.length (sumL (List.replicate n (sz P e))) with
      | true => putParts (List.replicate n (sz P e)) parts (splitL (List.replicate n (sz P e)) z.cells.toList) fun ch => K (.agg (joinL ch).toArray)
      | false => False
    | _, _ => False
  | _, _ => False
def anyOf (P : Program) (t : TypeId) (K : Value → Prop) : Prop :=
  match P.underlying t with
  | some (.int k) => ∃ n : Int, K (.int k n)
  | some .bool => ∃ b : Bool, K (.bool b)
  | some (.pointer _) => ∃ p : Option Addr, K (.pointer p)
  | some (.slice _) => ∃ (p : Option Addr) (l m : Nat), K (.slice p l m)
  | some .string => ∃ s : ByteArray, K (.string s)
  | some (.struct _) => ∃ cs : List Value, K (.agg cs.toArray)
  | some (.array _ _) => ∃ cs : List Value, K (.agg cs.toArray)
  | _ => ∃ v : Value, K v
def zeroOf (P : Program) (t : TypeId) : Option Value := match P.info? t with | some i => i.zero | none => none
def asr (P : Program) (T : TypeId) (v : Value) : Option (Value × Bool) :=
  match v with
  | .iface u x => match Nat.beq u T with
    | true => some (x, true)
    | false => match zeroOf P T with | some z => some (z, false) | none => none
  | .nilIface => match zeroOf P T with | some z => some (z, false) | none => none
  | _ => none
def asv (P : Program) (T : TypeId) (ok : Bool) (v : Value) (K : Value → Prop) : Prop :=
  match P.underlying T with
  | some (.interface _) => False
  | some _ => anyOf P T fun x => match ok with
    | true => ∃ t : Bool, asr P T v = some (x, t) ∧ K (.tuple #[x, .bool t])
    | false => asr P T v = some (x, true) ∧ K x
  | none => False
def mobj (h : Heap) (m : Option Nat) : Option (List MapEntry × Nat) :=
  match m with
  | none => some ([], 0)
  | some r => match h[r]? with
    | some (.map es c) => some (es.toList, c)
    | _ => none
def lkr (P : Program) (t : TypeId) (x k : Value) (h : Heap) : Option (Value × Bool) :=
  match P.underlying t, x with
  | some (.map key elem), .map m => match P.underlying key, mobj h m with
    | some (.int ki), some (es, _) => match Instr.findNow (.int ki) k es 0 with
      | some (some (_, v)) => some (v, true)
      | some none => match zeroOf P elem with
        | some z => some (z, false)
        | none => none
      | none => none
    | _, _ => none
  | _, _ => none
def lkv (P : Program) (t : TypeId) (x k : Value) (ok : Bool) (h : Heap) (K : Value → Prop) : Prop :=
  match P.underlying t with
  | some (.map _ elem) => anyOf P elem fun v => ∃ b : Bool, lkr P t x k h = some (v, b) ∧ match ok with
    | true => K (.tuple #[v, .bool b])
    | false => K v
  | _ => False
def mups (es : List MapEntry) (c : Nat) (k v : Value) : Option (Nat × Value) → List MapEntry × Nat
  | some (i, _) => (es.modify i fun e => { e with key := k, val := v }, c)
  | none => (es ++ [{ key := k, val := v, born := c }], c + 1)
def mupv (P : Program) (t : TypeId) (m k v : Value) (h : Heap) (K : Heap → Prop) : Prop :=
  match P.underlying t, m with
  | some (.map key _), .map (some r) => match P.underlying key with
    | some (.int ki) => ∃ (es : List MapEntry) (c : Nat) (f : Option (Nat × Value)), mobj h (some r) = some (es, c) ∧ Instr.findNow (.int ki) k es 0 = some f ∧
        ∀ h1, h1 = h.setIfInBounds r (.map (mups es c k v f).1.toArray (mups es c k v f).2) → K h1
    | _ => False
  | _, _ => False
def mdels (es : List MapEntry) : Option (Nat × Value) → List MapEntry
  | some (i, _) => es.eraseIdx i
  | none => es
def mdelv (P : Program) (t : TypeId) (m k : Value) (h : Heap) (K : Heap → Prop) : Prop :=
  match P.underlying t, m with
  | some (.map key _), .map (some r) => match P.underlying key with
    | some (.int ki) => ∃ (es : List MapEntry) (c : Nat) (f : Option (Nat × Value)), mobj h (some r) = some (es, c) ∧ Instr.findNow (.int ki) k es 0 = some f ∧
        ∀ h1, h1 = h.setIfInBounds r (.map (mdels es f).toArray c) → K h1
    | _ => False
  | some (.map key _), .map none => match P.underlying key with
    | some (.int _) => K h
    | _ => False
  | _, _ => False
def mlen (h : Heap) (m : Value) (K : Nat → Prop) : Prop :=
  match m with
  | .map m => ∃ (es : List MapEntry) (c : Nat), mobj h m = some (es, c) ∧ K es.length
  | _ => False
def isMp (P : Program) (ts : List TypeId) : Bool := match ts with
  | [t] => match P.underlying t with | some (.map _ _) => true | _ => false
  | _ => false
def rngv (P : Program) (t : TypeId) (x : Value) (h : Heap) (K : Nat → Heap → Prop) : Prop :=
  match P.underlying t, x with
  | some (.map _ _), .map m => ∃ (es : List MapEntry) (c : Nat), mobj h m = some (es, c) ∧
      ∀ b h1, b = h.size → h1 = h.push (.mapIter m c #[] c) → K b h1
  | _, _ => False
def nxv (b : Nat) (h : Heap) (over : Prop) (nx : MapEntry → Heap → Prop) : Prop :=
  ∃ (m : Option Nat) (since : Nat) (seen : Array Nat) (last : Nat) (es : List MapEntry) (c : Nat), h[b]? = some (.mapIter m since seen last) ∧ mobj h m = some (es, c) ∧
    (∀ e ∈ es, e.born < since) ∧ since ≤ last ∧ ((∀ e ∈ es, e.born ∈ seen.toList) → over) ∧
    ∀ e ∈ es, e.born ∉ seen.toList → ∀ h1, h1 = h.setIfInBounds b (.mapIter m since (seen.push e.born) c) → nx e h1
def entv (b : Nat) (h : Heap) (K : Value → Value → Prop) : Prop :=
  ∃ (r since : Nat) (seen : Array Nat) (stamp : Nat) (es : List MapEntry) (c : Nat) (e : MapEntry), h[b]? = some (.mapIter (some r) since seen c) ∧ seen.back? = some stamp ∧ mobj h (some r) = some (es, c) ∧
    es.find? (·.born == stamp) = some e ∧ K e.key e.val
def rd (P : Program) (x : Md) (ρ : Operand → Value) (op : Op) (h : Heap) (K : Value → Prop) : Prop :=
  match op with
  | .move a => K (ρ a)
  | .assign a => namev x.nm (ρ a) K
  | .pick c a b => match ρ c with | .bool t => bcase t (K (ρ a)) (K (ρ b)) | _ => False
  | .binOp op t a b _ => bino P x.ex op t a b (ρ a) (ρ b) K
  | .unOp op _ a => unv x.ex op (ρ a) K
  | .convert s d a => convv P x.ex s d (ρ a) K
  | .nilCheck a => match ρ a with
    | .pointer p => onAddr p fun b o => K (.pointer (some ⟨b, o, none⟩))
    | _ => False
  | .fieldAddr t a f => onPtr (ρ a) fun b o => fieldOff P t f fun off _ => K (.pointer (some ⟨b, o + off, none⟩))
  | .field t a f => fieldOff P t f fun off ty => aggv P ty (ρ a) off K
  | .indexAddr t a i => match ρ i with
    | .int _ n => match P.underlying t, ρ a with
      | some (.array len e), v => match hasInfo P e with
        | true => onPtr v fun b o => (0 ≤ n ∧ n < (len : Int)) ∧ K (.pointer (some ⟨b, o + mulc (sz P e) n.toNat, none⟩))
        | false => False
      | some (.slice e), .slice p len _ => match hasInfo P e with
        | true => (0 ≤ n ∧ n < (len : Int)) ∧ onAddr p fun b o => K (.pointer (some ⟨b, o + mulc (sz P e) n.toNat, none⟩))
        | false => False
      | _, _ => False
    | _ => False
  | .load t a => onPtr (ρ a) fun b o => ldv P t h b o K
  | .index t a i => match ρ i with
    | .int _ n => match P.underlying t, ρ a with
      | some (.array len e), v => match hasInfo P e with
        | true => (0 ≤ n ∧ n < (len : Int)) ∧ aggv P e v (mulc (sz P e) n.toNat) K
        | false => False
      | some .string, .string s => (0 ≤ n ∧ n < (s.size : Int)) ∧ K (.int .u8 (strAt s n.toNat))
      | _, _ => False
    | _ => False
  | .extract a i => match ρ a with
    | .tuple vs => match vs.toList[i]? with | some v => K v | none => False
    | _ => False
  | .slice t a lo hi none => slicev P t (ρ a) (lo.map ρ) (hi.map ρ) K
  | .slice t a lo hi (some mx) => slice3v P t (ρ a) (lo.map ρ) (hi.map ρ) (ρ mx) K
  | .typeAssert a _ T ok => asv P T ok (ρ a) K
  | .makeInterface t a => match P.underlying t with | some (.interface _) => False | some _ => K (.iface t (ρ a)) | none => False
  | .makeFunc f a b => K (.func f (a.map ρ) (b.map ρ))
  | .build t parts => buildv P t (parts.toList.map fun (i, x) => (i, ρ x)) K
  | .call ⟨.builtin b, args, ts⟩ => bltv P b ts.toList (args.toList.map ρ) K
  | _ => False
def rdh (P : Program) (x : Md) (ρ : Operand → Value) (op : Op) (h : Heap) (K : Value → Prop) : Prop :=
  match op with
  | .binOp op t a b ty => match isIf P t with
    | true => binh P op a b (ρ a) (ρ b) h K
    | false => match isPt P t && !(isConst a || isConst b) with
      | true => binp P op t (ρ a) (ρ b) h K
      | false => rd P x ρ (.binOp op t a b ty) h K
  | .call ⟨.builtin .len, args, ts⟩ => match isMp P ts.toList with
    | true => match args.toList.map ρ with
      | [m] => mlen h m fun n => K (.int .i64 (n : Nat))
      | _ => False
    | false => rd P x ρ (.call ⟨.builtin .len, args, ts⟩) h K
  | op => rd P x ρ op h K
def isCv (P : Program) (s d : TypeId) : Bool := match P.underlying s, P.underlying d with
  | some .string, some (.slice _) => true
  | some (.slice _), some .string => true
  | _, _ => false
def isRd (P : Program) : Op → Bool
  | .convert s d _ => !isCv P s d
  | .move _ | .assign _ | .pick .. | .binOp .. | .unOp .. | .nilCheck _ | .fieldAddr .. | .field .. | .indexAddr .. | .index .. | .load .. | .extract .. | .typeAssert .. | .makeInterface .. | .makeFunc .. | .build .. => true
  | .slice _ _ _ _ _ => true
  | .call ⟨.builtin .len, _, _⟩ | .call ⟨.builtin .cap, _, _⟩ | .call ⟨.builtin .min, _, _⟩ | .call ⟨.builtin .max, _, _⟩ => true
  | _ => false

def wrs (h : Heap) (b o n : Nat) : Prop := ∃ c e lo hi, h[b]? = some (.cells c e (lo, hi)) ∧ o + n ≤ c.size ∧ (n = 0 ∨ hi ≤ o ∨ o + n ≤ lo ∨ hi ≤ lo)
def alc (h : Heap) (T : TypeId) (vs : List Value) (K : Nat → Heap → Prop) : Prop := ∀ b h1, b = h.size → h1 = h.push (.cells vs.toArray T) → K b h1
def zerov (P : Program) (t : TypeId) (K : Value → Prop) : Prop :=
  match P.info? t with
  | some i => match i.zero with
    | some z => K z
    | none => False
  | none => False
def stv (P : Program) (t : TypeId) (h : Heap) (b o : Nat) (v : Value) (K : Heap → Prop) : Prop :=
  match P.underlying t with
  | some (.struct _) | some (.array _ _) => match hasInfo P t, v with
    | true, .agg cs => (cs.toList.length = sz P t ∧ wrs h b o (sz P t) ∧ ∀ u ∈ cs.toList, u.oneCell' = true) ∧ ∀ h1, h1 = setr h b o cs.toList → K h1
    | _, _ => False
  | some _ => match hasInfo P t, sz P t with
    | true, 1 => okc v (wr h b o ∧ ∀ h1, h1 = setc h b o v → K h1)
    | _, _ => False
  | none => False
def src (h : Heap) (a : Option Addr) (n : Nat) (cs : List Value) : Prop :=
  match a with
  | none => cs = []
  | some ⟨b, o, none⟩ => row h b o n = some cs
  | some ⟨_, _, some _⟩ => n = 0 ∧ cs = []
def bytesOf (P : Program) (t : TypeId) : Nat := match P.info? t with | some i => i.bytes | none => 0
def zok (P : Program) (t : TypeId) : Bool :=
  match P.info? t with
  | some i => match i.zero with
    | some z => Nat.beq z.cells.toList.length i.size
    | none => false
  | none => false
def appIn (a : Option Addr) (X : Prop) (K : Nat → Nat → Prop) : Prop :=
  match a with
  | none => X
  | some ⟨b, o, none⟩ => K b o
  | _ => False
def appv (P : Program) (T : TypeId) (s x : Value) (h : Heap) (K : Value → Heap → Prop) : Prop :=
  match P.underlying T with
  | some (.slice e) => match zok P e, s, x with
    | true, .slice a len cap, .slice a2 len2 _ =>
      ∃ news : List Value, (src h a2 (len2 * sz P e) news ∧ ∀ u ∈ news, u.oneCell' = true) ∧
        (len + len2 ≤ cap → appIn a (K (.slice none (len + len2) cap) h) fun b o =>
          wrs h b (o + len * sz P e) news.length ∧ ∀ h1, h1 = setr h b (o + len * sz P e) news → K (.slice (some ⟨b, o, none⟩) (len + len2) cap) h1) ∧
        (cap < len + len2 → ((len + len2) * bytesOf P e ≤ 140737488355328 ∧ 0 < bytesOf P e) ∧ ∃ olds : List Value, src h a (len * sz P e) olds ∧
          ∀ (ncap : Nat) (zs : List Value) b h1, len + len2 ≤ ncap → zs.length = (ncap - (len + len2)) * sz P e → b = h.size → h1 = h.push (.cells (olds ++ news ++ zs).toArray e) →
            K (.slice (some ⟨b, 0, none⟩) (len + len2) ncap) h1)
    | _, _, _ => False
  | _ => False
def apmv (P : Program) (T : TypeId) (s x : Value) (h : Heap) (K : Value → Heap → Prop) : Prop :=
  match P.underlying T with
  | some (.slice e) => match zok P e, s, x with
    | true, .slice a len cap, .int .i64 n => (0 ≤ n ∧ n.toNat * bytesOf P e ≤ 281474976710656 ∧ n.toNat ≤ 9223372036854775807) ∧ zerov P e fun z => (∀ u ∈ z.cells.toList, u.oneCell' = true) ∧
        (len + n.toNat ≤ cap → appIn a (K (.slice none (len + n.toNat) cap) h) fun b o =>
          wrs h b (o + len * sz P e) (joinL (List.replicate n.toNat z.cells.toList)).length ∧ ∀ h1, h1 = setr h b (o + len * sz P e) (joinL (List.replicate n.toNat z.cells.toList)) → K (.slice (some ⟨b, o, none⟩) (len + n.toNat) cap) h1) ∧
        (cap < len + n.toNat → ((len + n.toNat) * bytesOf P e ≤ 140737488355328 ∧ 0 < bytesOf P e) ∧ ∃ olds : List Value, src h a (len * sz P e) olds ∧
          ∀ (ncap : Nat) (zs : List Value) b h1, len + n.toNat ≤ ncap → zs.length = (ncap - (len + n.toNat)) * sz P e → b = h.size → h1 = h.push (.cells (olds ++ joinL (List.replicate n.toNat z.cells.toList) ++ zs).toArray e) →
            K (.slice (some ⟨b, 0, none⟩) (len + n.toNat) ncap) h1)
    | _, _, _ => False
  | _ => False
def appK (h : Heap) (a : Option Addr) (len cap k sz e bytes : Nat) (news : List Value) (K : Option Addr → Nat → Heap → Prop) : Prop :=
  (len + k ≤ cap → appIn a (K none cap h) fun b o => wrs h b (o + len * sz) news.length ∧ ∀ h1, h1 = setr h b (o + len * sz) news → K (some ⟨b, o, none⟩) cap h1) ∧
  (cap < len + k → ((len + k) * bytes ≤ 140737488355328 ∧ 0 < bytes) ∧ ∃ olds : List Value, src h a (len * sz) olds ∧
    ∀ (ncap : Nat) (zs : List Value) b h1, len + k ≤ ncap → zs.length = (ncap - (len + k)) * sz → b = h.size → h1 = h.push (.cells (olds ++ news ++ zs).toArray e) → K (some ⟨b, 0, none⟩) ncap h1)
def bslv (P : Program) (t : TypeId) (len : Nat) (parts : List (Nat × Value)) (h : Heap) (K : Value → Heap → Prop) : Prop :=
  match P.underlying t with
  | some (.slice e) => match zok P e, Nat.ble (len * sz P e) 16777216 with
    | true, true => zerov P e fun z => putParts (List.replicate len (sz P e)) parts (List.replicate len z.cells.toList) fun ch =>
      alc h e (joinL ch) fun b h1 => K (.slice (some ⟨b, 0, none⟩) len len) h1
    | _, _ => False
  | _ => False
def mslv (P : Program) (t : TypeId) (l c : Value) (h : Heap) (K : Value → Heap → Prop) : Prop :=
  match P.underlying t with
  | some (.slice e) => match zok P e, l, c with
    | true, .int _ l, .int _ c => (0 ≤ l ∧ l ≤ c ∧ ((bytesOf P e : Nat) : Int) * c ≤ 281474976710656 ∧ c ≤ 9223372036854775807) ∧
      zerov P e fun z => alc h e (joinL (List.replicate c.toNat z.cells.toList)) fun b h1 => K (.slice (some ⟨b, 0, none⟩) l.toNat c.toNat) h1
    | _, _, _ => False
  | _ => False
def cpIn (a : Option Addr) (h : Heap) (vs : List Value) (K : Heap → Prop) : Prop :=
  match a with
  | none => K h
  | some ⟨b, o, none⟩ => wrs h b o vs.length ∧ ∀ h1, h1 = setr h b o vs → K h1
  | _ => False
def clrv (P : Program) (T : TypeId) (s : Value) (h : Heap) (K : Heap → Prop) : Prop :=
  match P.underlying T, s with
  | some (.slice e), .slice a len _ => match len with
    | 0 => K h
    | len + 1 => zerov P e fun z => (∀ u ∈ z.cells.toList, u.oneCell' = true) ∧ cpIn a h (joinL (List.replicate (len + 1) z.cells.toList)) K
  | _, _ => False
def copyv (P : Program) (T : TypeId) (d s : Value) (h : Heap) (K : Value → Heap → Prop) : Prop :=
  match P.underlying T with
  | some (.slice e) => match hasInfo P e, d, s with
    | true, .slice a len _, .slice a2 len2 _ =>
      ∃ news : List Value, (src h a2 (min len2 len * sz P e) news ∧ ∀ u ∈ news, u.oneCell' = true) ∧ cpIn a h news fun h1 => K (.int .i64 (min len2 len : Nat)) h1
    | _, _, _ => False
  | _ => False
def bodied (P : Program) (f : FuncId) : Bool := match P.funcs[f]? with | some fn => !(fn.name == "runtime.NumGoroutine") && fn.body.isSome | none => false
def callv (P : Program) (f : Value) (args : List Value) (h : Heap) (K : Value → Heap → Prop) : Prop :=
  match f with
  | .func (.func g) first captured => match bodied P g with
    | true => Runs P g (first.toList ++ (args ++ captured.toList)).toArray h K
    | false => False
  | _ => False
def mth (P : Program) (t : TypeId) (name : String) : Option FuncId :=
  match P.info? t with
  | some i => match i.methods.find? (·.name == name) with
    | some m => match m.path.toList, m.func, P.underlying t with
      | [], some (f, true), some (.pointer _) => some f
      | _, _, _ => none
    | none => none
  | none => none
def ivk (P : Program) (v : Value) (name : String) (args : List Value) (h : Heap) (K : Value → Heap → Prop) : Prop :=
  match v with
  | .iface t x => ∃ f, mth P t name = some f ∧ bodied P f = true ∧ Runs P f (x :: args).toArray h K
  | _ => False
def anyOfs (P : Program) : List TypeId → (List Value → Prop) → Prop
  | [], K => K []
  | t :: r, K => anyOf P t fun v => anyOfs P r fun vs => K (v :: vs)
def typ (P : Program) (t : TypeId) (v : Value) (K : Value → Prop) : Prop :=
  match P.underlying t with
  | some (.tuple ts) => match ts.toList with
    | [] => K v
    | t1 :: r => anyOfs P (t1 :: r) fun vs => v = .tuple vs.toArray ∧ K (.tuple vs.toArray)
  | _ => anyOf P t fun u => v = u ∧ K u
def rawv (P : Program) (ρ : Operand → Value) (op : Op) (ty : TypeId) (h : Heap) (K : Value → Heap → Prop) : Prop :=
  ∀ (w : World) (o : Oper), o.op = op → o.type = ty → w.heap = h → ∃ v w', ((execOp ρ o).run P w = .ok (.value v) w' ∨ (execOp ρ o).run P w = .ok .skip w' ∧ v = undef) ∧ Same w w' ∧ K v w'.heap
def byteV (b : UInt8) : Value := .int .u8 (b.toNat : Nat)
def cvv (P : Program) (s d : TypeId) (v : Value) (h : Heap) (K : Value → Heap → Prop) : Prop :=
  match P.underlying s, P.underlying d, v with
  | some .string, some (.slice e), .string x => match P.underlying e with
    | some (.int .u8) => ∀ (ncap : Nat) (zs : List Value) (b : Nat) (h1 : Heap), x.size ≤ ncap → zs.length = ncap - x.size → b = h.size → h1 = h.push (.cells (x.data.toList.map byteV ++ zs).toArray e (ncap, ncap + 1)) → K (.slice (some ⟨b, 0, none⟩) x.size ncap) h1
    | _ => False
  | some (.slice e), some .string, .slice a len _ => match P.underlying e with
    | some (.int .u8) => ∃ xs : List UInt8, src h a len (xs.map byteV) ∧ K (.string ⟨xs.toArray⟩) h
    | _ => False
  | _, _, _ => False
def ef (P : Program) (x : Md) (ρ : Operand → Value) (op : Op) (ty : TypeId) (h : Heap) (K : Value → Heap → Prop) : Prop :=
  match op with
  | .alloc e => zerov P e fun z => alc h e z.cells.toList fun b h1 => K (.pointer (some ⟨b, 0, none⟩)) h1
  | .box e a => alc h e (ρ a).cells.toList fun b h1 => K (.pointer (some ⟨b, 0, none⟩)) h1
  | .store t a v => onPtr (ρ a) fun b o => stv P t h b o (ρ v) fun h1 => K undef h1
  | .call ⟨.value f, args, _⟩ => callv P (ρ f) (args.toList.map ρ) h fun v h1 => typ P ty v fun u => K u h1
  | .call ⟨.invoke r name, args, _⟩ => ivk P (ρ r) name (args.toList.map ρ) h fun v h => typ P ty v fun u => K u h
  | .call ⟨.builtin .append, args, ts⟩ => match args.toList.map ρ, ts.toList with
    | [s, y], [T, T2] => match P.underlying T2 with
      | some (.slice _) => appv P T s y h K
      | some (.int _) => apmv P T s y h K
      | _ => False
    | _, _ => False
  | .buildSlice t len parts => bslv P t len (parts.toList.map fun (i, x) => (i, ρ x)) h K
  | .makeSlice t l c => mslv P t (ρ l) (ρ c) h K
  | .call ⟨.builtin .copy, args, ts⟩ => match args.toList.map ρ, ts.toList with
    | [d, s], [T, T2] => copyv P T d s h K
    | _, _ => False
  | .convert s d a => cvv P s d (ρ a) h K
  | .makeMap t none => ∀ b h1, b = h.size → h1 = h.push (.map #[] 0) → K (.map (some b)) h1
  | .makeMap t (some r) => match ρ r with
    | .int _ _ => match P.underlying t with
      | some (.map _ _) => ∀ b h1, b = h.size → h1 = h.push (.map #[] 0) → K (.map (some b)) h1
      | _ => False
    | _ => False
  | .lookup t a i ok => lkv P t (ρ a) (ρ i) ok h fun v => K v h
  | .mapUpdate t m k v => mupv P t (ρ m) (ρ k) (ρ v) h fun h1 => K undef h1
  | .call ⟨.builtin .delete, args, ts⟩ => match args.toList.map ρ, ts.toList with
    | [m, k], t :: _ => mdelv P t m k h fun h1 => K (.tuple #[]) h1
    | _, _ => False
  | .range t a => rngv P t (ρ a) h fun b h1 => K (.pointer (some ⟨b, 0, none⟩)) h1
  | .next a str => match str with
    | false => onPtr (ρ a) fun b o => o = 0 ∧ nxv b h (K (.tuple #[.bool false]) h) fun e h1 => K (.tuple #[.bool true, e.key, e.val]) h1
    | true => False
  | .entry a => onPtr (ρ a) fun b o => o = 0 ∧ entv b h fun k v => K (.tuple #[k, v]) h
  | .panic _ => False
  | .call ⟨.builtin .clear, args, ts⟩ => match args.toList.map ρ, ts.toList with
    | [s], [T] => clrv P T s h fun h1 => K undef h1
    | _, _ => False
  | _ => rawv P ρ op ty h K
end Go.Vc
