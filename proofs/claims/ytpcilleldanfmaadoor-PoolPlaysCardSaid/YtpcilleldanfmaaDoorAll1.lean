/- The texts of this proof, laid together (part 1). -/
import Derived.WalkKit
import Derived.Deep.Quiet
import Derived.LaidEql
import Derived.Laws.Tables
import Derived.Laws.MakeOwn
import Derived.Deep.LoopGhost
import Derived.OrdersHeld
import Derived.Below
/- A reckoner of conditions: what must hold of the heap so that a piece of the model's code runs and ends as wished. Definitions. No program is named here. -/
set_option linter.unusedVariables false
set_option linter.unusedSimpArgs false
namespace Go.Vc

abbrev Heap := Array Obj
abbrev Env := Nat → Value

def cell (h : Heap) (b o : Nat) : Option Value :=
  match h[b]? with
  | some (.cells c _ _) => c[o]?
  | _ => none
def wr (h : Heap) (b o : Nat) : Prop := ∃ c e lo hi, h[b]? = some (.cells c e (lo, hi)) ∧ o < c.size ∧ ¬ (lo ≤ o ∧ o < hi)
def setc (h : Heap) (b o : Nat) (v : Value) : Heap := h.modify b fun
  | .cells c e f => .cells (c.setIfInBounds o v) e f
  | x => x
def setr (h : Heap) (b o : Nat) : List Value → Heap
  | [] => h
  | v :: vs => setr (setc h b o v) b (o + 1) vs
def row (h : Heap) (b o : Nat) : Nat → Option (List Value)
  | 0 => some []
  | n + 1 => match cell h b o, row h b (o + 1) n with
    | some v, some r => some (v :: r)
    | _, _ => none

structure Same (w w' : World) : Prop where
  os : w'.os = w.os
  tape : w'.tape = w.tape
  output : w'.output = w.output
  drawn : w.drawn ≤ w'.drawn
theorem Same.refl (w : World) : Same w w := ⟨rfl, rfl, rfl, Nat.le_refl _⟩
theorem Same.trans {a b c : World} (h : Same a b) (k : Same b c) : Same a c := ⟨k.os.trans h.os, k.tape.trans h.tape, k.output.trans h.output, Nat.le_trans h.drawn k.drawn⟩

/-- The call returns a value and leaves a heap as 'Post' says, whatever the world around the heap. -/
def Runs (P : Program) (f : FuncId) (args : Array Value) (h : Heap) (Post : Value → Heap → Prop) : Prop :=
  ∀ w : World, w.heap = h → Calls P f args w fun e w' => ∃ v, e = .returned v ∧ Post v w'.heap ∧ Same w w'
theorem Runs.mono {P : Program} {f : FuncId} {args : Array Value} {h : Heap} {Post Post' : Value → Heap → Prop} (hr : Runs P f args h Post)
    (hp : ∀ v h', Post v h' → Post' v h') : Runs P f args h Post' :=
  fun w hw => (hr w hw).mono fun _ _ ⟨v, e, p, s⟩ => ⟨v, e, hp _ _ p, s⟩

def upd (t : Env) (d : Nat) (v : Value) : Env := fun n => bif Nat.beq n d then v else t n
def put (N : Nat) (t : Env) (dst : Option Nat) (v : Value) (K : Env → Prop) : Prop :=
  match dst with
  | none => K t
  | some d => match Nat.blt d N with
    | true => K (upd t d v)
    | false => False
def ev (t : Env) : Operand → Value
  | .tmp n => t n
  | .const v => v
  | .global g => .pointer (some ⟨g, 0, none⟩)
  | .func f => .func (.func f) #[] #[]

def bcase (b : Bool) (x y : Prop) : Prop := match b with | true => x | false => y
theorem bcase_intro {b : Bool} {x y : Prop} (hx : b = true → x) (hy : b = false → y) : bcase b x y := by
  cases b
  · exact hy rfl
  · exact hx rfl
theorem dcase_intro {p : Prop} [Decidable p] {x y : Prop} (hx : p → x) (hy : ¬ p → y) : bcase (decide p) x y := by
  by_cases h : p
  · rw [show decide p = true by simp [h]]; exact hx h
  · rw [show decide p = false by simp [h]]; exact hy h
theorem bcase_true {b : Bool} {x y : Prop} (h : b = true) (hx : x) : bcase b x y := by subst h; exact hx
theorem bcase_false {b : Bool} {x y : Prop} (h : b = false) (hy : y) : bcase b x y := by subst h; exact hy
theorem dcase_pos {p : Prop} [Decidable p] {x y : Prop} (h : p) (hx : x) : bcase (decide p) x y := dcase_intro (fun _ => hx) (fun k => absurd h k)
theorem dcase_neg {p : Prop} [Decidable p] {x y : Prop} (h : ¬ p) (hy : y) : bcase (decide p) x y := dcase_intro (fun k => absurd k h) (fun _ => hy)

def onAddr (p : Option Addr) (K : Nat → Nat → Prop) : Prop :=
  match p with
  | some ⟨b, o, none⟩ => K b o
  | _ => False
theorem onAddr_intro {p : Option Addr} {b o : Nat} {K : Nat → Nat → Prop} (hp : p = some ⟨b, o, none⟩) (h : K b o) : onAddr p K := by subst hp; exact h
def onPtr (v : Value) (K : Nat → Nat → Prop) : Prop :=
  match v with
  | .pointer p => onAddr p K
  | _ => False

def fits (k : IntKind) (n : Int) : Prop :=
  match k with
  | .i8 => -128 ≤ n ∧ n ≤ 127
  | .i16 => -32768 ≤ n ∧ n ≤ 32767
  | .i32 => -2147483648 ≤ n ∧ n ≤ 2147483647
  | .i64 => -9223372036854775808 ≤ n ∧ n ≤ 9223372036854775807
  | .u8 => 0 ≤ n ∧ n ≤ 255
  | .u16 => 0 ≤ n ∧ n ≤ 65535
  | .u32 => 0 ≤ n ∧ n ≤ 4294967295
  | .u64 => 0 ≤ n ∧ n ≤ 18446744073709551615
def kbits (k : IntKind) : Nat :=
  match k with
  | .i8 => 8 | .u8 => 8 | .i16 => 16 | .u16 => 16 | .i32 => 32 | .u32 => 32 | .i64 => 64 | .u64 => 64
def keq (a b : IntKind) : Bool :=
  match a, b with
  | .i8, .i8 => true | .i16, .i16 => true | .i32, .i32 => true | .i64, .i64 => true
  | .u8, .u8 => true | .u16, .u16 => true | .u32, .u32 => true | .u64, .u64 => true
  | _, _ => false
/-- The sum 'e' as a number of kind k: exact (and then it must fit), or wrapped. -/
def arith (x : Bool) (k : IntKind) (e : Int) (K : Value → Prop) : Prop :=
  match x with
  | true => fits k e ∧ K (.int k e)
  | false => K (.int k (k.wrap e))
/-- A shift's count: a literal's power is reckoned. -/
def pow2 (n : Int) : Int := 2 ^ n.toNat
def iop (x : Bool) (op : BinOp) (k : IntKind) (m n : Int) (K : Value → Prop) : Prop :=
  match op with
  | .add => arith x k (m + n) K
  | .sub => arith x k (m - n) K
  | .mul => arith x k (m * n) K
  | .quo => match x with
    | true => (0 ≤ m ∧ 0 < n ∧ fits k (m / n)) ∧ K (.int k (m / n))
    | false => n ≠ 0 ∧ K (.int k (k.wrap (m.tdiv n)))
  | .rem => match x with
    | true => (0 ≤ m ∧ 0 < n) ∧ K (.int k (m % n))
    | false => n ≠ 0 ∧ K (.int k (m.tmod n))
  | .and => K (.int k (bits .and k m n))
  | .or => K (.int k (bits .or k m n))
  | .xor => K (.int k (bits .xor k m n))
  | .andNot => K (.int k (bits .andNot k m n))
  | .eql => K (.bool (decide (m = n)))
  | .neq => K (.bool (!decide (m = n)))
  | .lss => K (.bool (decide (m < n)))
  | .leq => K (.bool (decide (m ≤ n)))
  | .gtr => K (.bool (decide (n < m)))
  | .geq => K (.bool (decide (n ≤ m)))
  | _ => False
def shop (x : Bool) (op : BinOp) (k : IntKind) (m n : Int) (K : Value → Prop) : Prop :=
  match op with
  | .shl => (0 ≤ n ∧ n ≤ kbits k) ∧ arith x k (m * pow2 n) K
  | .shr => (0 ≤ n ∧ n ≤ kbits k) ∧ K (.int k (m / pow2 n))
  | _ => False
def isNilAddr (p : Option Addr) : Bool := match p with | none => true | some _ => false
def binv (P : Program) (x : Bool) (op : BinOp) (t : TypeId) (a b : Value) (K : Value → Prop) : Prop :=
  match a, b with
  | .int k m, .int k' n => match op with
    | .shl => shop x .shl k m n K
    | .shr => shop x .shr k m n K
    | op => match keq k k' with | true => iop x op k m n K | false => False
  | .bool m, .bool n => match P.underlying t, op with
    | some .bool, .eql => K (.bool (m == n))
    | some .bool, .neq => K (.bool (!(m == n)))
    | _, _ => False
  | .string m, .string n => match op with
    | .eql => K (.bool (m.toList == n.toList))
    | .neq => K (.bool (!(m.toList == n.toList)))
    | _ => False
  | .pointer p, .pointer none => match P.underlying t, op with
    | some (.pointer _), .eql => K (.bool (isNilAddr p))
    | some (.pointer _), .neq => K (.bool (!isNilAddr p))
    | _, _ => False
  | .slice p _ _, .slice none _ _ => match P.underlying t, op with
    | some (.slice _), .eql => K (.bool (isNilAddr p))
    | some (.slice _), .neq => K (.bool (!isNilAddr p))
    | _, _ => False
  | _, _ => False
/-- Are two interface values the same, where that is plain: one is nil, or their types are unlike. -/
def ifeq (c : Bool) (a b : Value) : Option Bool :=
  match a, b with
  | .nilIface, .nilIface => match c with | true => some true | false => none
  | .nilIface, .iface _ _ => some false
  | .iface _ _, .nilIface => some false
  | _, _ => none
def isConst : Operand → Bool | .const _ => true | _ => false
def bino (P : Program) (x : Bool) (op : BinOp) (t : TypeId) (xo yo : Operand) (a b : Value) (K : Value → Prop) : Prop :=
  match P.underlying t with
  | some (.interface _) => match op with
    | .eql => ∃ c : Bool, ifeq (isConst xo || isConst yo) a b = some c ∧ K (.bool c)
    | .neq => ∃ c : Bool, ifeq (isConst xo || isConst yo) a b = some c ∧ K (.bool (!c))
    | _ => False
  | _ => binv P x op t a b K
/-- A block of plain cells. -/
def plainB (h : Heap) (b : Nat) : Bool := match h[b]? with | some (.cells _ _ (lo, hi)) => Nat.beq lo 0 && Nat.beq hi 0 | _ => false
def sameA (h : Heap) (p q : Addr) : Option Bool := if p = q then some true else match plainB h p.block && plainB h q.block with | true => some false | false => none
/-- Pointers of this type are compared by their addresses. -/
def ptrOk (P : Program) (u : TypeId) : Bool := match P.underlying u with
  | some (.pointer e) => (match P.info? u with | some i => i.comparable | none => false) && (match P.info? e with | some j => !Nat.beq j.size 0 | none => false)
  | _ => false
/-- Are two interface values the same, over a heap: also where both hold pointers. -/
def ifeqH (P : Program) (h : Heap) (c : Bool) (a b : Value) : Option Bool :=
  match a, b with
  | .iface u x, .iface v y => match Nat.beq u v with
    | false => some false
    | true => match ptrOk P u, x, y with
      | true, .pointer (some p), .pointer (some q) => sameA h p q
      | _, _, _ => none
  | a, b => ifeq c a b
def isIf (P : Program) (t : TypeId) : Bool := match P.underlying t with | some (.interface _) => true | _ => false
def binh (P : Program) (op : BinOp) (xo yo : Operand) (a b : Value) (h : Heap) (K : Value → Prop) : Prop :=
  match op with
  | .eql => ∃ c : Bool, ifeqH P h (isConst xo || isConst yo) a b = some c ∧ K (.bool c)
  | .neq => ∃ c : Bool, ifeqH P h (isConst xo || isConst yo) a b = some c ∧ K (.bool (!c))
  | _ => False
def unv (x : Bool) (op : UnOp) (a : Value) (K : Value → Prop) : Prop :=
  match op, a with
  | .not, .bool b => K (.bool (!b))
  | .neg, .int k n => arith x k (0 - n) K
  | _, _ => False
def convv (P : Program) (x : Bool) (s d : TypeId) (a : Value) (K : Value → Prop) : Prop :=
  match P.underlying s, P.underlying d, a with
  | some (.int _), some (.int k), .int _ n => arith x k n K
  | _, _, _ => False
def mulc (s n : Nat) : Nat := match s with | 1 => n | s => n * s
/-- Cells of a type, of how many. -/
def sz (P : Program) (t : TypeId) : Nat := match P.info? t with | some i => i.size | none => 0
def hasInfo (P : Program) (t : TypeId) : Bool := match P.info? t with | some _ => true | none => false
def fieldOff (P : Program) (t : TypeId) (f : Nat) (K : Nat → TypeId → Prop) : Prop :=
  match P.underlying t with
  | some (.struct fs) => match fs[f]? with
    | some fd => match hasInfo P fd.type, sz P fd.type with
      | true, _ + 1 => K fd.offset fd.type
      | _, _ => False
    | none => False
  | _ => False
/-- A cell that holds a value of a type of one cell. -/
def one (d : TypeDesc) (c : Option Value) (K : Value → Prop) : Prop :=
  match d with
  | .int k => ∃ n : Int, c = some (.int k n) ∧ K (.int k n)
  | .bool => ∃ b : Bool, c = some (.bool b) ∧ K (.bool b)
  | .pointer _ => ∃ p : Option Addr, c = some (.pointer p) ∧ K (.pointer p)
  | .slice _ => ∃ (p : Option Addr) (l m : Nat), c = some (.slice p l m) ∧ K (.slice p l m)
  | .string => ∃ s : ByteArray, c = some (.string s) ∧ K (.string s)
  | _ => ∃ v : Value, c = some v ∧ K v
def ldv (P : Program) (t : TypeId) (h : Heap) (b o : Nat) (K : Value → Prop) : Prop :=
  match P.underlying t with
  | some (.struct _) | some (.array _ _) => match hasInfo P t with
    | true => ∃ cs : List Value, row h b o (sz P t) = some cs ∧ K (.agg cs.toArray)
    | false => False
  | some d => one d (cell h b o) K
  | none => False
def aggv (P : Program) (t : TypeId) (a : Value) (off : Nat) (K : Value → Prop) : Prop :=
  match a with
  | .agg cs => match P.underlying t with
    | some (.struct _) | some (.array _ _) => match hasInfo P t with
      | true => K (.agg ((cs.toList.drop off).take (sz P t)).toArray)
      | false => False
    | some d => one d (cs.toList[off]?) K
    | none => False
  | _ => False
def slcAddr (a : Option Addr) (l cap n : Nat) : Option Addr := if cap = l then a else a.map (·.add n)
def lowv (lo : Option Value) (K : Int → Prop) : Prop := match lo with | none => K 0 | some (.int _ n) => K n | _ => False
def slicev (P : Program) (t : TypeId) (v : Value) (lo hi : Option Value) (K : Value → Prop) : Prop :=
  match P.underlying t, v with
  | some (.slice e), .slice a len cap => match hasInfo P e with
    | true => lowv lo fun l => match hi with
      | none => (0 ≤ l ∧ l ≤ (len : Int)) ∧ K (.slice (slcAddr a l.toNat cap (l.toNat * sz P e)) (len - l.toNat) (cap - l.toNat))
      | some (.int _ m) => (0 ≤ l ∧ l ≤ m ∧ m ≤ (cap : Int)) ∧ K (.slice (slcAddr a l.toNat cap (l.toNat * sz P e)) (m.toNat - l.toNat) (cap - l.toNat))
      | _ => False
    | false => False
  | some (.array n e), .pointer p => match hasInfo P e, lo, hi with
    | true, none, none => onAddr p fun b o => K (.slice (some ⟨b, o, none⟩) n n)
    | _, _, _ => False
  | _, _ => False
def mnv (a b : Value) (K : Value → Prop) : Prop :=
  match a, b with
  | .int k m, .int k' n => (match keq k k' with | true => K (.int k (min m n)) | false => False)
  | _, _ => False
def mxv (a b : Value) (K : Value → Prop) : Prop :=
  match a, b with
  | .int k m, .int k' n => (match keq k k' with | true => K (.int k (max m n)) | false => False)
  | _, _ => False
def bltv (P : Program) (b : Builtin) (ts : List TypeId) (vs : List Value) (K : Value → Prop) : Prop :=
  match b, ts, vs with
  | .len, [t], [v] => match P.underlying t, v with
    | some (.slice _), .slice _ n _ => K (.int .i64 (n : Nat))
    | some .string, .string s => K (.int .i64 (s.size : Nat))
    | some (.array n _), _ => K (.int .i64 (n : Nat))
    | _, _ => False
  | .cap, [t], [v] => match P.underlying t, v with
    | some (.slice _), .slice _ _ n => K (.int .i64 (n : Nat))
    | _, _ => False
  | .min, _, [a, b] => mnv a b K
  | .max, _, [a, b] => mxv a b K
  | _, _, _ => False
/-- How a region is reckoned: whether sums must fit (else they wrap), whether a number that is assigned gets a name. -/
structure Md where
  ex : Bool
  nm : Bool
def namev (nm : Bool) (v : Value) (K : Value → Prop) : Prop :=
  match nm with
  | false => K v
  | true => match v with
    | .int k e => ∀ x : Int, x = e → K (.int k x)
    | v => K v
def strAt (s : ByteArray) (i : Nat) : Int := ((s.data.toList.getD i 0).toNat : Int)
/-- A value that one cell may hold. -/
def okc (v : Value) (X : Prop) : Prop :=
  match v with
  | .agg _ => False
  | .tuple _ => False
  | .int _ _ => X
  | .bool _ => X
  | .pointer _ => X
  | .slice _ _ _ => X
  | .string _ => X
  | .func _ _ _ => X
  | .nilFunc => X
  | .nilIface => X
  | .iface _ _ => X
  | .map _ => X
  | _ => X
theorem okc_intro {v : Value} {X : Prop} (hv : v.oneCell' = true) (h : X) : okc v X := by cases v <;> first | exact h | cases hv
/-- The sizes of a struct's fields, where they lie one behind the other. -/
def lay (P : Program) : List Field → Nat → Option (List Nat)
  | [], _ => some []
  | f :: r, o => match Nat.beq f.offset o, hasInfo P f.type, lay P r (o + sz P f.type) with
    | true, true, some l => some (sz P f.type :: l)
    | _, _, _ => none
def splitL : List Nat → List Value → List (List Value)
  | [], _ => []
  | n :: r, l => l.take n :: splitL r (l.drop n)
def sumL : List Nat → Nat
  | [] => 0
  | n :: r => n + sumL r
def joinL : List (List Value) → List Value
  | [] => []
  | a :: r => a ++ joinL r
def partv (n : Nat) (v : Value) (K : List Value → Prop) : Prop :=
  match v with
  | .agg cs => cs.toList.length = n ∧ K cs.toList
  | v => match n with
    | 1 => okc v (K [v])
    | _ => False
def putParts (sizes : List Nat) : List (Nat × Value) → List (List Value) → (List (List Value) → Prop) → Prop
  | [], ch, K => K ch
  | (i, v) :: r, ch, K => match sizes[i]? with
    | some n => partv n v fun cs => putParts sizes r (ch.set i cs) K
    | none => False
/-- A struct or an array that is written out. -/
def buildv (P : Program) (t : TypeId) (parts : List (Nat × Value)) (K : Value → Prop) : Prop :=
  match P.info? t, P.underlying t with
  | some it, some (.struct fs) => match it.zero, lay P fs.toList 0 with
    | some z, some sizes => match Nat.beq z.cells.toList.length (sumL sizes) with
      | true => putParts sizes parts (splitL sizes z.cells.toList) fun ch => K (.agg (joinL ch).toArray)
      | false => False
    | _, _ => False
  | some it, some (.array n e) => match it.zero, hasInfo P e with
    | some z, true => match Nat.beq z.cells.toList.length (sumL (List.replicate n (sz P e))) with
      | true => putParts (List.replicate n (sz P e)) parts (splitL (List.replicate n (sz P e)) z.cells.toList) fun ch => K (.agg (joinL ch).toArray)
      | false => False
    | _, _ => False
  | _, _ => False
/-- There is a value of a type of which this holds. -/
def anyOf (P : Program) (t : TypeId) (K : Value → Prop) : Prop :=
  match P.underlying t with
  | some (.int k) => ∃ n : Int, K (.int k n)
  | some .bool => ∃ b : Bool, K (.bool b)
  | some (.pointer _) => ∃ p : Option Addr, K (.pointer p)
  | some (.slice _) => ∃ (p : Option Addr) (l m : Nat), K (.slice p l m)
  | some .string => ∃ s : ByteArray, K (.string s)
  | some (.struct _) => ∃ cs : List Value, K (.agg cs.toArray)
  | some (.array _ _) => ∃ cs : List Value, K (.agg cs.toArray)
  | _ => ∃ v : Value, K v
def zeroOf (P : Program) (t : TypeId) : Option Value := match P.info? t with | some i => i.zero | none => none
/-- What an assertion to a plain type finds: the value, and whether it is of that type. -/
def asr (P : Program) (T : TypeId) (v : Value) : Option (Value × Bool) :=
  match v with
  | .iface u x => match Nat.beq u T with
    | true => some (x, true)
    | false => match zeroOf P T with | some z => some (z, false) | none => none
  | .nilIface => match zeroOf P T with | some z => some (z, false) | none => none
  | _ => none
def asv (P : Program) (T : TypeId) (ok : Bool) (v : Value) (K : Value → Prop) : Prop :=
  match P.underlying T with
  | some (.interface _) => False
  | some _ => anyOf P T fun x => match ok with
    | true => ∃ t : Bool, asr P T v = some (x, t) ∧ K (.tuple #[x, .bool t])
    | false => asr P T v = some (x, true) ∧ K x
  | none => False
/-- Operations that read at most, and what they yield. -/
def rd (P : Program) (x : Md) (ρ : Operand → Value) (op : Op) (h : Heap) (K : Value → Prop) : Prop :=
  match op with
  | .move a => K (ρ a)
  | .assign a => namev x.nm (ρ a) K
  | .pick c a b => match ρ c with | .bool t => bcase t (K (ρ a)) (K (ρ b)) | _ => False
  | .binOp op t a b _ => bino P x.ex op t a b (ρ a) (ρ b) K
  | .unOp op _ a => unv x.ex op (ρ a) K
  | .convert s d a => convv P x.ex s d (ρ a) K
  | .nilCheck a => match ρ a with
    | .pointer p => onAddr p fun b o => K (.pointer (some ⟨b, o, none⟩))
    | _ => False
  | .fieldAddr t a f => onPtr (ρ a) fun b o => fieldOff P t f fun off _ => K (.pointer (some ⟨b, o + off, none⟩))
  | .field t a f => fieldOff P t f fun off ty => aggv P ty (ρ a) off K
  | .indexAddr t a i => match ρ i with
    | .int _ n => match P.underlying t, ρ a with
      | some (.array len e), v => match hasInfo P e with
        | true => onPtr v fun b o => (0 ≤ n ∧ n < (len : Int)) ∧ K (.pointer (some ⟨b, o + mulc (sz P e) n.toNat, none⟩))
        | false => False
      | some (.slice e), .slice p len _ => match hasInfo P e with
        | true => (0 ≤ n ∧ n < (len : Int)) ∧ onAddr p fun b o => K (.pointer (some ⟨b, o + mulc (sz P e) n.toNat, none⟩))
        | false => False
      | _, _ => False
    | _ => False
  | .load t a => onPtr (ρ a) fun b o => ldv P t h b o K
  | .index t a i => match ρ i with
    | .int _ n => match P.underlying t, ρ a with
      | some (.array len e), v => match hasInfo P e with
        | true => (0 ≤ n ∧ n < (len : Int)) ∧ aggv P e v (mulc (sz P e) n.toNat) K
        | false => False
      | some .string, .string s => (0 ≤ n ∧ n < (s.size : Int)) ∧ K (.int .u8 (strAt s n.toNat))
      | _, _ => False
    | _ => False
  | .extract a i => match ρ a with
    | .tuple vs => match vs.toList[i]? with | some v => K v | none => False
    | _ => False
  | .slice t a lo hi none => slicev P t (ρ a) (lo.map ρ) (hi.map ρ) K
  | .typeAssert a _ T ok => asv P T ok (ρ a) K
  | .makeInterface t a => match P.underlying t with | some (.interface _) => False | some _ => K (.iface t (ρ a)) | none => False
  | .makeFunc f a b => K (.func f (a.map ρ) (b.map ρ))
  | .build t parts => buildv P t (parts.toList.map fun (i, x) => (i, ρ x)) K
  | .call ⟨.builtin b, args, ts⟩ => bltv P b ts.toList (args.toList.map ρ) K
  | _ => False
/-- The same, where the order is not drawn: interface values are compared over the heap. -/
def rdh (P : Program) (x : Md) (ρ : Operand → Value) (op : Op) (h : Heap) (K : Value → Prop) : Prop :=
  match op with
  | .binOp op t a b ty => match isIf P t with
    | true => binh P op a b (ρ a) (ρ b) h K
    | false => rd P x ρ (.binOp op t a b ty) h K
  | op => rd P x ρ op h K
/-- Is it one of those? -/
def isRd : Op → Bool
  | .move _ | .assign _ | .pick .. | .binOp .. | .unOp .. | .convert .. | .nilCheck _ | .fieldAddr .. | .field .. | .indexAddr .. | .index .. | .load .. | .extract .. | .typeAssert .. | .makeInterface .. | .makeFunc .. | .build .. => true
  | .slice _ _ _ _ none => true
  | .call ⟨.builtin .len, _, _⟩ | .call ⟨.builtin .cap, _, _⟩ | .call ⟨.builtin .min, _, _⟩ | .call ⟨.builtin .max, _, _⟩ => true
  | _ => false

def wrs (h : Heap) (b o n : Nat) : Prop := ∃ c e lo hi, h[b]? = some (.cells c e (lo, hi)) ∧ o + n ≤ c.size ∧ (n = 0 ∨ hi ≤ o ∨ o + n ≤ lo ∨ hi ≤ lo)
def alc (h : Heap) (T : TypeId) (vs : List Value) (K : Nat → Heap → Prop) : Prop := ∀ b h1, b = h.size → h1 = h.push (.cells vs.toArray T) → K b h1
def zerov (P : Program) (t : TypeId) (K : Value → Prop) : Prop :=
  match P.info? t with
  | some i => match i.zero with
    | some z => K z
    | none => False
  | none => False
def stv (P : Program) (t : TypeId) (h : Heap) (b o : Nat) (v : Value) (K : Heap → Prop) : Prop :=
  match P.underlying t with
  | some (.struct _) | some (.array _ _) => match hasInfo P t, v with
    | true, .agg cs => (cs.toList.length = sz P t ∧ wrs h b o (sz P t) ∧ ∀ u ∈ cs.toList, u.oneCell' = true) ∧ ∀ h1, h1 = setr h b o cs.toList → K h1
    | _, _ => False
  | some _ => match hasInfo P t, sz P t with
    | true, 1 => okc v (wr h b o ∧ ∀ h1, h1 = setc h b o v → K h1)
    | _, _ => False
  | none => False
def src (h : Heap) (a : Option Addr) (n : Nat) (cs : List Value) : Prop :=
  match a with
  | none => cs = []
  | some ⟨b, o, none⟩ => row h b o n = some cs
  | some ⟨_, _, some _⟩ => n = 0 ∧ cs = []
def bytesOf (P : Program) (t : TypeId) : Nat := match P.info? t with | some i => i.bytes | none => 0
def zok (P : Program) (t : TypeId) : Bool :=
  match P.info? t with
  | some i => match i.zero with
    | some z => Nat.beq z.cells.toList.length i.size
    | none => false
  | none => false
def appIn (a : Option Addr) (X : Prop) (K : Nat → Nat → Prop) : Prop :=
  match a with
  | none => X
  | some ⟨b, o, none⟩ => K b o
  | _ => False
/-- append(s, x...): in place where there is room, else in a new row of whatever capacity, what lies behind the elements open. -/
def appv (P : Program) (T : TypeId) (s x : Value) (h : Heap) (K : Value → Heap → Prop) : Prop :=
  match P.underlying T with
  | some (.slice e) => match zok P e, s, x with
    | true, .slice a len cap, .slice a2 len2 _ =>
      ∃ news : List Value, (src h a2 (len2 * sz P e) news ∧ ∀ u ∈ news, u.oneCell' = true) ∧
        (len + len2 ≤ cap → appIn a (K (.slice none (len + len2) cap) h) fun b o =>
          wrs h b (o + len * sz P e) news.length ∧ ∀ h1, h1 = setr h b (o + len * sz P e) news → K (.slice (some ⟨b, o, none⟩) (len + len2) cap) h1) ∧
        (cap < len + len2 → ((len + len2) * bytesOf P e ≤ 140737488355328 ∧ 0 < bytesOf P e) ∧ ∃ olds : List Value, src h a (len * sz P e) olds ∧
          ∀ (ncap : Nat) (zs : List Value) b h1, len + len2 ≤ ncap → zs.length = (ncap - (len + len2)) * sz P e → b = h.size → h1 = h.push (.cells (olds ++ news ++ zs).toArray e) →
            K (.slice (some ⟨b, 0, none⟩) (len + len2) ncap) h1)
    | _, _, _ => False
  | _ => False
/-- append, its two ways with one end. -/
def appK (h : Heap) (a : Option Addr) (len cap k sz e bytes : Nat) (news : List Value) (K : Option Addr → Nat → Heap → Prop) : Prop :=
  (len + k ≤ cap → appIn a (K none cap h) fun b o => wrs h b (o + len * sz) news.length ∧ ∀ h1, h1 = setr h b (o + len * sz) news → K (some ⟨b, o, none⟩) cap h1) ∧
  (cap < len + k → ((len + k) * bytes ≤ 140737488355328 ∧ 0 < bytes) ∧ ∃ olds : List Value, src h a (len * sz) olds ∧
    ∀ (ncap : Nat) (zs : List Value) b h1, len + k ≤ ncap → zs.length = (ncap - (len + k)) * sz → b = h.size → h1 = h.push (.cells (olds ++ news ++ zs).toArray e) → K (some ⟨b, 0, none⟩) ncap h1)
/-- A slice that is written out. -/
def bslv (P : Program) (t : TypeId) (len : Nat) (parts : List (Nat × Value)) (h : Heap) (K : Value → Heap → Prop) : Prop :=
  match P.underlying t with
  | some (.slice e) => match zok P e, Nat.ble (len * sz P e) 16777216 with
    | true, true => zerov P e fun z => putParts (List.replicate len (sz P e)) parts (List.replicate len z.cells.toList) fun ch =>
      alc h e (joinL ch) fun b h1 => K (.slice (some ⟨b, 0, none⟩) len len) h1
    | _, _ => False
  | _ => False
def mslv (P : Program) (t : TypeId) (l c : Value) (h : Heap) (K : Value → Heap → Prop) : Prop :=
  match P.underlying t with
  | some (.slice e) => match zok P e, l, c with
    | true, .int _ l, .int _ c => (0 ≤ l ∧ l ≤ c ∧ ((bytesOf P e : Nat) : Int) * c ≤ 281474976710656 ∧ c ≤ 9223372036854775807) ∧
      zerov P e fun z => alc h e (joinL (List.replicate c.toNat z.cells.toList)) fun b h1 => K (.slice (some ⟨b, 0, none⟩) l.toNat c.toNat) h1
    | _, _, _ => False
  | _ => False
/-- Cells are written at a place, if there is one. -/
def cpIn (a : Option Addr) (h : Heap) (vs : List Value) (K : Heap → Prop) : Prop :=
  match a with
  | none => K h
  | some ⟨b, o, none⟩ => wrs h b o vs.length ∧ ∀ h1, h1 = setr h b o vs → K h1
  | _ => False
def copyv (P : Program) (T : TypeId) (d s : Value) (h : Heap) (K : Value → Heap → Prop) : Prop :=
  match P.underlying T with
  | some (.slice e) => match hasInfo P e, d, s with
    | true, .slice a len _, .slice a2 len2 _ =>
      ∃ news : List Value, (src h a2 (min len2 len * sz P e) news ∧ ∀ u ∈ news, u.oneCell' = true) ∧ cpIn a h news fun h1 => K (.int .i64 (min len2 len : Nat)) h1
    | _, _, _ => False
  | _ => False
def bodied (P : Program) (f : FuncId) : Bool := match P.funcs[f]? with | some fn => !(fn.name == "runtime.NumGoroutine") && fn.body.isSome | none => false
/-- A call of a function value. -/
def callv (P : Program) (f : Value) (args : List Value) (h : Heap) (K : Value → Heap → Prop) : Prop :=
  match f with
  | .func (.func g) first captured => match bodied P g with
    | true => Runs P g (first.toList ++ (args ++ captured.toList)).toArray h K
    | false => False
  | _ => False
/-- The function of a method with a pointer receiver, of a pointer type's own. -/
def mth (P : Program) (t : TypeId) (name : String) : Option FuncId :=
  match P.info? t with
  | some i => match i.methods.find? (·.name == name) with
    | some m => match m.path.toList, m.func, P.underlying t with
      | [], some (f, true), some (.pointer _) => some f
      | _, _, _ => none
    | none => none
  | none => none
/-- A call of a method of an interface value. -/
def ivk (P : Program) (v : Value) (name : String) (args : List Value) (h : Heap) (K : Value → Heap → Prop) : Prop :=
  match v with
  | .iface t x => ∃ f, mth P t name = some f ∧ bodied P f = true ∧ Runs P f (x :: args).toArray h K
  | _ => False
theorem ivk_of {P : Program} {t : TypeId} {x : Value} {name : String} {args : List Value} {h : Heap} {K : Value → Heap → Prop} {f : FuncId} (hm : mth P t name = some f) (hb : bodied P f = true)
    (hr : Runs P f (x :: args).toArray h K) : ivk P (.iface t x) name args h K := ⟨f, hm, hb, hr⟩
def anyOfs (P : Program) : List TypeId → (List Value → Prop) → Prop
  | [], K => K []
  | t :: r, K => anyOf P t fun v => anyOfs P r fun vs => K (v :: vs)
/-- The value v, taken apart by its type. -/
def typ (P : Program) (t : TypeId) (v : Value) (K : Value → Prop) : Prop :=
  match P.underlying t with
  | some (.tuple ts) => match ts.toList with
    | [] => K v
    | t1 :: r => anyOfs P (t1 :: r) fun vs => v = .tuple vs.toArray ∧ K (.tuple vs.toArray)
  | _ => anyOf P t fun u => v = u ∧ K u
/-- An operation that acts, by its own run: the last resort. -/
def rawv (P : Program) (ρ : Operand → Value) (op : Op) (ty : TypeId) (h : Heap) (K : Value → Heap → Prop) : Prop :=
  ∀ (w : World) (o : Oper), o.op = op → o.type = ty → w.heap = h → ∃ v w', ((execOp ρ o).run P w = .ok (.value v) w' ∨ (execOp ρ o).run P w = .ok .skip w' ∧ v = undef) ∧ Same w w' ∧ K v w'.heap
/-- Operations that act. -/
def ef (P : Program) (x : Md) (ρ : Operand → Value) (op : Op) (ty : TypeId) (h : Heap) (K : Value → Heap → Prop) : Prop :=
  match op with
  | .alloc e => zerov P e fun z => alc h e z.cells.toList fun b h1 => K (.pointer (some ⟨b, 0, none⟩)) h1
  | .box e a => alc h e (ρ a).cells.toList fun b h1 => K (.pointer (some ⟨b, 0, none⟩)) h1
  | .store t a v => onPtr (ρ a) fun b o => stv P t h b o (ρ v) fun h1 => K undef h1
  | .call ⟨.value f, args, _⟩ => callv P (ρ f) (args.toList.map ρ) h fun v h1 => typ P ty v fun u => K u h1
  | .call ⟨.invoke r name, args, _⟩ => ivk P (ρ r) name (args.toList.map ρ) h fun v h => typ P ty v fun u => K u h
  | .call ⟨.builtin .append, args, ts⟩ => match args.toList.map ρ, ts.toList with
    | [s, y], [T, T2] => match P.underlying T2 with
      | some (.slice _) => appv P T s y h K
      | _ => False
    | _, _ => False
  | .buildSlice t len parts => bslv P t len (parts.toList.map fun (i, x) => (i, ρ x)) h K
  | .makeSlice t l c => mslv P t (ρ l) (ρ c) h K
  | .call ⟨.builtin .copy, args, ts⟩ => match args.toList.map ρ, ts.toList with
    | [d, s], [T, T2] => copyv P T d s h K
    | _, _ => False
  | .panic _ => False
  | _ => rawv P ρ op ty h K
end Go.Vc

/- The reckoner's rules for operations that read at most: what they yield, in every world over this heap. -/
set_option linter.unusedVariables false
set_option linter.unusedSimpArgs false
namespace Go.Vc
variable {P : Program} {w : World}

theorem keq_eq {a b : IntKind} (h : keq a b = true) : a = b := by cases a <;> cases b <;> first | rfl | cases h
theorem cell?_eq (w : World) (b o : Nat) : w.cell? ⟨b, o, none⟩ = cell w.heap b o := by
  unfold World.cell? cell
  cases h : w.heap[b]? with
  | none => rfl
  | some x => cases x <;> rfl
theorem add_eq (b o n : Nat) : (⟨b, o, none⟩ : Addr).add n = ⟨b, o + n, none⟩ := by
  unfold Addr.add; split <;> simp_all
theorem wrap_fits {k : IntKind} {n : Int} (h : fits k n) : k.wrap n = n := by
  cases k
  · exact IntWalk.i8_in n h
  · exact IntWalk.i16_in n h
  · exact IntWalk.i32_in n h
  · exact IntWalk.i64_in n h
  · exact IntWalk.u8_in n h
  · exact IntWalk.u16_in n h
  · exact IntWalk.u32_in n h
  · exact IntWalk.u64_in n h
theorem onAddr_spec {p : Option Addr} {K : Nat → Nat → Prop} (h : onAddr p K) : ∃ b o, p = some ⟨b, o, none⟩ ∧ K b o := by
  unfold onAddr at h
  split at h
  · exact ⟨_, _, rfl, h⟩
  · exact h.elim
theorem onPtr_spec {v : Value} {K : Nat → Nat → Prop} (h : onPtr v K) : ∃ b o, v = .pointer (some ⟨b, o, none⟩) ∧ K b o := by
  unfold onPtr at h
  split at h
  · obtain ⟨b, o, rfl, h⟩ := onAddr_spec h
    exact ⟨b, o, rfl, h⟩
  · exact h.elim
theorem bcase_spec {b : Bool} {x y : Prop} (h : bcase b x y) : (b = true ∧ x) ∨ (b = false ∧ y) := by
  cases b
  · exact .inr ⟨rfl, h⟩
  · exact .inl ⟨rfl, h⟩
theorem arith_spec {x : Bool} {k : IntKind} {e : Int} {K : Value → Prop} (h : arith x k e K) : K (.int k (k.wrap e)) := by
  cases x
  · exact h
  · rw [wrap_fits h.1]; exact h.2
theorem pow2_pos (n : Int) : 0 < pow2 n := Int.pow_pos (by decide)

/-- What an operation that hands back a value yields, in each world over the heap h. -/
def Yields (P : Program) (s : Sem Value) (h : Heap) (v : Value) : Prop := ∀ w : World, w.heap = h → s.run P w = .ok v w

theorem iop_sound {x : Bool} {op : BinOp} {k : IntKind} {m n : Int} {K : Value → Prop} (t : TypeId) (h : Heap) (hr : iop x op k m n K) (hns : op ≠ .shl ∧ op ≠ .shr) :
    ∃ v, K v ∧ Yields P (Go.binOp op t (.int k m) (.int k n)) h v := by
  cases op <;> simp only [iop] at hr
  case add => exact ⟨_, arith_spec hr, fun w _ => by simp [Go.binOp, Op.intArith]⟩
  case sub => exact ⟨_, arith_spec hr, fun w _ => by simp [Go.binOp, Op.intArith]⟩
  case mul => exact ⟨_, arith_spec hr, fun w _ => by simp [Go.binOp, Op.intArith]⟩
  case quo =>
    cases x
    · exact ⟨_, hr.2, fun w _ => by simp [Go.binOp, Op.intDiv, hr.1]⟩
    · obtain ⟨⟨h1, h2, h3⟩, h4⟩ := hr
      have e : m.tdiv n = m / n := Int.tdiv_eq_ediv_of_nonneg h1
      exact ⟨_, h4, fun w _ => by simp [Go.binOp, Op.intDiv, show ¬ n = 0 by omega, e, wrap_fits h3]⟩
  case rem =>
    cases x
    · exact ⟨_, hr.2, fun w _ => by simp [Go.binOp, Op.intDiv, hr.1]⟩
    · obtain ⟨⟨h1, h2⟩, h4⟩ := hr
      have e : m.tmod n = m % n := Int.tmod_eq_emod_of_nonneg h1
      exact ⟨_, h4, fun w _ => by simp [Go.binOp, Op.intDiv, show ¬ n = 0 by omega, e]⟩
  case and => exact ⟨_, hr, fun w _ => by simp [Go.binOp, intBits_and]⟩
  case or => exact ⟨_, hr, fun w _ => by simp [Go.binOp, intBits_or]⟩
  case xor => exact ⟨_, hr, fun w _ => by simp [Go.binOp, intBits_xor]⟩
  case andNot => exact ⟨_, hr, fun w _ => by simp [Go.binOp, intBits_andNot]⟩
  case eql => exact ⟨_, hr, fun w _ => by simp [Go.binOp, Op.intCmp, BEq.beq]⟩
  case neq => exact ⟨_, hr, fun w _ => by simp [Go.binOp, Op.intCmp, bne, BEq.beq]⟩
  case lss => exact ⟨_, hr, fun w _ => by simp [Go.binOp, Op.intCmp]⟩
  case leq => exact ⟨_, hr, fun w _ => by simp [Go.binOp, Op.intCmp]⟩
  case gtr => exact ⟨_, hr, fun w _ => by simp [Go.binOp, Op.intCmp]⟩
  case geq => exact ⟨_, hr, fun w _ => by simp [Go.binOp, Op.intCmp]⟩

theorem kbits_eq (k : IntKind) : kbits k = k.bits := by cases k <;> rfl
theorem shop_sound {x : Bool} {op : BinOp} {k yk : IntKind} {m n : Int} {K : Value → Prop} (t : TypeId) (h : Heap) (hr : shop x op k m n K) :
    ∃ v, K v ∧ Yields P (Go.binOp op t (.int k m) (.int yk n)) h v := by
  cases op <;> simp only [shop] at hr
  case shl => exact ⟨_, arith_spec hr.2, fun w _ => by
    have := shift_shl k yk m n hr.1.1 (by have := hr.1.2; rw [kbits_eq] at this; exact this)
    simp [Go.binOp, this, pow2]⟩
  case shr => exact ⟨_, hr.2, fun w _ => by
    have := shift_shr k yk m n hr.1.1 (by have := hr.1.2; rw [kbits_eq] at this; exact this)
    simp [Go.binOp, this, pow2]⟩

def Yields2 (P : Program) (op : BinOp) (t : TypeId) (x y : Operand) (a b : Value) (h : Heap) (v : Value) : Prop :=
  Yields P (do eqGuard op t x y a b; Go.binOp op t a b) h v
theorem eqGuard_int {op : BinOp} {t : TypeId} {x y : Operand} {k k' : IntKind} {m n : Int} : (eqGuard op t x y (.int k m) (.int k' n)).run P w = .ok () w := by
  unfold eqGuard; cases op <;> rfl
theorem eqGuard_bool {op : BinOp} {t : TypeId} {x y : Operand} {m n : Bool} : (eqGuard op t x y (.bool m) (.bool n)).run P w = .ok () w := by
  unfold eqGuard; cases op <;> rfl
theorem eqGuard_string {op : BinOp} {t : TypeId} {x y : Operand} {m n : ByteArray} : (eqGuard op t x y (.string m) (.string n)).run P w = .ok () w := by
  unfold eqGuard; cases op <;> rfl
theorem eqGuard_ptr {op : BinOp} {t : TypeId} {x y : Operand} {m n : Option Addr} : (eqGuard op t x y (.pointer m) (.pointer n)).run P w = .ok () w := by
  unfold eqGuard; cases op <;> rfl
theorem eqGuard_slice {op : BinOp} {t : TypeId} {x y : Operand} {m n : Option Addr} {a b c d : Nat} : (eqGuard op t x y (.slice m a b) (.slice n c d)).run P w = .ok () w := by
  unfold eqGuard; cases op <;> rfl
theorem isNilAddr_eq (p : Option Addr) : isNilAddr p = p.isNone := by cases p <;> rfl

theorem run_equal_ptr_nil (t e : TypeId) (p : Option Addr) (hu : P.underlying t = some (.pointer e)) (w : World) : (Op.equal t (.pointer p) (.pointer none)).run P w = .ok (isNilAddr p) w := by
  have hu' := run_underlying (P := P) hu w
  have key : ∀ d, (Op.equalIn (d + 1) t (.pointer p) (.pointer none)).run P w = .ok (isNilAddr p) w := by
    intro d; cases p <;> simp [Op.equalIn, hu', isNilAddr]
  exact key 9999
theorem run_equal_slice_nil (t e : TypeId) (p : Option Addr) (l1 c1 l2 c2 : Nat) (hu : P.underlying t = some (.slice e)) (w : World) : (Op.equal t (.slice p l1 c1) (.slice none l2 c2)).run P w = .ok (isNilAddr p) w := by
  have hu' := run_underlying (P := P) hu w
  have key : ∀ d, (Op.equalIn (d + 1) t (.slice p l1 c1) (.slice none l2 c2)).run P w = .ok (isNilAddr p) w := by
    intro d; cases p <;> simp [Op.equalIn, hu', isNilAddr]
  exact key 9999
theorem binv_sound {x : Bool} {op : BinOp} {t : TypeId} {a b : Value} {K : Value → Prop} (xo yo : Operand) (h : Heap) (hr : binv P x op t a b K) :
    ∃ v, K v ∧ Yields2 P op t xo yo a b h v := by
  unfold binv at hr
  split at hr
  · rename_i k m k' n
    have key : ∀ {v}, Yields P (Go.binOp op t (.int k m) (.int k' n)) h v → Yields2 P op t xo yo (.int k m) (.int k' n) h v := by
      intro v hy w hw
      have e := eqGuard_int (P := P) (w := w) (op := op) (t := t) (x := xo) (y := yo) (k := k) (k' := k') (m := m) (n := n)
      have := hy w hw
      simp [e, this]
    split at hr
    · obtain ⟨v, h1, h2⟩ := shop_sound (P := P) (yk := k') t h hr; exact ⟨v, h1, key h2⟩
    · obtain ⟨v, h1, h2⟩ := shop_sound (P := P) (yk := k') t h hr; exact ⟨v, h1, key h2⟩
    · rename_i n1 n2
      split at hr
      · rename_i hk
        have hk := keq_eq hk
        subst hk
        obtain ⟨v, h1, h2⟩ := iop_sound (P := P) t h hr ⟨fun e => n1 e, fun e => n2 e⟩
        exact ⟨v, h1, key h2⟩
      · exact hr.elim
  · rename_i m n
    split at hr
    · rename_i hu
      refine ⟨_, hr, fun w hw => ?_⟩
      have e := eqGuard_bool (P := P) (w := w) (op := .eql) (t := t) (x := xo) (y := yo) (m := m) (n := n)
      have := run_eql_bool (P := P) w t m n hu
      simp [e, this]
    · rename_i hu
      refine ⟨_, hr, fun w hw => ?_⟩
      have e := eqGuard_bool (P := P) (w := w) (op := .neq) (t := t) (x := xo) (y := yo) (m := m) (n := n)
      have := run_equal_bool (P := P) w t m n hu
      simp [e, Go.binOp, this]
    · exact hr.elim
  · rename_i m n
    split at hr
    · refine ⟨_, hr, fun w hw => ?_⟩
      have e := eqGuard_string (P := P) (w := w) (op := .eql) (t := t) (x := xo) (y := yo) (m := m) (n := n)
      simp [e, Go.binOp, Op.stringOp]
    · refine ⟨_, hr, fun w hw => ?_⟩
      have e := eqGuard_string (P := P) (w := w) (op := .neq) (t := t) (x := xo) (y := yo) (m := m) (n := n)
      simp [e, Go.binOp, Op.stringOp]
    · exact hr.elim
  · rename_i p
    split at hr
    · rename_i hu
      refine ⟨_, hr, fun w hw => ?_⟩
      have e := eqGuard_ptr (P := P) (w := w) (op := .eql) (t := t) (x := xo) (y := yo) (m := p) (n := none)
      have := run_equal_ptr_nil (P := P) t _ p hu w
      simp [e, Go.binOp, this]
    · rename_i hu
      refine ⟨_, hr, fun w hw => ?_⟩
      have e := eqGuard_ptr (P := P) (w := w) (op := .neq) (t := t) (x := xo) (y := yo) (m := p) (n := none)
      have := run_equal_ptr_nil (P := P) t _ p hu w
      simp [e, Go.binOp, this]
    · exact hr.elim
  · rename_i p l1 c1 l2 c2
    split at hr
    · rename_i hu
      refine ⟨_, hr, fun w hw => ?_⟩
      have e := eqGuard_slice (P := P) (w := w) (op := .eql) (t := t) (x := xo) (y := yo) (m := p) (n := none) (a := l1) (b := c1) (c := l2) (d := c2)
      have := run_equal_slice_nil (P := P) t _ p l1 c1 l2 c2 hu w
      simp [e, Go.binOp, this]
    · rename_i hu
      refine ⟨_, hr, fun w hw => ?_⟩
      have e := eqGuard_slice (P := P) (w := w) (op := .neq) (t := t) (x := xo) (y := yo) (m := p) (n := none) (a := l1) (b := c1) (c := l2) (d := c2)
      have := run_equal_slice_nil (P := P) t _ p l1 c1 l2 c2 hu w
      simp [e, Go.binOp, this]
    · exact hr.elim
  · exact hr.elim
theorem eqGuard_if {op : BinOp} {t : TypeId} {x y : Operand} {a b : Value} {c : Bool} (he : ifeq (isConst x || isConst y) a b = some c) : (eqGuard op t x y a b).run P w = .ok () w := by
  unfold ifeq at he
  split at he
  · split at he
    · rename_i hc
      unfold eqGuard
      cases x <;> cases y <;> simp [isConst] at hc <;> cases op <;> rfl
    · cases he
  · unfold eqGuard; cases op <;> rfl
  · unfold eqGuard; cases op <;> rfl
  · cases he
theorem run_equal_if (t : TypeId) (ms : _) {a b : Value} {k c : Bool} (hu : P.underlying t = some (.interface ms)) (he : ifeq k a b = some c) (w : World) : (Op.equal t a b).run P w = .ok c w := by
  have hu' := run_underlying (P := P) hu w
  have key : ∀ d, (Op.equalIn (d + 1) t a b).run P w = .ok c w := by
    intro d
    unfold ifeq at he
    split at he
    · split at he
      · cases he; simp [Op.equalIn, hu']
      · cases he
    · cases he; simp [Op.equalIn, hu']
    · cases he; simp [Op.equalIn, hu']
    · cases he
  exact key 9999
theorem bino_sound {x : Bool} {op : BinOp} {t : TypeId} {a b : Value} {K : Value → Prop} (xo yo : Operand) (h : Heap) (hr : bino P x op t xo yo a b K) :
    ∃ v, K v ∧ Yields2 P op t xo yo a b h v := by
  unfold bino at hr
  split at hr
  · rename_i ms hu
    split at hr
    · obtain ⟨c, h1, h2⟩ := hr
      refine ⟨_, h2, fun w hw => ?_⟩
      have e := eqGuard_if (P := P) (w := w) (op := .eql) (t := t) h1
      have := run_equal_if (P := P) t ms hu h1 w
      unfold ifeq at h1
      split at h1 <;> (try cases h1) <;> simp [e, Go.binOp, this]
    · obtain ⟨c, h1, h2⟩ := hr
      refine ⟨_, h2, fun w hw => ?_⟩
      have e := eqGuard_if (P := P) (w := w) (op := .neq) (t := t) h1
      have := run_equal_if (P := P) t ms hu h1 w
      unfold ifeq at h1
      split at h1 <;> (try cases h1) <;> simp [e, Go.binOp, this]
    · exact hr.elim
  · exact binv_sound xo yo h hr
theorem unv_sound {x : Bool} {op : UnOp} {a : Value} {K : Value → Prop} (h : Heap) (hr : unv x op a K) : ∃ v, K v ∧ Yields P (Op.unary op a) h v := by
  unfold unv at hr
  split at hr
  · exact ⟨_, hr, fun w _ => by simp [Op.unary]⟩
  · exact ⟨_, arith_spec hr, fun w _ => by simp [Op.unary, Op.intArith]⟩
  · exact hr.elim
theorem convv_sound {x : Bool} {s d : TypeId} {a : Value} {K : Value → Prop} (h : Heap) (hr : convv P x s d a K) : ∃ v, K v ∧ Yields P (convert s d a) h v := by
  unfold convv at hr
  split at hr
  · rename_i hs hd
    exact ⟨_, arith_spec hr, fun w _ => by
      have h1 := run_underlying (P := P) hs w
      have h2 := run_underlying (P := P) hd w
      simp [convert, h1, h2, Conv.intToInt]⟩
  · exact hr.elim
theorem hasInfo_spec {t : TypeId} (h : hasInfo P t = true) : ∃ i, P.info? t = some i ∧ sz P t = i.size := by
  unfold hasInfo at h
  split at h
  · rename_i i hi; exact ⟨i, hi, by simp [sz, hi]⟩
  · cases h
theorem run_sizeOf {t : TypeId} (h : hasInfo P t = true) (w : World) : (sizeOf t).run P w = .ok (sz P t) w := by
  obtain ⟨i, hi, hs⟩ := hasInfo_spec h
  simp [sizeOf, typeInfo, hi, hs]
theorem fieldOff_spec {t : TypeId} {f : Nat} {K : Nat → TypeId → Prop} (hr : fieldOff P t f K) :
    ∃ fs fd, P.underlying t = some (.struct fs) ∧ fs[f]? = some fd ∧ hasInfo P fd.type = true ∧ sz P fd.type ≠ 0 ∧ K fd.offset fd.type := by
  unfold fieldOff at hr
  split at hr
  · rename_i fs hu
    split at hr
    · rename_i fd hf
      split at hr
      · rename_i n hi hs
        exact ⟨fs, fd, hu, hf, hi, by rw [hs]; omega, hr⟩
      · exact hr.elim
    · exact hr.elim
  · exact hr.elim
theorem fieldAt_sound {t : TypeId} {a : Value} {f : Nat} {K : Value → Prop} (h : Heap)
    (hr : onPtr a fun b o => fieldOff P t f fun off _ => K (.pointer (some ⟨b, o + off, none⟩))) : ∃ v, K v ∧ Yields P (Instr.fieldAt t a f) h v := by
  obtain ⟨b, o, rfl, hr2⟩ := onPtr_spec hr
  obtain ⟨fs, fd, hu, hf, hi, hs, hr3⟩ := fieldOff_spec hr2
  refine ⟨_, hr3, fun w _ => ?_⟩
  have h1 := run_underlying (P := P) hu w
  have h2 := run_sizeOf (P := P) hi w
  simp [Instr.fieldAt, h1, hf, Instr.sureAddr, fieldPlace, h2, hs, add_eq]
theorem row_cells {h : Heap} {b : Nat} : ∀ {n o : Nat} {cs : List Value}, row h b o n = some cs → cs.length = n ∧ ∀ j v, cs[j]? = some v → cell h b (o + j) = some v
  | 0, o, cs, hr => by simp [row] at hr; subst hr; simp
  | n + 1, o, cs, hr => by
    simp only [row] at hr
    split at hr
    · rename_i v r h1 h2
      cases hr
      obtain ⟨i1, i2⟩ := row_cells h2
      refine ⟨by simp [i1], fun j u hj => ?_⟩
      cases j with
      | zero => simp at hj; subst hj; simpa using h1
      | succ j => simp at hj; have := i2 j u hj; rw [show o + 1 + j = o + (j + 1) by omega] at this; exact this
    · cases hr
theorem run_loadCells_of_row {h : Heap} {b o n : Nat} {cs : List Value} (hr : row h b o n = some cs) (hw : w.heap = h) : (loadCells ⟨b, o, none⟩ n).run P w = .ok cs.toArray w := by
  obtain ⟨h1, h2⟩ := row_cells hr
  subst h1
  refine run_loadCells_list w _ cs fun j v hj => ?_
  rw [add_eq, cell?_eq, hw]; exact h2 j v hj
theorem one_spec {d : TypeDesc} {c : Option Value} {K : Value → Prop} (h : one d c K) : ∃ v, c = some v ∧ K v := by
  unfold one at h
  split at h
  · obtain ⟨n, h1, h2⟩ := h; exact ⟨_, h1, h2⟩
  · obtain ⟨n, h1, h2⟩ := h; exact ⟨_, h1, h2⟩
  · obtain ⟨n, h1, h2⟩ := h; exact ⟨_, h1, h2⟩
  · obtain ⟨n, l, m, h1, h2⟩ := h; exact ⟨_, h1, h2⟩
  · obtain ⟨n, h1, h2⟩ := h; exact ⟨_, h1, h2⟩
  · obtain ⟨n, h1, h2⟩ := h; exact ⟨_, h1, h2⟩
theorem ldv_sound {t : TypeId} {h : Heap} {b o : Nat} {K : Value → Prop} (hr : ldv P t h b o K) : ∃ v, K v ∧ Yields P (Instr.loadAt t (.pointer (some ⟨b, o, none⟩))) h v := by
  unfold ldv at hr
  split at hr
  · rename_i hu
    split at hr
    · rename_i hi
      obtain ⟨cs, h1, h2⟩ := hr
      refine ⟨_, h2, fun w hw => ?_⟩
      have e1 := run_underlying (P := P) hu w
      have e2 := run_sizeOf (P := P) hi w
      have e3 := run_loadCells_of_row (P := P) h1 hw
      simp [Instr.loadAt, Instr.sureAddr, loadVar, isAgg, e1, e2, e3]
    · exact hr.elim
  · rename_i hu
    split at hr
    · rename_i hi
      obtain ⟨cs, h1, h2⟩ := hr
      refine ⟨_, h2, fun w hw => ?_⟩
      have e1 := run_underlying (P := P) hu w
      have e2 := run_sizeOf (P := P) hi w
      have e3 := run_loadCells_of_row (P := P) h1 hw
      simp [Instr.loadAt, Instr.sureAddr, loadVar, isAgg, e1, e2, e3]
    · exact hr.elim
  · rename_i d n1 n2 hu
    obtain ⟨v, h1, h2⟩ := one_spec hr
    refine ⟨v, h2, fun w hw => ?_⟩
    have e1 := run_underlying (P := P) hu w
    have e2 : w.cell? ⟨b, o, none⟩ = some v := by rw [cell?_eq, hw]; exact h1
    cases d <;> first | exact (n1 _ rfl).elim | exact (n2 _ _ rfl).elim | simp [Instr.loadAt, Instr.sureAddr, loadVar, isAgg, e1, e2]
  · exact hr.elim
theorem aggv_sound {t : TypeId} {a : Value} {off : Nat} {K : Value → Prop} (h : Heap) (hr : aggv P t a off K) :
    ∃ cs, a = .agg cs ∧ ∃ v, K v ∧ Yields P (part t cs off) h v := by
  unfold aggv at hr
  split at hr
  · rename_i cs
    refine ⟨cs, rfl, ?_⟩
    split at hr
    · rename_i hu
      split at hr
      · rename_i hi
        refine ⟨_, hr, fun w hw => ?_⟩
        have e1 := run_underlying (P := P) hu w
        have e2 := run_sizeOf (P := P) hi w
        have e3 : cs.extract off (off + sz P t) = (List.take (sz P t) (List.drop off cs.toList)).toArray := by
          apply Array.ext'; simp [List.take_drop]
        simp [part, isAgg, e1, e2, e3]
      · exact hr.elim
    · rename_i hu
      split at hr
      · rename_i hi
        refine ⟨_, hr, fun w hw => ?_⟩
        have e1 := run_underlying (P := P) hu w
        have e2 := run_sizeOf (P := P) hi w
        have e3 : cs.extract off (off + sz P t) = (List.take (sz P t) (List.drop off cs.toList)).toArray := by
          apply Array.ext'; simp [List.take_drop]
        simp [part, isAgg, e1, e2, e3]
      · exact hr.elim
    · rename_i d n1 n2 hu
      obtain ⟨v, h1, h2⟩ := one_spec hr
      refine ⟨v, h2, fun w hw => ?_⟩
      have e1 := run_underlying (P := P) hu w
      have e2 : cs[off]? = some v := by simpa using h1
      cases d <;> first | exact (n1 _ rfl).elim | exact (n2 _ _ rfl).elim | simp [part, isAgg, e1, e2]
    · exact hr.elim
  · exact hr.elim
end Go.Vc

/- The reckoner's rules for operations that read at most, all together. -/
set_option linter.unusedVariables false
set_option linter.unusedSimpArgs false
namespace Go.Vc
variable {P : Program} {w : World}

theorem lowv_spec {lo : Option Value} {K : Int → Prop} (h : lowv lo K) : (lo = none ∧ K 0) ∨ ∃ k n, lo = some (.int k n) ∧ K n := by
  unfold lowv at h
  split at h
  · exact .inl ⟨rfl, h⟩
  · exact .inr ⟨_, _, rfl, h⟩
  · exact h.elim
theorem slice_key {t e : TypeId} {a : Option Addr} {len cap : Nat} {lo hi : Option Value} {K : Value → Prop} (h : Heap) (hu : P.underlying t = some (.slice e)) (hi' : hasInfo P e = true) (l : Int)
    (hl : lo = none ∧ l = 0 ∨ ∃ k, lo = some (.int k l))
    (hk : match hi with
      | none => (0 ≤ l ∧ l ≤ (len : Int)) ∧ K (.slice (slcAddr a l.toNat cap (l.toNat * sz P e)) (len - l.toNat) (cap - l.toNat))
      | some (.int _ m) => (0 ≤ l ∧ l ≤ m ∧ m ≤ (cap : Int)) ∧ K (.slice (slcAddr a l.toNat cap (l.toNat * sz P e)) (m.toNat - l.toNat) (cap - l.toNat))
      | _ => False) : ∃ u, K u ∧ Yields P (Instr.sliceAt t (.slice a len cap) lo hi none) h u := by
  split at hk
  · obtain ⟨⟨h1, h2⟩, h3⟩ := hk
    refine ⟨_, h3, fun w _ => ?_⟩
    have e1 := run_underlying (P := P) hu w
    have e2 := run_sizeOf (P := P) hi' w
    rcases hl with ⟨rfl, rfl⟩ | ⟨k, rfl⟩
    · simp [Instr.sliceAt, e1, Instr.slice, Instr.sliceBounds, e2, slcAddr]
    · simp [Instr.sliceAt, e1, Instr.slice, Instr.sliceBounds, Instr.sliceBound, asIntOf, e2, slcAddr, h1, h2]
  · rename_i k' m
    obtain ⟨⟨h1, h2, h3⟩, h4⟩ := hk
    refine ⟨_, h4, fun w _ => ?_⟩
    have e1 := run_underlying (P := P) hu w
    have e2 := run_sizeOf (P := P) hi' w
    have h0 : 0 ≤ m := by omega
    have h5 : l ≤ (m.toNat : Int) := by omega
    rcases hl with ⟨rfl, rfl⟩ | ⟨k, rfl⟩
    · simp [Instr.sliceAt, e1, Instr.slice, Instr.sliceBounds, Instr.sliceBound, asIntOf, e2, slcAddr, h0, h3]
    · simp [Instr.sliceAt, e1, Instr.slice, Instr.sliceBounds, Instr.sliceBound, asIntOf, e2, slcAddr, h0, h3, h1, h2]
      intro hlt; exact absurd hlt (by omega)
  · exact hk.elim
theorem slicev_sound {t : TypeId} {v : Value} {lo hi : Option Value} {K : Value → Prop} (h : Heap) (hr : slicev P t v lo hi K) :
    ∃ u, K u ∧ Yields P (Instr.sliceAt t v lo hi none) h u := by
  unfold slicev at hr
  split at hr
  · rename_i e a len cap hu
    split at hr
    · rename_i hi'
      rcases lowv_spec hr with ⟨h1, h2⟩ | ⟨k, n, h1, h2⟩
      · exact slice_key h hu hi' 0 (.inl ⟨h1, rfl⟩) h2
      · exact slice_key h hu hi' n (.inr ⟨k, h1⟩) h2
    · exact hr.elim
  · rename_i n e p hu
    split at hr
    · rename_i hi'
      obtain ⟨b, o, rfl, hr2⟩ := onAddr_spec hr
      refine ⟨_, hr2, fun w _ => ?_⟩
      have e1 := run_underlying (P := P) hu w
      have e2 := run_sizeOf (P := P) hi' w
      simp [Instr.sliceAt, e1, Instr.sureAddr, Instr.sliceBounds, e2, add_eq]
    · exact hr.elim
  · exact hr.elim

theorem mn_eq (m n : Int) : (if m > n then n else m) = min m n := by omega
theorem mx_eq (m n : Int) : (if n > m then n else m) = max m n := by omega
theorem mnv_sound {a b : Value} {K : Value → Prop} (ts : Array TypeId) (ty : TypeId) (h : Heap) (hr : mnv a b K) : ∃ u, K u ∧ Yields P (Builtin.min_ ts ty #[a, b]) h u := by
  unfold mnv at hr
  split at hr
  · split at hr
    · rename_i hk
      exact ⟨_, hr, fun w _ => by simp [Builtin.min_, Builtin.min2]; omega⟩
    · exact hr.elim
  · exact hr.elim
theorem mxv_sound {a b : Value} {K : Value → Prop} (ts : Array TypeId) (ty : TypeId) (h : Heap) (hr : mxv a b K) : ∃ u, K u ∧ Yields P (Builtin.max_ ts ty #[a, b]) h u := by
  unfold mxv at hr
  split at hr
  · split at hr
    · rename_i hk
      exact ⟨_, hr, fun w _ => by simp [Builtin.max_, Builtin.max2]; omega⟩
    · exact hr.elim
  · exact hr.elim
theorem bltv_sound {b : Builtin} {ts : Array TypeId} {vs : Array Value} {ty : TypeId} {K : Value → Prop} (h : Heap) (hr : bltv P b ts.toList vs.toList K) :
    ∃ u, K u ∧ ∀ (cs : Array Bool) (w : World), w.heap = h → (builtin b ts ty cs vs).run P w = .ok (.value u) w := by
  have up : ∀ {s : Sem Value} {u : Value}, Yields P s h u → ∀ w : World, w.heap = h → (do pure (Next.value (← s)) : Sem Next).run P w = .ok (.value u) w := by
    intro s u hy w hw
    simp [hy w hw]
  obtain ⟨vl⟩ := vs
  obtain ⟨tl⟩ := ts
  unfold bltv at hr
  simp only at hr
  split at hr
  · rename_i t v
    split at hr
    · rename_i hu
      refine ⟨_, hr, fun cs w hw => ?_⟩
      simp [builtin, Builtin.len_, run_underlying (P := P) hu w, goInt]
    · rename_i hu
      refine ⟨_, hr, fun cs w hw => ?_⟩
      simp [builtin, Builtin.len_, run_underlying (P := P) hu w, goInt]
    · rename_i hu
      refine ⟨_, hr, fun cs w hw => ?_⟩
      simp [builtin, Builtin.len_, run_underlying (P := P) hu w, goInt]
    · exact hr.elim
  · rename_i t v
    split at hr
    · rename_i hu
      refine ⟨_, hr, fun cs w hw => ?_⟩
      simp [builtin, Builtin.cap_, run_underlying (P := P) hu w, goInt]
    · exact hr.elim
  · rename_i a b
    obtain ⟨u, h3, h4⟩ := mnv_sound (P := P) _ ty h hr
    exact ⟨u, h3, fun cs => up h4⟩
  · rename_i a b
    obtain ⟨u, h3, h4⟩ := mxv_sound (P := P) _ ty h hr
    exact ⟨u, h3, fun cs => up h4⟩
  · exact hr.elim
theorem indexAt_sound {t : TypeId} {a i : Value} {K : Value → Prop} (h : Heap) (hr : (match i with
    | .int _ n => match P.underlying t, a with
      | some (.array len e), v => match hasInfo P e with
        | true => onPtr v fun b o => (0 ≤ n ∧ n < (len : Int)) ∧ K (.pointer (some ⟨b, o + mulc (sz P e) n.toNat, none⟩))
        | false => False
      | some (.slice e), .slice p len _ => match hasInfo P e with
        | true => (0 ≤ n ∧ n < (len : Int)) ∧ onAddr p fun b o => K (.pointer (some ⟨b, o + mulc (sz P e) n.toNat, none⟩))
        | false => False
      | _, _ => False
    | _ => False)) : ∃ u, K u ∧ Yields P (Instr.indexAt t a i) h u := by
  have mc : ∀ s n, mulc s n = n * s := by
    intro s n; unfold mulc; split <;> simp
  split at hr
  · rename_i k n
    split at hr
    · rename_i len e v hu
      split at hr
      · rename_i hi
        obtain ⟨b, o, rfl, ⟨h1, h2⟩, h3⟩ := onPtr_spec hr
        refine ⟨_, h3, fun w _ => ?_⟩
        have e1 := run_underlying (P := P) hu w
        have e2 := run_sizeOf (P := P) hi w
        simp [Instr.indexAt, asIntOf, e1, Instr.sureAddr, h1, h2, e2, add_eq, mc]
      · exact hr.elim
    · rename_i e p len c hu
      split at hr
      · rename_i hi
        obtain ⟨⟨h1, h2⟩, hr2⟩ := hr
        obtain ⟨b, o, rfl, h3⟩ := onAddr_spec hr2
        refine ⟨_, h3, fun w _ => ?_⟩
        have e1 := run_underlying (P := P) hu w
        have e2 := run_sizeOf (P := P) hi w
        simp [Instr.indexAt, asIntOf, e1, h1, h2, e2, add_eq, mc]
      · exact hr.elim
    · exact hr.elim
  · exact hr.elim

theorem index_sound {t : TypeId} {a i : Value} {K : Value → Prop} (h : Heap) (hr : (match i with
    | .int _ n => match P.underlying t, a with
      | some (.array len e), v => match hasInfo P e with
        | true => (0 ≤ n ∧ n < (len : Int)) ∧ aggv P e v (mulc (sz P e) n.toNat) K
        | false => False
      | some .string, .string s => (0 ≤ n ∧ n < (s.size : Int)) ∧ K (.int .u8 (strAt s n.toNat))
      | _, _ => False
    | _ => False)) : ∃ u, K u ∧ Yields P (Instr.index t a i) h u := by
  have mc : ∀ s n, mulc s n = n * s := by
    intro s n; unfold mulc; split <;> simp
  split at hr
  · rename_i k n
    split at hr
    · rename_i len e v hu
      split at hr
      · rename_i hi
        obtain ⟨⟨h1, h2⟩, h3⟩ := hr
        obtain ⟨cs, rfl, u, h4, h5⟩ := aggv_sound (P := P) h h3
        refine ⟨u, h4, fun w hw => ?_⟩
        have e1 := run_underlying (P := P) hu w
        have e2 := run_sizeOf (P := P) hi w
        have e3 := h5 w hw
        rw [mc] at e3
        simp [Instr.index, asIntOf, e1, h1, h2, e2, e3]
      · exact hr.elim
    · rename_i s hu
      obtain ⟨⟨h1, h2⟩, h3⟩ := hr
      refine ⟨_, h3, fun w _ => ?_⟩
      have e1 := run_underlying (P := P) hu w
      have e4 : n.toNat < s.size := by omega
      have e5 : s[n.toNat]? = some (s.data.toList.getD n.toNat 0) := by
        rw [getElem?_pos s n.toNat e4]
        have : n.toNat < s.data.toList.length := by simpa using e4
        rw [List.getD_eq_getElem?_getD, List.getElem?_eq_getElem this]
        rfl
      simp [Instr.index, asIntOf, e1, h1, e5, strAt]
    · exact hr.elim
  · exact hr.elim
theorem namev_spec {nm : Bool} {v : Value} {K : Value → Prop} (h : namev nm v K) : K v := by
  unfold namev at h
  split at h
  · exact h
  · split at h
    · exact h _ rfl
    · exact h
theorem fold_set : ∀ (new pre mid post : List Value) (off k : Nat), pre.length = off + k → mid.length = new.length →
    (new.zipIdx k).foldl (fun (cs : Array Value) (p : Value × Nat) => cs.setIfInBounds (off + p.2) p.1) (pre ++ mid ++ post).toArray = (pre ++ new ++ post).toArray
  | [], pre, mid, post, off, k, _, hm => by
    have : mid = [] := List.eq_nil_of_length_eq_zero hm
    subst this; rfl
  | c :: new, pre, mid, post, off, k, hp, hm => by
    match mid, hm with
    | m :: mid, hm =>
      have ih := fold_set new (pre ++ [c]) mid post off (k + 1) (by simp; omega) (by simpa using hm)
      have e : (pre ++ m :: mid ++ post).toArray.setIfInBounds (off + k) c = (pre ++ [c] ++ mid ++ post).toArray := by
        rw [← hp]; apply Array.ext'; simp
      simp only [List.zipIdx_cons, List.foldl_cons]
      rw [e, ih]
      simp
theorem joinL_length : ∀ {ch : List (List Value)}, (joinL ch).length = sumL (ch.map List.length)
  | [] => rfl
  | a :: r => by simp [joinL, sumL, joinL_length (ch := r)]
theorem joinL_append : ∀ (a b : List (List Value)), joinL (a ++ b) = joinL a ++ joinL b
  | [], b => rfl
  | x :: a, b => by simp [joinL, joinL_append a b]
theorem joinL_split {ch : List (List Value)} {i : Nat} {c : List Value} (h : ch[i]? = some c) : joinL ch = joinL (ch.take i) ++ c ++ joinL (ch.drop (i + 1)) := by
  have hlt := (List.getElem?_eq_some_iff.1 h).1
  have he := (List.getElem?_eq_some_iff.1 h).2
  have e : ch = ch.take i ++ (c :: ch.drop (i + 1)) := by rw [← he, ← List.drop_eq_getElem_cons hlt, List.take_append_drop]
  calc joinL ch = joinL (ch.take i ++ (c :: ch.drop (i + 1))) := by rw [← e]
    _ = _ := by rw [joinL_append]; simp [joinL]
theorem joinL_set {ch : List (List Value)} {i : Nat} {c d : List Value} (h : ch[i]? = some c) : joinL (ch.set i d) = joinL (ch.take i) ++ d ++ joinL (ch.drop (i + 1)) := by
  have hlt := (List.getElem?_eq_some_iff.1 h).1
  have h2 : (ch.set i d)[i]? = some d := by simp [hlt]
  rw [joinL_split h2]
  have e1 : (ch.set i d).take i = ch.take i := List.take_set_of_le (Nat.le_refl _)
  have e2 : (ch.set i d).drop (i + 1) = ch.drop (i + 1) := List.drop_set_of_lt (by omega)
  rw [e1, e2]
theorem partv_spec {n : Nat} {v : Value} {K : List Value → Prop} (h : partv n v K) : v.cells.toList.length = n ∧ K v.cells.toList ∧ v.cells.size = n := by
  unfold partv at h
  split at h
  · exact ⟨h.1, h.2, by simpa [Value.cells] using h.1⟩
  · rename_i n1
    split at h
    · have hc : v.oneCell' = true ∧ K [v] := by cases v <;> first | exact ⟨rfl, h⟩ | exact h.elim
      have : v.cells = #[v] := by cases v <;> first | rfl | exact (n1 _ rfl).elim
      rw [this]; exact ⟨rfl, hc.2, rfl⟩
    · exact h.elim
theorem partv_one {n : Nat} {v : Value} {K : List Value → Prop} (h : partv n v K) : (∃ cs, v = .agg cs) ∨ v.oneCell' = true := by
  unfold partv at h
  split at h
  · exact .inl ⟨_, rfl⟩
  · rename_i n1
    split at h
    · exact .inr (by cases v <;> first | rfl | exact h.elim)
    · exact h.elim
theorem partv_of {n : Nat} {v : Value} {K : List Value → Prop} (h1 : v.cells.toList.length = n) (h2 : (∃ cs, v = .agg cs) ∨ v.oneCell' = true) (k : K v.cells.toList) : partv n v K := by
  rcases h2 with ⟨cs, rfl⟩ | h2
  · exact ⟨h1, k⟩
  · cases v <;> first | (subst h1; exact k) | (cases h2; done)
theorem fill_chunks {place : Nat → Option (Nat × Nat)} {sizes : List Nat} (hpl : ∀ i n, sizes[i]? = some n → place i = some (sumL (sizes.take i), n)) :
    ∀ {parts : List (Nat × Value)} {ch : List (List Value)} {K : List (List Value) → Prop}, ch.map List.length = sizes → putParts sizes parts ch K →
      ∃ ch', K ch' ∧ (∀ K' : List (List Value) → Prop, K' ch' → putParts sizes parts ch K') ∧ Instr.fill place (joinL ch).toArray parts = some (joinL ch').toArray
  | [], ch, K, _, h => ⟨ch, h, fun _ k => k, rfl⟩
  | (i, v) :: r, ch, K, hch, h => by
    simp only [putParts] at h
    split at h
    · rename_i n hn
      obtain ⟨h1, h2, h3⟩ := partv_spec h
      have hlen : ch.length = sizes.length := by rw [← hch]; simp
      have hi : i < ch.length := by rw [hlen]; exact (List.getElem?_eq_some_iff.1 hn).1
      obtain ⟨c, hc⟩ : ∃ c, ch[i]? = some c := ⟨_, List.getElem?_eq_getElem hi⟩
      have hcn : c.length = n := by
        have : (ch.map List.length)[i]? = some c.length := by simp [hc]
        rw [hch, hn] at this; exact (Option.some.inj this).symm
      have hch2 : (ch.set i v.cells.toList).map List.length = sizes := by
        rw [List.map_set, h1, ← hch]
        apply List.ext_getElem?
        intro j
        rw [List.getElem?_set]
        split
        · rename_i hij; subst hij
          have := (List.getElem?_eq_some_iff.1 hc).2
          simp [hi, this, hcn]
        · rfl
      obtain ⟨ch', k1, k2, k3⟩ := fill_chunks hpl hch2 h2
      have hpre : (joinL (ch.take i)).length = sumL (sizes.take i) := by rw [joinL_length, ← hch, List.map_take]
      refine ⟨ch', k1, fun K' k => ?_, ?_⟩
      · simp only [putParts, hn]
        have := k2 K' k
        exact partv_of h1 (partv_one h) this
      · simp only [Instr.fill, hpl i n hn]
        have hb : ¬ (v.cells.size ≠ n ∨ sumL (sizes.take i) + v.cells.size > (joinL ch).toArray.size) := by
          have := congrArg List.length (joinL_split hc)
          simp only [List.length_append, hpre, hcn] at this
          simp only [List.size_toArray]
          omega
        have hb' : (decide (v.cells.size ≠ n) || decide (sumL (sizes.take i) + v.cells.size > (joinL ch).toArray.size)) = false := by simpa using hb
        rw [if_neg (by simpa using hb)]
        have ef := fold_set v.cells.toList (joinL (ch.take i)) c (joinL (ch.drop (i + 1))) (sumL (sizes.take i)) 0 (by simpa using hpre) (by rw [hcn, h1])
        rw [← joinL_split hc, ← joinL_set hc] at ef
        have eg : v.cells.zipIdx.foldl (fun (cs : Array Value) (p : Value × Nat) => cs.setIfInBounds (sumL (sizes.take i) + p.2) p.1) (joinL ch).toArray = (joinL (ch.set i v.cells.toList)).toArray := by
          rw [← ef, ← Array.foldl_toList]; simp
        rw [← k3, ← eg]
    · exact h.elim
theorem sumL_append : ∀ (a b : List Nat), sumL (a ++ b) = sumL a + sumL b
  | [], b => by simp [sumL]
  | x :: a, b => by simp [sumL, sumL_append a b, Nat.add_assoc]
theorem splitL_length : ∀ {sizes : List Nat} {l : List Value}, l.length = sumL sizes → (splitL sizes l).map List.length = sizes ∧ joinL (splitL sizes l) = l
  | [], l, h => ⟨rfl, by rw [List.eq_nil_of_length_eq_zero h]; rfl⟩
  | n :: r, l, h => by
    simp only [sumL] at h
    obtain ⟨h1, h2⟩ := splitL_length (sizes := r) (l := l.drop n) (by simp; omega)
    exact ⟨by simp [splitL, h1]; omega, by simp [splitL, joinL, h2]⟩
theorem lay_spec : ∀ {fs : List Field} {o : Nat} {sizes : List Nat}, lay P fs o = some sizes →
    ∃ places, fs.mapM (fun f => (P.info? f.type).map fun i => (f.offset, i.size)) = some places ∧ places.length = sizes.length ∧ ∀ i n, sizes[i]? = some n → places[i]? = some (o + sumL (sizes.take i), n)
  | [], o, sizes, h => by simp [lay] at h; subst h; exact ⟨[], by simp, rfl, by simp⟩
  | f :: r, o, sizes, h => by
    simp only [lay] at h
    split at h
    · rename_i l h1 h2 h3
      cases h
      obtain ⟨i, hi, hs⟩ := hasInfo_spec h2
      obtain ⟨places, k1, k2, k3⟩ := lay_spec h3
      have hoff := Nat.eq_of_beq_eq_true h1
      refine ⟨(f.offset, i.size) :: places, by simp [hi, k1], by simp [k2], ?_⟩
      intro j n hj
      cases j with
      | zero => simp at hj; subst hj; simp [sumL, hoff, hs]
      | succ j =>
        simp at hj
        have := k3 j n hj
        simp only [List.getElem?_cons_succ, List.take_succ_cons, sumL]
        rw [this, hs]
        simp [Nat.add_assoc]
    · cases h
theorem sumL_replicate_take {n m i : Nat} (h : i < n) : sumL ((List.replicate n m).take i) = i * m := by
  rw [List.take_replicate, Nat.min_eq_left (by omega)]
  induction i with
  | zero => simp [sumL]
  | succ i ih => rw [List.replicate_succ]; simp only [sumL]; rw [ih (by omega), Nat.succ_mul]; omega
theorem replicate_get {n m i k : Nat} (h : (List.replicate n m)[i]? = some k) : i < n ∧ k = m := by
  have := (List.getElem?_eq_some_iff.1 h)
  obtain ⟨h1, h2⟩ := this
  simp at h1 h2
  exact ⟨h1, h2.symm⟩
theorem buildv_sound {t : TypeId} {parts : List (Nat × Value)} {K : Value → Prop} (h : buildv P t parts K) :
    ∃ v, K v ∧ (∀ K' : Value → Prop, K' v → buildv P t parts K') ∧ ∀ w, (Instr.build t parts.toArray).run P w = .ok v w := by
  unfold buildv at h
  split at h
  · rename_i it fs hit hu
    split at h
    · rename_i z sizes hz hl
      split at h
      · rename_i hb
        have hb := Nat.eq_of_beq_eq_true hb
        obtain ⟨s1, s2⟩ := splitL_length hb
        obtain ⟨places, p1, p2, p3⟩ := lay_spec hl
        obtain ⟨ch', k1, k2, k3⟩ := fill_chunks (place := fun i => places[i]?) (fun i n hn => by simpa using p3 i n hn) s1 h
        refine ⟨_, k1, fun K' k => ?_, fun w => ?_⟩
        · unfold buildv
          simp only [hit, hu, hz, hl, hb, Nat.beq_refl]
          exact k2 _ k
        · refine run_build w t _ _ ?_
          unfold Program.built
          rw [s2] at k3
          simp only [hit, hu, hz, p1]
          simpa using k3
      · exact h.elim
    · exact h.elim
  · rename_i it n e hit hu
    split at h
    · rename_i z hz hi
      obtain ⟨ie, hie, hs⟩ := hasInfo_spec hi
      split at h
      · rename_i hb
        have hb := Nat.eq_of_beq_eq_true hb
        obtain ⟨s1, s2⟩ := splitL_length hb
        obtain ⟨ch', k1, k2, k3⟩ := fill_chunks (place := fun i => some (i * ie.size, ie.size)) (fun i n hn => by
          obtain ⟨r1, r2⟩ := replicate_get hn
          rw [sumL_replicate_take r1, r2, hs]) s1 h
        refine ⟨_, k1, fun K' k => ?_, fun w => ?_⟩
        · unfold buildv
          simp only [hit, hu, hz, hi, hb, Nat.beq_refl]
          exact k2 _ k
        · refine run_build w t _ _ ?_
          unfold Program.built
          rw [s2] at k3
          simp only [hit, hu, hz, hie]
          simpa using k3
      · exact h.elim
    · exact h.elim
  · exact h.elim
theorem anyOf_point {t : TypeId} {K : Value → Prop} (h : anyOf P t K) : ∃ v, K v ∧ ∀ K' : Value → Prop, K' v → anyOf P t K' := by
  unfold anyOf at h
  split at h
  · rename_i hu; obtain ⟨n, h⟩ := h; exact ⟨_, h, fun K' k => (by unfold anyOf; simp only [hu]; exact ⟨n, k⟩)⟩
  · rename_i hu; obtain ⟨n, h⟩ := h; exact ⟨_, h, fun K' k => (by unfold anyOf; simp only [hu]; exact ⟨n, k⟩)⟩
  · rename_i hu; obtain ⟨n, h⟩ := h; exact ⟨_, h, fun K' k => (by unfold anyOf; simp only [hu]; exact ⟨n, k⟩)⟩
  · rename_i hu; obtain ⟨n, l, m, h⟩ := h; exact ⟨_, h, fun K' k => (by unfold anyOf; simp only [hu]; exact ⟨n, l, m, k⟩)⟩
  · rename_i hu; obtain ⟨n, h⟩ := h; exact ⟨_, h, fun K' k => (by unfold anyOf; simp only [hu]; exact ⟨n, k⟩)⟩
  · rename_i hu; obtain ⟨n, h⟩ := h; exact ⟨_, h, fun K' k => (by unfold anyOf; simp only [hu]; exact ⟨n, k⟩)⟩
  · rename_i hu; obtain ⟨n, h⟩ := h; exact ⟨_, h, fun K' k => (by unfold anyOf; simp only [hu]; exact ⟨n, k⟩)⟩
  · rename_i d n1 n2 n3 n4 n5 n6 n7
    obtain ⟨v, h⟩ := h
    refine ⟨v, h, fun K' k => ?_⟩
    unfold anyOf
    split
    · rename_i hu; exact (n1 _ hu).elim
    · rename_i hu; exact (n2 hu).elim
    · rename_i hu; exact (n3 _ hu).elim
    · rename_i hu; exact (n4 _ hu).elim
    · rename_i hu; exact (n5 hu).elim
    · rename_i hu; exact (n6 _ hu).elim
    · rename_i hu; exact (n7 _ _ hu).elim
    · exact ⟨v, k⟩
theorem asv_sound {T : TypeId} {ok : Bool} {a : Value} {K : Value → Prop} (h : Heap) (hr : asv P T ok a K) : ∃ v, K v ∧ ∀ xT : TypeId, Yields P (Instr.typeAssert a xT T ok) h v := by
  unfold asv at hr
  split at hr
  · exact hr.elim
  · rename_i d nif hu
    have nif : ∀ ms, d ≠ .interface ms := fun ms e => nif _ (by rw [e])
    have key : ∀ (x : Value) (t : Bool), asr P T a = some (x, t) → (t = true ∨ ok = true) → ∀ xT : TypeId, Yields P (Instr.typeAssert a xT T ok) h (if ok then .tuple #[x, .bool t] else x) := by
      intro x t hx hok xT w hw
      have e1 := run_underlying (P := P) hu w
      unfold asr at hx
      have zz : ∀ z, zeroOf P T = some z → (zeroValue T).run P w = .ok z w := by
        intro z hz
        unfold zeroOf at hz
        split at hz
        · rename_i i hi; simp [zeroValue, typeInfo, hi, hz]
        · cases hz
      split at hx
      · rename_i u y
        split at hx
        · rename_i hb
          cases hx
          have hb := Nat.eq_of_beq_eq_true hb
          subst hb
          cases d <;> first | exact (nif _ rfl).elim | (cases ok <;> simp [Instr.typeAssert, e1])
        · rename_i hb
          split at hx
          · rename_i z hz
            cases hx
            rcases hok with hok | hok
            · cases hok
            · subst hok
              have hne : ¬ u = T := fun e => by subst e; rw [Nat.beq_refl] at hb; cases hb
              have e2 := zz _ hz
              cases d <;> first | exact (nif _ rfl).elim | simp [Instr.typeAssert, e1, hne, e2]
          · cases hx
      · split at hx
        · rename_i z hz
          cases hx
          rcases hok with hok | hok
          · cases hok
          · subst hok
            have e2 := zz _ hz
            cases d <;> first | exact (nif _ rfl).elim | simp [Instr.typeAssert, e1, e2]
        · cases hx
      · cases hx
    obtain ⟨x, h1, _⟩ := anyOf_point hr
    cases ok
    · exact ⟨_, h1.2, fun xT => by simpa using key x true h1.1 (.inl rfl) xT⟩
    · obtain ⟨t, h2, h3⟩ := h1
      exact ⟨_, h3, fun xT => by simpa using key x t h2 (.inr rfl) xT⟩
  · exact hr.elim
theorem rd_sound {x : Md} {ρ : Operand → Value} {o : Oper} {h : Heap} {K : Value → Prop} (hr : rd P x ρ o.op h K) :
    ∃ v, K v ∧ ∀ w : World, w.heap = h → (execOp ρ o).run P w = .ok (.value v) w := by
  have up : ∀ {s : Sem Value} {u : Value}, Yields P s h u → ∀ w : World, w.heap = h → (do pure (Next.value (← s)) : Sem Next).run P w = .ok (.value u) w := by
    intro s u hy w hw
    simp [hy w hw]
  obtain ⟨dst, op, ty, pos, after, guard⟩ := o
  simp only at hr
  unfold rd at hr
  split at hr
  · exact ⟨_, hr, fun w _ => rfl⟩
  · exact ⟨_, namev_spec hr, fun w _ => rfl⟩
  · rename_i c a b
    split at hr
    · rename_i t ht
      rcases bcase_spec hr with ⟨rfl, h1⟩ | ⟨rfl, h1⟩
      · exact ⟨_, h1, fun w _ => by simp [execOp, ht, asBool]⟩
      · exact ⟨_, h1, fun w _ => by simp [execOp, ht, asBool]⟩
    · exact hr.elim
  · rename_i op t a b ty'
    obtain ⟨v, h1, h2⟩ := bino_sound (P := P) a b h hr
    exact ⟨v, h1, fun w hw => up h2 w hw⟩
  · obtain ⟨v, h1, h2⟩ := unv_sound (P := P) h hr
    exact ⟨v, h1, fun w hw => up h2 w hw⟩
  · obtain ⟨v, h1, h2⟩ := convv_sound (P := P) h hr
    exact ⟨v, h1, fun w hw => up h2 w hw⟩
  · rename_i a
    split at hr
    · rename_i p hp
      obtain ⟨b, o, rfl, h1⟩ := onAddr_spec hr
      exact ⟨_, h1, fun w _ => by simp [execOp, hp]⟩
    · exact hr.elim
  · obtain ⟨v, h1, h2⟩ := fieldAt_sound (P := P) h hr
    exact ⟨v, h1, fun w hw => up h2 w hw⟩
  · rename_i t a f
    obtain ⟨fs, fd, hu, hf, hi, hs, hr3⟩ := fieldOff_spec hr
    obtain ⟨cs, hcs, v, h1, h2⟩ := aggv_sound (P := P) h hr3
    refine ⟨v, h1, fun w hw => up (s := Instr.field t (ρ a) f) (fun w hw => ?_) w hw⟩
    have e1 := run_underlying (P := P) hu w
    have e2 := h2 w hw
    simp [Instr.field, e1, hf, hcs, asAgg, e2]
  · obtain ⟨v, h1, h2⟩ := indexAt_sound (P := P) h hr
    exact ⟨v, h1, fun w hw => up h2 w hw⟩
  · rename_i t a
    obtain ⟨b, o, hp, h1⟩ := onPtr_spec hr
    obtain ⟨v, h1, h2⟩ := ldv_sound (P := P) h1
    refine ⟨v, h1, fun w hw => up (s := Instr.loadAt t (ρ a)) ?_ w hw⟩
    rw [hp]; exact h2
  · obtain ⟨v, h1, h2⟩ := index_sound (P := P) h hr
    exact ⟨v, h1, fun w hw => up h2 w hw⟩
  · rename_i a i
    split at hr
    · rename_i vs hv
      split at hr
      · rename_i v hi
        refine ⟨v, hr, fun w hw => up (s := Instr.extract (ρ a) i) (fun w _ => ?_) w hw⟩
        have : vs[i]? = some v := by simpa using hi
        simp [Instr.extract, hv, this]
      · exact hr.elim
    · exact hr.elim
  · obtain ⟨v, h1, h2⟩ := slicev_sound (P := P) h hr
    exact ⟨v, h1, fun w hw => up h2 w hw⟩
  · obtain ⟨v, h1, h2⟩ := asv_sound (P := P) h hr
    exact ⟨v, h1, fun w hw => up (h2 _) w hw⟩
  · rename_i t a
    split at hr
    · exact hr.elim
    · rename_i d n1 hu
      refine ⟨_, hr, fun w hw => up (s := Instr.makeInterface t (ρ a)) (fun w _ => ?_) w hw⟩
      have e1 := run_underlying (P := P) hu w
      cases d <;> first | exact (n1 _ rfl).elim | simp [Instr.makeInterface, e1]
    · exact hr.elim
  · rename_i f a b
    refine ⟨_, hr, fun w hw => rfl⟩
  · rename_i t parts
    obtain ⟨v, h1, _, h2⟩ := buildv_sound (P := P) hr
    have e : (parts.toList.map fun (i, x) => (i, ρ x)).toArray = parts.map fun (i, x) => (i, ρ x) := by apply Array.ext'; simp
    rw [e] at h2
    have hy : Yields P (Instr.build t (parts.map fun (i, x) => (i, ρ x))) h v := fun w _ => h2 w
    exact ⟨v, h1, fun w hw => up hy w hw⟩
  · rename_i b args ts
    have : (args.toList.map ρ) = (args.map ρ).toList := by simp
    rw [this] at hr
    obtain ⟨u, h1, h2⟩ := bltv_sound (P := P) (ty := ty) h hr
    refine ⟨u, h1, fun w hw => ?_⟩
    simp [execOp, resolve, invoke, h2 _ w hw]
  · exact hr.elim
theorem plainB_spec {h : Heap} {b : Nat} (hp : plainB h b = true) : ∃ c t, h[b]? = some (.cells c t (0, 0)) := by
  unfold plainB at hp
  split at hp
  · rename_i c t lo hi e
    simp only [Bool.and_eq_true] at hp
    obtain rfl := Nat.eq_of_beq_eq_true hp.1
    obtain rfl := Nat.eq_of_beq_eq_true hp.2
    exact ⟨c, t, e⟩
  · cases hp
theorem ptrOk_spec {u : TypeId} (hp : ptrOk P u = true) : ∃ e i j, P.underlying u = some (.pointer e) ∧ P.info? u = some i ∧ i.comparable = true ∧ P.info? e = some j ∧ j.size ≠ 0 := by
  unfold ptrOk at hp
  split at hp
  · rename_i e hu
    simp only [Bool.and_eq_true] at hp
    obtain ⟨h1, h2⟩ := hp
    split at h1
    · rename_i i hi
      split at h2
      · rename_i j hj
        exact ⟨e, i, j, hu, hi, h1, hj, fun hz => by rw [hz] at h2; cases h2⟩
      · cases h2
    · cases h1
  · cases hp
theorem run_equal_ifh {t : TypeId} {ms : _} {a b : Value} {k c : Bool} (hu : P.underlying t = some (.interface ms)) {w : World} (he : ifeqH P w.heap k a b = some c) : (Op.equal t a b).run P w = .ok c w := by
  have hu' := run_underlying (P := P) hu w
  unfold ifeqH at he
  split at he
  · rename_i u x v y
    split at he
    · rename_i hb
      cases he
      have hne : ¬ u = v := fun e => by subst e; rw [Nat.beq_refl] at hb; cases hb
      have key : ∀ d, (Op.equalIn (d + 1) t (.iface u x) (.iface v y)).run P w = .ok false w := by
        intro d; simp [Op.equalIn, hu', hne]
      exact key 9999
    · rename_i hb
      obtain rfl := Nat.eq_of_beq_eq_true hb
      split at he
      · rename_i p q hp
        obtain ⟨e, i, j, h1, h2, h3, h4, h5⟩ := ptrOk_spec hp
        unfold sameA at he
        split at he
        · rename_i hpq
          cases he; subst hpq
          exact run_equalIn_iface_ptr_same w 9998 p hu h1 h2 h3 h4
        · rename_i hpq
          split at he
          · rename_i hpl
            cases he
            simp only [Bool.and_eq_true] at hpl
            obtain ⟨c1, t1, k1⟩ := plainB_spec hpl.1
            obtain ⟨c2, t2, k2⟩ := plainB_spec hpl.2
            exact run_equalIn_iface_ptr_other w 9998 hu h1 h2 h3 h4 h5 hpq k1 k2
          · cases he
      · cases he
  · exact run_equal_if t ms hu he w
theorem eqGuard_ifh {op : BinOp} {t : TypeId} {x y : Operand} {a b : Value} {c : Bool} {w : World} (he : ifeqH P w.heap (isConst x || isConst y) a b = some c) : (eqGuard op t x y a b).run P w = .ok () w := by
  unfold ifeqH at he
  split at he
  · unfold eqGuard; cases op <;> rfl
  · exact eqGuard_if he
theorem isIf_spec {t : TypeId} (h : isIf P t = true) : ∃ ms, P.underlying t = some (.interface ms) := by
  unfold isIf at h
  split at h
  · rename_i ms hu; exact ⟨ms, hu⟩
  · cases h
theorem ifeqH_not {h : Heap} {k c : Bool} {a b : Value} (he : ifeqH P h k a b = some c) : (a = .nilIface ∨ ∃ u x, a = .iface u x) ∧ (b = .nilIface ∨ ∃ u x, b = .iface u x) := by
  unfold ifeqH at he
  split at he
  · exact ⟨.inr ⟨_, _, rfl⟩, .inr ⟨_, _, rfl⟩⟩
  · unfold ifeq at he
    split at he
    · exact ⟨.inl rfl, .inl rfl⟩
    · exact ⟨.inl rfl, .inr ⟨_, _, rfl⟩⟩
    · exact ⟨.inr ⟨_, _, rfl⟩, .inl rfl⟩
    · cases he
theorem rdh_sound {x : Md} {ρ : Operand → Value} {o : Oper} {h : Heap} {K : Value → Prop} (hr : rdh P x ρ o.op h K) :
    ∃ v, K v ∧ ∀ w : World, w.heap = h → (execOp ρ o).run P w = .ok (.value v) w := by
  unfold rdh at hr
  split at hr
  · rename_i op t a b ty hop
    split at hr
    · rename_i hif
      obtain ⟨ms, hu⟩ := isIf_spec hif
      obtain ⟨dst, op', ty', pos, after, guard⟩ := o
      simp only at hop
      subst hop
      unfold binh at hr
      split at hr
      · obtain ⟨c, h1, h2⟩ := hr
        refine ⟨_, h2, fun w hw => ?_⟩
        subst hw
        have e := eqGuard_ifh (P := P) (op := .eql) (t := t) h1
        have q := run_equal_ifh (P := P) hu h1
        obtain ⟨ha, hb⟩ := ifeqH_not h1
        rcases ha with ha | ⟨u, x, ha⟩ <;> rcases hb with hb | ⟨v, y, hb⟩ <;> rw [ha, hb] at e q <;> simp [execOp, e, Go.binOp, q, ha, hb]
      · obtain ⟨c, h1, h2⟩ := hr
        refine ⟨_, h2, fun w hw => ?_⟩
        subst hw
        have e := eqGuard_ifh (P := P) (op := .neq) (t := t) h1
        have q := run_equal_ifh (P := P) hu h1
        obtain ⟨ha, hb⟩ := ifeqH_not h1
        rcases ha with ha | ⟨u, x, ha⟩ <;> rcases hb with hb | ⟨v, y, hb⟩ <;> rw [ha, hb] at e q <;> simp [execOp, e, Go.binOp, q, ha, hb]
      · exact hr.elim
    · rw [← hop] at hr; exact rd_sound hr
  · exact rd_sound hr
end Go.Vc

/- The reckoner's rules for operations that act: new memory, a store, a call, an append. -/
set_option linter.unusedVariables false
set_option linter.unusedSimpArgs false
namespace Go.Vc
variable {P : Program} {w : World}

theorem Same.alloc (w : World) (o : Obj) : Same w { w with heap := w.heap.push o } := ⟨rfl, rfl, rfl, Nat.le_refl _⟩
theorem setCell_eq (w : World) (b o : Nat) (v : Value) : w.setCell ⟨b, o, none⟩ v = { w with heap := setc w.heap b o v } := by
  unfold World.setCell setc; rfl
theorem wr_cell {h : Heap} {b o : Nat} (hw : wr h b o) : ∃ v, cell h b o = some v := by
  obtain ⟨c, e, lo, hi, h1, h2, _⟩ := hw
  exact ⟨c[o], by simp [cell, h1, h2]⟩
theorem wr_frozen {w : World} {b o : Nat} (hw : wr w.heap b o) : w.frozen? ⟨b, o, none⟩ = false := by
  obtain ⟨c, e, lo, hi, h1, h2, h3⟩ := hw
  simp only [World.frozen?, h1]
  simpa using fun a => by omega
theorem run_store_wr {b o : Nat} {v : Value} (hw : wr w.heap b o) (hv : v.oneCell' = true) : (store ⟨b, o, none⟩ v).run P w = .ok () { w with heap := setc w.heap b o v } := by
  obtain ⟨u, hu⟩ := wr_cell hw
  have h1 : w.cell? ⟨b, o, none⟩ = some u := by rw [cell?_eq]; exact hu
  rw [run_store P w _ v .plain hv, h1]
  simp [wr_frozen hw, setCell_eq]
theorem setc_get {h : Heap} {b o : Nat} {v : Value} {c : Array Value} {e : TypeId} {f : Nat × Nat} (hb : h[b]? = some (.cells c e f)) : (setc h b o v)[b]? = some (.cells (c.setIfInBounds o v) e f) := by
  have hlt := (Array.getElem?_eq_some_iff.1 hb).1
  have hv := (Array.getElem?_eq_some_iff.1 hb).2
  unfold setc
  rw [Array.getElem?_eq_getElem (by simpa using hlt), Array.getElem_modify_self, hv]
theorem wrs_wr {h : Heap} {b o n i : Nat} (hw : wrs h b o n) (hi : i < n) : wr h b (o + i) := by
  obtain ⟨c, e, lo, hi', h1, h2, h3⟩ := hw
  exact ⟨c, e, lo, hi', h1, by omega, by omega⟩
theorem wrs_next {h : Heap} {b o n : Nat} {v : Value} (hw : wrs h b o (n + 1)) : wrs (setc h b o v) b (o + 1) n := by
  obtain ⟨c, e, lo, hi', h1, h2, h3⟩ := hw
  exact ⟨_, e, lo, hi', setc_get h1, by simp; omega, by omega⟩
theorem run_storeCells_wrs {b o : Nat} : ∀ {vs : List Value} {i : Nat} {w : World}, wrs w.heap b (o + i) vs.length → (∀ u ∈ vs, u.oneCell' = true) →
    (storeCells ⟨b, o, none⟩ vs i).run P w = .ok () { w with heap := setr w.heap b (o + i) vs }
  | [], i, w, _, _ => rfl
  | v :: vs, i, w, hw, h1 => by
    have e1 : (store ⟨b, o + i, none⟩ v).run P w = .ok () { w with heap := setc w.heap b (o + i) v } :=
      run_store_wr (by have := wrs_wr hw (i := 0) (by simp); simpa using this) (h1 v (by simp))
    have e2 := run_storeCells_wrs (b := b) (o := o) (vs := vs) (i := i + 1) (w := { w with heap := setc w.heap b (o + i) v }) (by have := wrs_next (v := v) hw; simpa [Nat.add_assoc] using this) (fun u hu => h1 u (by simp [hu]))
    simp only [storeCells, Sem.run_bind, add_eq, e1, Result.andThen_ok, e2]
    simp [setr, Nat.add_assoc]
theorem okc_spec {v : Value} {X : Prop} (h : okc v X) : v.oneCell' = true ∧ X := by cases v <;> first | exact ⟨rfl, h⟩ | exact h.elim
theorem cells_one {v : Value} (h : v.oneCell' = true) : v.cells = #[v] := by cases v <;> first | rfl | cases h

theorem stv_sound {t : TypeId} {h : Heap} {b o : Nat} {v : Value} {K : Heap → Prop} (hr : stv P t h b o v K) (hw : w.heap = h) :
    ∃ w', (Instr.storeAt t (.pointer (some ⟨b, o, none⟩)) v).run P w = .ok () w' ∧ Same w w' ∧ K w'.heap := by
  subst hw
  have main : ∀ {t : TypeId}, hasInfo P t = true → ∀ {v : Value}, v.cells.toList.length = sz P t → wrs w.heap b o v.cells.toList.length → (∀ u ∈ v.cells.toList, u.oneCell' = true) →
      (Instr.storeAt t (.pointer (some ⟨b, o, none⟩)) v).run P w = .ok () { w with heap := setr w.heap b o v.cells.toList } := by
    intro t hi v hl hws h1
    have e2 := run_sizeOf (P := P) hi w
    have e3 := run_storeCells_wrs (P := P) (b := b) (o := o) (vs := v.cells.toList) (i := 0) (w := w) (by simpa using hws) h1
    have hl' : v.cells.size = sz P t := by simpa using hl
    simp only [Nat.add_zero] at e3
    simp [Instr.storeAt, Instr.sureAddr, storeVar, e2, hl', e3]
  unfold stv at hr
  split at hr
  · rename_i hu
    split at hr
    · rename_i cs hi
      obtain ⟨⟨h1, h2, h3⟩, h4⟩ := hr
      exact ⟨_, main hi (v := .agg cs) h1 (by simp only [Value.cells]; rw [h1]; exact h2) h3, ⟨rfl, rfl, rfl, Nat.le_refl _⟩, h4 _ rfl⟩
    · exact hr.elim
  · rename_i hu
    split at hr
    · rename_i cs hi
      obtain ⟨⟨h1, h2, h3⟩, h4⟩ := hr
      exact ⟨_, main hi (v := .agg cs) h1 (by simp only [Value.cells]; rw [h1]; exact h2) h3, ⟨rfl, rfl, rfl, Nat.le_refl _⟩, h4 _ rfl⟩
    · exact hr.elim
  · split at hr
    · rename_i hi hs
      obtain ⟨hv, hwr, hK⟩ := okc_spec hr
      have hc := cells_one hv
      refine ⟨_, main hi (v := v) (by rw [hc, hs]; rfl) ?_ (by rw [hc]; simpa using hv), ⟨rfl, rfl, rfl, Nat.le_refl _⟩, hK _ (by rw [hc]; rfl)⟩
      rw [hc]
      obtain ⟨c, e, lo, hi', h1, h2, h3⟩ := hwr
      exact ⟨c, e, lo, hi', h1, by simp; omega, by simp; omega⟩
    · exact hr.elim
  · exact hr.elim

theorem run_firstCells {size n : Nat} {a : Option Addr} {l c : Nat} {cs : List Value} (hs : src w.heap a (n * size) cs) : (Builtin.firstCells size n (.slice a l c)).run P w = .ok cs.toArray w := by
  unfold src at hs
  split at hs
  · subst hs; rfl
  · exact run_loadCells_of_row hs rfl
  · obtain ⟨h1, rfl⟩ := hs
    simp only [Builtin.firstCells, h1]
    exact run_loadCells_list w _ [] (by simp)
theorem infoBytes {e : TypeId} {i : TypeInfo} (hi : P.info? e = some i) : bytesOf P e = i.bytes := by simp [bytesOf, hi]

theorem src_drawn {w : World} {a : Option Addr} {n : Nat} {cs : List Value} {d : Nat} (hs : src w.heap a n cs) : src ({ w with drawn := d } : World).heap a n cs := hs

theorem zok_spec {t : TypeId} (h : zok P t = true) : ∃ i, P.info? t = some i ∧ ∃ z, i.zero = some z ∧ z.cells.size = i.size := by
  unfold zok at h
  split at h
  · rename_i i hi
    split at h
    · rename_i z hz
      exact ⟨i, hi, z, hz, by simpa using Nat.eq_of_beq_eq_true h⟩
    · cases h
  · cases h
theorem appv_sound {T T2 e2 : TypeId} {s x : Value} {h : Heap} {K : Value → Heap → Prop} (ht2 : P.underlying T2 = some (.slice e2)) (hr : appv P T s x h K) (hw : w.heap = h) (ty : TypeId) :
    ∃ v w', (Builtin.append_ #[T, T2] ty #[s, x]).run P w = .ok v w' ∧ Same w w' ∧ K v w'.heap := by
  subst hw
  unfold appv at hr
  split at hr
  · rename_i e hu
    split at hr
    · rename_i a len cap a2 len2 c2 hzi
      obtain ⟨news, ⟨h1, h2⟩, hroom, hgrow⟩ := hr
      obtain ⟨i, hinf, z, hz0, hzs⟩ := zok_spec hzi
      have hi : hasInfo P e = true := by simp [hasInfo, hinf]
      have hsz : sz P e = i.size := by simp [sz, hinf]
      have e1 := run_underlying (P := P) hu w
      have e3 := run_underlying (P := P) ht2 w
      have eS := run_sizeOf (P := P) hi w
      have eN := run_firstCells (P := P) (size := sz P e) (n := len2) (a := a2) (l := len2) (c := c2) h1
      by_cases hle : len + len2 ≤ cap
      · have hk := hroom hle
        unfold appIn at hk
        split at hk
        · refine ⟨_, w, ?_, Same.refl w, hk⟩
          simp [Builtin.append_, e1, e3, eS, Builtin.lenOf, hle, eN]
        · rename_i b o
          obtain ⟨hws, hK⟩ := hk
          have eC := run_storeCells_wrs (P := P) (b := b) (o := o + len * sz P e) (vs := news) (i := 0) (w := w) (by simpa using hws) h2
          simp only [Nat.add_zero] at eC
          refine ⟨_, { w with heap := setr w.heap b (o + len * sz P e) news }, ?_, ⟨rfl, rfl, rfl, Nat.le_refl _⟩, hK _ rfl⟩
          simp [Builtin.append_, e1, e3, eS, Builtin.lenOf, hle, eN, add_eq, eC]
        · exact hk.elim
      · obtain ⟨⟨hb1, hb2⟩, olds, ho, hK⟩ := hgrow (by omega)
        rw [infoBytes hinf] at hb1 hb2
        have hfit : ¬ Builtin.nextslicecap (len + len2) cap * i.bytes > 281474976710656 := by
          have := growslice_fits (need := len + len2) (old := cap) (bytes := i.bytes) (by omega) hb1
          omega
        have hb0 : ¬ i.bytes = 0 := by omega
        have hcl := hK (grownCap w (len + len2) cap e) (Builtin.zeroCells z.cells (grownCap w (len + len2) cap e - (len + len2))).toList w.heap.size
          (w.heap.push (.cells (olds ++ news ++ (Builtin.zeroCells z.cells (grownCap w (len + len2) cap e - (len + len2))).toList).toArray e)) (grownCap_ge w _ _ _)
          (by rw [Array.length_toList, size_zeroCells, hzs, hsz]) rfl rfl
        have hA : (olds ++ news ++ (Builtin.zeroCells z.cells (grownCap w (len + len2) cap e - (len + len2))).toList).toArray = olds.toArray ++ news.toArray ++ Builtin.zeroCells z.cells (grownCap w (len + len2) cap e - (len + len2)) := by
          apply Array.ext'; simp
        rw [hA] at hcl
        refine ⟨_, w.drew.alloc (.cells (olds.toArray ++ news.toArray ++ Builtin.zeroCells z.cells (grownCap w (len + len2) cap e - (len + len2))) e), ?_, ⟨rfl, rfl, rfl, Nat.le_succ _⟩, hcl⟩
        have e0 := run_firstCells (P := P) (w := w.drew) (size := sz P e) (n := len) (a := a) (l := len) (c := cap) ho
        have eN' := run_firstCells (P := P) (w := w.drew) (size := sz P e) (n := len2) (a := a2) (l := len2) (c := c2) h1
        simp [Builtin.append_, e1, e3, eS, Builtin.lenOf, hle, typeInfo, hinf, hb0, hfit, Question.forced, e0, eN', zeroValue, hz0, newRow, grownCap]
        have cg : ∀ x y : Array Value, x = y → w.drew.alloc (.cells x e) = w.drew.alloc (.cells y e) := fun _ _ h => by rw [h]
        exact cg _ _ (by apply Array.ext'; simp)
    · exact hr.elim
  · exact hr.elim

theorem alc_sound {h : Heap} {T : TypeId} {v : Value} {K : Value → Heap → Prop} (hr : alc h T v.cells.toList fun b h1 => K (.pointer (some ⟨b, 0, none⟩)) h1) (hw : w.heap = h) :
    ∃ w', (Instr.box T v).run P w = .ok (.pointer (some ⟨w.heap.size, 0, none⟩)) w' ∧ Same w w' ∧ K (.pointer (some ⟨w.heap.size, 0, none⟩)) w'.heap := by
  subst hw
  refine ⟨{ w with heap := w.heap.push (.cells v.cells T) }, ?_, ⟨rfl, rfl, rfl, Nat.le_refl _⟩, hr _ _ rfl (by simp)⟩
  simp [Instr.box, newVar, newRow]
theorem zerov_spec {t : TypeId} {K : Value → Prop} (h : zerov P t K) : ∃ i z, P.info? t = some i ∧ i.zero = some z ∧ K z := by
  unfold zerov at h
  split at h
  · rename_i i hi
    split at h
    · rename_i z hz; exact ⟨i, z, hi, hz, h⟩
    · exact h.elim
  · exact h.elim

theorem joinL_replicate (z : List Value) : ∀ (n j : Nat), j < n * z.length → (joinL (List.replicate n z))[j]? = z[j % z.length]?
  | 0, j, h => by simp at h
  | n + 1, j, h => by
    rw [List.replicate_succ]; simp only [joinL]
    rw [List.getElem?_append]
    split
    · rename_i hlt; rw [Nat.mod_eq_of_lt hlt]
    · rename_i hlt
      rw [joinL_replicate z n (j - z.length) (by rw [Nat.succ_mul] at h; omega), ← Nat.mod_eq_sub_mod (by omega)]
theorem sumL_replicate (n m : Nat) : sumL (List.replicate n m) = n * m := by
  induction n with
  | zero => simp [sumL]
  | succ n ih => rw [List.replicate_succ]; simp only [sumL]; rw [ih, Nat.succ_mul]; omega
theorem range_cells (z : Array Value) (n : Nat) : (Array.range (n * z.size)).map (fun i => z[i % z.size]!) = (joinL (List.replicate n z.toList)).toArray := by
  apply Array.ext
  · simp only [Array.size_map, Array.size_range, List.size_toArray, joinL_length, List.map_replicate, sumL_replicate, Array.length_toList]
  · intro i h1 h2
    simp only [Array.size_map, Array.size_range] at h1
    have hz : 0 < z.size := by
      rcases Nat.eq_zero_or_pos z.size with h | h
      · rw [h] at h1; simp at h1
      · exact h
    have hm : i % z.size < z.size := Nat.mod_lt _ hz
    have e := joinL_replicate z.toList n i (by simpa using h1)
    have e2 : (joinL (List.replicate n z.toList))[i]? = some z[i % z.size] := by
      rw [e]; simp [hm]
    have e3 : (joinL (List.replicate n z.toList)).toArray[i] = z[i % z.size] := by
      have := List.getElem?_eq_some_iff.1 e2
      obtain ⟨_, h4⟩ := this
      simpa using h4
    rw [e3]
    simp [hm]
theorem bslv_sound {t : TypeId} {len : Nat} {parts : List (Nat × Value)} {h : Heap} {K : Value → Heap → Prop} (hr : bslv P t len parts h K) (hw : w.heap = h) :
    ∃ v w', (Instr.buildSlice t len parts.toArray).run P w = .ok v w' ∧ Same w w' ∧ K v w'.heap := by
  subst hw
  unfold bslv at hr
  split at hr
  · rename_i e hu
    split at hr
    · rename_i hzok hle
      obtain ⟨i, z, hi, hz, hr2⟩ := zerov_spec hr
      obtain ⟨i', hi', z', hz', hs⟩ := zok_spec hzok
      rw [hi] at hi'; cases hi'
      rw [hz] at hz'; cases hz'
      have hsz : sz P e = i.size := by simp [sz, hi]
      have hle := Nat.le_of_ble_eq_true hle
      obtain ⟨ch', k1, _, k3⟩ := fill_chunks (place := fun j => some (j * sz P e, sz P e)) (fun j n hn => by
          obtain ⟨r1, r2⟩ := replicate_get hn
          rw [sumL_replicate_take r1, r2]) (by rw [List.map_replicate, Array.length_toList, hs, hsz]) hr2
      refine ⟨_, _, ?_, Same.alloc w _, k1 _ _ rfl rfl⟩
      have e1 := run_underlying (P := P) hu w
      have hno : ¬ 16777216 < len * i.size := by rw [hsz] at hle; omega
      have hn : Instr.fill (fun j => some (j * i.size, i.size)) ((Array.range (len * i.size)).map (fun j => (if len * i.size = 0 then #[] else z.cells)[j % (if len * i.size = 0 then #[] else z.cells).size]!)) parts = some (joinL ch').toArray := by
        rw [hsz] at k3
        rw [← k3]
        congr 1
        by_cases h0 : len * i.size = 0
        · have : (joinL (List.replicate len z.cells.toList)).toArray = #[] := by
            have hl : (joinL (List.replicate len z.cells.toList)).length = 0 := by
              rw [joinL_length, List.map_replicate, sumL_replicate, Array.length_toList, hs, h0]
            rw [List.eq_nil_of_length_eq_zero hl]
          rw [this, h0]; simp
        · rw [if_neg h0, ← range_cells, hs]
      by_cases h0 : len * i.size = 0
      · have hn' : Instr.fill (fun j => some (j * i.size, i.size)) #[] parts = some (joinL ch').toArray := by rw [← hn, h0]; simp [Array.range_zero']
        simp [Instr.buildSlice, e1, sizeOf, typeInfo, hi, zeroValue, hz, hno, h0, hn', newRow, Array.range_zero']
      · simp only [h0, if_false] at hn
        simp [Instr.buildSlice, e1, sizeOf, typeInfo, hi, zeroValue, hz, hno, h0, hn, newRow]
    · exact hr.elim
  · exact hr.elim
theorem mslv_sound {t : TypeId} {l c : Value} {h : Heap} {K : Value → Heap → Prop} (hr : mslv P t l c h K) (hw : w.heap = h) :
    ∃ v w', (Instr.makeSlice t l c).run P w = .ok v w' ∧ Same w w' ∧ K v w'.heap := by
  subst hw
  unfold mslv at hr
  split at hr
  · rename_i e hu
    split at hr
    · rename_i kl l kc c hzok
      obtain ⟨⟨h1, h2, h3, h4⟩, hr⟩ := hr
      obtain ⟨i, z, hi, hz, hr2⟩ := zerov_spec hr
      obtain ⟨i', hi', z', hz', hs⟩ := zok_spec hzok
      rw [hi] at hi'; cases hi'
      rw [hz] at hz'; cases hz'
      rw [infoBytes hi] at h3
      have hm := run_make (P := P) w t e i z hu hi hz kl kc l c h1 h2 h3 h4
      refine ⟨_, _, hm, ?_, hr2 _ _ rfl ?_⟩
      · exact Same.alloc w _
      · have : madeCells z.cells (c.toNat * i.size) = (joinL (List.replicate c.toNat z.cells.toList)).toArray := by
          rw [← hs, ← range_cells]; rfl
        rw [this]; rfl
    · exact hr.elim
  · exact hr.elim
theorem copyv_sound {T T2 : TypeId} {d s : Value} {h : Heap} {K : Value → Heap → Prop} (hr : copyv P T d s h K) (hw : w.heap = h) (ty : TypeId) :
    ∃ v w', (Builtin.copy_ #[T, T2] ty #[d, s]).run P w = .ok v w' ∧ Same w w' ∧ K v w'.heap := by
  subst hw
  unfold copyv at hr
  split at hr
  · rename_i e hu
    split at hr
    · rename_i a len cap a2 len2 c2 hi
      obtain ⟨news, ⟨h1, h2⟩, hk⟩ := hr
      have e1 := run_underlying (P := P) hu w
      have eS := run_sizeOf (P := P) hi w
      have eN := run_firstCells (P := P) (size := sz P e) (n := min len2 len) (a := a2) (l := len2) (c := c2) h1
      have em : Nat.min len2 len = min len2 len := rfl
      unfold cpIn at hk
      split at hk
      · refine ⟨_, w, ?_, Same.refl w, hk⟩
        simp [Builtin.copy_, e1, eS, Builtin.lenOf, em, eN, goInt]
      · rename_i b o
        obtain ⟨hws, hK⟩ := hk
        have eC := run_storeCells_wrs (P := P) (b := b) (o := o) (vs := news) (i := 0) (w := w) (by simpa using hws) h2
        simp only [Nat.add_zero] at eC
        refine ⟨_, { w with heap := setr w.heap b o news }, ?_, ⟨rfl, rfl, rfl, Nat.le_refl _⟩, hK _ rfl⟩
        simp [Builtin.copy_, e1, eS, Builtin.lenOf, em, eN, goInt, eC]
      · exact hk.elim
    · exact hr.elim
  · exact hr.elim
theorem anyOf_spec {t : TypeId} {K : Value → Prop} (h : anyOf P t K) : ∃ v, K v := by
  unfold anyOf at h
  split at h
  · obtain ⟨n, h⟩ := h; exact ⟨_, h⟩
  · obtain ⟨n, h⟩ := h; exact ⟨_, h⟩
  · obtain ⟨n, h⟩ := h; exact ⟨_, h⟩
  · obtain ⟨n, l, m, h⟩ := h; exact ⟨_, h⟩
  · obtain ⟨n, h⟩ := h; exact ⟨_, h⟩
  · obtain ⟨n, h⟩ := h; exact ⟨_, h⟩
  · obtain ⟨n, h⟩ := h; exact ⟨_, h⟩
  · exact h
theorem anyOfs_spec : ∀ {ts : List TypeId} {K : List Value → Prop}, anyOfs P ts K → ∃ vs, K vs
  | [], K, h => ⟨[], h⟩
  | t :: r, K, h => by
    obtain ⟨v, h1⟩ := anyOf_spec h
    obtain ⟨vs, h2⟩ := anyOfs_spec h1
    exact ⟨_, h2⟩
theorem typ_spec {t : TypeId} {v : Value} {K : Value → Prop} (h : typ P t v K) : K v := by
  unfold typ at h
  split at h
  · split at h
    · exact h
    · obtain ⟨vs, h1, h2⟩ := anyOfs_spec h; rw [h1]; exact h2
  · obtain ⟨u, h1, h2⟩ := anyOf_spec h; rw [h1]; exact h2
theorem cut0 (a : Value) (xs : Array Value) : (#[a] ++ xs)[0]? = some a := by
  rw [Array.getElem?_append_left (by simp)]; rfl
theorem cut1 (a : Value) (xs : Array Value) : (#[a] ++ xs).extract 1 (#[a] ++ xs).size = xs := by
  rw [Array.extract_append]
  simp
theorem mth_run {t : TypeId} {x : Value} {name : String} {f : FuncId} {w : World} (hm : mth P t name = some f) : (Go.method (P.types.size + Made.depth) t x name).run P w = .ok (f, x) w := by
  unfold mth at hm
  split at hm
  · rename_i i hi
    split at hm
    · rename_i m hf
      split at hm
      · rename_i f' e hp hfn hu
        cases hm
        obtain ⟨n, hn⟩ : ∃ n, P.types.size + Made.depth = n + 1 := ⟨P.types.size + 99, by simp [Made.depth]⟩
        rw [hn]
        simp [method, typeInfo, hi, hf, hp, hfn, follow, receiverAt, run_underlying hu, Place.get]
      · cases hm
    · cases hm
  · cases hm
theorem ef_sound {x : Md} {o : Oper} {a : Act} {h : Heap} {K : Value → Heap → Prop} {next : Act → World → Prop} {Q : Exit → Act → World → Prop}
    (hr : ef P x a.eval o.op o.type h K) (hw : w.heap = h) (hn : ∀ v w', Same w w' → K v w'.heap → next (a.put o.dst v) w') : o.wp P a w next Q := by
  have val : ∀ {v : Value} {w' : World}, (execOp a.eval o).run P w = .ok (.value v) w' → Same w w' → K v w'.heap → o.wp P a w next Q := by
    intro v w' he hs hk
    unfold Oper.wp
    rw [he]
    exact hn v w' hs hk
  have skp : ∀ {w' : World}, (execOp a.eval o).run P w = .ok .skip w' → Same w w' → K undef w'.heap → o.wp P a w next Q := by
    intro w' he hs hk
    unfold Oper.wp
    rw [he]
    exact hn undef w' hs hk
  obtain ⟨dst, op, ty, pos, after, guard⟩ := o
  simp only at hr
  unfold ef at hr
  split at hr
  · rename_i e
    obtain ⟨i, z, hi, hz, hk⟩ := zerov_spec hr
    obtain ⟨w', h1, h2, h3⟩ := alc_sound (P := P) (T := e) (v := z) hk hw
    refine val (v := .pointer (some ⟨w.heap.size, 0, none⟩)) (w' := w') ?_ h2 h3
    have e0 : (zeroValue e).run P w = .ok z w := by simp [zeroValue, typeInfo, hi, hz]
    have : (Instr.alloc e true (.tuple #[])).run P w = .ok (.pointer (some ⟨w.heap.size, 0, none⟩)) w' := by
      simp only [Instr.box] at h1
      simp only [Instr.alloc, Sem.run_bind, e0, Result.andThen_ok]
      exact h1
    simp [execOp, this]
  · rename_i e b
    obtain ⟨w', h1, h2, h3⟩ := alc_sound (P := P) (T := e) (v := a.eval b) hr hw
    exact val (v := .pointer (some ⟨w.heap.size, 0, none⟩)) (w' := w') (by simp [execOp, h1]) h2 h3
  · rename_i t p v
    obtain ⟨b, o, hp, hk⟩ := onPtr_spec hr
    obtain ⟨w', h1, h2, h3⟩ := stv_sound (P := P) hk hw
    exact skp (w' := w') (by simp [execOp, hp, h1]) h2 h3
  · rename_i f args ts
    unfold callv at hr
    split at hr
    · rename_i g first captured hf
      split at hr
      · rename_i hb
        unfold bodied at hb
        split at hb
        · rename_i fn hfn
          simp only [Bool.and_eq_true, Bool.not_eq_true', beq_eq_false_iff_ne] at hb
          have hc := hr w hw
          have he : (execOp a.eval ⟨dst, .call ⟨.value f, args, ts⟩, ty, pos, after, guard⟩).run P w = .ok (.enter g (first.toList ++ (args.toList.map a.eval ++ captured.toList)).toArray) w := by
            have hbn : ¬ fn.body = none := fun h => by rw [h] at hb; exact absurd hb.2 (by simp)
            simp [execOp, resolve, hf, Deferred.ofValue, invoke, callFunc, hfn, hb.1, hbn]
          unfold Oper.wp
          rw [he]
          simp only [Oper.upon_enter]
          refine hc.mono fun e w' ⟨v, hv, hk, hs⟩ => ?_
          subst hv
          exact hn v w' hs (typ_spec hk)
        · cases hb
      · exact hr.elim
    · exact hr.elim
  · rename_i r name args ts
    unfold ivk at hr
    split at hr
    · rename_i t x hv
      obtain ⟨f, hm, hb, hr⟩ := hr
      unfold bodied at hb
      split at hb
      · rename_i fn hfn
        simp only [Bool.and_eq_true, Bool.not_eq_true', beq_eq_false_iff_ne] at hb
        have hc := hr w hw
        have hme : (Go.method (P.types.size + Made.depth) t x name).run P w = .ok (f, x) w := mth_run hm
        have he : (execOp a.eval ⟨dst, .call ⟨.invoke r name, args, ts⟩, ty, pos, after, guard⟩).run P w = .ok (.enter f (x :: args.toList.map a.eval).toArray) w := by
          have hbn : ¬ fn.body = none := fun h => by rw [h] at hb; exact absurd hb.2 (by simp)
          have e1 := cut0 (.iface t x) (args.map a.eval)
          have e2 := cut1 (.iface t x) (args.map a.eval)
          have e3 : #[x] ++ args.map a.eval = (x :: args.toList.map a.eval).toArray := by simp
          have e4 : (callMethod (.iface t x) name (args.map a.eval)).run P w = .ok (.enter f (x :: args.toList.map a.eval).toArray) w := by
            simp [callMethod, hme, callFunc, hfn, hb.1, hbn]
          simp only [execOp, resolve, hv, Sem.run_bind, Sem.run_pure, Result.andThen_ok, invoke, e1, e2]
          exact e4
        unfold Oper.wp
        rw [he]
        simp only [Oper.upon_enter]
        refine hc.mono fun e w' ⟨v, hv, hk, hs⟩ => ?_
        subst hv
        exact hn v w' hs (typ_spec hk)
      · cases hb
    · exact hr.elim
  · rename_i args ts
    split at hr
    · rename_i s y T T2 ha ht
      split at hr
      · rename_i e2 hu2
        obtain ⟨v, w', h1, h2, h3⟩ := appv_sound (P := P) hu2 hr hw ty
        refine val (v := v) (w' := w') ?_ h2 h3
        have ha' : args.map a.eval = #[s, y] := by apply Array.ext'; simpa using ha
        have ht' : ts = #[T, T2] := by apply Array.ext'; simpa using ht
        subst ht'
        simp [execOp, resolve, invoke, builtin, ha', h1]
      · exact hr.elim
    · exact hr.elim
  · rename_i t len parts
    obtain ⟨v, w', h1, h2, h3⟩ := bslv_sound (P := P) hr hw
    have e : (parts.toList.map fun (i, x) => (i, a.eval x)).toArray = parts.map fun (i, x) => (i, a.eval x) := by apply Array.ext'; simp
    rw [e] at h1
    exact val (v := v) (w' := w') (by simp [execOp, h1]) h2 h3
  · rename_i t l c
    obtain ⟨v, w', h1, h2, h3⟩ := mslv_sound (P := P) hr hw
    exact val (v := v) (w' := w') (by simp [execOp, h1]) h2 h3
  · rename_i args ts
    split at hr
    · rename_i d s T T2 ha ht
      obtain ⟨v, w', h1, h2, h3⟩ := copyv_sound (P := P) (T2 := T2) hr hw ty
      refine val (v := v) (w' := w') ?_ h2 h3
      have ha' : args.map a.eval = #[d, s] := by apply Array.ext'; simpa using ha
      have ht' : ts = #[T, T2] := by apply Array.ext'; simpa using ht
      subst ht'
      simp [execOp, resolve, invoke, builtin, ha', h1]
    · exact hr.elim
  · exact hr.elim
  · obtain ⟨v, w', h1, h2, h3⟩ := hr w ⟨dst, op, ty, pos, after, guard⟩ rfl rfl hw
    rcases h1 with h1 | ⟨h1, rfl⟩
    · exact val h1 h2 h3
    · exact skp h1 h2 h3
end Go.Vc

/- The reckoner's conditions for a list of operations, for code with its loops, for a whole function. -/
set_option linter.unusedVariables false
set_option linter.unusedSimpArgs false
namespace Go.Vc

inductive Ex where
  | normal
  | exit (id : Nat)
  | ret
inductive Sh where
  | int (k : IntKind)
  | bool
  | ptr
  | slice
  | str
  | any
/-- A family of propositions (or numbers) over the values in some slots, and the heap. -/
def Fam (A : Type) : List (Nat × Sh) → Type
  | [] => Heap → A
  | (_, .int _) :: r => Int → Fam A r
  | (_, .bool) :: r => Bool → Fam A r
  | (_, .ptr) :: r => Option Addr → Fam A r
  | (_, .slice) :: r => Option Addr → Nat → Nat → Fam A r
  | (_, .str) :: r => ByteArray → Fam A r
  | (_, .any) :: r => Value → Fam A r
def famZero : (ss : List (Nat × Sh)) → Fam Nat ss
  | [] => fun _ => 0
  | (_, .int _) :: r => fun _ => famZero r
  | (_, .bool) :: r => fun _ => famZero r
  | (_, .ptr) :: r => fun _ => famZero r
  | (_, .slice) :: r => fun _ _ _ => famZero r
  | (_, .str) :: r => fun _ => famZero r
  | (_, .any) :: r => fun _ => famZero r
/-- The family holds of what the slots hold. -/
def famEnt : (ss : List (Nat × Sh)) → Fam Prop ss → Env → Heap → Prop
  | [], I, _, h => I h
  | (n, .int k) :: r, I, t, h => match t n with | .int k' x => (match keq k' k with | true => famEnt r (I x) t h | false => False) | _ => False
  | (n, .bool) :: r, I, t, h => match t n with | .bool x => famEnt r (I x) t h | _ => False
  | (n, .ptr) :: r, I, t, h => match t n with | .pointer x => famEnt r (I x) t h | _ => False
  | (n, .slice) :: r, I, t, h => match t n with | .slice x l c => famEnt r (I x l c) t h | _ => False
  | (n, .str) :: r, I, t, h => match t n with | .string x => famEnt r (I x) t h | _ => False
  | (n, .any) :: r, I, t, h => famEnt r (I (t n)) t h
/-- The same, and its measure is less than n0. -/
def famBack : (ss : List (Nat × Sh)) → Fam Prop ss → Fam Nat ss → Env → Heap → Nat → Prop
  | [], I, m, _, h, n0 => I h ∧ m h < n0
  | (n, .int k) :: r, I, m, t, h, n0 => match t n with | .int k' x => (match keq k' k with | true => famBack r (I x) (m x) t h n0 | false => False) | _ => False
  | (n, .bool) :: r, I, m, t, h, n0 => match t n with | .bool x => famBack r (I x) (m x) t h n0 | _ => False
  | (n, .ptr) :: r, I, m, t, h, n0 => match t n with | .pointer x => famBack r (I x) (m x) t h n0 | _ => False
  | (n, .slice) :: r, I, m, t, h, n0 => match t n with | .slice x l c => famBack r (I x l c) (m x l c) t h n0 | _ => False
  | (n, .str) :: r, I, m, t, h, n0 => match t n with | .string x => famBack r (I x) (m x) t h n0 | _ => False
  | (n, .any) :: r, I, m, t, h, n0 => famBack r (I (t n)) (m (t n)) t h n0
/-- Whatever the slots hold, if the family holds of it. -/
def famAll : (ss : List (Nat × Sh)) → Fam Prop ss → Fam Nat ss → Env → (Env → Heap → Nat → Prop) → Prop
  | [], I, m, E, B => ∀ h, I h → B E h (m h)
  | (n, .int k) :: r, I, m, E, B => ∀ x : Int, famAll r (I x) (m x) (upd E n (.int k x)) B
  | (n, .bool) :: r, I, m, E, B => ∀ x : Bool, famAll r (I x) (m x) (upd E n (.bool x)) B
  | (n, .ptr) :: r, I, m, E, B => ∀ x : Option Addr, famAll r (I x) (m x) (upd E n (.pointer x)) B
  | (n, .slice) :: r, I, m, E, B => ∀ (x : Option Addr) (l c : Nat), famAll r (I x l c) (m x l c) (upd E n (.slice x l c)) B
  | (n, .str) :: r, I, m, E, B => ∀ x : ByteArray, famAll r (I x) (m x) (upd E n (.string x)) B
  | (n, .any) :: r, I, m, E, B => ∀ x : Value, famAll r (I x) (m x) (upd E n x) B

def guarded (ops : List Oper) (g : Option (Nat × Bool)) (t : Env) (run skip : Env → Prop) : Prop :=
  match g with
  | none => run t
  | some (j, want) => match ops[j]? with
    | some oj => match oj.dst with
      | some d => match t d with
        | .bool b => match want with
          | true => bcase b (run (upd t d (.bool true))) (skip (upd t d (.bool false)))
          | false => bcase b (skip (upd t d (.bool true))) (run (upd t d (.bool false)))
        | .tuple _ => skip t
        | _ => False
      | none => skip t
    | none => skip t
def opv (P : Program) (x : Md) (N : Nat) (ops : List Oper) (o : Oper) (t : Env) (h : Heap) (K : Env → Heap → Prop) : Prop :=
  guarded ops o.guard t
    (fun t => match isRd o.op with
      | true => rdh P x (ev t) o.op h fun v => put N t o.dst v fun t' => K t' h
      | false => ef P x (ev t) o.op o.type h fun v h' => put N t o.dst v fun t' => K t' h')
    (fun t => put N t o.dst undef fun t' => K t' h)
def opsv (P : Program) (x : Md) (N : Nat) (ops : List Oper) : List Oper → Env → Heap → (Env → Heap → Prop) → Prop
  | [], t, h, K => K t h
  | o :: r, t, h, K => opv P x N ops o t h fun t h => opsv P x N ops r t h K

def memB (n : Nat) : List Nat → Bool
  | [] => false
  | m :: r => match Nat.beq n m with | true => true | false => memB n r
def dstsOps : List Oper → List Nat
  | [] => []
  | o :: r => match o.dst with | some d => d :: dstsOps r | none => dstsOps r
def dsts : Code → List Nat
  | .region _ ops _ => dstsOps ops.toList
  | .seq a b => dsts a ++ dsts b
  | .cond _ a b => dsts a ++ dsts b
  | .block _ b => dsts b
  | .loop b => dsts b
  | _ => []
def hav (ds : List Nat) (u t : Env) : Env := fun n => bif memB n ds then u n else t n
def slotsIn (ds : List Nat) : List (Nat × Sh) → Bool
  | [] => true
  | (n, _) :: r => match memB n ds with | true => slotsIn ds r | false => false
/-- The operations in pieces: behind each piece only what is told of some slots, and of the heap, is carried on. -/
def segv (P : Program) (x : Md) (N : Nat) (ops : List Oper) : List (Nat × List (Nat × Sh)) → List Oper → Env → Heap → (Env → Heap → Prop) → Prop
  | [], l, t, h, K => opsv P x N ops l t h K
  | (n, ss) :: r, l, t, h, K => match slotsIn (dstsOps (l.take n)) ss with
    | true => ∃ J : Fam Prop ss, opsv P x N ops (l.take n) t h (fun t h => famEnt ss J t h) ∧
        ∀ u : Env, famAll ss J (famZero ss) (hav (dstsOps (l.take n)) u t) fun t h _ => segv P x N ops r (l.drop n) t h K
    | false => False
def orElseN (a b : Option Nat) : Option Nat := match a with | none => b | some n => some n
def firstRegion : Code → Option Nat
  | .region id _ _ => some id
  | .seq a b => orElseN (firstRegion a) (firstRegion b)
  | .cond _ a b => orElseN (firstRegion a) (firstRegion b)
  | .block _ b => firstRegion b
  | .loop b => firstRegion b
  | _ => none
/-- What is told beside the code: which regions reckon exactly, what a loop (by its block's number) and a meeting of ways (by the region behind it) carry. -/
structure Ann where
  exact : Nat → Md
  loop : Nat → List (Nat × Sh)
  cut : Nat → Option (List (Nat × Sh))
  seg : Nat → List (Nat × List (Nat × Sh))
  drawn : (id : Nat) → (ops : List Oper) → Env → Heap → (Env → Heap → Prop) → Prop

def cutOf (A : Ann) (b : Code) : Option (List (Nat × Sh)) := match firstRegion b with | some id => A.cut id | none => none
def vc (P : Program) (N : Nat) (A : Ann) : Code → Nat → (Ex → Env → Heap → Prop) → Env → Heap → Prop
  | .skip, _, Q, t, h => Q .normal t h
  | .region id ops d, _, Q, t, h => match d with
    | false => segv P (A.exact id) N ops.toList (A.seg id) ops.toList t h (Q .normal)
    | true => A.drawn id ops.toList t h (Q .normal)
  | .seq a b, cur, Q, t, h => match cutOf A b with
    | none => vc P N A a cur (fun e t h => match e with | .normal => vc P N A b cur Q t h | e => Q e t h) t h
    | some ss => match slotsIn (dsts a) ss with
      | true => ∃ J : Fam Prop ss, vc P N A a cur (fun e t h => match e with | .normal => famEnt ss J t h | e => Q e t h) t h ∧
          ∀ u : Env, famAll ss J (famZero ss) (hav (dsts a) u t) fun t h _ => vc P N A b cur Q t h
      | false => False
  | .cond c a b, cur, Q, t, h => match ev t c with
    | .bool x => bcase x (vc P N A a cur Q t h) (vc P N A b cur Q t h)
    | _ => False
  | .block id b, _, Q, t, h => vc P N A b id (fun e t h => match e with | .exit k => (match Nat.beq k id with | true => Q .normal t h | false => Q (.exit k) t h) | e => Q e t h) t h
  | .exit id, _, Q, t, h => Q (.exit id) t h
  | .ret, _, Q, t, h => Q .ret t h
  | .loop b, cur, Q, t, h => match slotsIn (dsts b) (A.loop cur) with
    | true => ∃ (I : Fam Prop (A.loop cur)) (m : Fam Nat (A.loop cur)), famEnt (A.loop cur) I t h ∧
        ∀ u : Env, famAll (A.loop cur) I m (hav (dsts b) u t) fun t h n =>
          vc P N A b cur (fun e t h => match e with | .normal => famBack (A.loop cur) I m t h n | e => Q e t h) t h
    | false => False
  | _, _, _, _, _ => False

def resv (P : Program) (rs : List ResultVar) (t : Env) (h : Heap) (K : List Value → Prop) : Prop :=
  match rs with
  | [] => K []
  | .tmp n :: r => resv P r t h fun vs => K (t n :: vs)
  | .cell a T :: r => onPtr (t a) fun b o => ldv P T h b o fun v => resv P r t h fun vs => K (v :: vs)
def pack (vs : List Value) : Value := match vs with | [v] => v | vs => .tuple vs.toArray
def initEnv (args : List Value) : Env := fun n => match args[n]? with | some v => v | none => undef
/-- The condition for a whole function. -/
def fnv (P : Program) (A : Ann) (fn : Func) (c : Code) (args : List Value) (h : Heap) (Post : Value → Heap → Prop) : Prop :=
  vc P fn.ntmps A c 0 (fun e t h => match e with
    | .exit _ => False
    | _ => resv P fn.results.toList t h fun vs => Post (pack vs) h) (initEnv args) h
end Go.Vc

/- The reckoner is sound: where its condition holds the code runs and ends as told. -/
set_option linter.unusedVariables false
set_option linter.unusedSimpArgs false
namespace Go.Vc
variable {P : Program}

structure Rel (N : Nat) (t : Env) (a : Act) : Prop where
  defers : a.defers = []
  size : a.tmps.size = N
  read : ∀ n, a.tmps.getD n undef = t n
def Agr (ds : List Nat) (t t' : Env) : Prop := ∀ n, memB n ds = false → t' n = t n
theorem Agr.refl (ds : List Nat) (t : Env) : Agr ds t t := fun _ _ => rfl
theorem memB_append {n : Nat} : ∀ {a b : List Nat}, memB n (a ++ b) = false ↔ memB n a = false ∧ memB n b = false
  | [], b => by simp [memB]
  | m :: a, b => by
    simp only [List.cons_append, memB]
    split
    · simp
    · exact memB_append
theorem Agr.left {a b : List Nat} {t t' : Env} (h : Agr a t t') : Agr (a ++ b) t t' := fun n hn => h n (memB_append.1 hn).1
theorem Agr.right {a b : List Nat} {t t' : Env} (h : Agr b t t') : Agr (a ++ b) t t' := fun n hn => h n (memB_append.1 hn).2
theorem Agr.trans {ds : List Nat} {a b c : Env} (h : Agr ds a b) (k : Agr ds b c) : Agr ds a c := fun n hn => (k n hn).trans (h n hn)

theorem Rel.eval {N : Nat} {t : Env} {a : Act} (h : Rel N t a) : a.eval = ev t := by
  funext x
  cases x <;> simp [Act.eval, ev, h.read]
theorem Rel.congr {N : Nat} {t t' : Env} {a : Act} (h : Rel N t a) (e : ∀ n, t' n = t n) : Rel N t' a := ⟨h.defers, h.size, fun n => (h.read n).trans (e n).symm⟩
theorem upd_same {t : Env} {d : Nat} {v : Value} (h : t d = v) : ∀ n, upd t d v n = t n := by
  intro n
  unfold upd
  by_cases e : n = d
  · subst e; simp [h]
  · have : Nat.beq n d = false := by exact Bool.eq_false_iff.2 fun k => e (Nat.eq_of_beq_eq_true k)
    simp [this]
theorem upd_ne {t : Env} {d n : Nat} {v : Value} (h : n ≠ d) : upd t d v n = t n := by
  unfold upd
  have : Nat.beq n d = false := by exact Bool.eq_false_iff.2 fun k => h (Nat.eq_of_beq_eq_true k)
  simp [this]
theorem Rel.put {N : Nat} {t : Env} {a : Act} {d : Nat} {v : Value} (h : Rel N t a) (hd : d < N) : Rel N (upd t d v) (a.put (some d) v) := by
  refine ⟨h.defers, by simp [Act.put, h.size], fun n => ?_⟩
  have hs := h.size
  have hr := h.read n
  simp only [Act.put]
  by_cases e : n = d
  · subst e
    have : upd t n v n = v := by simp [upd]
    rw [this, Array.getD_eq_getD_getElem?]
    simp [show n < a.tmps.size by omega]
  · rw [upd_ne e, ← hr, Array.getD_eq_getD_getElem?, Array.getD_eq_getD_getElem?, Array.getElem?_setIfInBounds_ne (Ne.symm e)]
theorem put_sound {N : Nat} {t : Env} {a : Act} {dst : Option Nat} {v : Value} {K : Env → Prop} (hr : Rel N t a) (h : put N t dst v K) :
    ∃ t', K t' ∧ Rel N t' (a.put dst v) ∧ ∀ n, dst ≠ some n → t' n = t n := by
  unfold put at h
  split at h
  · exact ⟨t, h, by simpa [Act.put] using hr, fun _ _ => rfl⟩
  · rename_i d
    split at h
    · rename_i hd
      have hlt : d < N := by simpa [Nat.blt_eq] using hd
      exact ⟨_, h, hr.put hlt, fun n hn => upd_ne (fun e => hn (by rw [e]))⟩
    · exact h.elim

theorem yielded_eq {N : Nat} {t : Env} {a : Act} (hr : Rel N t a) (ops : List Oper) (j : Nat) :
    yielded ops.toArray a.tmps j = match ops[j]? with
      | some oj => (match oj.dst with | some d => (match t d with | .bool b => some b | _ => none) | none => none)
      | none => none := by
  unfold yielded
  simp only [List.getElem?_toArray]
  cases hj : ops[j]? with
  | none => rfl
  | some oj =>
    simp only [Option.bind_some]
    cases hd : oj.dst with
    | none => rfl
    | some d =>
      simp only [Option.bind_some]
      have := hr.read d
      rw [Array.getD_eq_getD_getElem?] at this
      cases hx : a.tmps[d]? with
      | none => rw [hx] at this; simp at this; rw [← this]; rfl
      | some v => rw [hx] at this; simp at this; subst this; cases t d <;> rfl
theorem guarded_sound {N : Nat} {t : Env} {a : Act} {ops : List Oper} {o : Oper} {run skip : Env → Prop} (hr : Rel N t a) (h : guarded ops o.guard t run skip) :
    ∃ t', (∀ n, t' n = t n) ∧ Rel N t' a ∧ ((Region.wanted o (yielded ops.toArray a.tmps) = true ∧ run t') ∨ (Region.wanted o (yielded ops.toArray a.tmps) = false ∧ skip t')) := by
  unfold guarded at h
  unfold Region.wanted
  split at h
  · rename_i hg
    exact ⟨t, fun _ => rfl, hr, .inl ⟨by simp [hg], h⟩⟩
  · rename_i j want hg
    simp only [hg, yielded_eq hr]
    split at h
    · rename_i oj hj
      simp only [hj]
      split at h
      · rename_i d hd
        simp only [hd]
        split at h
        · rename_i b hb
          simp only [hb]
          have e1 : b = true → ∀ n, upd t d (.bool true) n = t n := fun e => upd_same (by rw [hb, e])
          have e2 : b = false → ∀ n, upd t d (.bool false) n = t n := fun e => upd_same (by rw [hb, e])
          split at h
          · rcases bcase_spec h with ⟨hb1, h1⟩ | ⟨hb1, h1⟩
            · exact ⟨_, e1 hb1, hr.congr (e1 hb1), .inl ⟨by simp [hb1], h1⟩⟩
            · exact ⟨_, e2 hb1, hr.congr (e2 hb1), .inr ⟨by simp [hb1], h1⟩⟩
          · rcases bcase_spec h with ⟨hb1, h1⟩ | ⟨hb1, h1⟩
            · exact ⟨_, e1 hb1, hr.congr (e1 hb1), .inr ⟨by simp [hb1], h1⟩⟩
            · exact ⟨_, e2 hb1, hr.congr (e2 hb1), .inl ⟨by simp [hb1], h1⟩⟩
        · rename_i vs hb
          simp only [hb]
          exact ⟨t, fun _ => rfl, hr, .inr ⟨rfl, h⟩⟩
        · exact h.elim
      · rename_i hd
        simp only [hd]
        exact ⟨t, fun _ => rfl, hr, .inr ⟨rfl, h⟩⟩
    · rename_i hj
      simp only [hj]
      exact ⟨t, fun _ => rfl, hr, .inr ⟨rfl, h⟩⟩

/-- What an operation's condition gives, put for the model's own rule. -/
theorem opv_sound {x : Md} {N : Nat} {ops : List Oper} {o : Oper} {t : Env} {h : Heap} {K : Env → Heap → Prop} {a : Act} {w : World} {next : Act → World → Prop} {Q : Exit → Act → World → Prop}
    (hv : opv P x N ops o t h K) (hr : Rel N t a) (hw : w.heap = h)
    (hn : ∀ t' a' w', Rel N t' a' → Same w w' → (∀ n, o.dst ≠ some n → t' n = t n) → K t' w'.heap → next a' w') :
    if Region.wanted o (yielded ops.toArray a.tmps) then o.wp P a w next Q else next (a.put o.dst undef) w := by
  unfold opv at hv
  obtain ⟨t1, e1, hr1, hc⟩ := guarded_sound hr hv
  rcases hc with ⟨hw1, hc⟩ | ⟨hw1, hc⟩
  · rw [if_pos hw1]
    split at hc
    · rw [← hr1.eval] at hc
      obtain ⟨v, h1, h2⟩ := rdh_sound (P := P) hc
      obtain ⟨t2, h3, h4, h5⟩ := put_sound hr1 h1
      unfold Oper.wp
      rw [h2 w hw]
      exact hn t2 _ w h4 (Same.refl w) (fun n hne => (h5 n hne).trans (e1 n)) (hw ▸ h3)
    · rw [← hr1.eval] at hc
      refine ef_sound (P := P) hc hw fun v w' hs hk => ?_
      obtain ⟨t2, h3, h4, h5⟩ := put_sound hr1 hk
      exact hn t2 _ w' h4 hs (fun n hne => (h5 n hne).trans (e1 n)) h3
  · rw [if_neg (by simp [hw1])]
    obtain ⟨t2, h3, h4, h5⟩ := put_sound hr1 hc
    exact hn t2 _ w h4 (Same.refl w) (fun n hne => (h5 n hne).trans (e1 n)) (hw ▸ h3)

theorem memB_dsts {n : Nat} {o : Oper} {r : List Oper} (h : memB n (dstsOps (o :: r)) = false) : o.dst ≠ some n ∧ memB n (dstsOps r) = false := by
  unfold dstsOps at h
  split at h
  · rename_i d hd
    unfold memB at h
    split at h
    · cases h
    · rename_i hb
      refine ⟨fun e => ?_, h⟩
      rw [hd] at e
      cases e
      simp at hb
  · rename_i hd
    exact ⟨fun e => (by rw [hd] at e; cases e), h⟩
theorem opsv_sound {x : Md} {N : Nat} {ops : List Oper} {Q : Exit → Act → World → Prop} (rest : List Oper) : ∀ {l : List Oper} {t : Env} {h : Heap} {K : Env → Heap → Prop} {a : Act} {w : World},
    opsv P x N ops l t h K → Rel N t a → w.heap = h →
    (∀ t' a' w', Rel N t' a' → Same w w' → Agr (dstsOps l) t t' → K t' w'.heap → wpList P ops.toArray Q rest a' w') → wpList P ops.toArray Q (l ++ rest) a w
  | [], t, h, K, a, w, hv, hr, hw, hn => hn t a w hr (Same.refl w) (Agr.refl _ _) (hw ▸ hv)
  | o :: r, t, h, K, a, w, hv, hr, hw, hn => by
    unfold opsv at hv
    have := opv_sound (P := P) (next := wpList P ops.toArray Q (r ++ rest)) (Q := Q) hv hr hw fun t' a' w' hr' hs he hk =>
      opsv_sound rest (l := r) hk hr' rfl fun t2 a2 w2 hr2 hs2 ha2 hk2 => hn t2 a2 w2 hr2 (hs.trans hs2) (fun n hm => by
        obtain ⟨m1, m2⟩ := memB_dsts hm
        exact (ha2 n m2).trans (he n m1)) hk2
    simp only [List.cons_append]
    unfold wpList
    split
    · rename_i hw1; rw [if_pos hw1] at this; exact .inl this
    · rename_i hw1; rw [if_neg hw1] at this; exact this

/-- What is told of a code's end, said of the model's states. -/
def lift (N : Nat) (ds : List Nat) (t0 : Env) (w0 : World) (Q : Ex → Env → Heap → Prop) : Exit → Act → World → Prop
  | .normal, a, w => ∃ t, Rel N t a ∧ Same w0 w ∧ Agr ds t0 t ∧ Q .normal t w.heap
  | .exit id, a, w => ∃ t, Rel N t a ∧ Same w0 w ∧ Agr ds t0 t ∧ Q (.exit id) t w.heap
  | .ret, a, w => ∃ t, Rel N t a ∧ Same w0 w ∧ Agr ds t0 t ∧ Q .ret t w.heap
  | _, _, _ => False
/-- What is asked of the way in which regions that draw their order are treated. -/
def DrawnOk (P : Program) (N : Nat) (d : (id : Nat) → (ops : List Oper) → Env → Heap → (Env → Heap → Prop) → Prop) : Prop :=
  ∀ (id : Nat) (ops : List Oper) (t : Env) (h : Heap) (K : Env → Heap → Prop) (a : Act) (w : World) (Q : Exit → Act → World → Prop), d id ops t h K → Rel N t a → w.heap = h → (∀ c a w, ¬ Q (.panic c) a w) →
    (∀ t' a' w', Rel N t' a' → Same w w' → Agr (dstsOps ops) t t' → K t' w'.heap → Q .normal a' w') → (Code.region id ops.toArray true).wp P Q a w

theorem hav_agr (ds : List Nat) (u t : Env) : Agr ds t (hav ds u t) := fun n hn => by simp [hav, hn]
theorem slotsIn_cons {ds : List Nat} {n : Nat} {s : Sh} {r : List (Nat × Sh)} (h : slotsIn ds ((n, s) :: r) = true) : memB n ds = true ∧ slotsIn ds r = true := by
  unfold slotsIn at h
  split at h
  · rename_i hm; exact ⟨hm, h⟩
  · cases h
theorem Agr.upd {ds : List Nat} {t E : Env} {n : Nat} {v : Value} (h : Agr ds t E) (hn : memB n ds = true) : Agr ds t (upd E n v) := fun k hk => by
  have : k ≠ n := fun e => by subst e; rw [hn] at hk; cases hk
  rw [upd_ne this]; exact h k hk
theorem upd_read {E t' : Env} {n : Nat} {v : Value} (h : ∀ k, E k = t' k) (hv : t' n = v) : ∀ k, upd E n v k = t' k := by
  intro k
  by_cases e : k = n
  · subst e; simp [Vc.upd, hv]
  · rw [upd_ne e]; exact h k

/-- From what the slots hold to a member of the family that 'famAll' speaks of. -/
theorem fam_meet {ds : List Nat} {t' : Env} {h : Heap} {n0 : Nat} {B : Env → Heap → Nat → Prop} : ∀ {ss : List (Nat × Sh)} {I : Fam Prop ss} {m : Fam Nat ss} {E : Env},
    slotsIn ds ss = true → (∀ k, E k = t' k) → famBack ss I m t' h n0 → famAll ss I m E B → ∃ E' n, (∀ k, E' k = t' k) ∧ n < n0 ∧ B E' h n
  | [], I, m, E, _, he, hb, ha => ⟨E, m h, he, hb.2, ha h hb.1⟩
  | (n, s) :: r, I, m, E, hs, he, hb, ha => by
    obtain ⟨_, hs2⟩ := slotsIn_cons hs
    cases s with
    | int k =>
      simp only [famBack] at hb
      split at hb
      · rename_i k' x hx
        split at hb
        · rename_i hk; have := keq_eq hk; subst this; exact fam_meet hs2 (upd_read he hx) hb (ha x)
        · exact hb.elim
      · exact hb.elim
    | bool =>
      simp only [famBack] at hb
      split at hb
      · rename_i x hx; exact fam_meet hs2 (upd_read he hx) hb (ha x)
      · exact hb.elim
    | ptr =>
      simp only [famBack] at hb
      split at hb
      · rename_i x hx; exact fam_meet hs2 (upd_read he hx) hb (ha x)
      · exact hb.elim
    | slice =>
      simp only [famBack] at hb
      split at hb
      · rename_i x l c hx; exact fam_meet hs2 (upd_read he hx) hb (ha x l c)
      · exact hb.elim
    | str =>
      simp only [famBack] at hb
      split at hb
      · rename_i x hx; exact fam_meet hs2 (upd_read he hx) hb (ha x)
      · exact hb.elim
    | any =>
      simp only [famBack] at hb
      exact fam_meet hs2 (upd_read he rfl) hb (ha (t' n))
/-- The entry into a family, as a way back into it with some measure. -/
theorem famEnt_back {t' : Env} {h : Heap} : ∀ {ss : List (Nat × Sh)} {I : Fam Prop ss} (m : Fam Nat ss), famEnt ss I t' h → ∃ n0, famBack ss I m t' h n0
  | [], I, m, he => ⟨m h + 1, he, Nat.lt_succ_self _⟩
  | (n, s) :: r, I, m, he => by
    cases s with
    | int k =>
      simp only [famEnt] at he
      simp only [famBack]
      generalize t' n = v at he ⊢
      cases v <;> first | exact he.elim | skip
      rename_i k' x
      dsimp only at he ⊢
      generalize keq k' k = bb at he ⊢
      cases bb
      · exact he.elim
      · exact famEnt_back (m x) he
    | bool =>
      simp only [famEnt] at he
      simp only [famBack]
      generalize t' n = v at he ⊢
      cases v <;> first | exact he.elim | skip
      rename_i x
      exact famEnt_back (m x) he
    | ptr =>
      simp only [famEnt] at he
      simp only [famBack]
      generalize t' n = v at he ⊢
      cases v <;> first | exact he.elim | skip
      rename_i x
      exact famEnt_back (m x) he
    | slice =>
      simp only [famEnt] at he
      simp only [famBack]
      generalize t' n = v at he ⊢
      cases v <;> first | exact he.elim | skip
      rename_i x l c
      exact famEnt_back (m x l c) he
    | str =>
      simp only [famEnt] at he
      simp only [famBack]
      generalize t' n = v at he ⊢
      cases v <;> first | exact he.elim | skip
      rename_i x
      exact famEnt_back (m x) he
    | any =>
      simp only [famEnt] at he
      simp only [famBack]
      exact famEnt_back (m (t' n)) he
theorem hav_self {ds : List Nat} {t0 t' : Env} (h : Agr ds t0 t') : ∀ k, hav ds t' t0 k = t' k := by
  intro k
  unfold hav
  cases hm : memB k ds with
  | true => rfl
  | false => simp [h k hm]

theorem dstsOps_append {a b : List Oper} : dstsOps (a ++ b) = dstsOps a ++ dstsOps b := by
  induction a with
  | nil => rfl
  | cons o r ih =>
    simp only [List.cons_append, dstsOps]
    split
    · rw [ih]; rfl
    · exact ih
theorem segv_sound {x : Md} {N : Nat} {ops : List Oper} {Q : Exit → Act → World → Prop} : ∀ {sg : List (Nat × List (Nat × Sh))} {l : List Oper} {t : Env} {h : Heap} {K : Env → Heap → Prop} {a : Act} {w : World},
    segv P x N ops sg l t h K → Rel N t a → w.heap = h →
    (∀ t' a' w', Rel N t' a' → Same w w' → Agr (dstsOps l) t t' → K t' w'.heap → Q .normal a' w') → wpList P ops.toArray Q l a w
  | [], l, t, h, K, a, w, hv, hr, hw, hn => by
    have := opsv_sound (P := P) (Q := Q) [] hv hr hw hn
    simpa using this
  | (n, ss) :: r, l, t, h, K, a, w, hv, hr, hw, hn => by
    unfold segv at hv
    split at hv
    · rename_i hss
      obtain ⟨J, h1, h2⟩ := hv
      have := opsv_sound (P := P) (Q := Q) (l.drop n) h1 hr hw fun t' a' w' k1 k2 k3 k4 => by
        obtain ⟨n0, k5⟩ := famEnt_back (famZero ss) k4
        obtain ⟨E', m, k6, _, k7⟩ := fam_meet hss (hav_self k3) k5 (h2 t')
        have e : dstsOps l = dstsOps (l.take n) ++ dstsOps (l.drop n) := by rw [← dstsOps_append, List.take_append_drop]
        refine segv_sound k7 (k1.congr k6) rfl fun t2 a2 w2 l1 l2 l3 l4 => hn t2 a2 w2 l1 (k2.trans l2) ?_ l4
        rw [e]
        exact Agr.trans (Agr.left fun n hn => (k6 n).trans (k3 n hn)) l3.right
      rwa [List.take_append_drop] at this
    · exact hv.elim

theorem lift_seq {N : Nat} {a b : List Nat} {t0 t1 : Env} {w0 w1 : World} {Q : Ex → Env → Heap → Prop} (ha : Agr a t0 t1) (hs : Same w0 w1) :
    ∀ e x w, lift N b t1 w1 Q e x w → lift N (a ++ b) t0 w0 Q e x w := by
  intro e x w h
  cases e <;> simp only [lift] at h ⊢
  all_goals
    obtain ⟨t, h1, h2, h3, h4⟩ := h
    exact ⟨t, h1, hs.trans h2, (ha.left).trans h3.right, h4⟩

theorem vc_sound {N : Nat} {A : Ann} (hd : DrawnOk P N A.drawn) : ∀ (c : Code) (cur : Nat) (Q : Ex → Env → Heap → Prop) (t : Env) (h : Heap) (a : Act) (w : World),
    vc P N A c cur Q t h → Rel N t a → w.heap = h → c.wp P (lift N (dsts c) t w Q) a w := by
  intro c
  induction c with
  | skip => intro cur Q t h a w hv hr hw; exact wp_skip ⟨t, hr, Same.refl w, Agr.refl _ _, hw ▸ hv⟩
  | region id ops d =>
    intro cur Q t h a w hv hr hw
    cases d with
    | false =>
      refine wp_region_list ?_
      have := segv_sound (P := P) (Q := lift N (dsts (.region id ops false)) t w Q) hv hr hw fun t' a' w' h1 h2 h3 h4 => ⟨t', h1, h2, h3, h4⟩
      simpa using this
    | true =>
      have := hd id ops.toList t h (Q .normal) a w (lift N (dsts (.region id ops true)) t w Q) hv hr hw (fun _ _ _ hq => hq) fun t' a' w' h1 h2 h3 h4 => ⟨t', h1, h2, h3, h4⟩
      simpa using this
  | seq x y ihx ihy =>
    intro cur Q t h a w hv hr hw
    refine wp_seq ?_
    unfold vc at hv
    split at hv
    · refine wp_mono (ihx _ _ _ _ _ _ hv hr hw) fun e a' w' hl => ?_
      cases e <;> simp only [lift] at hl
      case normal =>
        obtain ⟨t', h1, h2, h3, h4⟩ := hl
        exact wp_mono (ihy _ _ _ _ _ _ h4 h1 rfl) (lift_seq h3 h2)
      case exit => obtain ⟨t', h1, h2, h3, h4⟩ := hl; exact ⟨t', h1, h2, h3.left, h4⟩
      case ret => obtain ⟨t', h1, h2, h3, h4⟩ := hl; exact ⟨t', h1, h2, h3.left, h4⟩
    · rename_i ss _
      split at hv
      · rename_i hss
        obtain ⟨J, h1, h2⟩ := hv
        refine wp_mono (ihx _ _ _ _ _ _ h1 hr hw) fun e a' w' hl => ?_
        cases e <;> simp only [lift] at hl
        case normal =>
          obtain ⟨t', k1, k2, k3, k4⟩ := hl
          obtain ⟨n0, k5⟩ := famEnt_back (famZero ss) k4
          obtain ⟨E', n, k6, _, k7⟩ := fam_meet hss (hav_self k3) k5 (h2 t')
          exact wp_mono (ihy _ _ _ _ _ _ k7 (k1.congr k6) rfl) (lift_seq (fun n hn => (k6 n).trans (k3 n hn)) k2)
        case exit => obtain ⟨t', k1, k2, k3, k4⟩ := hl; exact ⟨t', k1, k2, k3.left, k4⟩
        case ret => obtain ⟨t', k1, k2, k3, k4⟩ := hl; exact ⟨t', k1, k2, k3.left, k4⟩
      · exact hv.elim
  | cond c x y ihx ihy =>
    intro cur Q t h a w hv hr hw
    unfold vc at hv
    split at hv
    · rename_i b hb
      have hc : a.eval c = .bool b := by rw [hr.eval]; exact hb
      rcases bcase_spec hv with ⟨rfl, h1⟩ | ⟨rfl, h1⟩
      · refine wp_cond_true hc (wp_mono (ihx _ _ _ _ _ _ h1 hr hw) fun e a' w' hl => ?_)
        cases e <;> simp only [lift] at hl ⊢
        all_goals obtain ⟨t', k1, k2, k3, k4⟩ := hl; exact ⟨t', k1, k2, k3.left, k4⟩
      · refine wp_cond_false hc (wp_mono (ihy _ _ _ _ _ _ h1 hr hw) fun e a' w' hl => ?_)
        cases e <;> simp only [lift] at hl ⊢
        all_goals obtain ⟨t', k1, k2, k3, k4⟩ := hl; exact ⟨t', k1, k2, k3.right, k4⟩
    · exact hv.elim
  | block id b ih =>
    intro cur Q t h a w hv hr hw
    refine wp_block (wp_mono (ih _ _ _ _ _ _ hv hr hw) fun e a' w' hl => ?_)
    cases e <;> simp only [lift] at hl
    case normal => exact hl
    case ret => exact hl
    case exit k =>
      obtain ⟨t', k1, k2, k3, k4⟩ := hl
      simp only [Exit.inBlock]
      split at k4
      · rename_i hk
        rw [if_pos (Nat.eq_of_beq_eq_true hk)]
        exact ⟨t', k1, k2, k3, k4⟩
      · rename_i hk
        rw [if_neg (fun e => by subst e; simp at hk)]
        exact ⟨t', k1, k2, k3, k4⟩
  | loop b ih =>
    intro cur Q t h a w hv hr hw
    unfold vc at hv
    split at hv
    · rename_i hss
      obtain ⟨I, m, h1, h2⟩ := hv
      obtain ⟨n0, k5⟩ := famEnt_back m h1
      subst hw
      refine wp_loop_ghost (fun n a' w' => ∃ t' , Rel N t' a' ∧ Same w w' ∧ Agr (dsts b) t t' ∧ famBack (A.loop cur) I m t' w'.heap n) n0 ⟨t, hr, Same.refl w, Agr.refl _ _, k5⟩ ?_
      intro n a' w' ⟨t', r1, r2, r3, r4⟩
      obtain ⟨E', n', k6, k8, k7⟩ := fam_meet hss (hav_self r3) r4 (h2 t')
      refine wp_mono (ih _ _ _ _ _ _ k7 (r1.congr k6) rfl) fun e a2 w2 hl => ?_
      have ag : Agr (dsts b) t E' := fun n hn => (k6 n).trans (r3 n hn)
      cases e <;> simp only [lift] at hl
      case normal =>
        obtain ⟨t2, l1, l2, l3, l4⟩ := hl
        exact ⟨n', k8, t2, l1, r2.trans l2, ag.trans l3, l4⟩
      case exit => obtain ⟨t2, l1, l2, l3, l4⟩ := hl; exact ⟨t2, l1, r2.trans l2, ag.trans l3, l4⟩
      case ret => obtain ⟨t2, l1, l2, l3, l4⟩ := hl; exact ⟨t2, l1, r2.trans l2, ag.trans l3, l4⟩
    · exact hv.elim
  | exit id => intro cur Q t h a w hv hr hw; exact wp_exit ⟨t, hr, Same.refl w, Agr.refl _ _, hw ▸ hv⟩
  | ret => intro cur Q t h a w hv hr hw; exact wp_ret ⟨t, hr, Same.refl w, Agr.refl _ _, hw ▸ hv⟩
  | _ => intro cur Q t h a w hv hr hw; exact hv.elim
end Go.Vc

/- A condition on what an operation yields speaks of one value. -/
set_option linter.unusedVariables false
set_option linter.unusedSimpArgs false
namespace Go.Vc
variable {P : Program}
/-- There is one value of which the condition speaks. -/
def Point (F : (Value → Prop) → Prop) (K : Value → Prop) : Prop := ∃ v, K v ∧ ∀ K' : Value → Prop, K' v → F K'
theorem Point.here {K : Value → Prop} {v : Value} (h : K v) : Point (fun K => K v) K := ⟨v, h, fun _ k => k⟩
theorem Point.of {F : (Value → Prop) → Prop} {K : Value → Prop} {v : Value} (h : K v) (f : ∀ K' : Value → Prop, K' v → F K') : Point F K := ⟨v, h, f⟩
theorem arith_point {x : Bool} {k : IntKind} {e : Int} {K : Value → Prop} (h : arith x k e K) : Point (arith x k e) K := by
  cases x
  · exact .of h fun _ k => k
  · exact .of h.2 fun _ k => ⟨h.1, k⟩
theorem iop_point {x : Bool} {op : BinOp} {k : IntKind} {m n : Int} {K : Value → Prop} (h : iop x op k m n K) : Point (iop x op k m n) K := by
  cases op <;> first
    | exact arith_point h
    | exact .of h fun _ k => k
    | exact h.elim
    | (cases x
       · exact .of h.2 fun _ k => ⟨h.1, k⟩
       · exact .of h.2 fun _ k => ⟨h.1, k⟩)
theorem shop_point {x : Bool} {op : BinOp} {k : IntKind} {m n : Int} {K : Value → Prop} (h : shop x op k m n K) : Point (shop x op k m n) K := by
  cases op <;> first
    | exact h.elim
    | exact .of h.2 fun _ k => ⟨h.1, k⟩
    | (obtain ⟨h1, h2⟩ := h; obtain ⟨v, h3, h4⟩ := arith_point h2; exact ⟨v, h3, fun K' k => ⟨h1, h4 K' k⟩⟩)
theorem binv_point {x : Bool} {op : BinOp} {t : TypeId} {a b : Value} {K : Value → Prop} (h : binv P x op t a b K) : Point (binv P x op t a b) K := by
  unfold binv at h
  split at h
  · split at h
    · exact shop_point h
    · exact shop_point h
    · rename_i op' n1 n2
      split at h
      · rename_i hk
        cases op' <;> first | exact (n1 rfl).elim | exact (n2 rfl).elim | (obtain ⟨v, k1, k2⟩ := iop_point h; exact ⟨v, k1, fun K' k => (by unfold binv; simp only [hk]; exact k2 K' k)⟩)
      · exact h.elim
  · split at h
    · rename_i hu; exact .of h fun _ k => (by unfold binv; simp only [hu]; exact k)
    · rename_i hu; exact .of h fun _ k => (by unfold binv; simp only [hu]; exact k)
    · exact h.elim
  · split at h
    · exact .of h fun _ k => k
    · exact .of h fun _ k => k
    · exact h.elim
  · split at h
    · rename_i hu; exact .of h fun _ k => (by unfold binv; simp only [hu]; exact k)
    · rename_i hu; exact .of h fun _ k => (by unfold binv; simp only [hu]; exact k)
    · exact h.elim
  · split at h
    · rename_i hu; exact .of h fun _ k => (by unfold binv; simp only [hu]; exact k)
    · rename_i hu; exact .of h fun _ k => (by unfold binv; simp only [hu]; exact k)
    · exact h.elim
  · exact h.elim
theorem bino_point {x : Bool} {op : BinOp} {t : TypeId} {xo yo : Operand} {a b : Value} {K : Value → Prop} (h : bino P x op t xo yo a b K) : Point (bino P x op t xo yo a b) K := by
  unfold bino at h
  split at h
  · rename_i hu
    split at h
    · obtain ⟨c, h1, h2⟩ := h
      exact .of h2 fun _ k => (by unfold bino; simp only [hu]; exact ⟨c, h1, k⟩)
    · obtain ⟨c, h1, h2⟩ := h
      exact .of h2 fun _ k => (by unfold bino; simp only [hu]; exact ⟨c, h1, k⟩)
    · exact h.elim
  · rename_i hu
    obtain ⟨v, k1, k2⟩ := binv_point h
    refine ⟨v, k1, fun K' k => ?_⟩
    unfold bino
    split
    · rename_i ms he; exact absurd he (hu ms)
    · exact k2 K' k
theorem unv_point {x : Bool} {op : UnOp} {a : Value} {K : Value → Prop} (h : unv x op a K) : Point (unv x op a) K := by
  unfold unv at h
  split at h
  · exact .of h fun _ k => k
  · exact arith_point h
  · exact h.elim
theorem convv_point {x : Bool} {s d : TypeId} {a : Value} {K : Value → Prop} (h : convv P x s d a K) : Point (convv P x s d a) K := by
  unfold convv at h
  split at h
  · rename_i hs hd; (obtain ⟨v, k1, k2⟩ := arith_point h; exact ⟨v, k1, fun K' k => (by unfold convv; simp only [hs, hd]; exact k2 K' k)⟩)
  · exact h.elim
theorem one_point {d : TypeDesc} {c : Option Value} {K : Value → Prop} (h : one d c K) : Point (one d c) K := by
  unfold one at h
  split at h
  · obtain ⟨n, h1, h2⟩ := h; exact .of h2 fun _ k => ⟨_, h1, k⟩
  · obtain ⟨n, h1, h2⟩ := h; exact .of h2 fun _ k => ⟨_, h1, k⟩
  · obtain ⟨n, h1, h2⟩ := h; exact .of h2 fun _ k => ⟨_, h1, k⟩
  · obtain ⟨n, l, m, h1, h2⟩ := h; exact .of h2 fun _ k => ⟨_, _, _, h1, k⟩
  · obtain ⟨n, h1, h2⟩ := h; exact .of h2 fun _ k => ⟨_, h1, k⟩
  · rename_i n1 n2 n3 n4 n5
    obtain ⟨n, h1, h2⟩ := h
    refine .of h2 fun _ k => ?_
    cases d <;> first | exact (n1 _ rfl).elim | exact (n2 rfl).elim | exact (n3 _ rfl).elim | exact (n4 _ rfl).elim | exact (n5 rfl).elim | exact ⟨_, h1, k⟩
theorem aggv_point {t : TypeId} {a : Value} {off : Nat} {K : Value → Prop} (h : aggv P t a off K) : Point (aggv P t a off) K := by
  unfold aggv at h
  split at h
  · split at h
    · rename_i hu
      split at h
      · rename_i hi; exact .of h fun _ k => (by unfold aggv; simp only [hu, hi]; exact k)
      · exact h.elim
    · rename_i hu
      split at h
      · rename_i hi; exact .of h fun _ k => (by unfold aggv; simp only [hu, hi]; exact k)
      · exact h.elim
    · rename_i d n1 n2 hu
      obtain ⟨v, h1, h2⟩ := one_point h
      refine ⟨v, h1, fun K' k => ?_⟩
      have := h2 K' k
      unfold aggv
      simp only [hu]
      cases d <;> first | exact (n1 _ rfl).elim | exact (n2 _ _ rfl).elim | exact this
    · exact h.elim
  · exact h.elim
theorem fieldOff_iff {t : TypeId} {f : Nat} {G : Nat → TypeId → Prop} : fieldOff P t f G ↔ ∃ fs fd, P.underlying t = some (.struct fs) ∧ fs[f]? = some fd ∧ hasInfo P fd.type = true ∧ sz P fd.type ≠ 0 ∧ G fd.offset fd.type := by
  refine ⟨fieldOff_spec, fun ⟨fs, fd, h1, h2, h3, h4, h5⟩ => ?_⟩
  unfold fieldOff
  simp only [h1, h2, h3]
  cases hs : sz P fd.type with
  | zero => exact absurd hs h4
  | succ n => exact h5
theorem lowv_iff {lo : Option Value} {G : Int → Prop} : lowv lo G ↔ (lo = none ∧ G 0) ∨ ∃ k n, lo = some (.int k n) ∧ G n := by
  refine ⟨lowv_spec, fun h => ?_⟩
  rcases h with ⟨rfl, h⟩ | ⟨k, n, rfl, h⟩ <;> exact h
theorem slicev_point {t : TypeId} {v : Value} {lo hi : Option Value} {K : Value → Prop} (h : slicev P t v lo hi K) : Point (slicev P t v lo hi) K := by
  unfold slicev at h
  split at h
  · rename_i e a len cap hu
    split at h
    · rename_i hi'
      rcases lowv_spec h with ⟨rfl, h2⟩ | ⟨k, n, rfl, h2⟩
      · split at h2
        · exact .of h2.2 fun _ k => (by unfold slicev; simp only [hu, hi']; exact ⟨h2.1, k⟩)
        · exact .of h2.2 fun _ k => (by unfold slicev; simp only [hu, hi']; exact ⟨h2.1, k⟩)
        · exact h2.elim
      · split at h2
        · exact .of h2.2 fun _ k => (by unfold slicev; simp only [hu, hi']; exact ⟨h2.1, k⟩)
        · exact .of h2.2 fun _ k => (by unfold slicev; simp only [hu, hi']; exact ⟨h2.1, k⟩)
        · exact h2.elim
    · exact h.elim
  · rename_i n e p hu
    split at h
    · rename_i hi'
      obtain ⟨b, o, rfl, h2⟩ := onAddr_spec h
      exact .of h2 fun _ k => (by unfold slicev; simp only [hu, hi']; exact k)
    · exact h.elim
  · exact h.elim
theorem mnv_point {a b : Value} {K : Value → Prop} (h : mnv a b K) : Point (mnv a b) K := by
  unfold mnv at h
  split at h
  · split at h
    · rename_i hk; exact .of h fun _ k => (by unfold mnv; simp only [hk]; exact k)
    · exact h.elim
  · exact h.elim
theorem mxv_point {a b : Value} {K : Value → Prop} (h : mxv a b K) : Point (mxv a b) K := by
  unfold mxv at h
  split at h
  · split at h
    · rename_i hk; exact .of h fun _ k => (by unfold mxv; simp only [hk]; exact k)
    · exact h.elim
  · exact h.elim
theorem bltv_point {b : Builtin} {ts : List TypeId} {vs : List Value} {K : Value → Prop} (h : bltv P b ts vs K) : Point (bltv P b ts vs) K := by
  unfold bltv at h
  split at h
  · split at h
    · rename_i hu; exact .of h fun _ k => (by unfold bltv; simp only [hu]; exact k)
    · rename_i hu; exact .of h fun _ k => (by unfold bltv; simp only [hu]; exact k)
    · rename_i hu; exact .of h fun _ k => (by unfold bltv; simp only [hu]; exact k)
    · exact h.elim
  · split at h
    · rename_i hu; exact .of h fun _ k => (by unfold bltv; simp only [hu]; exact k)
    · exact h.elim
  · exact mnv_point h
  · exact mxv_point h
  · exact h.elim
theorem asv_point {T : TypeId} {ok : Bool} {a : Value} {K : Value → Prop} (hr : asv P T ok a K) : Point (asv P T ok a) K := by
  unfold asv at hr
  split at hr
  · exact hr.elim
  · rename_i d nif hu
    obtain ⟨x, h1, h2⟩ := anyOf_point hr
    cases ok
    · refine .of h1.2 fun K' k => ?_
      unfold asv
      split
      · rename_i hu'; rw [hu] at hu'; exact nif _ (Option.some.inj hu')
      · exact h2 _ ⟨h1.1, k⟩
      · rename_i hu'; rw [hu] at hu'; cases hu'
    · obtain ⟨t, h3, h4⟩ := h1
      refine .of h4 fun K' k => ?_
      unfold asv
      split
      · rename_i hu'; rw [hu] at hu'; exact nif _ (Option.some.inj hu')
      · exact h2 _ ⟨t, h3, k⟩
      · rename_i hu'; rw [hu] at hu'; cases hu'
  · exact hr.elim
def needsHeap : Op → Bool
  | .load .. => true
  | _ => false
theorem rd_indep {x : Md} {ρ : Operand → Value} {op : Op} {h h' : Heap} {K : Value → Prop} (hn : needsHeap op = false) (hr : rd P x ρ op h K) : rd P x ρ op h' K := by
  cases op
  case slice t a lo hi mx => cases mx <;> exact hr
  case call c => obtain ⟨callee, args, ts⟩ := c; cases callee <;> exact hr
  case load => cases hn
  all_goals exact hr
theorem namev_of {nm : Bool} {v : Value} {K : Value → Prop} (k : K v) : namev nm v K := by
  unfold namev
  split
  · exact k
  · split
    · intro x hx; rw [hx]; exact k
    · exact k
theorem rd_point {x : Md} {ρ : Operand → Value} {op : Op} {h : Heap} {K : Value → Prop} (hn : needsHeap op = false) (hr : rd P x ρ op h K) : Point (rd P x ρ op h) K := by
  unfold rd at hr
  split at hr
  · exact .of hr fun _ k => k
  · exact .of (namev_spec hr) fun K' k => namev_of k
  · split at hr
    · rename_i t ht
      rcases bcase_spec hr with ⟨rfl, h1⟩ | ⟨rfl, h1⟩ <;> exact .of h1 fun _ k => (by unfold rd; simp only [ht]; exact k)
    · exact hr.elim
  · exact bino_point hr
  · exact unv_point hr
  · exact convv_point hr
  · split at hr
    · rename_i p hp
      obtain ⟨b, o, rfl, h1⟩ := onAddr_spec hr
      exact .of h1 fun _ k => (by unfold rd; simp only [hp]; exact k)
    · exact hr.elim
  · rename_i t a f
    obtain ⟨b, o, hp, h1⟩ := onPtr_spec hr
    obtain ⟨fs, fd, k1, k2, k3, k4, k5⟩ := fieldOff_spec h1
    exact .of k5 fun K' k => (by unfold rd; simp only [hp]; exact (fieldOff_iff (G := fun off _ => K' (.pointer (some ⟨b, o + off, none⟩)))).2 ⟨fs, fd, k1, k2, k3, k4, k⟩)
  · rename_i t a f
    obtain ⟨fs, fd, k1, k2, k3, k4, k5⟩ := fieldOff_spec hr
    obtain ⟨v, k6, k7⟩ := aggv_point k5
    exact ⟨v, k6, fun K' k => (by unfold rd; exact (fieldOff_iff (G := fun off ty => aggv P ty (ρ a) off K')).2 ⟨fs, fd, k1, k2, k3, k4, k7 K' k⟩)⟩
  · split at hr
    · rename_i hi
      split at hr
      · rename_i hu
        split at hr
        · rename_i hi'
          obtain ⟨b, o, hp, h1⟩ := onPtr_spec hr
          exact .of h1.2 fun _ k => (by unfold rd; simp only [hi, hu, hi', hp]; exact ⟨h1.1, k⟩)
        · exact hr.elim
      · rename_i hu ha
        split at hr
        · rename_i hi'
          obtain ⟨b, o, rfl, h1⟩ := onAddr_spec hr.2
          exact .of h1 fun _ k => (by unfold rd; simp only [hi, hu, ha, hi']; exact ⟨hr.1, k⟩)
        · exact hr.elim
      · exact hr.elim
    · exact hr.elim
  · cases hn
  · split at hr
    · rename_i hi
      split at hr
      · rename_i hu
        split at hr
        · rename_i hi'
          obtain ⟨v, h3, h4⟩ := aggv_point hr.2
          exact ⟨v, h3, fun K' k => (by unfold rd; simp only [hi, hu, hi']; exact ⟨hr.1, h4 K' k⟩)⟩
        · exact hr.elim
      · rename_i hu ha
        exact .of hr.2 fun _ k => (by unfold rd; simp only [hi, hu, ha]; exact ⟨hr.1, k⟩)
      · exact hr.elim
    · exact hr.elim
  · split at hr
    · rename_i vs hv
      split at hr
      · rename_i v hi; exact .of hr fun _ k => (by unfold rd; simp only [hv, hi]; exact k)
      · exact hr.elim
    · exact hr.elim
  · exact slicev_point hr
  · exact asv_point hr
  · split at hr
    · exact hr.elim
    · rename_i d n1 hu
      refine .of hr fun _ k => ?_
      unfold rd
      simp only [hu]
      cases d <;> first | exact (n1 _ rfl).elim | exact k
    · exact hr.elim
  · exact .of hr fun _ k => k
  · obtain ⟨v, h1, h2, _⟩ := buildv_sound (P := P) hr
    exact ⟨v, h1, h2⟩
  · exact bltv_point hr
  · exact hr.elim
/-- An operation that does not look into the heap yields the same in every world. -/
theorem rd_sound_pure {x : Md} {ρ : Operand → Value} {o : Oper} {h : Heap} {K : Value → Prop} (hn : needsHeap o.op = false) (hr : rd P x ρ o.op h K) :
    ∃ v, K v ∧ ∀ w : World, (execOp ρ o).run P w = .ok (.value v) w := by
  obtain ⟨v, h1, h2⟩ := rd_point hn hr
  refine ⟨v, h1, fun w => ?_⟩
  obtain ⟨u, hu, h3⟩ := rd_sound (P := P) (o := o) (rd_indep (h' := w.heap) hn (h2 (fun u => u = v) rfl))
  subst hu
  exact h3 w rfl
end Go.Vc

/- Regions whose order is open: operations that only read may be taken first, as long as what they read stands; the others are tried in every order. -/
set_option linter.unusedVariables false
set_option linter.unusedSimpArgs false
namespace Go.Vc
variable {P : Program}

/-- What stands behind operation j of what is asked of the worlds: what it waits for is over. -/
def dropT (wt : Nat → Nat → Bool) (j : Nat) (T : Nat → World → Prop) : Nat → World → Prop := fun k w => wt j k = true ∨ T k w
/-- Whatever order is picked from here on; behind each operation that is carried out what is asked of the world stands: 'T k' for operation k, as long as none has come up that waits for it ('wt j k': j waits for k). -/
def wpG (P : Program) (ops : Array Oper) (wt : Nat → Nat → Bool) (Q : Exit → Act → World → Prop) : Nat → (Nat → World → Prop) → Array Bool → Act → World → Prop
  | 0, _, listed, a, w => Region.ready .any ops listed = [] ∧ Q .normal a w
  | fuel + 1, T, listed, a, w =>
    (Region.ready .any ops listed = [] → Q .normal a w) ∧
    ∀ i ∈ Region.ready .any ops listed, wpOp P ops Q i (fun a' w' => (∀ k, dropT wt i T k w') ∧ wpG P ops wt Q fuel (dropT wt i T) (listed.setIfInBounds i true) a' w') a w
theorem wpAny_of_wpG {ops : Array Oper} {wt : Nat → Nat → Bool} {Q : Exit → Act → World → Prop} : ∀ (fuel : Nat) (T : Nat → World → Prop) (listed : Array Bool) (a : Act) (w : World),
    wpG P ops wt Q fuel T listed a w → wpAny P .any ops Q fuel listed a w
  | 0, _, _, _, _, h => h
  | fuel + 1, _, _, _, _, h => ⟨h.1, fun i hi => wpOp_mono (fun a' w' h' => wpAny_of_wpG fuel _ _ a' w' h'.2) (h.2 i hi)⟩
theorem wpG_mono {ops : Array Oper} {wt : Nat → Nat → Bool} {Q : Exit → Act → World → Prop} : ∀ (fuel : Nat) (T T' : Nat → World → Prop) (listed : Array Bool) (a : Act) (w : World), (∀ k w, T k w → T' k w) →
    wpG P ops wt Q fuel T listed a w → wpG P ops wt Q fuel T' listed a w
  | 0, _, _, _, _, _, _, h => h
  | fuel + 1, T, T', _, _, _, hm, h => ⟨h.1, fun i hi => wpOp_mono (fun a' w' h' => ⟨fun k => (h'.1 k).imp id (hm k w'), wpG_mono fuel _ _ _ a' w' (fun k w hk => hk.imp id (hm k w)) h'.2⟩) (h.2 i hi)⟩

theorem wpG_first {ops : Array Oper} {wt : Nat → Nat → Bool} {Q : Exit → Act → World → Prop} {i : Nat} {oi : Oper} {v : Value} {Ti : World → Prop} (hi : ops[i]? = some oi)
    (hsel : ∀ (j : Nat) (o : Oper) cs b, ops[j]? = some o → o.op ≠ .select cs b)
    (hwt : ∀ j oj, ops[j]? = some oj → wt j i = true → ∃ e ∈ oj.after, Region.binds .any e = true ∧ e.on = i)
    (hQ : ∀ c a w, Q (.panic c) (a.put oi.dst v) w → Q (.panic c) a w) :
    ∀ (fuel : Nat) (T : Nat → World → Prop) (listed : Array Bool) (a : Act) (w : World),
      (∀ j oj, ops[j]? = some oj → j ≠ i → listed.getD j true = false → (∀ e ∈ oj.after, Region.binds .any e = true → e.on ≠ i) → oi.apart ops oj = true) →
      i ∈ Region.ready .any ops listed → YieldsIf P ops Ti oi v a → Ti w → (∀ k, T k w) → (∀ w, T i w) →
      wpG P ops wt Q fuel (fun k => if k = i then Ti else T k) (listed.setIfInBounds i true) (a.put oi.dst v) w → wpG P ops wt Q (fuel + 1) T listed a w := by
  intro fuel
  induction fuel with
  | zero =>
    intro T listed a w _ hr hy hTi hT hTt H
    refine ⟨fun h => (by rw [h] at hr; cases hr), fun j hj => ?_⟩
    by_cases hji : j = i
    · subst hji
      exact hy.wpOp hi hTi ⟨fun k => .inr (hT k), H⟩
    · have := ready_mono hj hji
      rw [H.1] at this
      cases this
  | succ fuel ih =>
    intro T listed a w hfree hr hy hTi hT hTt H
    refine ⟨fun h => (by rw [h] at hr; cases hr), fun j hj => ?_⟩
    by_cases hji : j = i
    · subst hji
      refine hy.wpOp hi hTi ⟨fun k => .inr (hT k), wpG_mono _ _ _ _ _ _ (fun k w hk => ?_) H⟩
      by_cases hk' : k = j
      · subst hk'; exact .inr (hTt w)
      · rw [if_neg hk'] at hk; exact .inr hk
    · have h1 := H.2 j (ready_mono hj hji)
      obtain ⟨hjun, oj, hoj, hall⟩ := mem_ready.1 hj
      have hnot : ∀ e ∈ oj.after, Region.binds .any e = true → e.on ≠ i := fun e he hb heq => by
        have h1 := hall e he hb
        have h0 := (mem_ready.1 hr).1
        rw [heq] at h1
        rcases Nat.lt_or_ge i listed.size with h' | h'
        · simp [h'] at h0 h1; rw [h0] at h1; cases h1
        · simp [Array.getElem?_eq_none h'] at h1
      have hjl : ¬ wt j i = true := fun hl => by
        obtain ⟨e, he, hb, heq⟩ := hwt j oj hoj hl
        exact absurd heq (hnot e he hb)
      have h2 := wpOp_putIf hoj (hfree j oj hoj hji hjun hnot) (fun cs b => hsel i oi cs b hi) (fun cs b => hsel j oj cs b hoj) hQ hy h1
      have hfree' : ∀ k ok, ops[k]? = some ok → k ≠ i → (listed.setIfInBounds j true).getD k true = false →
          (∀ e ∈ ok.after, Region.binds .any e = true → e.on ≠ i) → oi.apart ops ok = true := fun k ok hk hki hun hno => by
        refine hfree k ok hk hki ?_ hno
        by_cases hjk : j = k
        · subst hjk; exact hjun
        · rw [getD_set_ne true hjk] at hun; exact hun
      refine wpOp_mono (fun a' w' h3 => ?_) h2
      have hTi' : Ti w' := by
        have := (h3.2.1 i).resolve_left hjl
        simpa using this
      have hT' : ∀ k, dropT wt j T k w' := fun k => by
        by_cases hk' : k = i
        · subst hk'; exact .inr (hTt w')
        · have := h3.2.1 k
          simpa [dropT, hk'] using this
      refine ⟨hT', ih _ (listed.setIfInBounds j true) a' w' hfree' (ready_mono hr (Ne.symm hji)) h3.1 hTi' hT' (fun w => .inr (hTt w)) ?_⟩
      rw [Array.setIfInBounds_comm _ _ hji]
      refine wpG_mono _ _ _ _ _ _ (fun k w hk => ?_) h3.2.2
      by_cases hk' : k = i
      · subst hk'
        have := hk.resolve_left hjl
        simpa using this
      · simp only [if_neg hk'] at hk ⊢
        exact hk.imp id (by simp [hk'])

/-! ### The condition -/
def waitsB (ops : List Oper) (j i : Nat) : Bool :=
  match ops[j]? with
  | some oj => oj.after.toList.any fun e => Region.binds .any e && Nat.beq e.on i
  | none => false
/-- A load that was taken: which operation, of which type, where, what it read. -/
structure Took where
  i : Nat
  t : TypeId
  b : Nat
  o : Nat
  v : Value
/-- What it read still stands there. -/
def still (P : Program) (e : Took) (h : Heap) : Prop :=
  match P.underlying e.t with
  | some (.struct _) | some (.array _ _) => match e.v with
    | .agg cs => row h e.b e.o (sz P e.t) = some cs.toList
    | _ => False
  | some _ => cell h e.b e.o = some e.v
  | none => False
def dropR (ops : List Oper) (j : Nat) : List Took → List Took
  | [] => []
  | e :: r => match waitsB ops j e.i with | true => dropR ops j r | false => e :: dropR ops j r
def stillAll (P : Program) (h : Heap) (X : Prop) : List Took → Prop
  | [] => X
  | e :: r => still P e h ∧ stillAll P h X r
/-- Operations that only make new memory. -/
def isNew : Op → Bool
  | .alloc _ | .box .. | .buildSlice .. | .makeSlice .. => true
  | _ => false
def pickR (ops : List Oper) (listed : Array Bool) : List Nat → Option Nat
  | [] => none
  | i :: r => match ops[i]? with
    | some o => (match isRd o.op, Region.free .any ops.toArray listed i with
      | true, true => some i
      | _, _ => pickR ops listed r)
    | none => pickR ops listed r
def allI (l : List Nat) (B : Nat → Prop) : Prop :=
  match l with
  | [] => True
  | [i] => B i
  | i :: r => B i ∧ allI r B
def dvRead (P : Program) (x : Md) (N : Nat) (ops : List Oper) (i : Nat) (R : List Took) (t : Env) (h : Heap) (K : List Took → Env → Prop) : Prop :=
  match ops[i]? with
  | some o => guarded ops o.guard t
      (fun t => match o.op with
        | .load ty a => onPtr (ev t a) fun b off => ldv P ty h b off fun v => put N t o.dst v fun t' => K (⟨i, ty, b, off, v⟩ :: R) t'
        | op => match needsHeap op with
          | true => False
          | false => rd P x (ev t) op h fun v => put N t o.dst v fun t' => K R t')
      (fun t => put N t o.dst undef fun t' => K R t')
  | none => False
def dvAct (P : Program) (x : Md) (N : Nat) (ops : List Oper) (i : Nat) (R : List Took) (t : Env) (h : Heap) (K : List Took → Env → Heap → Prop) : Prop :=
  match ops[i]? with
  | some o => guarded ops o.guard t
      (fun t => ef P x (ev t) o.op o.type h fun v h' => match isNew o.op with
        | true => put N t o.dst v fun t' => K (dropR ops i R) t' h'
        | false => stillAll P h' (put N t o.dst v fun t' => K (dropR ops i R) t' h') (dropR ops i R))
      (fun t => put N t o.dst undef fun t' => K (dropR ops i R) t' h)
  | none => False
def dv (P : Program) (x : Md) (N : Nat) (ops : List Oper) : Nat → List Took → Array Bool → Env → Heap → (Env → Heap → Prop) → Prop
  | 0, _, listed, t, h, K => match Region.ready .any ops.toArray listed with | [] => K t h | _ => False
  | f + 1, R, listed, t, h, K => match Region.ready .any ops.toArray listed with
    | [] => K t h
    | rs => match pickR ops listed rs with
      | some i => dvRead P x N ops i R t h fun R' t' => dv P x N ops f R' (listed.setIfInBounds i true) t' h K
      | none => allI rs fun i => dvAct P x N ops i R t h fun R' t' h' => dv P x N ops f R' (listed.setIfInBounds i true) t' h' K
def drawv (P : Program) (exact : Nat → Md) (N : Nat) (id : Nat) (ops : List Oper) (t : Env) (h : Heap) (K : Env → Heap → Prop) : Prop :=
  match P.follows .mixedOrders, Region.noSelect ops.toArray with
  | true, true => dv P (exact id) N ops ops.length [] (Array.replicate ops.length false) t h K
  | _, _ => False

theorem waitsB_spec {ops : List Oper} {j i : Nat} (h : waitsB ops j i = true) : ∀ oj, ops[j]? = some oj → ∃ e ∈ oj.after, Region.binds .any e = true ∧ e.on = i := by
  intro oj hj
  unfold waitsB at h
  simp only [hj, List.any_eq_true, Bool.and_eq_true] at h
  obtain ⟨e, he, hb, hon⟩ := h
  exact ⟨e, by simpa using he, hb, Nat.eq_of_beq_eq_true hon⟩
theorem pickR_spec {ops : List Oper} {listed : Array Bool} {i : Nat} : ∀ {rs : List Nat}, pickR ops listed rs = some i →
    i ∈ rs ∧ ∃ o, ops[i]? = some o ∧ isRd o.op = true ∧ Region.free .any ops.toArray listed i = true
  | [], h => by cases h
  | k :: r, h => by
    unfold pickR at h
    split at h
    · rename_i o ho
      split at h
      · rename_i h1 h2
        cases h
        exact ⟨by simp, o, ho, h1, h2⟩
      · obtain ⟨a, b⟩ := pickR_spec h; exact ⟨by simp [a], b⟩
    · obtain ⟨a, b⟩ := pickR_spec h; exact ⟨by simp [a], b⟩
theorem allI_spec {B : Nat → Prop} : ∀ {l : List Nat}, allI l B → ∀ i ∈ l, B i
  | [], _, i, hi => by cases hi
  | [k], h, i, hi => by simp at hi; subst hi; exact h
  | k :: k2 :: r, h, i, hi => by
    cases hi with
    | head => exact h.1
    | tail _ hi => exact allI_spec h.2 i hi
theorem memB_dstsOps {n i : Nat} : ∀ {l : List Oper} {o : Oper}, l[i]? = some o → memB n (dstsOps l) = false → o.dst ≠ some n := by
  induction i with
  | zero =>
    intro l o hi hm
    cases l with
    | nil => simp at hi
    | cons o' r => simp at hi; subst hi; exact (memB_dsts hm).1
  | succ i ih =>
    intro l o hi hm
    cases l with
    | nil => simp at hi
    | cons o' r => simp at hi; exact ih hi (memB_dsts hm).2


theorem stillAll_spec {h : Heap} {X : Prop} : ∀ {R : List Took}, stillAll P h X R → X ∧ ∀ e ∈ R, still P e h
  | [], k => ⟨k, fun e he => by cases he⟩
  | e :: r, k => by
    obtain ⟨h1, h2⟩ := k
    obtain ⟨h3, h4⟩ := stillAll_spec h2
    refine ⟨h3, fun e' he => ?_⟩
    cases he with
    | head => exact h1
    | tail _ he => exact h4 e' he
theorem dropR_spec {ops : List Oper} {j : Nat} : ∀ {R : List Took} {e : Took}, e ∈ R → waitsB ops j e.i = true ∨ e ∈ dropR ops j R
  | e' :: r, e, he => by
    unfold dropR
    cases he with
    | head =>
      split
      · rename_i h; exact .inl h
      · exact .inr (by simp)
    | tail _ he =>
      rcases dropR_spec (ops := ops) (j := j) he with h | h
      · exact .inl h
      · split
        · exact .inr h
        · exact .inr (by simp [h])
theorem dropR_mem {ops : List Oper} {j : Nat} : ∀ {R : List Took} {e : Took}, e ∈ dropR ops j R → e ∈ R
  | e' :: r, e, he => by
    unfold dropR at he
    split at he
    · exact List.mem_cons_of_mem _ (dropR_mem he)
    · cases he with
      | head => simp
      | tail _ he => exact List.mem_cons_of_mem _ (dropR_mem he)
theorem cell_push_some {h : Heap} {o : Obj} {b i : Nat} {v : Value} (hc : cell h b i = some v) : cell (h.push o) b i = some v := by
  unfold cell at hc ⊢
  have hb : b < h.size := by
    rcases Nat.lt_or_ge b h.size with h' | h'
    · exact h'
    · rw [Array.getElem?_eq_none h'] at hc; cases hc
  rw [Array.getElem?_push_lt hb]
  rw [Array.getElem?_eq_getElem hb] at hc
  exact hc
theorem row_push_some {h : Heap} {o : Obj} {b : Nat} : ∀ {n i : Nat} {cs : List Value}, row h b i n = some cs → row (h.push o) b i n = some cs
  | 0, _, _, hc => hc
  | n + 1, i, cs, hc => by
    simp only [row] at hc ⊢
    split at hc
    · rename_i v r h1 h2
      rw [cell_push_some h1, row_push_some h2]; exact hc
    · cases hc
theorem still_push {h : Heap} {o : Obj} {e : Took} (hs : still P e h) : still P e (h.push o) := by
  unfold still at hs ⊢
  split at hs
  · rename_i fs hu
    split at hs
    · rename_i cs hv; exact row_push_some hs
    · exact hs.elim
  · rename_i n el hu
    split at hs
    · rename_i cs hv; exact row_push_some hs
    · exact hs.elim
  · exact cell_push_some hs
  · exact hs.elim
theorem ldv_still {ty : TypeId} {h : Heap} {b o : Nat} {K : Value → Prop} (hr : ldv P ty h b o K) : ∃ v, K v ∧ ∀ i, still P ⟨i, ty, b, o, v⟩ h ∧
    ∀ w : World, still P ⟨i, ty, b, o, v⟩ w.heap → (Instr.loadAt ty (.pointer (some ⟨b, o, none⟩))).run P w = .ok v w := by
  unfold ldv at hr
  split at hr
  · rename_i hu
    split at hr
    · rename_i hi
      obtain ⟨cs, h1, h2⟩ := hr
      refine ⟨_, h2, fun i => ⟨by unfold still; simp only [hu]; exact h1, fun w hw => ?_⟩⟩
      unfold still at hw
      simp only [hu] at hw
      have e1 := run_underlying (P := P) hu w
      have e2 := run_sizeOf (P := P) hi w
      have e3 := run_loadCells_of_row (P := P) (show row w.heap b o (sz P ty) = some cs from hw) rfl
      simp [Instr.loadAt, Instr.sureAddr, loadVar, isAgg, e1, e2, e3]
    · exact hr.elim
  · rename_i hu
    split at hr
    · rename_i hi
      obtain ⟨cs, h1, h2⟩ := hr
      refine ⟨_, h2, fun i => ⟨by unfold still; simp only [hu]; exact h1, fun w hw => ?_⟩⟩
      unfold still at hw
      simp only [hu] at hw
      have e1 := run_underlying (P := P) hu w
      have e2 := run_sizeOf (P := P) hi w
      have e3 := run_loadCells_of_row (P := P) (show row w.heap b o (sz P ty) = some cs from hw) rfl
      simp [Instr.loadAt, Instr.sureAddr, loadVar, isAgg, e1, e2, e3]
    · exact hr.elim
  · rename_i d n1 n2 hu
    obtain ⟨v, h1, h2⟩ := one_spec hr
    refine ⟨v, h2, fun i => ⟨by unfold still; simp only [hu]; cases d <;> first | exact (n1 _ rfl).elim | exact (n2 _ _ rfl).elim | exact h1, fun w hw => ?_⟩⟩
    have e1 := run_underlying (P := P) hu w
    have e2 : w.cell? ⟨b, o, none⟩ = some v := by
      rw [cell?_eq]
      unfold still at hw
      simp only [hu] at hw
      cases d <;> first | exact (n1 _ rfl).elim | exact (n2 _ _ rfl).elim | exact hw
    cases d <;> first | exact (n1 _ rfl).elim | exact (n2 _ _ rfl).elim | simp [Instr.loadAt, Instr.sureAddr, loadVar, isAgg, e1, e2]
  · exact hr.elim
theorem partv_mono {n : Nat} {v : Value} {K K' : List Value → Prop} (hk : ∀ cs, K cs → K' cs) (h : partv n v K) : partv n v K' := by
  obtain ⟨h1, h2, _⟩ := partv_spec h
  exact partv_of h1 (partv_one h) (hk _ h2)
theorem putParts_mono {sizes : List Nat} : ∀ {parts : List (Nat × Value)} {ch : List (List Value)} {K K' : List (List Value) → Prop}, (∀ c, K c → K' c) → putParts sizes parts ch K → putParts sizes parts ch K'
  | [], _, _, _, hk, h => hk _ h
  | (i, v) :: r, ch, K, K', hk, h => by
    simp only [putParts] at h ⊢
    split at h
    · exact partv_mono (fun cs => putParts_mono hk) h
    · exact h.elim
theorem ef_new {x : Md} {ρ : Operand → Value} {op : Op} {ty : TypeId} {h : Heap} {K : Value → Heap → Prop} (hn : isNew op = true) (hr : ef P x ρ op ty h K) :
    ef P x ρ op ty h fun v h' => K v h' ∧ ∃ o, h' = h.push o := by
  cases op
  case alloc e =>
    unfold ef zerov at hr ⊢
    simp only at hr ⊢
    split at hr
    · split at hr
      · intro b h1 k1 k2; exact ⟨hr b h1 k1 k2, _, k2⟩
      · exact hr.elim
    · exact hr.elim
  case box e a => intro b h1 k1 k2; exact ⟨hr b h1 k1 k2, _, k2⟩
  case buildSlice t len parts =>
    unfold ef bslv at hr ⊢
    simp only at hr ⊢
    split at hr
    · split at hr
      · unfold zerov at hr ⊢
        split at hr
        · split at hr
          · exact putParts_mono (fun c hc b h1 k1 k2 => ⟨hc b h1 k1 k2, _, k2⟩) hr
          · exact hr.elim
        · exact hr.elim
      · exact hr.elim
    · exact hr.elim
  case makeSlice t l c =>
    unfold ef mslv at hr ⊢
    simp only at hr ⊢
    split at hr
    · split at hr
      · refine ⟨hr.1, ?_⟩
        have hr := hr.2
        unfold zerov at hr ⊢
        split at hr
        · split at hr
          · intro b h1 k1 k2; exact ⟨hr b h1 k1 k2, _, k2⟩
          · exact hr.elim
        · exact hr.elim
      · exact hr.elim
    · exact hr.elim
  all_goals cases hn

def Tof (P : Program) (R : List Took) (k : Nat) (w : World) : Prop := ∀ e ∈ R, e.i = k → still P e w.heap
theorem Tof_drop {ops : List Oper} {j : Nat} {R : List Took} {k : Nat} {w : World} (h : ∀ e ∈ dropR ops j R, still P e w.heap) : dropT (waitsB ops) j (Tof P R) k w := by
  cases hw : waitsB ops j k with
  | true => exact .inl hw
  | false =>
    refine .inr fun e he hk => ?_
    rcases dropR_spec (ops := ops) (j := j) he with h1 | h1
    · rw [hk, hw] at h1; cases h1
    · exact h e h1
theorem dv_sound {x : Md} {N : Nat} {ops : List Oper} {K : Env → Heap → Prop} {Q : Exit → Act → World → Prop} (hsel : Region.noSelect ops.toArray = true) (hQ : ∀ c a w, ¬ Q (.panic c) a w) :
    ∀ (f : Nat) (R : List Took) (listed : Array Bool) (t : Env) (h : Heap) (a : Act) (w : World), dv P x N ops f R listed t h K → Rel N t a → w.heap = h → (∀ e ∈ R, still P e h) → (∀ e ∈ R, listed[e.i]? = some true) →
      (∀ t' a' w', Rel N t' a' → Same w w' → Agr (dstsOps ops) t t' → K t' w'.heap → Q .normal a' w') →
      wpG P ops.toArray (waitsB ops) Q f (Tof P R) listed a w := by
  intro f
  induction f with
  | zero =>
    intro R listed t h a w hv hr hw hR hL hn
    unfold dv at hv
    split at hv
    · rename_i hre; exact ⟨hre, hn t a w hr (Same.refl w) (Agr.refl _ _) (hw ▸ hv)⟩
    · exact hv.elim
  | succ f ih =>
    intro R listed t h a w hv hr hw hR hL hn
    have hLset : ∀ (R' : List Took) (i : Nat), (∀ e ∈ R', listed[e.i]? = some true) → ∀ e ∈ R', (listed.setIfInBounds i true)[e.i]? = some true := fun R' i h e he => by
      rw [Array.getElem?_setIfInBounds]
      split
      · rename_i hie
        have := h e he
        rw [← hie] at this
        have hlt := (Array.getElem?_eq_some_iff.1 this).1
        simp [hlt]
      · exact h e he
    unfold dv at hv
    split at hv
    · rename_i hre
      refine ⟨fun _ => hn t a w hr (Same.refl w) (Agr.refl _ _) (hw ▸ hv), fun i hi => ?_⟩
      rw [hre] at hi; cases hi
    · rename_i hne
      split at hv
      · rename_i i hp
        obtain ⟨hmem, o, ho, hrd, hfree⟩ := pickR_spec hp
        have hoa : ops.toArray[i]? = some o := by simpa using ho
        have hun : listed[i]? = some false := by
          have h0 := (mem_ready.1 hmem).1
          rcases Nat.lt_or_ge i listed.size with h' | h'
          · simp [h'] at h0 ⊢; exact h0
          · simp [Array.getElem?_eq_none h'] at h0
        have hilt := (Array.getElem?_eq_some_iff.1 hun).1
        unfold dvRead at hv
        simp only [ho] at hv
        obtain ⟨t1, e1, hr1, hc⟩ := guarded_sound hr hv
        have hTi : ∀ w : World, Tof P R i w := fun w e he hk => by
          have := hL e he
          rw [hk, hun] at this; cases this
        have go : ∀ v (R' : List Took) (Ti : World → Prop), YieldsIf P ops.toArray Ti o v a → Ti w → (∀ e ∈ R', still P e h) → (∀ e ∈ R', (listed.setIfInBounds i true)[e.i]? = some true) →
            (∀ k w, Tof P R' k w → if k = i then Ti w else Tof P R k w) →
            put N t1 o.dst v (fun t' => dv P x N ops f R' (listed.setIfInBounds i true) t' h K) →
            wpG P ops.toArray (waitsB ops) Q (f + 1) (Tof P R) listed a w := by
          intro v R' Ti hy hti hR' hL' hTT hput
          obtain ⟨t2, h3, h4, h5⟩ := put_sound hr1 hput
          refine wpG_first hoa (Region.noSelect_spec hsel) (fun j oj hj hlj => waitsB_spec hlj oj (by simpa using hj)) (fun c a w hq => absurd hq (hQ c _ w)) f (Tof P R) listed a w
            (Region.free_spec hoa hfree) hmem hy hti (fun k e he hk => by rw [hw]; exact hR e he) hTi ?_
          refine wpG_mono _ (Tof P R') _ _ _ _ (fun k w' hk => ?_) (ih R' _ t2 h _ w h3 h4 hw hR' hL' fun t' a' w' k1 k2 k3 k4 => hn t' a' w' k1 k2 (fun n hm => ?_) k4)
          · have := hTT k w' hk
            by_cases hki : k = i
            · simp only [hki, if_true] at this ⊢; exact this
            · simp only [hki, if_false] at this ⊢; exact this
          · exact (k3 n hm).trans ((h5 n (memB_dstsOps ho hm)).trans (e1 n))
        rcases hc with ⟨hw1, hc⟩ | ⟨hw1, hc⟩
        · rw [← hr1.eval] at hc
          split at hc
          · rename_i ty ad hop
            obtain ⟨b, off, hp', h1⟩ := onPtr_spec hc
            obtain ⟨v, h2, h3⟩ := ldv_still (P := P) h1
            refine go v (⟨i, ty, b, off, v⟩ :: R) (fun w => still P ⟨i, ty, b, off, v⟩ w.heap) (.inl ⟨hw1, fun w' hs => ?_⟩) (by rw [hw]; exact (h3 i).1) ?_ ?_ ?_ h2
            · have := (h3 i).2 w' hs
              rw [execOp, hop]
              simp [hp', this]
            · intro e he
              cases he with
              | head => exact (h3 i).1
              | tail _ he => exact hR e he
            · intro e he
              cases he with
              | head => simp [hilt]
              | tail _ he => exact hLset R i hL e he
            · intro k w' hk
              split
              · rename_i hki; exact hk _ (by simp) hki.symm
              · exact fun e he hke => hk e (by simp [he]) hke
          · split at hc
            · exact hc.elim
            · rename_i hnh
              obtain ⟨v, h1, h2⟩ := rd_sound_pure (P := P) (o := o) hnh hc
              refine go v R (fun _ => True) (.inl ⟨hw1, fun w' _ => h2 w'⟩) trivial hR (hLset R i hL) (fun k w' hk => ?_) h1
              split
              · trivial
              · exact hk
        · refine go undef R (fun _ => True) (.inr ⟨hw1, rfl⟩) trivial hR (hLset R i hL) (fun k w' hk => ?_) hc
          split
          · trivial
          · exact hk
      · refine ⟨fun hre' => (hne hre').elim, fun i hi => ?_⟩
        have hb := allI_spec hv i hi
        unfold dvAct at hb
        unfold wpOp
        split at hb
        · rename_i o ho
          simp only [List.getElem?_toArray, ho]
          obtain ⟨t1, e1, hr1, hc⟩ := guarded_sound hr hb
          have fin : ∀ (t2 : Env) (v : Value) (w' : World), Rel N t2 (a.put o.dst v) → Same w w' → (∀ n, o.dst ≠ some n → t2 n = t1 n) → (∀ e ∈ dropR ops i R, still P e w'.heap) →
              dv P x N ops f (dropR ops i R) (listed.setIfInBounds i true) t2 w'.heap K →
              (∀ k, dropT (waitsB ops) i (Tof P R) k w') ∧ wpG P ops.toArray (waitsB ops) Q f (dropT (waitsB ops) i (Tof P R)) (listed.setIfInBounds i true) (a.put o.dst v) w' := by
            intro t2 v w' h3 hs h5 h6 h4
            refine ⟨fun k => Tof_drop h6, wpG_mono _ (Tof P (dropR ops i R)) _ _ _ _ (fun k w2 hk => ?_) (ih _ _ t2 _ _ w' h4 h3 rfl h6 (hLset _ i fun e he => hL e (dropR_mem he)) fun t' a' w2 k1 k2 k3 k4 => hn t' a' w2 k1 (hs.trans k2) (fun n hm => ?_) k4)⟩
            · cases hwt : waitsB ops i k with
              | true => exact .inl hwt
              | false =>
                refine .inr fun e he hke => ?_
                rcases dropR_spec (ops := ops) (j := i) he with h1 | h1
                · rw [hke, hwt] at h1; cases h1
                · exact hk e h1 hke
            · exact (k3 n hm).trans ((h5 n (memB_dstsOps ho hm)).trans (e1 n))
          rcases hc with ⟨hw1, hc⟩ | ⟨hw1, hc⟩
          · rw [if_pos hw1]
            refine .inl ?_
            rw [← hr1.eval] at hc
            cases hnew : isNew o.op with
            | true =>
              simp only [hnew] at hc
              refine ef_sound (P := P) (ef_new hnew hc) hw fun v w' hs hk => ?_
              obtain ⟨hk1, ob, hob⟩ := hk
              obtain ⟨t2, h3, h4, h5⟩ := put_sound hr1 hk1
              exact fin t2 v w' h4 hs h5 (fun e he => by rw [hob]; exact still_push (hR e (dropR_mem he))) h3
            | false =>
              simp only [hnew] at hc
              refine ef_sound (P := P) hc hw fun v w' hs hk => ?_
              obtain ⟨hk1, hk2⟩ := stillAll_spec hk
              obtain ⟨t2, h3, h4, h5⟩ := put_sound hr1 hk1
              exact fin t2 v w' h4 hs h5 hk2 h3
          · rw [if_neg (by simp [hw1])]
            obtain ⟨t2, h3, h4, h5⟩ := put_sound hr1 hc
            exact fin t2 undef w h4 (Same.refl w) h5 (fun e he => by rw [hw]; exact hR e (dropR_mem he)) (by rw [hw]; exact h3)
        · exact hb.elim

/-- The way that regions which draw are treated here. -/
theorem drawv_ok {exact : Nat → Md} {N : Nat} : DrawnOk P N (drawv P exact N) := by
  intro id ops t h K a w Q hv hr hw hQ hn
  unfold drawv at hv
  split at hv
  · rename_i hm hs
    refine wp_region_any hm (wpAny_of_wpG (wt := waitsB ops) _ (Tof P []) _ a _ ?_)
    have := dv_sound (P := P) (Q := Q) hs hQ ops.length [] (Array.replicate ops.length false) t h a { w with drawn := w.drawn + 1 } hv hr hw (fun e he => by cases he) (fun e he => by cases he) fun t' a' w' k1 k2 k3 k4 => hn t' a' w' k1 ⟨k2.os, k2.tape, k2.output, Nat.le_trans (Nat.le_succ _) k2.drawn⟩ k3 k4
    simpa using this
  · exact hv.elim
end Go.Vc

/- From the reckoner's condition for a function to the model's own statement on its calls; and on to the worlds of a row. -/
set_option linter.unusedVariables false
set_option linter.unusedSimpArgs false
namespace Go.Vc
variable {P : Program}

def resG (tmps : Array Value) : ResultVar → Sem Value
  | .tmp t => pure (tmps.getD t undef)
  | .cell a t => do loadVar t (← asAddr (tmps.getD a undef))
theorem results_resG (fn : Func) (tmps : Array Value) : results fn tmps = (do
    let vs ← fn.results.mapM (resG tmps)
    pure (if h : vs.size = 1 then vs[0] else .tuple vs)) := by
  unfold results
  have : (fun x : ResultVar => (match x with
      | .tmp t => pure (tmps.getD t undef)
      | .cell a t => do loadVar t (← asAddr (tmps.getD a undef)) : Sem Value)) = resG tmps := by
    funext x; cases x <;> rfl
  rw [← this]
  rfl
theorem resv_sound {N : Nat} {t : Env} {a : Act} {w : World} {h : Heap} (hr : Rel N t a) (hw : w.heap = h) : ∀ {rs : List ResultVar} {K : List Value → Prop}, resv P rs t h K →
    ∃ vs, K vs ∧ (rs.mapM (resG a.tmps)).run P w = .ok vs w
  | [], K, hv => ⟨[], hv, rfl⟩
  | .tmp n :: r, K, hv => by
    obtain ⟨vs, h1, h2⟩ := resv_sound hr hw (rs := r) hv
    refine ⟨_, h1, ?_⟩
    have e1 : (resG a.tmps (.tmp n)).run P w = .ok (t n) w := by simp [resG, hr.read]
    simp only [List.mapM_cons, Sem.run_bind, e1, Result.andThen_ok, h2, Sem.run_pure]
  | .cell x T :: r, K, hv => by
    obtain ⟨b, o, hp, h1⟩ := onPtr_spec hv
    obtain ⟨v, h2, h3⟩ := ldv_sound (P := P) h1
    obtain ⟨vs, h4, h5⟩ := resv_sound hr hw (rs := r) h2
    refine ⟨_, h4, ?_⟩
    have e1 := h3 w hw
    simp only [Instr.loadAt, Instr.sureAddr, Sem.run_bind, Sem.run_pure, Result.andThen_ok] at e1
    have e2 : (resG a.tmps (.cell x T)).run P w = .ok v w := by simp [resG, hr.read, hp, asAddr, e1]
    simp only [List.mapM_cons, Sem.run_bind, e2, Result.andThen_ok, h5, Sem.run_pure]

theorem results_sound {N : Nat} {t : Env} {a : Act} {w : World} {h : Heap} {fn : Func} {K : Value → Prop} (hr : Rel N t a) (hw : w.heap = h) (hv : resv P fn.results.toList t h fun vs => K (pack vs)) :
    ∃ v, K v ∧ (results fn a.tmps).run P w = .ok v w := by
  obtain ⟨vs, h1, h2⟩ := resv_sound hr hw hv
  refine ⟨_, h1, ?_⟩
  rw [results_resG, Array.mapM_eq_mapM_toList]
  simp only [Sem.run_bind, Sem.run_map]
  rw [h2]
  simp only [Result.andThen_ok, Sem.run_pure]
  match vs with
  | [] => rfl
  | [v] => rfl
  | v :: u :: r => rfl

/-- An annotation with the way here of treating regions that draw. -/
def ann (P : Program) (N : Nat) (exact : Nat → Md) (loop : Nat → List (Nat × Sh)) (cut : Nat → Option (List (Nat × Sh))) (seg : Nat → List (Nat × List (Nat × Sh))) : Ann := ⟨exact, loop, cut, seg, drawv P exact N⟩

theorem runs_of {f : FuncId} {fn : Func} {c : Code} {args : List Value} {h : Heap} {Post : Value → Heap → Prop} (exact : Nat → Md) (loop : Nat → List (Nat × Sh)) (cut : Nat → Option (List (Nat × Sh))) (seg : Nat → List (Nat × List (Nat × Sh)))
    (hf : P.funcs[f]? = some fn) (hb : fn.body = some c) (hl : args.length ≤ fn.ntmps)
    (hv : fnv P (ann P fn.ntmps exact loop cut seg) fn c args h Post) : Runs P f args.toArray h Post := by
  intro w hw
  refine calls_of_wp hf hb ?_
  have hr : Rel fn.ntmps (initEnv args) { tmps := args.toArray ++ Array.replicate (fn.ntmps - args.toArray.size) undef, defers := [] } := by
    refine ⟨rfl, by simp; omega, fun n => ?_⟩
    unfold initEnv
    rw [Array.getD_eq_getD_getElem?, Array.getElem?_append]
    split
    · rename_i hlt
      simp at hlt
      simp [hlt]
    · rename_i hlt
      simp at hlt
      rw [Array.getElem?_replicate]
      have : args[n]? = none := by simp; omega
      simp only [this]
      split <;> rfl
  have := vc_sound (P := P) (A := ann P fn.ntmps exact loop cut seg) drawv_ok c 0 _ (initEnv args) h _ w hv hr hw
  refine wp_mono this fun e a' w' hl => ?_
  cases e <;> simp only [lift] at hl
  case normal =>
    obtain ⟨t, h1, h2, _, h4⟩ := hl
    obtain ⟨v, h5, h6⟩ := results_sound (K := fun v => Post v w'.heap) h1 rfl h4
    exact ⟨h1.defers, v, h6, v, rfl, h5, h2⟩
  case ret =>
    obtain ⟨t, h1, h2, _, h4⟩ := hl
    obtain ⟨v, h5, h6⟩ := results_sound (K := fun v => Post v w'.heap) h1 rfl h4
    exact ⟨h1.defers, v, h6, v, rfl, h5, h2⟩
  case exit =>
    obtain ⟨t, h1, h2, _, h4⟩ := hl
    exact h4.elim

/-- Nothing that was there has turned. -/
def Kept (h h' : Heap) : Prop := h.size ≤ h'.size ∧ ∀ b, b < h.size → h'[b]? = h[b]?
theorem Kept.refl (h : Heap) : Kept h h := ⟨Nat.le_refl _, fun _ _ => rfl⟩
theorem Kept.trans {a b c : Heap} (h : Kept a b) (k : Kept b c) : Kept a c := ⟨Nat.le_trans h.1 k.1, fun i hi => (k.2 i (Nat.lt_of_lt_of_le hi h.1)).trans (h.2 i hi)⟩
theorem calls_of_runs {f : FuncId} {args : Array Value} {w : World} {v : Value} (h : Runs P f args w.heap fun u h' => u = v ∧ Kept w.heap h') :
    Calls P f args w fun e w' => e = .returned v ∧ Go.RowKit.Below w.heap.size w w' :=
  (h w rfl).mono fun e w' ⟨u, he, ⟨hu, hk⟩, hs⟩ => ⟨by rw [he, hu], ⟨hs.os, hs.tape, hs.output, hk.1, hk.2⟩⟩

/-- A piece of a conjunction that comes out true and leaves the heap alone. -/
theorem seg1 {h : Heap} {A : (Bool → Heap → Prop) → Prop} {B : Bool → Heap → Prop} (ha : A fun x h' => x = true ∧ h' = h) (hb : B true h) :
    ∃ J : Bool → Heap → Prop, A J ∧ ∀ _ : Env, ∀ (x : Bool) (h' : Heap), J x h' → B x h' :=
  ⟨_, ha, fun _ => by rintro _ _ ⟨rfl, rfl⟩; exact hb⟩
/-- A call that only yields a value. -/
theorem Runs.ret {f : FuncId} {args : Array Value} {h : Heap} {v0 : Value} {Post : Value → Heap → Prop} (hr : Runs P f args h fun v h' => v = v0 ∧ h' = h) (k : Post v0 h) : Runs P f args h Post :=
  hr.mono (by rintro _ _ ⟨rfl, rfl⟩; exact k)
end Go.Vc

/- Memory by blocks: what a call has turned, what it has left. No program is named here. -/
set_option linter.unusedVariables false
set_option linter.unusedSimpArgs false
namespace Go.Vc

/-- A block's cells. -/
def Blk (h : Heap) (b : Nat) (vs : List Value) (T : TypeId) : Prop := h[b]? = some (.cells vs.toArray T)
section
variable {h h' h0 : Heap} {b b' o n : Nat} {vs ws : List Value} {T T' : TypeId} {v : Value}
theorem Blk.lt (hb : Blk h b vs T) : b < h.size := (Array.getElem?_eq_some_iff.1 hb).1
theorem Blk.cell (hb : Blk h b vs T) : Go.Vc.cell h b o = vs[o]? := by unfold Blk at hb; simp [Go.Vc.cell, hb]
theorem Blk.cell_eq (hb : Blk h b vs T) (e : vs[o]? = some v) : Go.Vc.cell h b o = some v := hb.cell.trans e
theorem row_of_cells : ∀ {n o : Nat} {cs : List Value}, cs.length = n → (∀ j v, cs[j]? = some v → Go.Vc.cell h b (o + j) = some v) → row h b o n = some cs
  | 0, o, cs, hl, _ => by rw [List.eq_nil_of_length_eq_zero hl]; rfl
  | n + 1, o, c :: cs, hl, hc => by
    have h1 := hc 0 c rfl
    have h2 := row_of_cells (n := n) (o := o + 1) (cs := cs) (by simpa using hl) (fun j v hj => by
      have := hc (j + 1) v (by simpa using hj)
      rw [show o + 1 + j = o + (j + 1) by omega]; exact this)
    simp only [row]
    rw [show Go.Vc.cell h b o = some c by simpa using h1, h2]
theorem row_iff {cs : List Value} : row h b o n = some cs ↔ cs.length = n ∧ ∀ j v, cs[j]? = some v → Go.Vc.cell h b (o + j) = some v :=
  ⟨row_cells, fun ⟨h1, h2⟩ => row_of_cells h1 h2⟩
theorem Blk.row (hb : Blk h b vs T) (hl : o + n ≤ vs.length) : Go.Vc.row h b o n = some ((vs.drop o).take n) := by
  refine row_of_cells (by simp; omega) fun j v hj => ?_
  rw [hb.cell]
  have hjn : j < n := by have := (List.getElem?_eq_some_iff.1 hj).1; simp at this; omega
  rw [List.getElem?_take_of_lt hjn, List.getElem?_drop] at hj
  exact hj
theorem Blk.row_eq {cs : List Value} (hb : Blk h b vs T) (e : (vs.drop o).take n = cs) (hl : o + n ≤ vs.length) : Go.Vc.row h b o n = some cs := e ▸ hb.row hl
theorem Blk.wr (hb : Blk h b vs T) (ho : o < vs.length) : Go.Vc.wr h b o := ⟨_, _, 0, 0, hb, by simpa using ho, by omega⟩
theorem Blk.wrs (hb : Blk h b vs T) (ho : o + n ≤ vs.length) : Go.Vc.wrs h b o n := ⟨_, _, 0, 0, hb, by simpa using ho, by omega⟩
theorem setc_size : (setc h b o v).size = h.size := by simp [setc]
theorem setc_ne (hne : b' ≠ b) : (setc h b o v)[b']? = h[b']? := by
  unfold setc
  rw [Array.getElem?_modify]
  simp [Ne.symm hne]
theorem Blk.setc (hb : Blk h b vs T) : Blk (Go.Vc.setc h b o v) b (vs.set o v) T := by
  have := setc_get (o := o) (v := v) hb
  unfold Blk
  rw [this]
  simp
theorem setr_size : ∀ {us : List Value} {h : Heap} {o : Nat}, (setr h b o us).size = h.size
  | [], _, _ => rfl
  | u :: us, h, o => by simp only [setr]; rw [setr_size, setc_size]
theorem setr_ne (hne : b' ≠ b) : ∀ {us : List Value} {h : Heap} {o : Nat}, (setr h b o us)[b']? = h[b']?
  | [], _, _ => rfl
  | u :: us, h, o => by simp only [setr]; rw [setr_ne hne, setc_ne hne]
def setL : List Value → Nat → List Value → List Value
  | vs, _, [] => vs
  | vs, o, u :: us => setL (vs.set o u) (o + 1) us
theorem setL_eq : ∀ {us vs : List Value} {o : Nat}, o + us.length ≤ vs.length → setL vs o us = vs.take o ++ us ++ vs.drop (o + us.length)
  | [], vs, o, _ => by simp [setL]
  | u :: us, vs, o, hl => by
    simp only [setL]
    rw [setL_eq (by simp at hl ⊢; omega)]
    simp at hl
    have e1 : (vs.set o u).take (o + 1) = vs.take o ++ [u] := by
      rw [List.take_add_one, List.take_set_of_le (Nat.le_refl _)]
      simp [show o < vs.length by omega]
    have e2 : (vs.set o u).drop (o + 1 + us.length) = vs.drop (o + (us.length + 1)) := by
      rw [List.drop_set_of_lt (by omega)]; congr 1; omega
    rw [e1, e2]; simp
theorem Blk.setr : ∀ {us vs : List Value} {h : Heap} {o : Nat}, Blk h b vs T → Blk (Go.Vc.setr h b o us) b (setL vs o us) T
  | [], _, _, _, hb => hb
  | u :: us, vs, h, o, hb => by simp only [Go.Vc.setr, setL]; exact Blk.setr hb.setc
theorem Blk.push_old {x : Obj} (hb : Blk h b vs T) : Blk (h.push x) b vs T := by
  unfold Blk at hb ⊢
  rw [Array.getElem?_push_lt (Blk.lt hb)]
  rw [Array.getElem?_eq_getElem (Blk.lt hb)] at hb
  exact hb
theorem Blk.push_new : Blk (h.push (.cells vs.toArray T)) h.size vs T := by unfold Blk; simp
end

/-- From h0 to h: of the old blocks only those in S may have turned; the blocks in L hold what is told, each is in S or new. -/
structure Mem (h0 h : Heap) (S : List Nat) (L : List (Nat × List Value × TypeId)) : Prop where
  le : h0.size ≤ h.size
  keep : ∀ b, b < h0.size → b ∉ S → h[b]? = h0[b]?
  has : ∀ x ∈ L, Blk h x.1 x.2.1 x.2.2
  new : ∀ x ∈ L, x.1 ∈ S ∨ h0.size ≤ x.1
  nd : (L.map (·.1)).Nodup
section
variable {h0 h h' : Heap} {S : List Nat} {L : List (Nat × List Value × TypeId)} {b o n i : Nat} {vs : List Value} {T : TypeId} {v : Value}
theorem Mem.start (h : Heap) : Mem h h [] [] := ⟨Nat.le_refl _, fun _ _ _ => rfl, fun x hx => (by cases hx), fun x hx => (by cases hx), List.nodup_nil⟩
theorem Mem.start1 (hb : Blk h b vs T) : Mem h h [b] [(b, vs, T)] :=
  ⟨Nat.le_refl _, fun _ _ _ => rfl, fun x hx => (by simp at hx; subst hx; exact hb), fun x hx => (by simp at hx; subst hx; simp), by simp⟩
theorem Mem.blk (m : Mem h0 h S L) (i : Nat) (hi : L[i]? = some (b, vs, T)) : Blk h b vs T := m.has _ (List.mem_of_getElem? hi)
theorem Mem.cell (m : Mem h0 h S L) (i : Nat) (hi : L[i]? = some (b, vs, T)) (e : vs[o]? = some v) : cell h b o = some v := (m.blk i hi).cell_eq e
theorem Mem.push (m : Mem h0 h S L) (hh : h' = h.push (.cells vs.toArray T)) (hb : b = h.size) : Mem h0 h' S ((b, vs, T) :: L) := by
  subst hh; subst hb
  refine ⟨by simp; have := m.le; omega, fun b hb hs => ?_, fun x hx => ?_, fun x hx => ?_, ?_⟩
  · rw [Array.getElem?_push_lt (by have := m.le; omega)]
    rw [← m.keep b hb hs, Array.getElem?_eq_getElem]
  · cases hx with
    | head => exact Blk.push_new
    | tail _ hx => exact (m.has x hx).push_old
  · cases hx with
    | head => exact .inr m.le
    | tail _ hx => exact m.new x hx
  · simp only [List.map_cons, List.nodup_cons]
    refine ⟨fun hc => ?_, m.nd⟩
    obtain ⟨x, hx, he⟩ := List.mem_map.1 hc
    have := (m.has x hx).lt
    omega
theorem nodup_ne {L : List (Nat × List Value × TypeId)} (hn : (L.map (·.1)).Nodup) {i j : Nat} {x y : Nat × List Value × TypeId} (hi : L[i]? = some x) (hj : L[j]? = some y) (hij : i ≠ j) : x.1 ≠ y.1 := by
  intro he
  have h1 : (L.map (·.1))[i]? = some x.1 := by simp [hi]
  have h2 : (L.map (·.1))[j]? = some y.1 := by simp [hj]
  have hil := (List.getElem?_eq_some_iff.1 h1).1
  have hjl := (List.getElem?_eq_some_iff.1 h2).1
  have e1 := (List.getElem?_eq_some_iff.1 h1).2
  have e2 := (List.getElem?_eq_some_iff.1 h2).2
  have hp := List.pairwise_iff_getElem.1 hn
  rcases Nat.lt_or_gt_of_ne hij with h | h
  · exact hp i j hil hjl h (by rw [e1, e2, he])
  · exact hp j i hjl hil h (by rw [e1, e2, he])
/-- One block of those that are known turns. -/
theorem Mem.turn {ws : List Value} (m : Mem h0 h S L) (i : Nat) (hi : L[i]? = some (b, vs, T)) (hs : h.size ≤ h'.size) (hb : Blk h' b ws T) (hk : ∀ c, c < h.size → c ≠ b → h'[c]? = h[c]?) :
    Mem h0 h' S (L.set i (b, ws, T)) := by
  have hil := (List.getElem?_eq_some_iff.1 hi).1
  have e1 : (L.set i (b, ws, T)).map (·.1) = L.map (·.1) := by
    rw [List.map_set]
    apply List.ext_getElem?
    intro j
    rw [List.getElem?_set]
    split
    · rename_i h1; subst h1; simp [hil, hi]
      have := (List.getElem?_eq_some_iff.1 hi).2
      rw [this]
    · rfl
  refine ⟨Nat.le_trans m.le hs, fun c hc hcs => ?_, fun x hx => ?_, fun x hx => ?_, by rw [e1]; exact m.nd⟩
  · rw [hk c (Nat.lt_of_lt_of_le hc m.le) ?_, m.keep c hc hcs]
    rintro rfl
    rcases m.new _ (List.mem_of_getElem? hi) with h1 | h1
    · exact hcs h1
    · exact absurd hc (by have h1 : h0.size ≤ c := h1; omega)
  · obtain ⟨j, hj⟩ := List.mem_iff_getElem?.1 hx
    rw [List.getElem?_set] at hj
    split at hj
    · rename_i h1; subst h1; simp [hil] at hj; subst hj; exact hb
    · rename_i hij
      have hx' := m.has x (List.mem_of_getElem? hj)
      unfold Blk
      rw [hk x.1 hx'.lt (nodup_ne m.nd hj hi (Ne.symm hij))]
      exact hx'
  · obtain ⟨j, hj⟩ := List.mem_iff_getElem?.1 hx
    rw [List.getElem?_set] at hj
    split at hj
    · rename_i h1; subst h1; simp [hil] at hj; subst hj; exact m.new (b, vs, T) (List.mem_of_getElem? hi)
    · exact m.new x (List.mem_of_getElem? hj)
theorem Mem.store (m : Mem h0 h S L) (i : Nat) (hi : L[i]? = some (b, vs, T)) (ho : o < vs.length) {Q : Heap → Prop} (k : ∀ h1, Mem h0 h1 S (L.set i (b, vs.set o v, T)) → Q h1) :
    wr h b o ∧ ∀ h1, h1 = setc h b o v → Q h1 :=
  ⟨(m.blk i hi).wr ho, fun h1 e => k h1 (by subst e; exact m.turn i hi (by rw [setc_size]; exact Nat.le_refl _) (m.blk i hi).setc fun c _ hc => setc_ne hc)⟩
theorem Mem.setr {us : List Value} (m : Mem h0 h S L) (i : Nat) (hi : L[i]? = some (b, vs, T)) (hh : h' = setr h b o us) : Mem h0 h' S (L.set i (b, setL vs o us, T)) := by
  subst hh
  exact m.turn i hi (by rw [setr_size]; exact Nat.le_refl _) (m.blk i hi).setr fun c _ hc => setr_ne hc
/-- A call that has turned one of the known blocks. -/
theorem Mem.call1 {ws : List Value} {L' : List (Nat × List Value × TypeId)} (m : Mem h0 h S L) (i : Nat) (hi : L[i]? = some (b, vs, T)) (m' : Mem h h' [b] L') (j : Nat) (hj : L'[j]? = some (b, ws, T)) : Mem h0 h' S (L.set i (b, ws, T)) :=
  m.turn i hi m'.le (m'.blk j hj) fun c hc hcb => m'.keep c hc (by simpa using hcb)
/-- A call that has turned nothing. -/
theorem Mem.call0 {L' : List (Nat × List Value × TypeId)} (m : Mem h0 h S L) (m' : Mem h h' [] L') : Mem h0 h' S L :=
  ⟨Nat.le_trans m.le m'.le, fun c hc hs => (m'.keep c (Nat.lt_of_lt_of_le hc m.le) (by simp)).trans (m.keep c hc hs),
   fun x hx => by have := m.has x hx; unfold Blk at this ⊢; rw [m'.keep _ (Blk.lt (m.has x hx)) (by simp)]; exact this, m.new, m.nd⟩
theorem Mem.forget (m : Mem h0 h S L) (i : Nat) : Mem h0 h S (L.eraseIdx i) :=
  ⟨m.le, m.keep, fun x hx => m.has x (List.mem_of_mem_eraseIdx hx), fun x hx => m.new x (List.mem_of_mem_eraseIdx hx), m.nd.sublist ((List.eraseIdx_sublist L i).map _)⟩
theorem Mem.kept (m : Mem h0 h [] L) : Kept h0 h := ⟨m.le, fun b hb => m.keep b hb (by simp)⟩
theorem Mem.ofKept (k : Kept h0 h) : Mem h0 h [] [] := ⟨k.1, fun b hb _ => k.2 b hb, fun x hx => (by cases hx), fun x hx => (by cases hx), List.nodup_nil⟩
/-- A row that lies in an old block that was not to turn. -/
theorem Mem.row {cs : List Value} (m : Mem h0 h S L) (hb : b ∉ S) (hr : row h0 b o n = some cs) : Go.Vc.row h b o n = some cs := by
  obtain ⟨h1, h2⟩ := row_iff.1 hr
  refine row_iff.2 ⟨h1, fun j v hj => ?_⟩
  have h3 := h2 j v hj
  have hlt : b < h0.size := by
    rcases Nat.lt_or_ge b h0.size with h' | h'
    · exact h'
    · unfold Go.Vc.cell at h3; rw [Array.getElem?_eq_none h'] at h3; cases h3
  unfold Go.Vc.cell at h3 ⊢
  rw [m.keep b hlt hb]; exact h3
theorem Mem.cell_old (m : Mem h0 h S L) (hb : b ∉ S) (hc : Go.Vc.cell h0 b o = some v) : Go.Vc.cell h b o = some v := by
  have hlt : b < h0.size := by
    rcases Nat.lt_or_ge b h0.size with h' | h'
    · exact h'
    · unfold Go.Vc.cell at hc; rw [Array.getElem?_eq_none h'] at hc; cases hc
  unfold Go.Vc.cell at hc ⊢
  rw [m.keep b hlt hb]; exact hc
/-- Where a slice lies. -/
def blkOf : Option Addr → List Nat
  | some ⟨b, _, _⟩ => [b]
  | none => []
theorem Mem.src {a : Option Addr} {cs : List Value} (m : Mem h0 h S L) (hb : ∀ b ∈ blkOf a, b ∉ S) (hr : src h0 a n cs) : src h a n cs := by
  unfold Go.Vc.src at hr ⊢
  split at hr
  · exact hr
  · rename_i b o; exact m.row (hb b (by simp [blkOf])) hr
  · exact hr
theorem src_at {a : Option Addr} {cs : List Value} {N k n : Nat} (hs : src h a N cs) (hk : k + n ≤ cs.length) (hn : 0 < n) : ∃ b o, a = some ⟨b, o, none⟩ ∧ Go.Vc.row h b (o + k) n = some ((cs.drop k).take n) := by
  unfold Go.Vc.src at hs
  split at hs
  · subst hs; simp at hk; omega
  · rename_i b o
    obtain ⟨h1, h2⟩ := row_iff.1 hs
    refine ⟨b, o, rfl, row_iff.2 ⟨by simp; omega, fun j v hj => ?_⟩⟩
    have hjn : j < n := by have := (List.getElem?_eq_some_iff.1 hj).1; simp at this; omega
    rw [List.getElem?_take_of_lt hjn, List.getElem?_drop] at hj
    rw [Nat.add_assoc]
    exact h2 _ v hj
  · obtain ⟨_, rfl⟩ := hs; simp at hk; omega
end
end Go.Vc

/- Memory by groups of blocks: what stays (W), what is ours (G: groups of blocks, each block once). No program is named here. -/
set_option linter.unusedVariables false
set_option linter.unusedSimpArgs false
namespace Go.Vc
abbrev B3 := Nat × List Value × TypeId
abbrev Grp := List B3
abbrev Wd := Nat → Option Obj
def Wd.le (W W' : Wd) : Prop := ∀ b x, W b = some x → W' b = some x
theorem Wd.le.refl (W : Wd) : W.le W := fun _ _ h => h
theorem Wd.le.trans {A B C : Wd} (h : A.le B) (k : B.le C) : A.le C := fun b x e => k b x (h b x e)
/-- What is known of a heap: blocks that stay as they are, blocks that are ours. -/
structure Me (W : Wd) (h : Heap) (G : List Grp) : Prop where
  keep : ∀ b x, W b = some x → h[b]? = some x
  has : ∀ x ∈ G.flatten, Blk h x.1 x.2.1 x.2.2
  off : ∀ x ∈ G.flatten, W x.1 = none
  nd : (G.flatten.map (·.1)).Nodup
/-- The heap as it is, nothing of it ours. -/
def Wd.of (h : Heap) : Wd := fun b => h[b]?
def wcell (W : Wd) (b o : Nat) : Option Value := match W b with
  | some (.cells c _ _) => c[o]?
  | _ => none
def wrow (W : Wd) (b o : Nat) : Nat → Option (List Value)
  | 0 => some []
  | n + 1 => match wcell W b o, wrow W b (o + 1) n with
    | some v, some r => some (v :: r)
    | _, _ => none
def wsrc (W : Wd) (a : Option Addr) (n : Nat) (cs : List Value) : Prop :=
  match a with
  | none => cs = []
  | some ⟨b, o, none⟩ => wrow W b o n = some cs
  | some ⟨_, _, some _⟩ => n = 0 ∧ cs = []
section
variable {W W' : Wd} {h h' : Heap} {G G' : List Grp} {E A B : Grp} {b o n i : Nat} {vs ws us : List Value} {T : TypeId} {v : Value}
theorem Me.start (h : Heap) : Me (Wd.of h) h [] := ⟨fun _ _ e => e, fun _ hx => (by cases hx), fun _ hx => (by cases hx), List.nodup_nil⟩
theorem wcell_le (hl : W.le W') (hc : wcell W b o = some v) : wcell W' b o = some v := by
  unfold wcell at hc ⊢
  split at hc
  · rename_i c e f hW; rw [hl _ _ hW]; exact hc
  · cases hc
theorem wrow_le (hl : W.le W') : ∀ {n o : Nat} {cs : List Value}, wrow W b o n = some cs → wrow W' b o n = some cs
  | 0, _, _, hr => hr
  | n + 1, o, cs, hr => by
    simp only [wrow] at hr ⊢
    split at hr
    · rename_i v r e1 e2; rw [wcell_le hl e1, wrow_le hl e2]; exact hr
    · cases hr
theorem wsrc_le {a : Option Addr} {cs : List Value} (hl : W.le W') (hs : wsrc W a n cs) : wsrc W' a n cs := by
  unfold wsrc at hs ⊢
  split at hs
  · exact hs
  · exact wrow_le hl hs
  · exact hs
theorem Me.wcell (m : Me W h G) (hc : wcell W b o = some v) : cell h b o = some v := by
  unfold Go.Vc.wcell at hc
  split at hc
  · rename_i c e f hW; unfold cell; rw [m.keep _ _ hW]; exact hc
  · cases hc
theorem Me.wrow (m : Me W h G) : ∀ {n o : Nat} {cs : List Value}, wrow W b o n = some cs → row h b o n = some cs
  | 0, _, _, hr => hr
  | n + 1, o, cs, hr => by
    simp only [Go.Vc.wrow] at hr
    simp only [row]
    split at hr
    · rename_i v r e1 e2; rw [m.wcell e1, m.wrow e2]; exact hr
    · cases hr
theorem Me.wsrc {a : Option Addr} {cs : List Value} (m : Me W h G) (hs : wsrc W a n cs) : src h a n cs := by
  unfold Go.Vc.wsrc at hs
  unfold src
  split at hs
  · exact hs
  · exact m.wrow hs
  · exact hs
theorem wrow_len : ∀ {n o : Nat} {cs : List Value}, wrow W b o n = some cs → cs.length = n
  | 0, _, _, hr => by cases hr; rfl
  | n + 1, o, cs, hr => by
    simp only [wrow] at hr
    split at hr
    · rename_i v r e1 e2; cases hr; simp [wrow_len e2]
    · cases hr
theorem wrow_cell : ∀ {n o : Nat} {cs : List Value}, wrow W b o n = some cs → ∀ j v, cs[j]? = some v → wcell W b (o + j) = some v
  | 0, _, _, hr, j, v, hj => by cases hr; simp at hj
  | n + 1, o, cs, hr, j, v, hj => by
    simp only [wrow] at hr
    split at hr
    · rename_i u r e1 e2; cases hr
      cases j with
      | zero => simp at hj; subst hj; exact e1
      | succ j => have := wrow_cell e2 j v (by simpa using hj); rw [show o + (j + 1) = o + 1 + j by omega]; exact this
    · cases hr
theorem wrow_of : ∀ {n o : Nat} {cs : List Value}, cs.length = n → (∀ j v, cs[j]? = some v → wcell W b (o + j) = some v) → wrow W b o n = some cs
  | 0, o, cs, hl, _ => by rw [List.eq_nil_of_length_eq_zero hl]; rfl
  | n + 1, o, c :: cs, hl, hc => by
    have h1 := hc 0 c rfl
    have h2 := wrow_of (n := n) (o := o + 1) (cs := cs) (by simpa using hl) (fun j v hj => by
      have := hc (j + 1) v (by simpa using hj)
      rw [show o + 1 + j = o + (j + 1) by omega]; exact this)
    simp only [wrow]
    rw [show wcell W b o = some c by simpa using h1, h2]
theorem wrow_iff {cs : List Value} : wrow W b o n = some cs ↔ cs.length = n ∧ ∀ j v, cs[j]? = some v → wcell W b (o + j) = some v :=
  ⟨fun hr => ⟨wrow_len hr, wrow_cell hr⟩, fun ⟨h1, h2⟩ => wrow_of h1 h2⟩
theorem of_cell (h : Heap) : wcell (Wd.of h) b o = cell h b o := rfl
theorem of_row {h : Heap} : ∀ {n o : Nat}, wrow (Wd.of h) b o n = row h b o n
  | 0, _ => rfl
  | n + 1, o => by simp only [wrow, row, of_row, of_cell]; rfl
theorem of_src {h : Heap} {a : Option Addr} {cs : List Value} : wsrc (Wd.of h) a n cs ↔ src h a n cs := by
  unfold wsrc src
  split <;> simp [of_row]
theorem Me.lt (m : Me W h G) {x : Obj} (hb : W b = some x) : b < h.size := (Array.getElem?_eq_some_iff.1 (m.keep b x hb)).1
theorem Me.kept {h0 : Heap} (m : Me W h G) (hl : (Wd.of h0).le W) : Kept h0 h := by
  refine ⟨Nat.le_of_not_lt fun hlt => ?_, fun b hb => ?_⟩
  · have := m.keep h.size _ (hl h.size _ (Array.getElem?_eq_getElem hlt))
    rw [Array.getElem?_eq_none (Nat.le_refl _)] at this; cases this
  · have e := Array.getElem?_eq_getElem hb
    exact (m.keep b _ (hl b _ e)).trans e.symm
theorem Me.perm (m : Me W h G) (hp : G.flatten.Perm G'.flatten) : Me W h G' :=
  ⟨m.keep, fun x hx => m.has x (hp.mem_iff.2 hx), fun x hx => m.off x (hp.mem_iff.2 hx), (hp.map _).nodup_iff.1 m.nd⟩
theorem Me.sub (m : Me W h G) (hp : ∃ K, G.flatten.Perm (G'.flatten ++ K)) : Me W h G' := by
  obtain ⟨K, hp⟩ := hp
  refine ⟨m.keep, fun x hx => m.has x (hp.mem_iff.2 (List.mem_append_left _ hx)), fun x hx => m.off x (hp.mem_iff.2 (List.mem_append_left _ hx)), ?_⟩
  have := (hp.map (·.1)).nodup_iff.1 m.nd
  rw [List.map_append] at this
  exact (List.nodup_append.1 this).1
theorem flat_set (hi : G[i]? = some A) : G.flatten.Perm (A ++ (G.eraseIdx i).flatten) := by
  induction G generalizing i with
  | nil => simp at hi
  | cons X G ih =>
    cases i with
    | zero => simp at hi; subst hi; simp
    | succ i =>
      simp at hi
      simp only [List.flatten_cons, List.eraseIdx_cons_succ]
      exact ((ih hi).append_left X).trans (by rw [← List.append_assoc, ← List.append_assoc]; exact List.perm_append_comm.append_right _)
/-- The i-th group to the front. -/
theorem Me.focus (m : Me W h G) (i : Nat) (hi : G[i]? = some A) : Me W h (A :: G.eraseIdx i) := m.perm (by simpa using flat_set hi)
theorem Me.drop1 (m : Me W h (A :: G)) : Me W h G := m.sub ⟨A, by simp only [List.flatten_cons]; exact List.perm_append_comm⟩
theorem Me.free (m : Me W h G) (i : Nat) (hi : G[i]? = some A) : Me W h (G.eraseIdx i) := (m.focus i hi).drop1
theorem Me.split (m : Me W h ((A ++ B) :: G)) : Me W h (A :: B :: G) := m.perm (by simp)
theorem Me.join (m : Me W h (A :: B :: G)) : Me W h ((A ++ B) :: G) := m.perm (by simp)
theorem Me.nilI (m : Me W h G) : Me W h ([] :: G) := m.perm (by simp)
theorem Me.nilE (m : Me W h ([] :: G)) : Me W h G := m.perm (by simp)
theorem Me.blk (m : Me W h G) (i : Nat) (hi : G[i]? = some [(b, vs, T)]) : Blk h b vs T := m.has (b, vs, T) (List.mem_flatten.2 ⟨_, List.mem_of_getElem? hi, by simp⟩)
theorem Me.cell (m : Me W h G) (i : Nat) (hi : G[i]? = some [(b, vs, T)]) (e : vs[o]? = some v) : cell h b o = some v := (m.blk i hi).cell_eq e
theorem Me.row (m : Me W h G) (i : Nat) (hi : G[i]? = some [(b, vs, T)]) (e : (vs.drop o).take n = us) (hl : o + n ≤ vs.length) : Go.Vc.row h b o n = some us := (m.blk i hi).row_eq e hl
theorem Me.push (m : Me W h G) (hh : h' = h.push (.cells vs.toArray T)) (hb : b = h.size) : Me W h' ([(b, vs, T)] :: G) := by
  subst hh; subst hb
  refine ⟨fun b x hW => ?_, fun x hx => ?_, fun x hx => ?_, ?_⟩
  · rw [Array.getElem?_push_lt (m.lt hW)]
    rw [← m.keep b x hW, Array.getElem?_eq_getElem]
  · simp only [List.flatten_cons, List.singleton_append, List.mem_cons] at hx
    rcases hx with rfl | hx
    · exact Blk.push_new
    · exact (m.has x hx).push_old
  · simp only [List.flatten_cons, List.singleton_append, List.mem_cons] at hx
    rcases hx with rfl | hx
    · cases hW : W h.size with
      | none => rfl
      | some x => exact absurd (m.lt hW) (by omega)
    · exact m.off x hx
  · simp only [List.flatten_cons, List.singleton_append, List.map_cons, List.nodup_cons]
    refine ⟨fun hc => ?_, m.nd⟩
    obtain ⟨x, hx, he⟩ := List.mem_map.1 hc
    have := (m.has x hx).lt
    omega
/-- One block turns. -/
theorem Me.turn1 (m : Me W h ([(b, vs, T)] :: G)) (hs : h.size ≤ h'.size) (hb : Blk h' b ws T) (hk : ∀ c, c < h.size → c ≠ b → h'[c]? = h[c]?) : Me W h' ([(b, ws, T)] :: G) := by
  have hoff := m.off (b, vs, T) (by simp)
  have hnd := m.nd
  simp only [List.flatten_cons, List.singleton_append, List.map_cons, List.nodup_cons] at hnd
  refine ⟨fun c x hW => ?_, fun x hx => ?_, fun x hx => ?_, ?_⟩
  · rw [hk c (m.lt hW) (by rintro rfl; simp [hoff] at hW)]; exact m.keep c x hW
  · simp only [List.flatten_cons, List.singleton_append, List.mem_cons] at hx
    rcases hx with rfl | hx
    · exact hb
    · have hx' := m.has x (by simp only [List.flatten_cons, List.singleton_append, List.mem_cons]; exact .inr hx)
      unfold Blk
      rw [hk x.1 hx'.lt (by rintro e; exact hnd.1 (e ▸ List.mem_map_of_mem hx))]
      exact hx'
  · simp only [List.flatten_cons, List.singleton_append, List.mem_cons] at hx
    rcases hx with rfl | hx
    · exact hoff
    · exact m.off x (by simp only [List.flatten_cons, List.singleton_append, List.mem_cons]; exact .inr hx)
  · simp only [List.flatten_cons, List.singleton_append, List.map_cons, List.nodup_cons]; exact hnd
theorem flat_put (hi : G[i]? = some A) : (B ++ (G.eraseIdx i).flatten).Perm (G.set i B).flatten := by
  have hil := (List.getElem?_eq_some_iff.1 hi).1
  have h1 : (G.set i B)[i]? = some B := by simp [hil]
  have h2 := flat_set h1
  rw [List.eraseIdx_set_eq] at h2
  exact h2.symm
theorem Me.turn (m : Me W h G) (i : Nat) (hi : G[i]? = some [(b, vs, T)]) (hs : h.size ≤ h'.size) (hb : Blk h' b ws T) (hk : ∀ c, c < h.size → c ≠ b → h'[c]? = h[c]?) : Me W h' (G.set i [(b, ws, T)]) :=
  ((m.focus i hi).turn1 hs hb hk).perm (by simpa using flat_put (B := [(b, ws, T)]) hi)
theorem Me.setc (m : Me W h G) (i : Nat) (hi : G[i]? = some [(b, vs, T)]) (hh : h' = Go.Vc.setc h b o v) : Me W h' (G.set i [(b, vs.set o v, T)]) := by
  subst hh
  exact m.turn i hi (by rw [setc_size]; exact Nat.le_refl _) (m.blk i hi).setc fun c _ hc => setc_ne hc
theorem Me.setr (m : Me W h G) (i : Nat) (hi : G[i]? = some [(b, vs, T)]) (hh : h' = Go.Vc.setr h b o us) : Me W h' (G.set i [(b, setL vs o us, T)]) := by
  subst hh
  exact m.turn i hi (by rw [setr_size]; exact Nat.le_refl _) (m.blk i hi).setr fun c _ hc => setr_ne hc
theorem Me.store (m : Me W h G) (i : Nat) (hi : G[i]? = some [(b, vs, T)]) (ho : o < vs.length) {Q : Heap → Prop} (k : ∀ h1, Me W h1 (G.set i [(b, vs.set o v, T)]) → Q h1) :
    wr h b o ∧ ∀ h1, h1 = Go.Vc.setc h b o v → Q h1 :=
  ⟨(m.blk i hi).wr ho, fun h1 e => k h1 (m.setc i hi e)⟩
theorem Me.wrs (m : Me W h G) (i : Nat) (hi : G[i]? = some [(b, vs, T)]) (ho : o + n ≤ vs.length) : Go.Vc.wrs h b o n := (m.blk i hi).wrs ho
theorem Me.rowb (m : Me W h G) (i : Nat) (hi : G[i]? = some [(b, vs, T)]) (e : (vs.drop o).take n = us) (hl : Nat.ble (o + n) vs.length = true) : Go.Vc.row h b o n = some us := m.row i hi e (Nat.le_of_ble_eq_true hl)
theorem Me.wrb (m : Me W h G) (i : Nat) (hi : G[i]? = some [(b, vs, T)]) (hl : Nat.ble (o + 1) vs.length = true) : Go.Vc.wr h b o := (m.blk i hi).wr (Nat.le_of_ble_eq_true hl)
theorem Me.wrsb (m : Me W h G) (i : Nat) (hi : G[i]? = some [(b, vs, T)]) (hl : Nat.ble (o + n) vs.length = true) : Go.Vc.wrs h b o n := (m.blk i hi).wrs (Nat.le_of_ble_eq_true hl)
/-- A group that from now on stays as it is. -/
theorem Me.give (m : Me W h (E :: G)) : ∃ W', W.le W' ∧ (∀ x ∈ E, W' x.1 = some (.cells x.2.1.toArray x.2.2)) ∧ Me W' h G := by
  have hnd := m.nd
  simp only [List.flatten_cons, List.map_append] at hnd
  obtain ⟨_, _, hdis⟩ := List.nodup_append.1 hnd
  have hE : ∀ x ∈ E, x ∈ (E :: G).flatten := fun x hx => by simp only [List.flatten_cons]; exact List.mem_append_left _ hx
  have hG : ∀ x ∈ G.flatten, x ∈ (E :: G).flatten := fun x hx => by simp only [List.flatten_cons]; exact List.mem_append_right _ hx
  refine ⟨fun b => if b ∈ E.map (·.1) then h[b]? else W b, fun b x hW => ?_, fun x hx => ?_, ?_, ?_, ?_, ?_⟩
  · show (if b ∈ E.map (·.1) then h[b]? else W b) = _
    split
    · exact m.keep b x hW
    · exact hW
  · show (if x.1 ∈ E.map (·.1) then h[x.1]? else W x.1) = _
    rw [if_pos (List.mem_map_of_mem hx)]
    exact m.has x (hE x hx)
  · intro b x hx
    replace hx : (if b ∈ E.map (·.1) then h[b]? else W b) = some x := hx
    split at hx
    · exact hx
    · exact m.keep b x hx
  · exact fun x hx => m.has x (hG x hx)
  · intro x hx
    show (if x.1 ∈ E.map (·.1) then h[x.1]? else W x.1) = none
    rw [if_neg (fun hc => hdis _ hc _ (List.mem_map_of_mem hx) rfl)]
    exact m.off x (hG x hx)
  · exact m.drop1.nd
theorem Me.same {h2 : Heap} (m : Me W h G) (e : h2 = h) : Me W h2 G := e ▸ m
/-- Of many groups one. -/
theorem Me.pick {Es : List Grp} (m : Me W h (Es.flatten :: G)) (k : Nat) (hk : Es[k]? = some E) : Me W h (E :: (Es.eraseIdx k).flatten :: G) :=
  m.perm (by simp only [List.flatten_cons]; rw [← List.append_assoc]; exact (flat_set hk).append_right _)
theorem Me.unpick {Es : List Grp} {E0 : Grp} (k : Nat) (hk : Es[k]? = some E0) (m : Me W h (E :: (Es.eraseIdx k).flatten :: G)) : Me W h ((Es.set k E).flatten :: G) :=
  m.perm (by simp only [List.flatten_cons]; rw [← List.append_assoc]; exact (flat_put hk).append_right _)
end
end Go.Vc

/- Slices of our own; appends to them; lists of structs as cells. No program is named here. -/
set_option linter.unusedVariables false
set_option linter.unusedSimpArgs false
namespace Go.Vc
/-- A slice of 'l' elements of 'sz' cells each, the cells 'vs', that is ours: the group that holds it. -/
def Ow (a : Option Addr) (l c sz : Nat) (vs : List Value) (E : Grp) : Prop :=
  (a = none ∧ l = 0 ∧ c = 0 ∧ vs = [] ∧ E = []) ∨
  ∃ (b o : Nat) (j rest t : List Value) (T : TypeId), a = some ⟨b, o, none⟩ ∧ l ≤ c ∧ vs.length = l * sz ∧ rest.length = (c - l) * sz ∧ j.length = o ∧ E = [(b, j ++ (vs ++ (rest ++ t)), T)]
section
variable {W W' : Wd} {h h' : Heap} {G : List Grp} {E : Grp} {a : Option Addr} {l c sz i n : Nat} {T : TypeId} {vs us : List Value}
theorem Ow.nil {sz : Nat} : Ow none 0 0 sz [] [] := .inl ⟨rfl, rfl, rfl, rfl, rfl⟩
theorem Ow.fresh {b l c sz : Nat} {vs rest : List Value} {T : TypeId} (hl : vs.length = l * sz) (hr : rest.length = (c - l) * sz) (hlc : l ≤ c) : Ow (some ⟨b, 0, none⟩) l c sz vs [(b, vs ++ rest, T)] :=
  .inr ⟨b, 0, [], rest, [], T, rfl, hlc, hl, hr, rfl, by simp⟩
theorem Ow.fresh0 {b l sz : Nat} {vs : List Value} {T : TypeId} (hl : vs.length = l * sz) : Ow (some ⟨b, 0, none⟩) l l sz vs [(b, vs, T)] :=
  .inr ⟨b, 0, [], [], [], T, rfl, Nat.le_refl _, hl, by simp, rfl, by simp⟩
theorem Ow.len (o : Ow a l c sz vs E) : vs.length = l * sz := by
  rcases o with ⟨_, rfl, _, rfl, _⟩ | ⟨b, o, j, rest, t, T, _, _, h, _⟩
  · simp
  · exact h
theorem Ow.le (o : Ow a l c sz vs E) : l ≤ c := by
  rcases o with ⟨_, rfl, rfl, rfl, _⟩ | ⟨b, o, j, rest, t, T, _, h, _⟩
  · exact Nat.le_refl _
  · exact h
theorem Ow.src (o : Ow a l c sz vs E) (m : Me W h G) (i : Nat) (hi : G[i]? = some E) : Go.Vc.src h a (l * sz) vs := by
  rcases o with ⟨rfl, rfl, rfl, rfl, rfl⟩ | ⟨b, o, j, rest, t, T, rfl, h1, h2, h3, h4, rfl⟩
  · rfl
  · have hb := m.blk i hi
    show Go.Vc.row h b o (l * sz) = some vs
    rw [hb.row (by simp; omega), ← h4, List.drop_left, ← h2, List.take_left]
theorem Ow.src1 (o : Ow a l c 1 vs E) (m : Me W h G) (i : Nat) (hi : G[i]? = some E) : Go.Vc.src h a l vs := by
  have := o.src m i hi
  rwa [Nat.mul_one] at this
theorem Ow.len1 (o : Ow a l c 1 vs E) : vs.length = l := by have := o.len; rwa [Nat.mul_one] at this
/-- A part of it, read. -/
theorem src_part {h : Heap} {a : Option Addr} {N k n : Nat} {cs us : List Value} (hs : src h a N cs) (hk : k + n ≤ cs.length) (hn : 0 < n) (hu : (cs.drop k).take n = us) : ∃ b o, a = some ⟨b, o, none⟩ ∧ Go.Vc.row h b (o + k) n = some us := by
  subst hu; exact src_at hs hk hn
theorem src_cell {h : Heap} {a : Option Addr} {N k : Nat} {cs : List Value} {v : Value} (hs : src h a N cs) (hk : cs[k]? = some v) : ∃ b o, a = some ⟨b, o, none⟩ ∧ cell h b (o + k) = some v := by
  have hkl := (List.getElem?_eq_some_iff.1 hk).1
  obtain ⟨b, o, e, hr⟩ := src_part (n := 1) (us := [v]) hs hkl (by decide) (by rw [List.drop_eq_getElem_cons hkl, (List.getElem?_eq_some_iff.1 hk).2]; rfl)
  refine ⟨b, o, e, ?_⟩
  have := (row_iff.1 hr).2 0 v rfl
  simpa using this
/-- A cell of it is written. -/
theorem Ow.set1 {k : Nat} {v : Value} (o : Ow a l c sz vs E) (m : Me W h G) (i : Nat) (hi : G[i]? = some E) (hk : k < vs.length) : ∃ b p, a = some ⟨b, p, none⟩ ∧ Go.Vc.wr h b (p + k) ∧
    ∀ h1, h1 = Go.Vc.setc h b (p + k) v → ∃ E', Me W h1 (G.set i E') ∧ Ow a l c sz (vs.set k v) E' := by
  rcases o with ⟨rfl, rfl, rfl, rfl, rfl⟩ | ⟨b, o, j, rest, t, T, rfl, h1, h2, h3, h4, rfl⟩
  · simp at hk
  · refine ⟨b, o, rfl, (m.blk i hi).wr (by simp; omega), fun h1' e => ?_⟩
    have m' := m.setc i hi e
    have e1 : (j ++ (vs ++ (rest ++ t))).set (o + k) v = j ++ (vs.set k v ++ (rest ++ t)) := by
      rw [List.set_append_right _ _ (by omega), show o + k - j.length = k by omega, List.set_append_left _ _ hk]
    rw [e1] at m'
    exact ⟨_, m', .inr ⟨b, o, j, rest, t, T, rfl, h1, by simpa using h2, h3, h4, rfl⟩⟩
/-- The first elements go. -/
theorem Ow.tail (o : Ow a l c sz vs E) (k : Nat) (hk : k ≤ l) : Ow (slcAddr a k c (k * sz)) (l - k) (c - k) sz (vs.drop (k * sz)) E := by
  rcases o with ⟨rfl, rfl, rfl, rfl, rfl⟩ | ⟨b, o, j, rest, t, T, rfl, h1, h2, h3, h4, rfl⟩
  · refine .inl ⟨?_, by omega, by omega, by simp, rfl⟩
    unfold slcAddr; split <;> rfl
  · unfold slcAddr
    by_cases hc : c = k
    · rw [if_pos hc]
      refine .inr ⟨b, o, j, [], vs ++ (rest ++ t), T, rfl, by omega, ?_, ?_, h4, ?_⟩
      · rw [List.length_drop, h2, ← Nat.sub_mul]
      · rw [show c - k - (l - k) = 0 by omega]; simp
      · rw [List.drop_of_length_le (by rw [h2]; exact Nat.mul_le_mul_right _ (by omega))]; simp
    · rw [if_neg hc]
      refine .inr ⟨b, o + k * sz, j ++ vs.take (k * sz), rest, t, T, by simp only [Option.map_some, add_eq], by omega, ?_, ?_, ?_, ?_⟩
      · rw [List.length_drop, h2, ← Nat.sub_mul]
      · rw [h3]; congr 1; omega
      · have : k * sz ≤ l * sz := Nat.mul_le_mul_right _ hk
        simp [h4]; omega
      · simp only [List.append_assoc]
        rw [← List.append_assoc (List.take (k * sz) vs), List.take_append_drop]
/-- The last elements go. -/
theorem Ow.head (o : Ow a l c sz vs E) (k : Nat) (hk : k ≤ l) : Ow a k c sz (vs.take (k * sz)) E := by
  rcases o with ⟨rfl, rfl, rfl, rfl, rfl⟩ | ⟨b, o, j, rest, t, T, rfl, h1, h2, h3, h4, rfl⟩
  · exact .inl ⟨rfl, by omega, rfl, by simp, rfl⟩
  · have : k * sz ≤ l * sz := Nat.mul_le_mul_right _ hk
    refine .inr ⟨b, o, j, vs.drop (k * sz) ++ rest, t, T, rfl, by omega, by simp [h2, this], ?_, h4, ?_⟩
    · simp [h2, h3]
      rw [← Nat.sub_mul, ← Nat.add_mul]; congr 1; omega
    · simp only [List.append_assoc]
      rw [← List.append_assoc (List.take (k * sz) vs), List.take_append_drop]
theorem setL_mid {j vs us rest : List Value} (h : us.length ≤ rest.length) : setL (j ++ (vs ++ rest)) (j.length + vs.length) us = j ++ (vs ++ (us ++ rest.drop us.length)) := by
  rw [setL_eq (by simp; omega)]
  have e1 : (j ++ (vs ++ rest)).take (j.length + vs.length) = j ++ vs := by
    rw [← List.append_assoc, ← List.length_append, List.take_left]
  have e2 : (j ++ (vs ++ rest)).drop (j.length + vs.length + us.length) = rest.drop us.length := by
    rw [← List.append_assoc, ← List.length_append, ← List.drop_drop, List.drop_left]
  rw [e1, e2]; simp
/-- append: in place or anew. -/
theorem Ow.app {k bytes e : Nat} {Q : Option Addr → Nat → Heap → Prop} (o : Ow a l c sz vs E) (m : Me W h G) (i : Nat) (hi : G[i]? = some E) (hus : us.length = k * sz) (hfit : (l + k) * bytes ≤ 140737488355328) (hb0 : 0 < bytes)
    (q : ∀ a' c' E' h', Me W h' (G.set i E') → Ow a' (l + k) c' sz (vs ++ us) E' → Q a' c' h') : appK h a l c k sz e bytes us Q := by
  refine ⟨fun hle => ?_, fun hlt => ⟨⟨hfit, hb0⟩, vs, o.src m i hi, fun cap zs b h1 h2 h3 h4 h5 => ?_⟩⟩
  · rcases o with ⟨rfl, rfl, rfl, rfl, rfl⟩ | ⟨b, o, j, rest, t, T, rfl, h1, h2, h3, h4, rfl⟩
    · obtain rfl : k = 0 := by omega
      have : us = [] := List.eq_nil_of_length_eq_zero (by rw [hus]; simp)
      subst this
      refine q none 0 [] h ?_ (.inl ⟨rfl, rfl, rfl, rfl, rfl⟩)
      exact m.perm (by simpa using (flat_set hi).trans (flat_put (B := []) hi))
    · show wrs h b (o + l * sz) us.length ∧ _
      have hbk := m.blk i hi
      have hlen : us.length ≤ rest.length := by
        rw [hus, h3]; exact Nat.mul_le_mul_right _ (by omega)
      refine ⟨hbk.wrs (by simp; omega), fun h' e9 => ?_⟩
      have m' := m.setr i hi e9
      have e1 : o + l * sz = j.length + vs.length := by rw [h4, h2]
      rw [e1, setL_mid (by simp; omega)] at m'
      refine q _ _ [(b, j ++ ((vs ++ us) ++ (rest.drop us.length ++ t)), T)] _ ?_ (.inr ⟨b, o, j, rest.drop us.length, t, T, rfl, hle, by simp [h2, hus, Nat.add_mul], ?_, h4, rfl⟩)
      · rw [List.drop_append_of_le_length hlen] at m'
        simpa using m'
      · rw [List.length_drop, h3, hus, ← Nat.sub_mul]
        congr 1; omega
  · have m' := m.push h5 h4
    have hl := o.len
    have m2 : Me W h1 (G.set i [(b, (vs ++ us) ++ zs, e)]) := by
      have m3 := (m'.focus (i + 1) (A := E) (by simpa using hi)).drop1
      simp only [List.eraseIdx_cons_succ] at m3
      exact m3.perm (by simpa using flat_put (B := [(b, vs ++ us ++ zs, e)]) hi)
    exact q _ _ _ _ m2 (Ow.fresh (by simp [hl, hus, Nat.add_mul]) h3 h2)
/-- append of one, which is laid into a block of its own first. -/
theorem Ow.app1 {bytes e : Nat} {e2 : TypeId} {Q : Option Addr → Nat → Heap → Prop} (o : Ow a l c sz vs E) (m : Me W h G) (i : Nat) (hi : G[i]? = some E) (hus : us.length = sz) (h1 : ∀ u ∈ us, u.oneCell' = true) (hfit : (l + 1) * bytes ≤ 140737488355328) (hb0 : 0 < bytes)
    (q : ∀ a' c' E' h', Me W h' (G.set i E') → Ow a' (l + 1) c' sz (vs ++ us) E' → Q a' c' h') :
    ∀ (b3 : Nat) (h3 : Heap), b3 = h.size → h3 = h.push (.cells us.toArray e2) → ∃ news : List Value, (Go.Vc.row h3 b3 0 sz = some news ∧ ∀ u ∈ news, u.oneCell' = true) ∧ appK h3 a l c 1 sz e bytes news Q := by
  intro b3 h3 e1 e2
  have m' := m.push e2 e1
  refine ⟨us, ⟨m'.row 0 rfl (by rw [List.drop_zero, ← hus, List.take_length]) (by omega), h1⟩, ?_⟩
  refine o.app m' (i + 1) (by simpa using hi) (by simp [hus]) hfit hb0 fun a' c' E' h' m2 o2 => q a' c' E' h' ?_ o2
  simp only [List.set_cons_succ] at m2
  exact m2.drop1
theorem Me.leOf (m : Me W h G) : W.le (Wd.of h) := m.keep
theorem Me.on (m : Me W h G) (k : Kept h h') : Me W h' G :=
  ⟨fun b x e => by rw [k.2 b (m.lt e)]; exact m.keep b x e, fun x hx => by have := m.has x hx; unfold Blk; rw [k.2 _ this.lt]; exact this, m.off, m.nd⟩
theorem Kept.le {h h' : Heap} (k : Kept h h') : (Wd.of h).le (Wd.of h') := fun b x e => by
  have hb : b < h.size := (Array.getElem?_eq_some_iff.1 e).1
  show h'[b]? = some x
  rw [k.2 b hb]; exact e
theorem Kept.src {h h' : Heap} {a : Option Addr} {n : Nat} {cs : List Value} (k : Kept h h') (hs : Go.Vc.src h a n cs) : Go.Vc.src h' a n cs := of_src.1 (wsrc_le k.le (of_src.2 hs))
theorem Ow.fromW {b o n : Nat} (hl : vs.length = l * sz) : True := trivial
end

/-- A list of things, each of which lies in cells, one behind the other. -/
def Sq {α : Type} (R : α → List Value → Prop) : List α → List Value → Prop
  | [], vs => vs = []
  | x :: xs, vs => ∃ cs r, vs = cs ++ r ∧ R x cs ∧ Sq R xs r
section
variable {α : Type} {R R' : α → List Value → Prop} {n : Nat}
theorem Sq.mono (h : ∀ x cs, R x cs → R' x cs) : ∀ {xs : List α} {vs : List Value}, Sq R xs vs → Sq R' xs vs
  | [], _, hs => hs
  | x :: xs, _, ⟨cs, r, e, h1, h2⟩ => ⟨cs, r, e, h x cs h1, h2.mono h⟩
theorem Sq.len (hn : ∀ x cs, R x cs → cs.length = n) : ∀ {xs : List α} {vs : List Value}, Sq R xs vs → vs.length = xs.length * n
  | [], _, hs => by cases hs; simp
  | x :: xs, _, ⟨cs, r, e, h1, h2⟩ => by subst e; simp [hn x cs h1, h2.len hn, Nat.add_mul, Nat.add_comm]
theorem Sq.app : ∀ {xs ys : List α} {vs us : List Value}, Sq R xs vs → Sq R ys us → Sq R (xs ++ ys) (vs ++ us)
  | [], _, _, _, hs, ht => by cases hs; exact ht
  | x :: xs, _, _, _, ⟨cs, r, e, h1, h2⟩, ht => ⟨cs, r ++ _, by subst e; simp, h1, h2.app ht⟩
theorem Sq.one {x : α} {cs : List Value} (h : R x cs) : Sq R [x] cs := ⟨cs, [], by simp, h, rfl⟩
theorem Sq.snoc {xs : List α} {vs cs : List Value} {x : α} (hs : Sq R xs vs) (h : R x cs) : Sq R (xs ++ [x]) (vs ++ cs) := hs.app (.one h)
theorem Sq.drop (hn : ∀ x cs, R x cs → cs.length = n) : ∀ (k : Nat) {xs : List α} {vs : List Value}, Sq R xs vs → Sq R (xs.drop k) (vs.drop (k * n))
  | 0, xs, vs, hs => by simpa using hs
  | k + 1, [], _, hs => by cases hs; simp [Sq]
  | k + 1, x :: xs, _, ⟨cs, r, e, h1, h2⟩ => by
    subst e
    have e1 : (cs ++ r).drop ((k + 1) * n) = r.drop (k * n) := by
      rw [show (k + 1) * n = cs.length + k * n by rw [hn x cs h1, Nat.add_mul]; omega, ← List.drop_drop, List.drop_left]
    rw [e1]
    exact h2.drop hn k
theorem Sq.take (hn : ∀ x cs, R x cs → cs.length = n) : ∀ (k : Nat) {xs : List α} {vs : List Value}, Sq R xs vs → Sq R (xs.take k) (vs.take (k * n))
  | 0, xs, vs, hs => by simp [Sq]
  | k + 1, [], _, hs => by cases hs; simp [Sq]
  | k + 1, x :: xs, _, ⟨cs, r, e, h1, h2⟩ => by
    subst e
    rw [show (k + 1) * n = cs.length + k * n by rw [hn x cs h1, Nat.add_mul]; omega, List.take_length_add_append]
    exact ⟨cs, _, rfl, h1, h2.take hn k⟩
/-- The i-th's cells. -/
theorem Sq.get (hn : ∀ x cs, R x cs → cs.length = n) {xs : List α} {vs : List Value} (hs : Sq R xs vs) {i : Nat} {x : α} (hx : xs[i]? = some x) : ∃ cs, R x cs ∧ (vs.drop (i * n)).take n = cs ∧ i * n + n ≤ vs.length := by
  have hl := hs.len hn
  have hi := (List.getElem?_eq_some_iff.1 hx).1
  have hd := hs.drop hn i
  rw [List.drop_eq_getElem_cons hi, (List.getElem?_eq_some_iff.1 hx).2] at hd
  obtain ⟨cs, r, e, h1, h2⟩ := hd
  refine ⟨cs, h1, by rw [e, ← hn x cs h1, List.take_left], ?_⟩
  rw [hl, ← Nat.succ_mul]; exact Nat.mul_le_mul_right _ hi
theorem Sq.set (hn : ∀ x cs, R x cs → cs.length = n) : ∀ {xs : List α} {vs cs : List Value} {i : Nat} {y : α}, Sq R xs vs → i < xs.length → R y cs → Sq R (xs.set i y) (vs.take (i * n) ++ (cs ++ vs.drop (i * n + n)))
  | [], _, _, _, _, _, hi, _ => by simp at hi
  | x :: xs, _, cs', 0, y, ⟨cs, r, e, h1, h2⟩, _, hy => by
    subst e
    refine ⟨cs', r, ?_, hy, h2⟩
    rw [Nat.zero_mul, Nat.zero_add, ← hn x cs h1, List.drop_left]; simp
  | x :: xs, _, cs', i + 1, y, ⟨cs, r, e, h1, h2⟩, hi, hy => by
    subst e
    refine ⟨cs, _, ?_, h1, h2.set hn (i := i) (by simpa using hi) hy⟩
    have e1 : (i + 1) * n = cs.length + i * n := by rw [hn x cs h1, Nat.add_mul]; omega
    have e2 : (cs ++ r).drop (cs.length + (i * n + n)) = r.drop (i * n + n) := by rw [← List.drop_drop, List.drop_left]
    rw [e1, List.take_length_add_append, Nat.add_assoc, e2]; simp
theorem Sq.all (h1 : ∀ x cs, R x cs → ∀ u ∈ cs, u.oneCell' = true) : ∀ {xs : List α} {vs : List Value}, Sq R xs vs → ∀ u ∈ vs, u.oneCell' = true
  | [], _, hs, u, hu => by cases hs; cases hu
  | x :: xs, _, ⟨cs, r, e, hx, h2⟩, u, hu => by
    subst e
    rcases List.mem_append.1 hu with hu | hu
    · exact h1 x cs hx u hu
    · exact h2.all h1 u hu
end
/-- Whole numbers of a kind, a cell each. -/
def ints (k : IntKind) (l : List Int) : List Value := l.map (Value.int k)
theorem ints_len {k : IntKind} {l : List Int} : (ints k l).length = l.length := by simp [ints]
theorem ints_get {k : IntKind} {l : List Int} {i : Nat} {x : Int} (h : l[i]? = some x) : (ints k l)[i]? = some (.int k x) := by simp [ints, h]
theorem ints_one {k : IntKind} {l : List Int} : ∀ u ∈ ints k l, u.oneCell' = true := by
  intro u hu; simp only [ints, List.mem_map] at hu; obtain ⟨x, _, rfl⟩ := hu; rfl
theorem ints_app {k : IntKind} {l r : List Int} : ints k (l ++ r) = ints k l ++ ints k r := by simp [ints]
theorem ints_drop {k : IntKind} {l : List Int} {n : Nat} : (ints k l).drop n = ints k (l.drop n) := by simp [ints]
theorem ints_take {k : IntKind} {l : List Int} {n : Nat} : (ints k l).take n = ints k (l.take n) := by simp [ints]
theorem ints_inj {k : IntKind} {l r : List Int} (h : ints k l = ints k r) : l = r := by
  unfold ints at h
  exact List.map_inj_right (fun x y e => by cases e; rfl) |>.1 h
/-- Bytes (or other numbers) that stay as they are: a slice's value. -/
def Bts (W : Wd) (v : Value) (l : List Int) : Prop := ∃ a c, v = .slice a l.length c ∧ l.length ≤ c ∧ wsrc W a l.length (ints .u8 l)
theorem Bts.le {W W' : Wd} {v : Value} {l : List Int} (hl : W.le W') (hb : Bts W v l) : Bts W' v l := by
  obtain ⟨a, c, e, h1, h2⟩ := hb; exact ⟨a, c, e, h1, wsrc_le hl h2⟩
theorem Bts.nil {W : Wd} : Bts W (.slice none 0 0) [] := ⟨none, 0, rfl, Nat.le_refl _, rfl⟩
end Go.Vc
