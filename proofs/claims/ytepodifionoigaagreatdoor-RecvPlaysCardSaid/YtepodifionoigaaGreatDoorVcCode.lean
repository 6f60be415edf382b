import Derived.Test.YtepodifionoigaaGreatDoorVcEf
import Derived.Deep.LoopGhost
set_option linter.unusedVariables false
set_option linter.unusedSimpArgs false
namespace Go.Vc

inductive Ex where
  | normal
  | exit (id : Nat)
  | ret
inductive Sh where
  | int (k : IntKind)
  | bool
  | ptr
  | slice
  | str
  | any
def Fam (A : Type) : List (Nat × Sh) → Type
  | [] => Heap → A
  | (_, .int _) :: r => Int → Fam A r
  | (_, .bool) :: r => Bool → Fam A r
  | (_, .ptr) :: r => Option Addr → Fam A r
  | (_, .slice) :: r => Option Addr → Nat → Nat → Fam A r
  | (_, .str) :: r => ByteArray → Fam A r
  | (_, .any) :: r => Value → Fam A r
def famZero : (ss : List (Nat × Sh)) → Fam Nat ss
  | [] => fun _ => 0
  | (_, .int _) :: r => fun _ => famZero r
  | (_, .bool) :: r => fun _ => famZero r
  | (_, .ptr) :: r => fun _ => famZero r
  | (_, .slice) :: r => fun _ _ _ => famZero r
  | (_, .str) :: r => fun _ => famZero r
  | (_, .any) :: r => fun _ => famZero r
def famEnt : (ss : List (Nat × Sh)) → Fam Prop ss → Env → Heap → Prop
  | [], I, _, h => I h
  | (n, .int k) :: r, I, t, h => match t n with | .int k' x => (match keq k' k with | true => famEnt r (I x) t h | false => False) | _ => False
  | (n, .bool) :: r, I, t, h => match t n with | .bool x => famEnt r (I x) t h | _ => False
  | (n, .ptr) :: r, I, t, h => match t n with | .pointer x => famEnt r (I x) t h | _ => False
  | (n, .slice) :: r, I, t, h => match t n with | .slice x l c => famEnt r (I x l c) t h | _ => False
  | (n, .str) :: r, I, t, h => match t n with | .string x => famEnt r (I x) t h | _ => False
  | (n, .any) :: r, I, t, h => famEnt r (I (t n)) t h
def famBack : (ss : List (Nat × Sh)) → Fam Prop ss → Fam Nat ss → Env → Heap → Nat → Prop
  | [], I, m, _, h, n0 => I h ∧ m h < n0
  | (n, .int k) :: r, I, m, t, h, n0 => match t n with | .int k' x => (match keq k' k with | true => famBack r (I x) (m x) t h n0 | false => False) | _ => False
  | (n, .bool) :: r, I, m, t, h, n0 => match t n with | .bool x => famBack r (I x) (m x) t h n0 | _ => False
  | (n, .ptr) :: r, I, m, t, h, n0 => match t n with | .pointer x => famBack r (I x) (m x) t h n0 | _ => False
  | (n, .slice) :: r, I, m, t, h, n0 => match t n with | .slice x l c => famBack r (I x l c) (m x l c) t h n0 | _ => False
  | (n, .str) :: r, I, m, t, h, n0 => match t n with | .string x => famBack r (I x) (m x) t h n0 | _ => False
  | (n, .any) :: r, I, m, t, h, n0 => famBack r (I (t n)) (m (t n)) t h n0
def famAll : (ss : List (Nat × Sh)) → Fam Prop ss → Fam Nat ss → Env → (Env → Heap → Nat → Prop) → Prop
  | [], I, m, E, B => ∀ h, I h → B E h (m h)
  | (n, .int k) :: r, I, m, E, B => ∀ x : Int, famAll r (I x) (m x) (upd E n (.int k x)) B
  | (n, .bool) :: r, I, m, E, B => ∀ x : Bool, famAll r (I x) (m x) (upd E n (.bool x)) B
  | (n, .ptr) :: r, I, m, E, B => ∀ x : Option Addr, famAll r (I x) (m x) (upd E n (.pointer x)) B
  | (n, .slice) :: r, I, m, E, B => ∀ (x : Option Addr) (l c : Nat), famAll r (I x l c) (m x l c) (upd E n (.slice x l c)) B
  | (n, .str) :: r, I, m, E, B => ∀ x : ByteArray, famAll r (I x) (m x) (upd E n (.string x)) B
  | (n, .any) :: r, I, m, E, B => ∀ x : Value, famAll r (I x) (m x) (upd E n x) B

def guarded (ops : List Oper) (g : Option (Nat × Bool)) (t : Env) (run skip : Env → Prop) : Prop :=
  match g with
  | none => run t
  | some (j, want) => match ops[j]? with
    | some oj => match oj.dst with
      | some d => match t d with
        | .bool b => match want with
          | true => bcase b (run (upd t d (.bool true))) (skip (upd t d (.bool false)))
          | false => bcase b (skip (upd t d (.bool true))) (run (upd t d (.bool false)))
        | .tuple _ => skip t
        | _ => False
      | none => skip t
    | none => skip t
def opv (P : Program) (x : Md) (N : Nat) (ops : List Oper) (o : Oper) (t : Env) (h : Heap) (K : Env → Heap → Prop) : Prop :=
  guarded ops o.guard t
    (fun t => match isRd P o.op with
      | true => rdh P x (ev t) o.op h fun v => put N t o.dst v fun t' => K t' h
      | false => ef P x (ev t) o.op o.type h fun v h' => put N t o.dst v fun t' => K t' h')
    (fun t => put N t o.dst undef fun t' => K t' h)
def opsv (P : Program) (x : Md) (N : Nat) (ops : List Oper) : List Oper → Env → Heap → (Env → Heap → Prop) → Prop
  | [], t, h, K => K t h
  | o :: r, t, h, K => opv P x N ops o t h fun t h => opsv P x N ops r t h K

def memB (n : Nat) : List Nat → Bool
  | [] => false
  | m :: r => match Nat.beq n m with | true => true | false => memB n r
def dstsOps : List Oper → List Nat
  | [] => []
  | o :: r => match o.dst with | some d => d :: dstsOps r | none => dstsOps r
def dsts : Code → List Nat
  | .region _ ops _ => dstsOps ops.toList
  | .seq a b => dsts a ++ dsts b
  | .cond _ a b => dsts a ++ dsts b
  | .block _ b => dsts b
  | .loop b => dsts b
  | _ => []
def hav (ds : List Nat) (u t : Env) : Env := fun n => bif memB n ds then u n else t n
def slotsIn (ds : List Nat) : List (Nat × Sh) → Bool
  | [] => true
  | (n, _) :: r => match memB n ds with | true => slotsIn ds r | false => false
def segv (P : Program) (x : Md) (N : Nat) (ops : List Oper) : List (Nat × List (Nat × Sh)) → List Oper → Env → Heap → (Env → Heap → Prop) → Prop
  | [], l, t, h, K => opsv P x N ops l t h K
  | (n, ss) :: r, l, t, h, K => match slotsIn (dstsOps (l.take n)) ss with
    | true => ∃ J : Fam Prop ss, opsv P x N ops (l.take n) t h (fun t h => famEnt ss J t h) ∧
        ∀ u : Env, famAll ss J (famZero ss) (hav (dstsOps (l.take n)) u t) fun t h _ => segv P x N ops r (l.drop n) t h K
    | false => False
def orElseN (a b : Option Nat) : Option Nat := match a with | none => b | some n => some n
def firstRegion : Code → Option Nat
  | .region id _ _ => some id
  | .seq a b => orElseN (firstRegion a) (firstRegion b)
  | .cond _ a b => orElseN (firstRegion a) (firstRegion b)
  | .block _ b => firstRegion b
  | .loop b => firstRegion b
  | _ => none
structure Ann where
  exact : Nat → Md
  loop : Nat → List (Nat × Sh)
  cut : Nat → Option (List (Nat × Sh))
  seg : Nat → List (Nat × List (Nat × Sh))
  drawn : (id : Nat) → (ops : List Oper) → Env → Heap → (Env → Heap → Prop) → Prop

def cutOf (A : Ann) (b : Code) : Option (List (Nat × Sh)) := match firstRegion b with | some id => A.cut id | none => none
def vc (P : Program) (N : Nat) (A : Ann) : Code → Nat → (Ex → Env → Heap → Prop) → Env → Heap → Prop
  | .skip, _, Q, t, h => Q .normal t h
  | .region id ops d, _, Q, t, h => match d with
    | false => segv P (A.exact id) N ops.toList (A.seg id) ops.toList t h (Q .normal)
    | true => A.drawn id ops.toList t h (Q .normal)
  | .seq a b, cur, Q, t, h => match cutOf A b with
    | none => vc P N A a cur (fun e t h => match e with | .normal => vc P N A b cur Q t h | e => Q e t h) t h
    | some ss => match slotsIn (dsts a) ss with
      | true => ∃ J : Fam Prop ss, vc P N A a cur (fun e t h => match e with | .normal => famEnt ss J t h | e => Q e t h) t h ∧
          ∀ u : Env, famAll ss J (famZero ss) (hav (dsts a) u t) fun t h _ => vc P N A b cur Q t h
      | false => False
  | .cond c a b, cur, Q, t, h => match ev t c with
    | .bool x => bcase x (vc P N A a cur Q t h) (vc P N A b cur Q t h)
    | _ => False
  | .block id b, _, Q, t, h => vc P N A b id (fun e t h => match e with | .exit k => (match Nat.beq k id with | true => Q .normal t h | false => Q (.exit k) t h) | e => Q e t h) t h
  | .exit id, _, Q, t, h => Q (.exit id) t h
  | .ret, _, Q, t, h => Q .ret t h
  | .loop b, cur, Q, t, h => match slotsIn (dsts b) (A.loop cur) with
    | true => ∃ (I : Fam Prop (A.loop cur)) (m : Fam Nat (A.loop cur)), famEnt (A.loop cur) I t h ∧
        ∀ u : Env, famAll (A.loop cur) I m (hav (dsts b) u t) fun t h n =>
          vc P N A b cur (fun e t h => match e with | .normal => famBack (A.loop cur) I m t h n | e => Q e t h) t h
    | false => False
  | _, _, _, _, _ => False

def resv (P : Program) (rs : List ResultVar) (t : Env) (h : Heap) (K : List Value → Prop) : Prop :=
  match rs with
  | [] => K []
  | .tmp n :: r => resv P r t h fun vs => K (t n :: vs)
  | .cell a T :: r => onPtr (t a) fun b o => ldv P T h b o fun v => resv P r t h fun vs => K (v :: vs)
def pack (vs : List Value) : Value := match vs with | [v] => v | vs => .tuple vs.toArray
def initEnv (args : List Value) : Env := fun n => match args[n]? with | some v => v | none => undef
def fnv (P : Program) (A : Ann) (fn : Func) (c : Code) (args : List Value) (h : Heap) (Post : Value → Heap → Prop) : Prop :=
  vc P fn.ntmps A c 0 (fun e t h => match e with
    | .exit _ => False
    | _ => resv P fn.results.toList t h fun vs => Post (pack vs) h) (initEnv args) h
end Go.Vc
