/- The abstract machine: operations that read. -/
import Derived.Test.YtgkpnfnkaplebaaGreatDoorAb4
set_option linter.unusedVariables false
set_option linter.unusedSimpArgs false
set_option linter.constructorNameAsVariable false
namespace Go.Ab
open Go.Vc Go.Proofs.YtgkpnfnkaplebaaGreatDoor
noncomputable section
variable {β : Type}
def acst : Value → Option AV
  | .int k n => some (.i k n)
  | .bool b => some (.b b)
  | .pointer none => some (.p .nil)
  | .pointer (some ⟨b, 0, none⟩) => some (.p (.gl b))
  | .slice none 0 0 => some (.s .nil)
  | .string s => some (.g (bytesI s))
  | .nilIface => some .ni
  | .nilFunc => some .nf
  | .map none => some (.mp .nil)
  | .func (.func f) a b => match a.toList, b.toList with
    | [], [] => some (.fn f [])
    | _, _ => none
  | _ => none
def acL : List Value → Option (List AV)
  | [] => some []
  | v :: r => match acst v, acL r with
    | some a, some l => some (a :: l)
    | _, _ => none
def dcst (v : Value) : DV :=
  match v with
  | .agg cs => match acL cs.toList with
    | some l => .a l
    | none => .u
  | .tuple vs => match vs.toList with
    | [] => .n
    | _ => .u
  | v => match acst v with
    | some a => .v a
    | none => .u
def dev (σ : Nat → DV) : Operand → DV
  | .tmp n => σ n
  | .const v => dcst v
  | .global g => .v (.p (.gl g))
  | .func f => .v (.fn f [])
/-- A number of whatever kind. -/
abbrev isJ (v : AV) (K : Int → Option β) : Option β := AV.rec (motive := fun _ => Option β) none (fun _ n => K n) (fun _ => none) (fun _ => none) (fun _ => none) none (fun _ => none) (fun _ _ _ => none) (fun _ _ => none) none (fun _ => none) (fun _ _ => none) (fun _ => none) (fun _ _ => none) v
def iopD (op : BinOp) (k : IntKind) (m n : Int) (K : DV → Option β) : Option β :=
  match op with
  | .add => wrp k (iadd m n) fun r => K (.v (.i k r))
  | .sub => wrp k (isub m n) fun r => K (.v (.i k r))
  | .mul => wrp k (imul m n) fun r => K (.v (.i k r))
  | .quo => must (bnot (ieq n (.ofNat 0))) (wrp k (iquo m n) fun r => K (.v (.i k r)))
  | .rem => must (bnot (ieq n (.ofNat 0))) (asI (irem m n) fun r => K (.v (.i k r)))
  | .and => asI (bits .and k m n) fun r => K (.v (.i k r))
  | .or => asI (bits .or k m n) fun r => K (.v (.i k r))
  | .xor => asI (bits .xor k m n) fun r => K (.v (.i k r))
  | .andNot => asI (bits .andNot k m n) fun r => K (.v (.i k r))
  | .eql => frcB (ieq m n) fun t => K (.v (.b t))
  | .neq => frcB (bnot (ieq m n)) fun t => K (.v (.b t))
  | .lss => frcB (ilt m n) fun t => K (.v (.b t))
  | .leq => frcB (ile m n) fun t => K (.v (.b t))
  | .gtr => frcB (ilt n m) fun t => K (.v (.b t))
  | .geq => frcB (ile n m) fun t => K (.v (.b t))
  | _ => none
def shopD (op : BinOp) (k : IntKind) (m n : Int) (K : DV → Option β) : Option β :=
  match op with
  | .shl => must (ile (.ofNat 0) n) (must (ile n (.ofNat (kbits k))) (wrp k (imul m (ip2 n)) fun r => K (.v (.i k r))))
  | .shr => must (ile (.ofNat 0) n) (must (ile n (.ofNat (kbits k))) (asI (idiv m (ip2 n)) fun r => K (.v (.i k r))))
  | _ => none
def binD (P : Program) (op : BinOp) (t : TypeId) (a b : DV) (K : DV → Option β) : Option β :=
  match P.underlying t with
  | some (.int k) => onV a fun x => onV b fun y => isI k x fun m => match op with
    | .shl => isJ y fun n => shopD .shl k m n K
    | .shr => isJ y fun n => shopD .shr k m n K
    | op => isI k y fun n => iopD op k m n K
  | some .bool => onV a fun x => onV b fun y => isB x fun m => isB y fun n => match op with
    | .eql => frcB (beqb m n) fun t => K (.v (.b t))
    | .neq => frcB (bnot (beqb m n)) fun t => K (.v (.b t))
    | _ => none
  | some .string => onV a fun x => onV b fun y => isG x fun m => isG y fun n => match op with
    | .add => must (Nat.ble (Nat.add (leni m) (leni n)) 9223372036854775807) (appI m n fun r => K (.v (.g r)))
    | .eql => frcB (leqI m n) fun t => K (.v (.b t))
    | .neq => frcB (bnot (leqI m n)) fun t => K (.v (.b t))
    | _ => none
  | some (.pointer _) => onV a fun x => onV b fun y => isP x fun m => isP y fun n => must (isNilA n) (match op with
    | .eql => frcB (isNilA m) fun t => K (.v (.b t))
    | .neq => frcB (bnot (isNilA m)) fun t => K (.v (.b t))
    | _ => none)
  | some (.slice _) => onV a fun x => onV b fun y => isS x fun m => isS y fun n => must (isNilS n) (match op with
    | .eql => frcB (isNilS m) fun t => K (.v (.b t))
    | .neq => frcB (bnot (isNilS m)) fun t => K (.v (.b t))
    | _ => none)
  | some (.array n e) => onL a fun l => onL b fun r => match P.underlying e, P.eqGuardType P.depth t with
    | some (.int k), false => match Nat.beq (sz P e) 1, hasInfo P e with
      | true, true => intsK k l fun xs => intsK k r fun ys => must (Nat.beq (leni xs) n) (must (Nat.beq (leni ys) n) (match op with
        | .eql => frcB (leqI xs ys) fun t => K (.v (.b t))
        | .neq => frcB (bnot (leqI xs ys)) fun t => K (.v (.b t))
        | _ => none))
      | _, _ => none
    | _, _ => none
  | _ => none
def unD (P : Program) (op : UnOp) (t : TypeId) (a : DV) (K : DV → Option β) : Option β :=
  onV a fun x => match op with
  | .not => isB x fun m => frcB (bnot m) fun t => K (.v (.b t))
  | .neg => match P.underlying t with
    | some (.int k) => isI k x fun n => wrp k (isub (.ofNat 0) n) fun r => K (.v (.i k r))
    | _ => none
  | .xor => match P.underlying t with
    | some (.int k) => isI k x fun n => asI (bits .xor k (if k.signed then -1 else k.max) n) fun r => K (.v (.i k r))
    | _ => none
  | _ => none
def ldD (P : Program) (t : TypeId) (H : AH) (p : P4) (o : Nat) (K : DV → Option β) : Option β :=
  match P.underlying t with
  | some (.struct _) | some (.array _ _) => match hasInfo P t with
    | true => rdR H p o (sz P t) fun l => K (.a l)
    | false => none
  | some d => rdK H p o fun v => oneD d v K
  | none => none
def aggD (P : Program) (t : TypeId) (l : List AV) (off : Nat) (K : DV → Option β) : Option β :=
  match P.underlying t with
  | some (.struct _) | some (.array _ _) => match hasInfo P t with
    | true => K (.a (ltake (sz P t) (ldrop off l)))
    | false => none
  | some d => lgetK off l fun v => oneD d v K
  | none => none
def offD (P : Program) (t : TypeId) (f : Nat) (K : Nat → TypeId → Option β) : Option β :=
  match P.underlying t with
  | some (.struct fs) => match fs[f]? with
    | some fd => match hasInfo P fd.type, sz P fd.type with
      | true, _ + 1 => K fd.offset fd.type
      | _, _ => none
    | none => none
  | _ => none
def nad (o k : Nat) : Nat := match k with | 0 => o | k => Nat.add o k
/-- A place of a row, by elements of z cells. -/
def mulx (z n : Nat) : Nat := match z with | 1 => n | z => Nat.mul n z
abbrev lowD (lo : Option DV) (K : Nat → Option β) : Option β := match lo with | none => K 0 | some d => onV d fun x => isJ x fun n => natK n K
abbrev hiD (hi : Option DV) (s : AS) (K : Nat → Option β) : Option β := match hi with | none => lenA s K | some d => onV d fun x => isJ x fun n => natK n K
abbrev hiG (hi : Option DV) (s : List Int) (K : Nat → Option β) : Option β := match hi with | none => K (leni s) | some d => onV d fun x => isJ x fun n => natK n K
def sliceD (P : Program) (t : TypeId) (v : DV) (lo hi : Option DV) (K : DV → Option β) : Option β :=
  match P.underlying t with
  | some (.slice e) => match hasInfo P e with
    | true => onV v fun x => isS x fun s => lowD lo fun l => hiD hi s fun m => slA s l m (fun x => mulx (sz P e) x) fun s' => K (.v (.s s'))
    | false => none
  | some (.array n e) => match hasInfo P e, lo, hi with
    | true, none, none => onV v fun x => isP x fun p => onA p fun b o => K (.v (.s (.sl b o n n)))
    | _, _, _ => none
  | some .string => onV v fun x => isG x fun s => lowD lo fun l => hiG hi s fun m => must (Nat.ble l m) (must (Nat.ble m (leni s)) (takeI (Nat.sub m l) (dropI l s) fun r => K (.v (.g r))))
  | _ => none
def slice3D (P : Program) (t : TypeId) (v : DV) (lo hi : Option DV) (mx : DV) (K : DV → Option β) : Option β :=
  match P.underlying t, hi with
  | some (.slice e), some h => match hasInfo P e with
    | true => onV v fun x => isS x fun s => lowD lo fun l => (onV h fun x => isJ x fun n => natK n fun m => onV mx fun x => isJ x fun n => natK n fun z => slA3 s l m z (fun x => mulx (sz P e) x) fun s' => K (.v (.s s')))
    | false => none
  | _, _ => none
abbrev tupK (d : DV) (i : Nat) (K : DV → Option β) : Option β := match i with
  | 0 => onC d fun x _ => K x
  | i + 1 => onC d fun _ r => tupK r i K
def bltD (P : Program) (b : Builtin) (ts : List TypeId) (vs : List DV) (K : DV → Option β) : Option β :=
  match b, ts, vs with
  | .len, [t], [v] => match P.underlying t with
    | some (.slice _) => onV v fun x => isS x fun s => lenA s fun n => K (.v (.i .i64 (.ofNat n)))
    | some .string => onV v fun x => isG x fun s => asI (.ofNat (leni s)) fun n => K (.v (.i .i64 n))
    | some (.array n _) => K (.v (.i .i64 (.ofNat n)))
    | _ => none
  | .cap, [t], [v] => match P.underlying t with
    | some (.slice _) => onV v fun x => isS x fun s => capA s fun n => K (.v (.i .i64 (.ofNat n)))
    | _ => none
  | .min, t :: _, [a, b] => match P.underlying t with
    | some (.int k) => onV a fun x => onV b fun y => isI k x fun m => isI k y fun n => asI (imin m n) fun r => K (.v (.i k r))
    | _ => none
  | .max, t :: _, [a, b] => match P.underlying t with
    | some (.int k) => onV a fun x => onV b fun y => isI k x fun m => isI k y fun n => asI (imax m n) fun r => K (.v (.i k r))
    | _ => none
  | _, _, _ => none
/-- A choice of two. -/
def pickK (t : Bool) (a b : DV) (K : DV → Option β) : Option β := Bool.rec (motive := fun _ => Option β) (K b) (K a) t
abbrev ptrsK (l : List DV) (K : List AP → Option β) : Option β := match l with
  | [] => K []
  | d :: r => onV d fun x => isP x fun p => ptrsK r fun ps => K (p :: ps)
abbrev partD (n : Nat) (d : DV) (K : List AV → Option β) : Option β := DV.rec (motive := fun _ => Option β) none (fun x => match n with | 1 => K [x] | _ => none) (fun l => must (Nat.beq (llen l) n) (K l)) none (fun _ _ _ _ => none) d
def splitD : List Nat → List AV → List (List AV)
  | [], _ => []
  | n :: r, l => l.take n :: splitD r (l.drop n)
def joinD : List (List AV) → List AV
  | [] => []
  | a :: r => lapp a (joinD r)
abbrev putD (sizes : List Nat) : List (Nat × DV) → List (List AV) → (List (List AV) → Option β) → Option β
  | [], ch, K => K ch
  | (i, v) :: r, ch, K => match sizes[i]? with
    | some n => partD n v fun cs => putD sizes r (ch.set i cs) K
    | none => none
def buildD (P : Program) (t : TypeId) (parts : List (Nat × DV)) (K : DV → Option β) : Option β :=
  match P.info? t, P.underlying t with
  | some it, some (.struct fs) => match it.zero, lay P fs.toList 0 with
    | some z, some sizes => match Nat.beq z.cells.toList.length (sumL sizes), acL z.cells.toList with
      | true, some zl => putD sizes parts (splitD sizes zl) fun ch => K (.a (joinD ch))
      | _, _ => none
    | _, _ => none
  | some it, some (.array n e) => match it.zero, hasInfo P e with
    | some z, true => match Nat.beq z.cells.toList.length (sumL (List.replicate n (sz P e))), acL z.cells.toList with
      | true, some zl => putD (List.replicate n (sz P e)) parts (splitD (List.replicate n (sz P e)) zl) fun ch => K (.a (joinD ch))
      | _, _ => none
    | _, _ => none
  | _, _ => none
/-- What an assertion finds. -/
def asT (T : TypeId) (z : AV) (v : AV) (K : AV → Bool → Option β) : Option β :=
  AV.rec (motive := fun _ => Option β) none (fun _ _ => none) (fun _ => none) (fun _ => none) (fun _ => none) (K z false) (fun _ => must (bnot (Nat.beq errT T)) (K z false))
    (fun t x _ => Bool.rec (motive := fun _ => Option β) (K z false) (K x true) (Nat.beq t T)) (fun _ _ => none) none (fun _ => none) (fun _ _ => none) (fun _ => none) (fun _ _ => none) v
def asD (P : Program) (T : TypeId) (ok : Bool) (d : DV) (K : DV → Option β) : Option β :=
  match P.underlying T, zeroOf P T with
  | some (.interface _), _ => none
  | some (.struct _), _ => none
  | some (.array _ _), _ => none
  | some ty, some z => match acst z with
    | some za => onV d fun v => asT T za v fun x t => match ok with
      | true => oneD ty x fun x => K (.c x (.c (.v (.b t)) .n))
      | false => must t (oneD ty x K)
    | none => none
  | _, _ => none
def gIx : List Nat → Nat → Nat → Option Nat
  | [], _, _ => none
  | g :: r, x, i => match Nat.beq g x with | true => some i | false => gIx r x (i + 1)
def peq (p : P4) : P4 → Bool :=
  P4.rec (motive := fun _ => P4 → Bool) (fun q => P4.rec (motive := fun _ => Bool) true (fun _ _ => false) (fun _ _ => false) (fun _ _ => false) (fun _ _ => false) q)
    (fun _ ih q => P4.rec (motive := fun _ => Bool) false (fun r _ => ih r) (fun _ _ => false) (fun _ _ => false) (fun _ _ => false) q)
    (fun _ ih q => P4.rec (motive := fun _ => Bool) false (fun _ _ => false) (fun r _ => ih r) (fun _ _ => false) (fun _ _ => false) q)
    (fun _ ih q => P4.rec (motive := fun _ => Bool) false (fun _ _ => false) (fun _ _ => false) (fun r _ => ih r) (fun _ _ => false) q)
    (fun _ ih q => P4.rec (motive := fun _ => Bool) false (fun _ _ => false) (fun _ _ => false) (fun _ _ => false) (fun r _ => ih r) q) p
def band (a b : Bool) : Bool := Bool.rec (motive := fun _ => Bool) false b a
/-- Are two places the same, over the memory? -/
def ptrs2 (H : AH) (a b : AP) (K : Bool → Option β) : Option β :=
  br (isNilA b) (frcB (isNilA a) K) (br (isNilA a) (K false) (onA a fun p o => onA b fun q u => blkK H p fun _ _ z => blkK H q fun _ _ y => must (Nat.beq z 0) (must (Nat.beq y 0) (frcB (band (peq p q) (Nat.beq o u)) K))))
def ptr2D (P : Program) (H : AH) (op : BinOp) (t : TypeId) (a b : DV) (K : DV → Option β) : Option β :=
  match ptrOk P t, op with
  | true, .eql => onV a fun x => onV b fun y => isP x fun m => isP y fun n => ptrs2 H m n fun c => K (.v (.b c))
  | true, .neq => onV a fun x => onV b fun y => isP x fun m => isP y fun n => ptrs2 H m n fun c => frcB (bnot c) fun c => K (.v (.b c))
  | _, _ => none
/-- Is it a map's length? -/
def isMl (P : Program) (b : Builtin) (ts : List TypeId) : Bool := match b with | .len => Vc.isMp P ts | _ => false
/-- Operations that read at most; st: interface values may be compared by what they point to. -/
def drd (P : Program) (st : Bool) (σ : Nat → DV) (op : Op) (ty : TypeId) (H : AH) (K : DV → Option β) : Option β :=
  match op with
  | .move a => K (dev σ a)
  | .assign a => K (dev σ a)
  | .pick c a b => onV (dev σ c) fun x => isB x fun t => pickK t (dev σ a) (dev σ b) fun d => castD P ty d K
  | .binOp op t a b _ => match P.underlying t with
    | some (.interface _) => onV (dev σ a) fun x => onV (dev σ b) fun y => match op with
      | .eql => ifA st (isConst a || isConst b) x y fun c => K (.v (.b c))
      | .neq => ifA st (isConst a || isConst b) x y fun c => frcB (bnot c) fun c => K (.v (.b c))
      | _ => none
    | _ => match st && (isPt P t && !(isConst a || isConst b)) with
      | true => ptr2D P H op t (dev σ a) (dev σ b) K
      | false => binD P op t (dev σ a) (dev σ b) K
  | .unOp op t a => unD P op t (dev σ a) K
  | .convert s d a => match P.underlying s, P.underlying d with
    | some (.int k), some (.int k') => onV (dev σ a) fun x => isI k x fun n => wrp k' n fun r => K (.v (.i k' r))
    | _, _ => none
  | .nilCheck a => onV (dev σ a) fun x => isP x fun p => onA p fun b o => K (.v (.p (.at b o)))
  | .fieldAddr t a f => onV (dev σ a) fun x => isP x fun p => onA p fun b o => offD P t f fun off _ => K (.v (.p (.at b (nad o off))))
  | .field t a f => offD P t f fun off ty => onL (dev σ a) fun l => aggD P ty l off K
  | .indexAddr t a i => onV (dev σ i) fun y => isJ y fun n => match P.underlying t with
    | some (.array len e) => match hasInfo P e with
      | true => onV (dev σ a) fun x => isP x fun p => onA p fun b o => rng n len (K (.v (.p (.at b (Nat.add o (mulx (sz P e) (itn n)))))))
      | false => none
    | some (.slice e) => match hasInfo P e with
      | true => onV (dev σ a) fun x => isS x fun s => ixA s n (fun x => mulx (sz P e) x) fun b o => K (.v (.p (.at b o)))
      | false => none
    | _ => none
  | .load t a => match a with
    | .global g => match gIx errA g 0, P.underlying t with
      | some i, some (.interface _) => K (.v (.er i))
      | _, _ => none
    | a => onV (dev σ a) fun x => isP x fun p => onA p fun b o => ldD P t H b o K
  | .index t a i => onV (dev σ i) fun y => isJ y fun n => match P.underlying t with
    | some (.array len e) => match hasInfo P e with
      | true => onL (dev σ a) fun l => rng n len (aggD P e l (mulx (sz P e) (itn n)) K)
      | false => none
    | some .string => onV (dev σ a) fun x => isG x fun s => rng n (leni s) (getI (itn n) s fun r => asI r fun r => K (.v (.i .u8 r)))
    | _ => none
  | .extract a i => tupK (dev σ a) i K
  | .slice t a lo hi none => sliceD P t (dev σ a) (lo.map (dev σ)) (hi.map (dev σ)) K
  | .slice t a lo hi (some mx) => slice3D P t (dev σ a) (lo.map (dev σ)) (hi.map (dev σ)) (dev σ mx) K
  | .typeAssert a _ T ok => asD P T ok (dev σ a) K
  | .makeInterface t a => match P.underlying t with
    | some (.interface _) => none
    | some _ => onV (dev σ a) fun x => K (.v (.ifc t x))
    | none => none
  | .makeFunc f a b => match f, a.toList with
    | .func f, [] => ptrsK (b.toList.map (dev σ)) fun ps => K (.v (.fn f ps))
    | .func f, x :: r => match b.toList with
      | [] => ptrsK ((x :: r).map (dev σ)) fun ps => K (.v (.bm f ps))
      | _ => none
    | _, _ => none
  | .build t parts => buildD P t (parts.toList.map fun (i, x) => (i, dev σ x)) K
  | .call ⟨.builtin b, args, ts⟩ => match st && isMl P b ts.toList with
    | true => match args.toList.map (dev σ) with
      | [m] => onV m fun x => isMp x fun a => mesK H a fun l _ => K (.v (.i .i64 (.ofNat (lenM l))))
      | _ => none
    | false => bltD P b ts.toList (args.toList.map (dev σ)) K
  | _ => none
end
end Go.Ab
