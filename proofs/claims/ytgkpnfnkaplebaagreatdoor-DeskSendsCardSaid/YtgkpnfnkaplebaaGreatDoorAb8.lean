/- The abstract machine: operations that act. -/
import Derived.Test.YtgkpnfnkaplebaaGreatDoorAb7
set_option linter.unusedVariables false
set_option linter.unusedSimpArgs false
set_option linter.constructorNameAsVariable false
namespace Go.Ab
open Go.Vc Go.Proofs.YtgkpnfnkaplebaaGreatDoor
/-- A function of the abstract machine. -/
abbrev G (β : Type) := List DV → AH → (DV → AH → Option β) → Option β
noncomputable section
variable {β : Type}
abbrev cellsD (d : DV) (K : List AV → Option β) : Option β := DV.rec (motive := fun _ => Option β) none (fun x => K [x]) (fun l => K l) none (fun _ _ _ _ => none) d
def mkL (z : List AV) (n : Nat) : List AV := Nat.rec (motive := fun _ => List AV) [] (fun _ ih => lapp z ih) n
/-- New memory: what it holds (is it the same each time?), and how it is spoken of. -/
def newD (P : Program) (σ : Nat → DV) (op : Op) (K : Bool → List AV → (P4 → DV) → Option β) : Option β :=
  match op with
  | .alloc e => match zeroOf P e with
    | some z => match acL z.cells.toList with
      | some zl => K true zl fun p => .v (.p (.at p 0))
      | none => none
    | none => none
  | .box e a => cellsD (dev σ a) fun l => K false l fun p => .v (.p (.at p 0))
  | .buildSlice t len parts => match P.underlying t with
    | some (.slice e) => match zok P e, Nat.ble (len * sz P e) 16777216, zeroOf P e with
      | true, true, some z => match acL z.cells.toList with
        | some zl => putD (List.replicate len (sz P e)) (parts.toList.map fun (i, x) => (i, dev σ x)) (List.replicate len zl) fun ch => K false (joinD ch) fun p => .v (.s (.sl p 0 len len))
        | none => none
      | _, _, _ => none
    | _ => none
  | .makeSlice t l c => match P.underlying t with
    | some (.slice e) => match zok P e, zeroOf P e with
      | true, some z => match acL z.cells.toList with
        | some zl => onV (dev σ l) fun x => isJ x fun l => onV (dev σ c) fun y => isJ y fun c => natK l fun l => natK c fun c =>
          must (Nat.ble l c) (must (Nat.ble (Nat.mul (bytesOf P e) c) 281474976710656) (must (Nat.ble c 9223372036854775807) (K false (mkL zl c) fun p => .v (.s (.sl p 0 l c)))))
        | none => none
      | _, _ => none
    | _ => none
  | _ => none
def alN (c : Bool) (H : AH) (l : List AV) (k : P4 → AH → Option β) : Option β := match c with
  | true => alF H l l.length k
  | false => alK H l k
def stD (P : Program) (t : TypeId) (H : AH) (b : P4) (o : Nat) (d : DV) (K : AH → Option β) : Option β :=
  match P.underlying t with
  | some (.struct _) | some (.array _ _) => match hasInfo P t with
    | true => onL d fun l => must (Nat.beq (llen l) (sz P t)) (wrL H b o l K)
    | false => none
  | some _ => match hasInfo P t, sz P t with
    | true, 1 => onV d fun x => wrK H b o x K
    | _, _ => none
  | none => none
abbrev lookD : List (Nat × G β) → Nat → G β
  | [], _ => fun _ _ _ => none
  | (g, x) :: r, f => fun args H K => br (Nat.beq g f) (x args H K) (lookD r f args H K)
def mapP (l : List AP) : List DV := List.rec (motive := fun _ => List DV) [] (fun p _ ih => .v (.p p) :: ih) l
def appA (a b : List DV) : List DV := match a with
  | [] => b
  | d :: r => d :: appA r b
abbrev callD (D : List (Nat × G β)) (d : DV) (args : List DV) (H : AH) (K : DV → AH → Option β) : Option β :=
  onV d fun x => fnK x fun f a l => lookD D f (appA (mapP a) (appA args (mapP l))) H K
def rdS (H : AH) (s : AS) (n : Nat) (K : List AV → Option β) : Option β :=
  AS.rec (motive := fun _ => Option β) (must (Nat.beq n 0) (K [])) (fun p o _ _ => rdR H p o n K) (fun p o _ _ _ => rdR H p o n K) (fun _ _ _ _ _ => must (Nat.beq n 0) (K [])) s
def kilK (H : AH) (p : P4) (K : AH → Option β) : Option β := AH.rec (motive := fun _ => Option β) (fun m nx => T4.setK .dead p .dead m fun m' => K (.mk m' nx)) H
def mkU (z : Nat) (H : AH) (L : List AV) (n : Nat) (K : AS → AH → Option β) : Option β := wrT L .h .e fun t => alB H t (llen L) z fun q H' => K (.su q 0 0 n n) H'
def chkU (m by' : Nat) (X : Option β) : Option β := must (Nat.ble (Nat.mul m by') 140737488355328) (must (Nat.ble 1 by') X)
/-- append of cells: n elements of z cells each -/
def appR (z by' : Nat) (s : AS) (n : Nat) (news : List AV) (H : AH) (K : AS → AH → Option β) : Option β :=
    AS.rec (motive := fun _ => Option β) (br (Nat.beq n 0) (K .nil H) (chkU n by' (mkU z H news n K)))
      (fun p o l c => forceN (Nat.add l n) fun m => br (Nat.ble m c) (wrL H p (Nat.add o (Nat.mul l z)) news fun H' => K (.sl p o m c) H') (chkU m by' (rdR H p o (Nat.mul l z) fun olds => mkU z H (lapp olds news) m K)))
      (fun p o e l b => forceN (Nat.add l n) fun m => br (Nat.ble m b) (wrL H p (Nat.add o (Nat.mul l z)) news fun H' => K (.su p o e m b) H') (blkK H p fun _ _ es => must (Nat.beq es z) (must (Nat.beq o (Nat.mul e z)) (chkU m by' (rdR H p o (Nat.mul l z) fun olds => kilK H p fun H' => mkU z H' (lapp olds news) m K)))))
      (fun p o e l y => blkK H p fun _ _ es => must (Nat.beq es z) (must (Nat.beq o (Nat.mul e z)) (must (Nat.beq y (Nat.mul l z)) (br (Nat.beq n 0) (K (.se p o e l y) H) (chkU n by' (kilK H p fun H' => mkU z H' news n K))))))
      s
/-- append -/
def appD (z by' : Nat) (s x : AS) (H : AH) (K : AS → AH → Option β) : Option β :=
  must (Nat.ble 1 z) (lenA x fun n => rdS H x (Nat.mul n z) fun news => appR z by' s n news H K)
/-- append of n elements of nothing -/
def appM (z by' : Nat) (zl : List AV) (s : AS) (n : Nat) (H : AH) (K : AS → AH → Option β) : Option β :=
  must (Nat.ble 1 z) (must (Nat.ble (Nat.mul n by') 281474976710656) (must (Nat.ble n 9223372036854775807) (appR z by' s n (mkL zl n) H K)))
def nmin (a b : Nat) : Nat := Bool.rec (motive := fun _ => Nat) b a (Nat.ble a b)
/-- Cells are written at a slice's place. -/
def cpS (H : AH) (s : AS) (l : List AV) (K : AH → Option β) : Option β :=
  AS.rec (motive := fun _ => Option β) (K H) (fun p o _ _ => wrL H p o l K) (fun p o _ _ _ => wrL H p o l K) (fun _ _ _ _ _ => none) s
def copyD (z : Nat) (d s : AS) (H : AH) (K : DV → AH → Option β) : Option β :=
  lenA d fun a => lenA s fun b => forceN (nmin b a) fun n => rdS H s (Nat.mul n z) fun news => cpS H d news fun H' => K (.v (.i .i64 (.ofNat n))) H'
def elS (P : Program) (t : TypeId) : Option (Nat × Nat) := match P.underlying t with
  | some (.slice e) => match zok P e with
    | true => some (sz P e, bytesOf P e)
    | false => none
  | _ => none
/-- What an element is at first. -/
def elZ (P : Program) (t : TypeId) : Option (List AV) := match P.underlying t with
  | some (.slice e) => match zok P e, zeroOf P e with
    | true, some z => acL z.cells.toList
    | _, _ => none
  | _ => none
def clrD (zl : List AV) (s : AS) (H : AH) (K : AH → Option β) : Option β :=
  lenA s fun n => br (Nat.beq n 0) (K H) (cpS H s (mkL zl n) K)
/-- The types whose methods are called by interfaces. -/
def lookI (P : Program) (D : List (Nat × G β)) (name : String) : List TypeId → Nat → G β
  | [], _ => fun _ _ _ => none
  | T :: r, t => match mth P T name with
    | some f => fun args H K => br (Nat.beq T t) (lookD D f args H K) (lookI P D name r t args H K)
    | none => lookI P D name r t
/-- Are all of them bytes? -/
def allU8 (l : List Int) : Bool := List.rec (motive := fun _ => Bool) true (fun n _ ih => Int.rec (motive := fun _ => Bool) (fun m => band (Nat.ble m 255) ih) (fun _ => false) n) l
def byteA (l : List Int) : List AV := List.rec (motive := fun _ => List AV) [] (fun n _ ih => .i .u8 n :: ih) l
def lkA (z : DV) (H : AH) (a : AP) (k : Int) (Y : DV → Bool → Option β) : Option β := mesK H a fun l _ => findK k l (Y z false) fun d => Y d true
abbrev reK (d : DV) (K : DV → Option β) : Option β := DV.rec (motive := fun _ => Option β) none (fun v => K (.v v)) (fun l => K (.a l)) none (fun _ _ _ _ => none) d
def mupA (H : AH) (a : AP) (k : Int) (d : DV) (K : AH → Option β) : Option β := onA a fun p _ => mesK H a fun l c => updK k d c l fun l' c' => wrM H p l' c' K
def mdlA (H : AH) (a : AP) (k : Int) (K : AH → Option β) : Option β := AP.rec (motive := fun _ => Option β) (K H) (fun p o => mesK H (.at p o) fun l c => delK k l fun l' => wrM H p l' c K) (fun _ => none) a
/-- Operations that act. -/
def efD (P : Program) (D : List (Nat × G β)) (σ : Nat → DV) (op : Op) (ty : TypeId) (H : AH) (K : DV → AH → Option β) : Option β :=
  match op with
  | .store t a v => onV (dev σ a) fun x => isP x fun p => onA p fun b o => stD P t H b o (dev σ v) fun H' => K .n H'
  | .call ⟨.value f, args, _⟩ => callD D (dev σ f) (args.toList.map (dev σ)) H fun d H' => typD P ty d fun d' => K d' H'
  | .call ⟨.invoke r name, args, _⟩ => onV (dev σ r) fun x => isM x fun t y => lookI P D name invT t (.v y :: args.toList.map (dev σ)) H fun d H' => typD P ty d fun d' => K d' H'
  | .call ⟨.builtin .append, args, ts⟩ => match args.toList.map (dev σ), ts.toList with
    | [s, y], [T, T2] => match elS P T, P.underlying T2 with
      | some (z, bt), some (.slice _) => onV s fun s => isS s fun s => onV y fun y => isS y fun y => appD z bt s y H fun s' H' => K (.v (.s s')) H'
      | some (z, bt), some (.int _) => match elZ P T with
        | some zl => onV s fun s => isS s fun s => onV y fun y => isI .i64 y fun n => natK n fun n => appM z bt zl s n H fun s' H' => K (.v (.s s')) H'
        | none => none
      | _, _ => none
    | _, _ => none
  | .call ⟨.builtin .clear, args, ts⟩ => match args.toList.map (dev σ), ts.toList with
    | [s], [T] => match elZ P T with
      | some zl => onV s fun s => isS s fun s => clrD zl s H fun H' => K .n H'
      | none => none
    | _, _ => none
  | .call ⟨.builtin .copy, args, ts⟩ => match args.toList.map (dev σ), ts.toList with
    | [d, s], [T, _] => match elS P T with
      | some (z, _) => onV d fun d => isS d fun d => onV s fun s => isS s fun s => copyD z d s H K
      | none => none
    | _, _ => none
  | .convert s d a => match P.underlying s, P.underlying d with
    | some .string, some (.slice e) => match P.underlying e with
      | some (.int .u8) => onV (dev σ a) fun x => isG x fun l => mkU (nat_lit 1) H (byteA l) (leni l) fun s' H' => K (.v (.s s')) H'
      | _ => none
    | some (.slice e), some .string => match P.underlying e with
      | some (.int .u8) => onV (dev σ a) fun x => isS x fun s => lenA s fun n => rdS H s n fun cs => intsK .u8 cs fun xs => must (allU8 xs) (K (.v (.g xs)) H)
      | _ => none
    | _, _ => none
  | .makeMap t r => match r with
    | none => alO H (.m [] (nat_lit 0)) fun p H' => K (.v (.mp (.at p 0))) H'
    | some r => onV (dev σ r) fun x => isJ x fun _ => match P.underlying t with
      | some (.map _ _) => alO H (.m [] (nat_lit 0)) fun p H' => K (.v (.mp (.at p 0))) H'
      | _ => none
  | .lookup t a i ok => match P.underlying t with
    | some (.map key elem) => match P.underlying key, zeroOf P elem with
      | some (.int .i64), some z => onV (dev σ a) fun x => isMp x fun m => onV (dev σ i) fun y => isI .i64 y fun n => lkA (dcst z) H m n fun d t => castD P elem d fun d' => match ok with
        | true => K (.c d' (.c (.v (.b t)) .n)) H
        | false => K d' H
      | _, _ => none
    | _ => none
  | .mapUpdate t m k v => match P.underlying t with
    | some (.map key _) => match P.underlying key with
      | some (.int .i64) => onV (dev σ m) fun x => isMp x fun m => onV (dev σ k) fun y => isI .i64 y fun n => reK (dev σ v) fun d => mupA H m n d fun H' => K .n H'
      | _ => none
    | _ => none
  | .call ⟨.builtin .delete, args, ts⟩ => match args.toList.map (dev σ), ts.toList with
    | [m, k], t :: _ => match P.underlying t with
      | some (.map key _) => match P.underlying key with
        | some (.int .i64) => onV m fun x => isMp x fun m => onV k fun y => isI .i64 y fun n => mdlA H m n fun H' => K .n H'
        | _ => none
      | _ => none
    | _, _ => none
  | .range t a => match P.underlying t with
    | some (.map _ _) => onV (dev σ a) fun x => isMp x fun m => mesK H m fun _ c => alO H (.it m c c) fun p H' => K (.v (.p (.at p 0))) H'
    | _ => none
  | .next a str => match str with
    | false => onV (dev σ a) fun x => isP x fun p => onA p fun b o => must (Nat.beq o 0) (itK H b fun q _ _ => mesK H q fun l _ => must (Nat.beq (lenM l) 0) (K (.c (.v (.b false)) .n) H))
    | true => none
  | op => newD P σ op fun c l mk => alN c H l fun p H' => K (mk p) H'
end
/-- The function f of the machine stands for the program's. -/
def Snd {β : Type} (P : Program) (ads : List Addr) (f : FuncId) (g : G β) : Prop :=
  bodied P f = true ∧ ∀ W, Sna W ads → ∀ (φ : Phi) (H : AH) (h : Heap) (args : List DV) (vs : List Value) (k : DV → AH → Option β) (out : β) (Post : Value → Heap → Prop), HR W ads φ H h → RAs ads φ args vs → g args H k = some out →
    (∀ φ' H' h' d v, φ.le φ' → HR W ads φ' H' h' → RD ads φ' d v → k d H' = some out → Post v h') → Runs P f vs.toArray h Post
section
variable {W : Wd} {ads : List Addr} {φ φ' : Phi} {H H' : AH} {h h' : Heap} {β : Type} {out : β} {p : P4} {o n : Nat} {l : Loc} {v : AV} {w : Value} {P : Program} {t : TypeId} {k : DV → AH → Option β} {K : Value → Heap → Prop}
abbrev On2 (W : Wd) (ads : List Addr) (φ : Phi) (k : DV → AH → Option β) (out : β) (K : Value → Heap → Prop) : Prop := ∀ φ' H' h' d v, φ.le φ' → HR W ads φ' H' h' → RD ads φ' d v → k d H' = some out → K v h'
theorem cellsD_spec {d : DV} {kk : List AV → Option β} (hd : RD ads φ d w) (e : cellsD d kk = some out) : ∃ l, RL ads φ l w.cells.toList ∧ kk l = some out ∧ ∀ k' : List AV → Option β, cellsD d k' = k' l := by
  cases d with
  | u => cases e
  | v a =>
    have hv : RV ads φ a w := hd
    refine ⟨[a], ?_, e, fun _ => rfl⟩
    rw [cells_one hv.one]
    exact RL.cons hv RL.nil
  | a l =>
    obtain ⟨ws, rfl, h1⟩ := hd
    exact ⟨l, by simpa [Value.cells] using h1, e, fun _ => rfl⟩
  | n => cases e
  | c x r => cases e
theorem partD_point {d : DV} {kk : List AV → Option β} (hd : RD ads φ d w) (e : partD n d kk = some out) : ∃ l ws, RL ads φ l ws ∧ kk l = some out ∧ (∀ KK : List Value → Prop, KK ws → partv n w KK) ∧ ∀ k' : List AV → Option β, partD n d k' = k' l := by
  cases d with
  | v a =>
    have hv : RV ads φ a w := hd
    unfold partD at e
    dsimp only at e
    split at e
    · refine ⟨[a], [w], RL.cons hv RL.nil, e, fun KK hK => ?_, fun _ => rfl⟩
      have h2 := okc_rv hv hK
      unfold partv
      cases hv <;> exact h2
    · cases e
  | a L =>
    obtain ⟨ws, rfl, h1⟩ := hd
    obtain ⟨h2, e1⟩ := must_spec (show must (Nat.beq (llen L) n) (kk L) = some out from e)
    refine ⟨L, ws, h1, e1, fun KK hK => ?_, fun k' => ?_⟩
    · have h3 := beq_true h2
      rw [llen_eq] at h3
      unfold partv
      exact ⟨by rw [← h3]; simpa using h1.len, by simpa using hK⟩
    · show must (Nat.beq (llen L) n) (k' L) = k' L
      rw [h2]
  | u => cases e
  | n => cases e
  | c x r => cases e
theorem putD_point {sizes : List Nat} {kk : List (List AV) → Option β} : ∀ {ps : List (Nat × DV)} {pw : List (Nat × Value)} {c : List (List AV)} {cw : List (List Value)}, RPt ads φ ps pw → RCh ads φ c cw → putD sizes ps c kk = some out →
    ∃ c' cw', RCh ads φ c' cw' ∧ kk c' = some out ∧ (∀ KK : List (List Value) → Prop, KK cw' → putParts sizes pw cw KK) ∧ ∀ k' : List (List AV) → Option β, putD sizes ps c k' = k' c'
  | [], pw, c, cw, hp, hc, e => by rw [show pw = [] from hp]; exact ⟨c, cw, hc, e, fun KK hK => hK, fun _ => rfl⟩
  | (i, d) :: r, _, c, cw, ⟨w, wr, rfl, h1, h2⟩, hc, e => by
    unfold putD at e
    split at e
    · rename_i n hn
      obtain ⟨l, ws, h3, e, h4, h5⟩ := partD_point h1 e
      obtain ⟨c', cw', h6, e, h7, h8⟩ := putD_point h2 (hc.set (i := i) h3) e
      refine ⟨c', cw', h6, e, fun KK hK => ?_, fun k' => ?_⟩
      · unfold putParts
        simp only [hn]
        exact h4 _ (h7 KK hK)
      · unfold putD
        simp only [hn]
        rw [h5, h8]
    · cases e
theorem RCh.rep {zl : List AV} {zv : List Value} (hz : RL ads φ zl zv) : ∀ n : Nat, RCh ads φ (List.replicate n zl) (List.replicate n zv)
  | 0 => rfl
  | n + 1 => ⟨zv, List.replicate n zv, rfl, hz, RCh.rep hz n⟩
theorem mkL_rel {zl : List AV} {zv : List Value} (hz : RL ads φ zl zv) : ∀ n : Nat, RL ads φ (mkL zl n) (joinL (List.replicate n zv))
  | 0 => rfl
  | n + 1 => by
    show RL ads φ (lapp zl (mkL zl n)) (zv ++ joinL (List.replicate n zv))
    rw [lapp_eq]; exact hz.app (mkL_rel hz n)
theorem zeroOf_v {e : TypeId} {z : Value} {KK : Value → Prop} (hz : zeroOf P e = some z) (hk : KK z) : zerov P e KK := by
  unfold zeroOf at hz
  unfold zerov
  split at hz
  · rename_i i hi; simp only [hi, hz]; exact hk
  · cases hz
/-- What an operation that makes new memory does. -/
theorem newD_spec {x : Md} {σ : Nat → DV} {τ : Env} {op : Op} {ty : TypeId} {kk : Bool → List AV → (P4 → DV) → Option β} (hn : RN ads φ σ τ) (e : newD P σ op kk = some out) :
    ∃ (c : Bool) (l : List AV) (mk : P4 → DV) (cs : List Value) (vb : Nat → Value) (T : TypeId), RL ads φ l cs ∧ kk c l mk = some out ∧ (∀ k' : Bool → List AV → (P4 → DV) → Option β, newD P σ op k' = k' c l mk) ∧ isNew op = true ∧
      (∀ h (K : Value → Heap → Prop), (∀ b h1, b = h.size → h1 = h.push (.cells cs.toArray T) → K (vb b) h1) → ef P x (ev τ) op ty h K) ∧
      (∀ (φ' : Phi) (p : P4) (L : Loc), φ' p = some L → L.δ = 0 → RD ads φ' (mk p) (vb L.b)) := by
  unfold newD at e
  split at e
  · rename_i el
    split at e
    · rename_i z hz
      split at e
      · rename_i zl hzl
        refine ⟨true, zl, _, z.cells.toList, fun b => .pointer (some ⟨b, 0, none⟩), el, acL_rel hzl, e, fun k' => by simp only [newD, hz, hzl], rfl, fun h K hK => ?_, fun φ' p L hp h0 => RD.ofV (RV.p (RP.at hp (by omega)))⟩
        exact zeroOf_v hz fun b h1 hb hh => hK b h1 hb hh
      · cases e
    · cases e
  · rename_i el a
    obtain ⟨l, h1, e, h2⟩ := cellsD_spec (dev_rel hn a) e
    refine ⟨false, l, _, _, fun b => .pointer (some ⟨b, 0, none⟩), el, h1, e, fun k' => h2 (fun l => k' false l fun p => .v (.p (.at p 0))), rfl, fun h K hK => ?_, fun φ' p L hp h0 => RD.ofV (RV.p (RP.at hp (by omega)))⟩
    exact fun b h1 hb hh => hK b h1 hb hh
  · rename_i t len parts
    split at e
    · rename_i el hu
      split at e
      · rename_i z hzok hle hz
        split at e
        · rename_i zl hzl
          obtain ⟨c', cw', h1, e, h2, h3⟩ := putD_point (map_parts hn parts.toList) (RCh.rep (acL_rel hzl) len) e
          refine ⟨false, joinD c', _, joinL cw', fun b => .slice (some ⟨b, 0, none⟩) len len, el, h1.join, e, fun k' => by simp only [newD, hu, hzok, hle, hz, hzl]; exact h3 _, rfl, fun h K hK => ?_, fun φ' p L hp h0 => RD.ofV (RV.s (RS.sl hp (by omega)))⟩
          show bslv P t len _ h K
          unfold bslv
          simp only [hu, hzok, hle]
          exact zeroOf_v hz (h2 _ fun b h1 hb hh => hK b h1 hb hh)
        · cases e
      · cases e
    · cases e
  · rename_i t lo co
    split at e
    · rename_i el hu
      split at e
      · rename_i z hzok hz
        split at e
        · rename_i zl hzl
          obtain ⟨x, hx0, hx, e⟩ := onV_spec (dev_rel hn lo) e
          obtain ⟨kd, l0, rfl, hl, e⟩ := isJ_spec hx e
          obtain ⟨y, hy0, hy, e⟩ := onV_spec (dev_rel hn co) e
          obtain ⟨kd', c0, rfl, hc, e⟩ := isJ_spec hy e
          obtain ⟨l, rfl, e1⟩ := natK_spec e
          obtain ⟨c, rfl, e2⟩ := natK_spec e1
          obtain ⟨h1, e3⟩ := must_spec e2
          obtain ⟨h2, e3⟩ := must_spec e3
          obtain ⟨h3, e3⟩ := must_spec e3
          refine ⟨false, mkL zl c, _, _, fun b => .slice (some ⟨b, 0, none⟩) l c, el, mkL_rel (acL_rel hzl) c, e3, fun k' => ?_, rfl, fun h K hK => ?_, fun φ' p L hp h0 => RD.ofV (RV.s (RS.sl hp (by omega)))⟩
          · simp only [newD, hu, hzok, hz, hzl, hx0, hy0]
            show must (Nat.ble l c) (must (Nat.ble (Nat.mul (bytesOf P el) c) 281474976710656) (must (Nat.ble c 9223372036854775807) _)) = _
            rw [h1, h2, h3]
          · show mslv P t (ev τ lo) (ev τ co) h K
            unfold mslv
            have h1 := Nat.le_of_ble_eq_true h1
            have h2 := Nat.le_of_ble_eq_true h2
            have h3 := Nat.le_of_ble_eq_true h3
            have h2' : ((bytesOf P el : Nat) : Int) * (c : Int) ≤ 281474976710656 := by
              have : bytesOf P el * c ≤ 281474976710656 := h2
              show ((bytesOf P el : Nat) : Int) * ((c : Nat) : Int) ≤ ((281474976710656 : Nat) : Int)
              rw [← Int.natCast_mul]
              exact Int.ofNat_le.2 this
            simp only [hu, hzok, hl, hc]
            exact ⟨⟨by omega, by omega, h2', by omega⟩, zeroOf_v hz fun b h1 hb hh => hK b h1 hb (by simpa using hh)⟩
        · cases e
      · cases e
    · cases e
  · cases e
end
end Go.Ab
