/- The abstract machine: code, with its loops; whole functions. -/
import Derived.Test.YtgkpnfnkaplebaaGreatDoorAb9
set_option linter.unusedVariables false
set_option linter.unusedSimpArgs false
set_option linter.constructorNameAsVariable false
namespace Go.Ab
open Go.Vc Go.Proofs.YtgkpnfnkaplebaaGreatDoor
noncomputable section
variable {β : Type}
def updD (σ : Nat → DV) (d : Nat) (v : DV) : Nat → DV := fun n => bif Nat.beq n d then v else σ n
abbrev putO (N : Nat) (σ : Nat → DV) (dst : Option Nat) (v : DV) (K : (Nat → DV) → Option β) : Option β :=
  match dst with
  | none => K σ
  | some d => match Nat.blt d N with
    | true => K (updD σ d v)
    | false => none
/-- One end of several ways. -/
def jn (K : DV → AH → Option β) (F : (DV → AH → Option β) → Option β) : Option β := F K
abbrev grd (d : DV) (want : Bool) (run skip : Option β) : Option β :=
  DV.rec (motive := fun _ => Option β) none (fun x => isB x fun b => match want with | true => br b run skip | false => br b skip run) (fun _ => none) skip (fun _ _ _ _ => none) d
def runO (P : Program) (D : List (Nat × G β)) (σ : Nat → DV) (o : Oper) (H : AH) (K : DV → AH → Option β) : Option β :=
  match isRd P o.op with
  | true => drd P true σ o.op o.type H fun d => K d H
  | false => efD P D σ o.op o.type H K
def opO (P : Program) (D : List (Nat × G β)) (N : Nat) (ops : List Oper) (o : Oper) (σ : Nat → DV) (H : AH) (K : (Nat → DV) → AH → Option β) : Option β :=
  match o.guard with
  | none => runO P D σ o H fun d H' => putO N σ o.dst d fun σ' => K σ' H'
  | some (j, want) => match ops[j]? with
    | some oj => match oj.dst with
      | some g => jn (fun d H' => putO N σ o.dst d fun σ' => K σ' H') fun J => grd (σ g) want (runO P D σ o H J) (J .n H)
      | none => putO N σ o.dst .n fun σ' => K σ' H
    | none => putO N σ o.dst .n fun σ' => K σ' H
def opsO (P : Program) (D : List (Nat × G β)) (N : Nat) (ops : List Oper) : List Oper → (Nat → DV) → AH → ((Nat → DV) → AH → Option β) → Option β
  | [], σ, H, K => K σ H
  | o :: r, σ, H, K => opO P D N ops o σ H fun σ H => opsO P D N ops r σ H K
def DFam (β : Type) : List (Nat × Sh) → Type
  | [] => AH → Option β
  | _ :: r => DV → DFam β r
abbrev absF : (ss : List (Nat × Sh)) → ((Nat → DV) → AH → Option β) → (Nat → DV) → DFam β ss
  | [], B, σ => fun H => B σ H
  | (n, _) :: r, B, σ => fun d => absF r B (updD σ n d)
abbrev appF : (ss : List (Nat × Sh)) → DFam β ss → (Nat → DV) → AH → Option β
  | [], F, _, H => F H
  | (n, _) :: r, F, σ, H => appF r (F (σ n)) σ H
def failF : (ss : List (Nat × Sh)) → DFam β ss
  | [] => fun _ => none
  | _ :: r => fun _ => failF r
def jF (ss : List (Nat × Sh)) (F : DFam β ss) (K : DFam β ss → Option β) : Option β := K F
/-- (Nothing is named in it: so the kernel unfolds it last.) -/
def lpR {α : Type} (z : α) (step : α → α) (n : Nat) : α := Nat.rec (motive := fun _ => α) z (fun _ ih => step ih) n
abbrev lpF (ss : List (Nat × Sh)) (step : DFam β ss → DFam β ss) (n : Nat) : DFam β ss := lpR (failF ss) step n
abbrev castS (s : Sh) (d : DV) (K : DV → Option β) : Option β :=
  match s with
  | .int k => onV d fun x => isI k x fun n => K (.v (.i k n))
  | .bool => onV d fun x => isB x fun t => K (.v (.b t))
  | .ptr => onV d fun x => isP x fun p => K (.v (.p p))
  | .slice => onV d fun x => isS x fun s => K (.v (.s s))
  | .str => onV d fun x => isG x fun s => K (.v (.g s))
  | .any => K d
abbrev castA : List (Nat × Sh) → (Nat → DV) → ((Nat → DV) → Option β) → Option β
  | [], σ, K => K σ
  | (n, s) :: r, σ, K => castS s (σ n) fun d => castA r (updD σ n d) K
def havD (ds : List Nat) (σ : Nat → DV) : Nat → DV := fun n => match memB n ds with | true => .u | false => σ n
structure AnnD where
  loop : Nat → List (Nat × Sh)
  cut : Nat → Option (List (Nat × Sh))
def cutD (A : AnnD) (b : Code) : Option (List (Nat × Sh)) := match firstRegion b with | some id => A.cut id | none => none
/-- How regions whose order is open are treated. -/
abbrev Drw (β : Type) := Nat → List Oper → (Nat → DV) → AH → ((Nat → DV) → AH → Option β) → Option β
def dn (P : Program) (D : List (Nat × G β)) (N : Nat) (X : Drw β) (A : AnnD) : Code → Nat → (Ex → (Nat → DV) → AH → Option β) → (Nat → DV) → AH → Option β
  | .skip, _, Q, σ, H => Q .normal σ H
  | .region id ops d, _, Q, σ, H => match d with
    | false => opsO P D N ops.toList ops.toList σ H (Q .normal)
    | true => X id ops.toList σ H (Q .normal)
  | .seq a b, cur, Q, σ, H => match cutD A b with
    | none => dn P D N X A a cur (fun e σ H => match e with | .normal => dn P D N X A b cur Q σ H | e => Q e σ H) σ H
    | some ss => match slotsIn (dsts a) ss with
      | true => jF ss (absF ss (fun σ H => castA ss σ fun σ => dn P D N X A b cur Q σ H) (havD (dsts a) σ)) fun J => dn P D N X A a cur (fun e σ H => match e with | .normal => appF ss J σ H | e => Q e σ H) σ H
      | false => none
  | .cond c a b, cur, Q, σ, H => onV (dev σ c) fun x => isB x fun t => br t (dn P D N X A a cur Q σ H) (dn P D N X A b cur Q σ H)
  | .block id b, _, Q, σ, H => dn P D N X A b id (fun e σ H => match e with | .exit k => (match Nat.beq k id with | true => Q .normal σ H | false => Q (.exit k) σ H) | e => Q e σ H) σ H
  | .exit id, _, Q, σ, H => Q (.exit id) σ H
  | .ret, _, Q, σ, H => Q .ret σ H
  | .loop b, cur, Q, σ, H => match slotsIn (dsts b) (A.loop cur) with
    | true => appF (A.loop cur) (lpF (A.loop cur) (fun self => absF (A.loop cur) (fun σ H => castA (A.loop cur) σ fun σ => dn P D N X A b cur (fun e σ H => match e with | .normal => appF (A.loop cur) self σ H | e => Q e σ H) σ H) (havD (dsts b) σ)) (nat_lit 100000)) σ H
    | false => none
  | _, _, _, _, _ => none
def resO (P : Program) (rs : List ResultVar) (σ : Nat → DV) (H : AH) (K : List DV → Option β) : Option β :=
  match rs with
  | [] => K []
  | .tmp n :: r => resO P r σ H fun ds => K (σ n :: ds)
  | .cell a T :: r => onV (σ a) fun x => isP x fun p => onA p fun b o => ldD P T H b o fun d => resO P r σ H fun ds => K (d :: ds)
abbrev eK (d : DV) (K : DV → Option β) : Option β := DV.rec (motive := fun _ => Option β) none (fun v => K (.v v)) (fun l => K (.a l)) none (fun _ _ _ _ => none) d
abbrev consK (ds : List DV) (K : DV → Option β) : Option β := match ds with
  | [] => K .n
  | d :: r => eK d fun d => consK r fun t => K (.c d t)
abbrev pkD (ds : List DV) (K : DV → Option β) : Option β := match ds with
  | [d] => K d
  | ds => consK ds K
abbrev lc (l : List DV) (f : DV → List DV → Option β) : Option β := List.rec (motive := fun _ => Option β) none (fun d r _ => f d r) l
abbrev ln (l : List DV) (K : Option β) : Option β := List.rec (motive := fun _ => Option β) K (fun _ _ _ => none) l
abbrev argK (shs : List Sh) (l : List DV) (K : List DV → Option β) : Option β := match shs with
  | [] => ln l (K [])
  | s :: sr => lc l fun d r => castS s d fun d => argK sr r fun ds => K (d :: ds)
def iniD (ds : List DV) : Nat → DV := fun n => match ds[n]? with | some d => d | none => .n
def dfn (P : Program) (D : List (Nat × G β)) (X : Drw β) (A : AnnD) (shs : List Sh) (fn : Func) (c : Code) : G β := fun args H K =>
  argK shs args fun ds => dn P D fn.ntmps X A c 0 (fun e σ H => match e with
    | .exit _ => none
    | _ => resO P fn.results.toList σ H fun ds => pkD ds fun d => K d H) (iniD ds) H
end
section
variable {W : Wd} {ads : List Addr} {φ φ' : Phi} {H H' : AH} {h h' : Heap} {β : Type} {out : β} {P : Program} {D : List (Nat × G β)} {N : Nat} {σ σ' : Nat → DV} {τ τ' : Env}
theorem RN.upd {d : DV} {v : Value} {n : Nat} (hn : RN ads φ σ τ) (hd : RD ads φ d v) : RN ads φ (updD σ n d) (upd τ n v) := fun m => by
  unfold updD Vc.upd
  cases Nat.beq m n
  · exact hn m
  · exact hd
theorem RN.upd1 {d : DV} {n : Nat} (hn : RN ads φ σ τ) (hd : RD ads φ d (τ n)) : RN ads φ (updD σ n d) τ := fun m => by
  unfold updD
  cases hb : Nat.beq m n
  · exact hn m
  · rw [beq_true hb]; exact hd
theorem updD_ne {d : DV} {n m : Nat} (h : m ≠ n) : updD σ n d m = σ m := by
  unfold updD
  have : Nat.beq m n = false := Bool.eq_false_iff.2 fun k => h (Nat.eq_of_beq_eq_true k)
  simp [this]
def AgD (ds : List Nat) (σ σ' : Nat → DV) : Prop := ∀ n, memB n ds = false → σ' n = σ n
theorem AgD.refl (ds : List Nat) (σ : Nat → DV) : AgD ds σ σ := fun _ _ => rfl
theorem AgD.left {a b : List Nat} (h : AgD a σ σ') : AgD (a ++ b) σ σ' := fun n hn => h n (memB_append.1 hn).1
theorem AgD.right {a b : List Nat} (h : AgD b σ σ') : AgD (a ++ b) σ σ' := fun n hn => h n (memB_append.1 hn).2
theorem AgD.trans {ds : List Nat} {a b c : Nat → DV} (h : AgD ds a b) (k : AgD ds b c) : AgD ds a c := fun n hn => (k n hn).trans (h n hn)
/-- What is carried on from a piece of code. -/
abbrev OnE (W : Wd) (ads : List Addr) (φ : Phi) (Q' : (Nat → DV) → AH → Option β) (out : β) (R : (Nat → DV) → Prop) (Q : Env → Heap → Prop) : Prop :=
  ∀ φ' σ' τ' H' h', φ.le φ' → HR W ads φ' H' h' → RN ads φ' σ' τ' → R σ' → Q' σ' H' = some out → Q τ' h'
theorem putO_sound {d : DV} {v : Value} {dst : Option Nat} {kk : (Nat → DV) → Option β} {KK : Env → Prop} (hn : RN ads φ σ τ) (hd : RD ads φ d v) (e : putO N σ dst d kk = some out) (hk : ∀ σ' τ', RN ads φ σ' τ' → (∀ n, dst ≠ some n → σ' n = σ n) → kk σ' = some out → KK τ') : put N τ dst v KK := by
  unfold putO at e
  unfold put
  split at e
  · exact hk _ _ hn (fun _ _ => rfl) e
  · rename_i d0
    split at e
    · rename_i hb
      simp only [hb]
      exact hk _ _ (hn.upd hd) (fun n hne => updD_ne fun hx => hne (by rw [hx])) e
    · cases e
theorem runO_sound {o : Oper} {k : DV → AH → Option β} {K : Value → Heap → Prop} (s : Sna W ads) (hok : ptrOk P errT = true) (hD : SndA P ads D) (hr : HR W ads φ H h) (hn : RN ads φ σ τ) (e : runO P D σ o H k = some out) (hk : On2 W ads φ k out K) :
    match isRd P o.op with
      | true => rdh P ⟨false, false⟩ (ev τ) o.op h fun v => K v h
      | false => ef P ⟨false, false⟩ (ev τ) o.op o.type h K := by
  unfold runO at e
  split at e
  · rename_i hrd
    exact drd_rdh hr s hok hn e fun d v hd e => hk φ H h d v (Phi.le.refl _) hr hd e
  · exact efD_sound s hD hr hn e hk
theorem RN.same {v : Value} {n : Nat} (hn : RN ads φ σ τ) (h : τ n = v) : RN ads φ σ (Vc.upd τ n v) := fun m => by
  rw [upd_same h m]; exact hn m
theorem opO_sound {ops : List Oper} {o : Oper} {kk : (Nat → DV) → AH → Option β} {KK : Env → Heap → Prop} (s : Sna W ads) (hok : ptrOk P errT = true) (hD : SndA P ads D) (hr : HR W ads φ H h) (hn : RN ads φ σ τ) (e : opO P D N ops o σ H kk = some out)
    (hk : OnE W ads φ kk out (fun σ' => ∀ n, o.dst ≠ some n → σ' n = σ n) KK) : opv P ⟨false, false⟩ N ops o τ h KK := by
  have run : ∀ {τ1 : Env}, RN ads φ σ τ1 → (runO P D σ o H fun d H' => putO N σ o.dst d fun σ' => kk σ' H') = some out → match isRd P o.op with
      | true => rdh P ⟨false, false⟩ (ev τ1) o.op h fun v => put N τ1 o.dst v fun t' => KK t' h
      | false => ef P ⟨false, false⟩ (ev τ1) o.op o.type h fun v h' => put N τ1 o.dst v fun t' => KK t' h' := fun {τ1} hn1 e =>
    runO_sound (K := fun v h' => put N τ1 o.dst v fun t' => KK t' h') s hok hD hr hn1 e fun φ' H' h' d v hl hr' hd e =>
      putO_sound (hn1.mono hl) hd e fun σ' τ' hn' ha e => hk φ' σ' τ' H' h' hl hr' hn' ha e
  have skip : ∀ {τ1 : Env}, RN ads φ σ τ1 → putO N σ o.dst .n (fun σ' => kk σ' H) = some out → put N τ1 o.dst undef fun t' => KK t' h := fun {τ1} hn1 e =>
    putO_sound hn1 (show RD ads φ .n undef from rfl) e fun σ' τ' hn' ha e => hk φ σ' τ' H h (Phi.le.refl _) hr hn' ha e
  unfold opO at e
  unfold opv guarded
  split at e
  · rename_i hg
    simp only [hg]
    exact run hn e
  · rename_i j want hg
    simp only [hg]
    split at e
    · rename_i oj hj
      simp only [hj]
      split at e
      · rename_i g hd
        simp only [hd]
        have hgn := hn g
        have e : grd (σ g) want (runO P D σ o H fun d H' => putO N σ o.dst d fun σ' => kk σ' H') (putO N σ o.dst .n fun σ' => kk σ' H) = some out := e
        generalize hx : σ g = x at e hgn
        cases x with
        | u => cases e
        | v a =>
          have hv : RV ads φ a (τ g) := hgn
          obtain ⟨b, rfl, hb, e⟩ := isB_spec hv (show isB a _ = some out from e)
          rw [hb]
          dsimp only
          cases want with
          | true =>
            dsimp only at e ⊢
            cases b with
            | true => exact run (hn.same hb) e
            | false => exact skip (hn.same hb) e
          | false =>
            dsimp only at e ⊢
            cases b with
            | true => exact skip (hn.same hb) e
            | false => exact run (hn.same hb) e
        | a l => cases e
        | n =>
          have hv : τ g = .tuple #[] := hgn
          rw [hv]
          exact skip hn e
        | c x r => cases e
      · rename_i hd
        simp only [hd]
        exact skip hn e
    · rename_i hj
      simp only [hj]
      exact skip hn e
theorem opsO_sound {ops : List Oper} (s : Sna W ads) (hok : ptrOk P errT = true) (hD : SndA P ads D) : ∀ {l : List Oper} {φ : Phi} {σ : Nat → DV} {τ : Env} {H : AH} {h : Heap} {kk : (Nat → DV) → AH → Option β} {KK : Env → Heap → Prop}, HR W ads φ H h → RN ads φ σ τ → opsO P D N ops l σ H kk = some out →
    OnE W ads φ kk out (AgD (dstsOps l) σ) KK → opsv P ⟨false, false⟩ N ops l τ h KK
  | [], φ, σ, τ, H, h, kk, KK, hr, hn, e, hk => hk φ σ τ H h (Phi.le.refl _) hr hn (AgD.refl _ _) e
  | o :: r, φ, σ, τ, H, h, kk, KK, hr, hn, e, hk =>
    opO_sound s hok hD hr hn e fun φ' σ' τ' H' h' hl hr' hn' ha e => opsO_sound s hok hD hr' hn' e fun φ2 σ2 τ2 H2 h2 hl2 hr2 hn2 ha2 e =>
      hk φ2 σ2 τ2 H2 h2 (hl.trans hl2) hr2 hn2 (fun n hm => by
        obtain ⟨m1, m2⟩ := memB_dsts hm
        exact (ha2 n m2).trans (ha n m1)) e
/-! ### Families -/
def anyS (ss : List (Nat × Sh)) : List (Nat × Sh) := match ss with
  | [] => []
  | (n, _) :: r => (n, .any) :: anyS r
def famOf {A : Type} : (ss : List (Nat × Sh)) → (List Value → Heap → A) → Fam A (anyS ss)
  | [], F => fun h => F [] h
  | (n, _) :: r, F => fun x => famOf r fun vs => F (x :: vs)
def valsL (ss : List (Nat × Sh)) (τ : Env) : List Value := match ss with
  | [] => []
  | (n, _) :: r => τ n :: valsL r τ
def dvsL (ss : List (Nat × Sh)) (σ : Nat → DV) : List DV := match ss with
  | [] => []
  | (n, _) :: r => σ n :: dvsL r σ
def updL : List (Nat × Sh) → List Value → Env → Env
  | (n, _) :: r, v :: vs, t => updL r vs (upd t n v)
  | _, _, t => t
def updDL : List (Nat × Sh) → List DV → (Nat → DV) → Nat → DV
  | (n, _) :: r, v :: vs, t => updDL r vs (updD t n v)
  | _, _, t => t
theorem famEnt_of {t : Env} {h : Heap} : ∀ {ss : List (Nat × Sh)} {F : List Value → Heap → Prop}, F (valsL ss t) h → famEnt (anyS ss) (famOf ss F) t h
  | [], F, hF => hF
  | (n, _) :: r, F, hF => famEnt_of (ss := r) hF
theorem famBack_of {t : Env} {h : Heap} {n0 : Nat} : ∀ {ss : List (Nat × Sh)} {F : List Value → Heap → Prop} {M : List Value → Heap → Nat}, F (valsL ss t) h → M (valsL ss t) h < n0 → famBack (anyS ss) (famOf ss F) (famOf ss M) t h n0
  | [], F, M, hF, hM => ⟨hF, hM⟩
  | (n, _) :: r, F, M, hF, hM => famBack_of (ss := r) hF hM
theorem famAll_of {B : Env → Heap → Nat → Prop} : ∀ {ss : List (Nat × Sh)} {F : List Value → Heap → Prop} {M : List Value → Heap → Nat} {E : Env}, (∀ vs h, F vs h → B (updL ss vs E) h (M vs h) ∨ vs.length ≠ ss.length) → famAll (anyS ss) (famOf ss F) (famOf ss M) E B
  | [], F, M, E, hB => fun h hF => (hB [] h hF).resolve_right (by simp)
  | (n, _) :: r, F, M, E, hB => fun x => famAll_of (ss := r) fun vs h hF => (hB (x :: vs) h hF).imp id (fun k hx => k (by simp [hx]))
theorem slotsIn_any {ds : List Nat} : ∀ {ss : List (Nat × Sh)}, slotsIn ds ss = true → slotsIn ds (anyS ss) = true
  | [], _ => rfl
  | (n, s) :: r, h => by
    obtain ⟨h1, h2⟩ := slotsIn_cons h
    show slotsIn ds ((n, .any) :: anyS r) = true
    unfold slotsIn
    rw [h1]
    exact slotsIn_any h2
def appL : (ss : List (Nat × Sh)) → DFam β ss → List DV → AH → Option β
  | [], F, [], H => F H
  | _ :: r, F, d :: ds, H => appL r (F d) ds H
  | _, _, _, _ => none
theorem appF_L {σ : Nat → DV} {H : AH} : ∀ {ss : List (Nat × Sh)} {F : DFam β ss}, appF ss F σ H = appL ss F (dvsL ss σ) H
  | [], F => rfl
  | (n, _) :: r, F => appF_L (ss := r)
theorem appL_abs {B : (Nat → DV) → AH → Option β} {H : AH} : ∀ {ss : List (Nat × Sh)} {ds : List DV} {σ : Nat → DV}, appL ss (absF ss B σ) ds H = some out → ds.length = ss.length ∧ B (updDL ss ds σ) H = some out
  | [], [], σ, e => ⟨rfl, e⟩
  | [], _ :: _, σ, e => by cases e
  | (n, _) :: r, [], σ, e => by cases e
  | (n, _) :: r, d :: ds, σ, e => by
    obtain ⟨h1, h2⟩ := appL_abs (ss := r) (ds := ds) (show appL r (absF r B (updD σ n d)) ds H = some out from e)
    exact ⟨by simp [h1], h2⟩
theorem appL_fail {H : AH} : ∀ {ss : List (Nat × Sh)} {ds : List DV}, appL (β := β) ss (failF ss) ds H = none
  | [], [] => rfl
  | [], _ :: _ => rfl
  | _ :: _, [] => rfl
  | _ :: r, d :: ds => appL_fail (ss := r) (ds := ds)
theorem RN.updL : ∀ {ss : List (Nat × Sh)} {ds : List DV} {vs : List Value} {σ : Nat → DV} {τ : Env}, RN ads φ σ τ → RAs ads φ ds vs → RN ads φ (updDL ss ds σ) (updL ss vs τ)
  | [], _, _, σ, τ, hn, _ => hn
  | (n, _) :: r, [], vs, σ, τ, hn, h => by rw [show vs = [] from h]; exact hn
  | (n, _) :: r, d :: ds, _, σ, τ, hn, ⟨w, wr, rfl, h1, h2⟩ => RN.updL (ss := r) (hn.upd h1) h2
theorem RN.updS : ∀ {ss : List (Nat × Sh)} {ds : List DV} {σ : Nat → DV} {τ : Env}, RN ads φ σ τ → RAs ads φ ds (valsL ss τ) → RN ads φ (updDL ss ds σ) τ
  | [], _, σ, τ, hn, _ => hn
  | (n, _) :: r, [], σ, τ, hn, h => hn
  | (n, _) :: r, d :: ds, σ, τ, hn, ⟨w, wr, he, h1, h2⟩ => by
    cases he
    exact RN.updS (ss := r) (hn.upd1 h1) h2
theorem RN.vals (hn : RN ads φ σ τ) : ∀ ss : List (Nat × Sh), RAs ads φ (dvsL ss σ) (valsL ss τ)
  | [] => rfl
  | (n, _) :: r => ⟨_, _, rfl, hn n, RN.vals hn r⟩
theorem RN.hav {ds : List Nat} {u : Env} (hn : RN ads φ σ τ) : RN ads φ (havD ds σ) (hav ds u τ) := fun n => by
  unfold havD Vc.hav
  cases memB n ds
  · exact hn n
  · trivial
theorem RN.havS {ds : List Nat} (ha : AgD ds σ σ') (hn : RN ads φ σ' τ) : RN ads φ (havD ds σ) τ := fun n => by
  unfold havD
  cases hm : memB n ds
  · dsimp only; rw [← ha n hm]; exact hn n
  · trivial
theorem AgD.hav {ds : List Nat} : AgD ds σ (havD ds σ) := fun n hn => by unfold havD; rw [hn]
theorem AgD.updL {ds : List Nat} : ∀ {ss : List (Nat × Sh)} {xs : List DV} {σ σ' : Nat → DV}, slotsIn ds ss = true → AgD ds σ σ' → AgD ds σ (updDL ss xs σ')
  | [], _, σ, σ', _, h => h
  | (n, _) :: r, [], σ, σ', _, h => h
  | (n, _) :: r, d :: xs, σ, σ', hs, h => by
    obtain ⟨h1, h2⟩ := slotsIn_cons hs
    refine AgD.updL (ss := r) h2 fun m hm => ?_
    rw [updD_ne (fun hx => by rw [hx, h1] at hm; cases hm)]
    exact h m hm
theorem castS_spec {sh : Sh} {d : DV} {w : Value} {kk : DV → Option β} (hd : RD ads φ d w) (e : castS sh d kk = some out) : ∃ d', RD ads φ d' w ∧ kk d' = some out := by
  unfold castS at e
  split at e
  · obtain ⟨x, rfl, hx, e⟩ := onV_spec hd e
    obtain ⟨n, rfl, rfl, e⟩ := isI_spec hx e
    exact ⟨_, RD.ofV hx, e⟩
  · obtain ⟨x, rfl, hx, e⟩ := onV_spec hd e
    obtain ⟨n, rfl, rfl, e⟩ := isB_spec hx e
    exact ⟨_, RD.ofV hx, e⟩
  · obtain ⟨x, rfl, hx, e⟩ := onV_spec hd e
    obtain ⟨n, a, rfl, rfl, _, e⟩ := isP_spec hx e
    exact ⟨_, RD.ofV hx, e⟩
  · obtain ⟨x, rfl, hx, e⟩ := onV_spec hd e
    obtain ⟨n, a, l, c, rfl, rfl, _, e⟩ := isS_spec hx e
    exact ⟨_, RD.ofV hx, e⟩
  · obtain ⟨x, rfl, hx, e⟩ := onV_spec hd e
    obtain ⟨n, rfl, rfl, _, e⟩ := isG_spec hx e
    exact ⟨_, RD.ofV hx, e⟩
  · exact ⟨d, hd, e⟩
theorem castA_spec {ds : List Nat} {kk : (Nat → DV) → Option β} : ∀ {ss : List (Nat × Sh)} {σ : Nat → DV}, slotsIn ds ss = true → RN ads φ σ τ → castA ss σ kk = some out → ∃ σ', RN ads φ σ' τ ∧ AgD ds σ σ' ∧ kk σ' = some out
  | [], σ, _, hn, e => ⟨σ, hn, AgD.refl _ _, e⟩
  | (n, sh) :: r, σ, hs, hn, e => by
    obtain ⟨h1, h2⟩ := slotsIn_cons hs
    obtain ⟨d, hd, e⟩ := castS_spec (hn n) (show castS sh (σ n) (fun d => castA r (updD σ n d) kk) = some out from e)
    obtain ⟨σ', h3, h4, e⟩ := castA_spec h2 (hn.upd1 hd) e
    refine ⟨σ', h3, fun m hm => ?_, e⟩
    rw [h4 m hm, updD_ne (fun hx => by rw [hx, h1] at hm; cases hm)]
/-! ### Code -/
/-- The weakest condition of a region whose order is open. -/
def drawW (P : Program) (N : Nat) (id : Nat) (ops : List Oper) (t : Env) (h : Heap) (K : Env → Heap → Prop) : Prop :=
  ∀ (a : Act) (w : World) (Q : Exit → Act → World → Prop), Rel N t a → w.heap = h → (∀ c a w, ¬ Q (.panic c) a w) →
    (∀ t' a' w', Rel N t' a' → Same w w' → Agr (dstsOps ops) t t' → K t' w'.heap → Q .normal a' w') → (Code.region id ops.toArray true).wp P Q a w
theorem drawW_ok : DrawnOk P N (drawW P N) := fun id ops t h K a w Q hd hr hw hp hn => hd a w Q hr hw hp hn
def annW (P : Program) (N : Nat) (A : AnnD) : Ann := ⟨fun _ => ⟨false, false⟩, fun n => anyS (A.loop n), fun _ => none, fun _ => [], drawW P N⟩
theorem cutOf_W {A : AnnD} {b : Code} : cutOf (annW P N A) b = none := by
  unfold cutOf
  split <;> rfl
/-- How regions with an open order are treated, is sound. -/
def DrwOk (P : Program) (N : Nat) (ads : List Addr) (X : Drw β) : Prop :=
  ∀ (W : Wd) (id : Nat) (ops : List Oper) (φ : Phi) (σ : Nat → DV) (τ : Env) (H : AH) (h : Heap) (kk : (Nat → DV) → AH → Option β) (KK : Env → Heap → Prop) (out : β), Sna W ads → HR W ads φ H h → RN ads φ σ τ → X id ops σ H kk = some out →
    OnE W ads φ kk out (AgD (dstsOps ops) σ) KK → drawW P N id ops τ h KK
theorem dn_sound {X : Drw β} {A : AnnD} (s : Sna W ads) (hok : ptrOk P errT = true) (hD : SndA P ads D) (hX : DrwOk P N ads X) : ∀ (c : Code) (cur : Nat) (Q' : Ex → (Nat → DV) → AH → Option β) (Q : Ex → Env → Heap → Prop) (φ : Phi) (σ : Nat → DV) (τ : Env) (H : AH) (h : Heap),
    HR W ads φ H h → RN ads φ σ τ → dn P D N X A c cur Q' σ H = some out → (∀ e, OnE W ads φ (Q' e) out (AgD (dsts c) σ) (Q e)) → vc P N (annW P N A) c cur Q τ h := by
  intro c
  induction c with
  | skip => intro cur Q' Q φ σ τ H h hr hn e hk; exact hk .normal φ σ τ H h (Phi.le.refl _) hr hn (AgD.refl _ _) e
  | region id ops d =>
    intro cur Q' Q φ σ τ H h hr hn e hk
    cases d with
    | false => exact opsO_sound s hok hD hr hn e (hk .normal)
    | true => exact hX W id ops.toList φ σ τ H h _ _ out s hr hn e (hk .normal)
  | seq x y ihx ihy =>
    intro cur Q' Q φ σ τ H h hr hn e hk
    unfold vc
    rw [cutOf_W]
    dsimp only
    unfold dn at e
    split at e
    · refine ihx _ _ _ φ σ τ H h hr hn e fun ex => ?_
      intro φ' σ' τ' H' h' hl hr' hn' ha e
      cases ex with
      | normal => exact ihy _ _ _ φ' σ' τ' H' h' hr' hn' e fun ex φ2 σ2 τ2 H2 h2 hl2 hr2 hn2 ha2 e2 => hk ex φ2 σ2 τ2 H2 h2 (hl.trans hl2) hr2 hn2 (ha.left.trans ha2.right) e2
      | exit k => exact hk _ φ' σ' τ' H' h' hl hr' hn' ha.left e
      | ret => exact hk _ φ' σ' τ' H' h' hl hr' hn' ha.left e
    · rename_i ss _
      split at e
      · rename_i hss
        refine ihx _ _ _ φ σ τ H h hr hn e fun ex => ?_
        intro φ' σ' τ' H' h' hl hr' hn' ha e
        cases ex with
        | normal =>
          dsimp only at e ⊢
          rw [appF_L] at e
          obtain ⟨_, e⟩ := appL_abs e
          obtain ⟨σ1, h1, h2, e⟩ := castA_spec hss ((RN.havS ha hn').updS (hn'.vals ss)) e
          have hag : AgD (dsts x) σ σ1 := (AgD.updL hss AgD.hav).trans h2
          exact ihy _ _ _ φ' σ1 τ' H' h' hr' h1 e fun ex φ2 σ2 τ2 H2 h2 hl2 hr2 hn2 ha2 e2 => hk ex φ2 σ2 τ2 H2 h2 (hl.trans hl2) hr2 hn2 (hag.left.trans ha2.right) e2
        | exit k => exact hk _ φ' σ' τ' H' h' hl hr' hn' ha.left e
        | ret => exact hk _ φ' σ' τ' H' h' hl hr' hn' ha.left e
      · cases e
  | cond c x y ihx ihy =>
    intro cur Q' Q φ σ τ H h hr hn e hk
    unfold dn at e
    obtain ⟨v, hv0, hv, e⟩ := onV_spec (dev_rel hn c) e
    obtain ⟨b, rfl, hb, e⟩ := isB_spec hv e
    unfold vc
    simp only [hb]
    cases b with
    | true => exact ihx _ _ _ φ σ τ H h hr hn e fun ex φ' σ' τ' H' h' hl hr' hn' ha e => hk ex φ' σ' τ' H' h' hl hr' hn' ha.left e
    | false => exact ihy _ _ _ φ σ τ H h hr hn e fun ex φ' σ' τ' H' h' hl hr' hn' ha e => hk ex φ' σ' τ' H' h' hl hr' hn' ha.right e
  | block id b ih =>
    intro cur Q' Q φ σ τ H h hr hn e hk
    unfold dn at e
    unfold vc
    refine ih _ _ _ φ σ τ H h hr hn e fun ex => ?_
    intro φ' σ' τ' H' h' hl hr' hn' ha e
    cases ex with
    | normal => exact hk _ φ' σ' τ' H' h' hl hr' hn' ha e
    | ret => exact hk _ φ' σ' τ' H' h' hl hr' hn' ha e
    | exit k =>
      dsimp only at e ⊢
      cases hb : Nat.beq k id with
      | true => rw [hb] at e; exact hk _ φ' σ' τ' H' h' hl hr' hn' ha e
      | false => rw [hb] at e; exact hk _ φ' σ' τ' H' h' hl hr' hn' ha e
  | loop b ih =>
    intro cur Q' Q φ σ τ H h hr hn e hk
    unfold dn at e
    unfold vc
    split at e
    · rename_i hss
      have hssA : slotsIn (dsts b) ((annW P N A).loop cur) = true := slotsIn_any hss
      simp only [hssA]
      generalize hstep : (fun self : DFam β (A.loop cur) => absF (A.loop cur) (fun σ H => castA (A.loop cur) σ fun σ => dn P D N X A b cur (fun e σ H => match e with | .normal => appF (A.loop cur) self σ H | e => Q' e σ H) σ H) (havD (dsts b) σ)) = step at e
      let Inv : List Value → Heap → Nat → Prop := fun vs h n => ∃ φ' H' ds, φ.le φ' ∧ HR W ads φ' H' h ∧ RAs ads φ' ds vs ∧ appL (A.loop cur) (lpF (A.loop cur) step n) ds H' = some out
      refine ⟨famOf (A.loop cur) fun vs h => ∃ n, Inv vs h n, famOf (A.loop cur) fun vs h => lea (Inv vs h), famEnt_of ⟨_, φ, H, _, Phi.le.refl _, hr, hn.vals _, by rw [← appF_L]; exact e⟩, fun u => famAll_of fun vs h1 hI => .inl ?_⟩
      obtain ⟨n, hIn, hlea⟩ := lea_spec hI
      rw [hlea]
      obtain ⟨φ1, H1, ds, hl1, hr1, hd1, e1⟩ := hIn
      cases n with
      | zero => exact absurd e1 (by rw [show lpF (A.loop cur) step 0 = failF _ from rfl, appL_fail]; exact fun hx => by cases hx)
      | succ n =>
        have e2 : appL (A.loop cur) (step (lpF (A.loop cur) step n)) ds H1 = some out := e1
        rw [← hstep] at e2
        obtain ⟨_, e2⟩ := appL_abs e2
        rw [hstep] at e2
        obtain ⟨σ1, k1, k2, e3⟩ := castA_spec hss (RN.updL (RN.hav (ds := dsts b) (u := u) (hn.mono hl1)) hd1) e2
        have hag : AgD (dsts b) σ σ1 := (AgD.updL hss AgD.hav).trans k2
        refine ih _ _ _ φ1 σ1 _ H1 h1 hr1 k1 e3 fun ex => ?_
        intro φ' σ' τ' H' h' hl hr' hn' ha e4
        cases ex with
        | normal =>
          dsimp only at e4 ⊢
          rw [appF_L] at e4
          have hin : Inv (valsL (A.loop cur) τ') h' n := ⟨φ', H', _, hl1.trans hl, hr', hn'.vals _, e4⟩
          obtain ⟨q1, q2⟩ := lea_lt hin (Nat.lt_succ_self n)
          exact famBack_of q1 q2
        | exit k => exact hk _ φ' σ' τ' H' h' (hl1.trans hl) hr' hn' (hag.trans ha) e4
        | ret => exact hk _ φ' σ' τ' H' h' (hl1.trans hl) hr' hn' (hag.trans ha) e4
    · cases e
  | exit id => intro cur Q' Q φ σ τ H h hr hn e hk; exact hk (.exit id) φ σ τ H h (Phi.le.refl _) hr hn (AgD.refl _ _) e
  | ret => intro cur Q' Q φ σ τ H h hr hn e hk; exact hk .ret φ σ τ H h (Phi.le.refl _) hr hn (AgD.refl _ _) e
  | _ => intro cur Q' Q φ σ τ H h hr hn e hk; cases e
theorem RAs.cons {d : DV} {w : Value} {r : List DV} {wr : List Value} (h1 : RD ads φ d w) (h2 : RAs ads φ r wr) : RAs ads φ (d :: r) (w :: wr) := ⟨w, wr, rfl, h1, h2⟩
theorem resO_sound : ∀ {rs : List ResultVar} {kk : List DV → Option β} {KK : List Value → Prop}, HR W ads φ H h → RN ads φ σ τ → resO P rs σ H kk = some out → (∀ ds vs, RAs ads φ ds vs → kk ds = some out → KK vs) → resv P rs τ h KK
  | [], kk, KK, hr, hn, e, hk => hk [] [] rfl e
  | .tmp n :: r, kk, KK, hr, hn, e, hk => resO_sound (rs := r) hr hn e fun ds vs hd e => hk _ _ (RAs.cons (hn n) hd) e
  | .cell a T :: r, kk, KK, hr, hn, e, hk => by
    obtain ⟨x, hx0, hx, e⟩ := onV_spec (hn a) (show onV (σ a) _ = some out from e)
    obtain ⟨q, pa, rfl, hv, hq, e⟩ := isP_spec hx e
    obtain ⟨b, o, L, rfl, h1, rfl, e⟩ := onA_spec hq e
    unfold resv
    rw [hv]
    show ldv P T h L.b (L.δ + o) fun v => resv P r τ h fun vs => KK (v :: vs)
    exact ldD_sound hr h1 rfl e fun d v hd e => resO_sound (rs := r) hr hn e fun ds vs hds e => hk _ _ (RAs.cons hd hds) e
theorem eK_spec {d : DV} {w : Value} {kk : DV → Option β} (hd : RD ads φ d w) (e : eK d kk = some out) : ∃ d', RE ads φ d' w ∧ kk d' = some out := by
  cases d with
  | u => cases e
  | v a => exact ⟨.v a, hd, e⟩
  | a l => exact ⟨.a l, hd, e⟩
  | n => cases e
  | c x r => cases e
theorem consK_spec : ∀ {ds : List DV} {vs : List Value} {kk : DV → Option β}, RAs ads φ ds vs → consK ds kk = some out → ∃ d, RDs ads φ d vs ∧ kk d = some out
  | [], vs, kk, h, e => ⟨.n, h, e⟩
  | d :: r, _, kk, ⟨w, wr, rfl, h1, h2⟩, e => by
    obtain ⟨d', h3, e⟩ := eK_spec h1 (show eK d _ = some out from e)
    obtain ⟨t, h4, e⟩ := consK_spec h2 e
    exact ⟨.c d' t, ⟨w, wr, rfl, h3, h4⟩, e⟩
theorem RDs.d {d : DV} {vs : List Value} (h : RDs ads φ d vs) : RD ads φ d (.tuple vs.toArray) := by
  cases d with
  | n => rw [show vs = [] from h]; rfl
  | c x r => exact ⟨vs, rfl, h⟩
  | u => exact h.elim
  | v a => exact h.elim
  | a l => exact h.elim
theorem pkD_spec {ds : List DV} {vs : List Value} {kk : DV → Option β} (h : RAs ads φ ds vs) (e : pkD ds kk = some out) : ∃ d, RD ads φ d (pack vs) ∧ kk d = some out := by
  unfold pkD at e
  split at e
  · rename_i d
    obtain ⟨w, wr, rfl, h1, h2⟩ := h
    rw [show wr = [] from h2]
    exact ⟨d, h1, e⟩
  · rename_i hne
    obtain ⟨d, h1, e⟩ := consK_spec h e
    refine ⟨d, ?_, e⟩
    have hlen := h.len
    have hp : pack vs = .tuple vs.toArray := by
      unfold pack
      split
      · rename_i v
        exfalso
        match ds, hne, hlen with
        | [d], hne, _ => exact hne d rfl
      · rfl
    rw [hp]
    exact h1.d
theorem argK_spec : ∀ {shs : List Sh} {l : List DV} {vs : List Value} {kk : List DV → Option β}, RAs ads φ l vs → argK shs l kk = some out → ∃ ds, RAs ads φ ds vs ∧ ds.length = shs.length ∧ kk ds = some out
  | [], [], vs, kk, h, e => ⟨[], h, rfl, e⟩
  | [], _ :: _, vs, kk, h, e => by cases e
  | s :: sr, [], vs, kk, h, e => by cases e
  | s :: sr, d :: r, _, kk, ⟨w, wr, rfl, h1, h2⟩, e => by
    obtain ⟨d', h3, e⟩ := castS_spec h1 (show castS s d (fun d => argK sr r fun ds => kk (d :: ds)) = some out from e)
    obtain ⟨ds, h4, h5, e⟩ := argK_spec h2 e
    exact ⟨d' :: ds, RAs.cons h3 h4, by simp [h5], e⟩
theorem RAs.at : ∀ {ds : List DV} {vs : List Value} {n : Nat}, RAs ads φ ds vs → RD ads φ (iniD ds n) (initEnv vs n)
  | [], vs, n, h => by rw [show vs = [] from h]; exact (rfl : undef = Value.tuple #[])
  | d :: r, _, 0, ⟨w, wr, rfl, h1, h2⟩ => h1
  | d :: r, _, n + 1, ⟨w, wr, rfl, h1, h2⟩ => by
    have := RAs.at (n := n) h2
    unfold iniD initEnv at this ⊢
    simpa using this
theorem runs_ofA {f : FuncId} {fn : Func} {c : Code} {args : List Value} {h : Heap} {Post : Value → Heap → Prop} {A : Ann} (hd : DrawnOk P fn.ntmps A.drawn)
    (hf : P.funcs[f]? = some fn) (hb : fn.body = some c) (hl : args.length ≤ fn.ntmps)
    (hv : fnv P A fn c args h Post) : Runs P f args.toArray h Post := by
  intro w hw
  refine calls_of_wp hf hb ?_
  have hr : Rel fn.ntmps (initEnv args) { tmps := args.toArray ++ Array.replicate (fn.ntmps - args.toArray.size) undef, defers := [] } := by
    refine ⟨rfl, by simp; omega, fun n => ?_⟩
    unfold initEnv
    rw [Array.getD_eq_getD_getElem?, Array.getElem?_append]
    split
    · rename_i hlt
      simp at hlt
      simp [hlt]
    · rename_i hlt
      simp at hlt
      rw [Array.getElem?_replicate]
      have : args[n]? = none := by simp; omega
      simp only [this]
      split <;> rfl
  have := vc_sound (P := P) (A := A) hd c 0 _ (initEnv args) h _ w hv hr hw
  refine wp_mono this fun e a' w' hl => ?_
  cases e <;> simp only [lift] at hl
  case normal =>
    obtain ⟨t, h1, h2, _, h4⟩ := hl
    obtain ⟨v, h5, h6⟩ := results_sound (K := fun v => Post v w'.heap) h1 rfl h4
    exact ⟨h1.defers, v, h6, v, rfl, h5, h2⟩
  case ret =>
    obtain ⟨t, h1, h2, _, h4⟩ := hl
    obtain ⟨v, h5, h6⟩ := results_sound (K := fun v => Post v w'.heap) h1 rfl h4
    exact ⟨h1.defers, v, h6, v, rfl, h5, h2⟩
  case exit =>
    obtain ⟨t, h1, h2, _, h4⟩ := hl
    exact h4.elim
/-- A function's text, on the abstract machine, stands for the function. -/
theorem dfn_snd {f : FuncId} {fn : Func} {c : Code} {X : Drw β} {A : AnnD} {shs : List Sh} (hok : ptrOk P errT = true) (hD : SndA P ads D) (hX : DrwOk P fn.ntmps ads X) (hf : P.funcs[f]? = some fn) (hb : fn.body = some c) (hl : Nat.ble shs.length fn.ntmps = true) (hbd : bodied P f = true) :
    Snd P ads f (dfn P D X A shs fn c) := by
  refine ⟨hbd, fun W s φ H h args vs k out Post hr ha e hk => ?_⟩
  obtain ⟨ds, h1, h2, e⟩ := argK_spec ha e
  have hlen := h1.len
  refine runs_ofA (A := annW P fn.ntmps A) drawW_ok hf hb (by have := Nat.le_of_ble_eq_true hl; omega) ?_
  unfold fnv
  refine dn_sound s hok hD hX c 0 _ _ φ _ _ H h hr (fun n => RAs.at h1) e fun ex => ?_
  intro φ' σ' τ' H' h' hl hr' hn' _ e
  have fin : (resO P fn.results.toList σ' H' fun ds => pkD ds fun d => k d H') = some out → resv P fn.results.toList τ' h' fun vs => Post (pack vs) h' := fun e =>
    resO_sound hr' hn' e fun ds vs hd e => by
      obtain ⟨d, h3, e⟩ := pkD_spec hd e
      exact hk φ' H' h' d _ hl hr' h3 e
  cases ex with
  | normal => exact fin e
  | ret => exact fin e
  | exit k => cases e
end
end Go.Ab
