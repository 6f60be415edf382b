/- The abstract machine: what operations that read give of the real ones. -/
import Derived.Test.YtgkpnfnkaplebaaGreatDoorAb5
set_option linter.unusedVariables false
set_option linter.unusedSimpArgs false
set_option linter.constructorNameAsVariable false
namespace Go.Ab
open Go.Vc Go.Proofs.YtgkpnfnkaplebaaGreatDoor
def RN (ads : List Addr) (φ : Phi) (σ : Nat → DV) (t : Env) : Prop := ∀ n, RD ads φ (σ n) (t n)
section
variable {W : Wd} {ads : List Addr} {φ φ' : Phi} {H H' : AH} {h h' : Heap} {β : Type} {out : β} {p : P4} {o n : Nat} {l : Loc} {v : AV} {w : Value} {P : Program} {t : TypeId} {d a b : DV} {va vb : Value} {k : DV → Option β} {K : Value → Prop}
theorem RD.ofV (h : RV ads φ v w) : RD ads φ (.v v) w := h
theorem RD.ofL {L : List AV} {ws : List Value} (h : RL ads φ L ws) : RD ads φ (.a L) (.agg ws.toArray) := ⟨ws, rfl, h⟩
theorem RD.ofI {k : IntKind} {n : Int} : RD ads φ (.v (.i k n)) (.int k n) := RV.i k n
theorem RD.ofB {c : Bool} : RD ads φ (.v (.b c)) (.bool c) := RV.b c
theorem RN.mono {σ : Nat → DV} {t : Env} (hl : φ.le φ') (h : RN ads φ σ t) : RN ads φ' σ t := fun n => (h n).mono hl
theorem toList_nil {α : Type} {a : Array α} (h : a.toList = []) : a = #[] := by simpa using h
theorem acst_rel {v : Value} {a : AV} (e : acst v = some a) : RV ads φ a v := by
  unfold acst at e
  split at e
  · cases e; exact .i _ _
  · cases e; exact .b _
  · cases e; exact .p rfl
  · cases e; exact .p rfl
  · cases e; exact .s ⟨rfl, rfl, rfl⟩
  · cases e; rename_i s; have := RV.g (ads := ads) (φ := φ) (bytesI_ok s); rwa [strOf_bytesI] at this
  · cases e; exact .ni
  · cases e; exact .nf
  · cases e; exact .mp (a := .nil) rfl
  · split at e
    · rename_i h1 h2
      cases e
      rw [toList_nil h1, toList_nil h2]
      exact .fn (l := []) (vs := []) rfl
    · cases e
  · cases e
theorem acL_rel : ∀ {vs : List Value} {l : List AV}, acL vs = some l → RL ads φ l vs
  | [], l, e => by cases e; rfl
  | v :: r, l, e => by
    unfold acL at e
    split at e
    · rename_i a l' h1 h2
      cases e
      exact .cons (acst_rel h1) (acL_rel h2)
    · cases e
theorem dcst_rel (v : Value) : RD ads φ (dcst v) v := by
  unfold dcst
  split
  · split
    · rename_i cs _ l hl; exact ⟨cs.toList, by simp, acL_rel hl⟩
    · trivial
  · split
    · rename_i vs _ hl; show Value.tuple vs = _; rw [toList_nil hl]
    · trivial
  · split
    · rename_i a ha; exact acst_rel ha
    · trivial
theorem dev_rel {σ : Nat → DV} {t : Env} (hn : RN ads φ σ t) (x : Operand) : RD ads φ (dev σ x) (ev t x) := by
  cases x with
  | tmp n => exact hn n
  | const v => exact dcst_rel v
  | global g => exact RV.p rfl
  | func f => exact RV.fn (l := []) (vs := []) rfl
theorem isJ_spec {K : Int → Option β} (hv : RV ads φ v w) (e : isJ v K = some out) : ∃ k n, v = .i k n ∧ w = .int k n ∧ K n = some out := by
  cases hv <;> first | exact ⟨_, _, rfl, rfl, e⟩ | cases e
theorem frcB_spec {t : Bool} {K : Bool → Option β} (e : frcB t K = some out) : K t = some out := by rw [← frcB_eq t K]; exact e
theorem keq_self (k : IntKind) : keq k k = true := by cases k <;> rfl
/-- What is carried on: a value that stands for the real one. -/
abbrev On (ads : List Addr) (φ : Phi) (k : DV → Option β) (out : β) (K : Value → Prop) : Prop := ∀ d v, RD ads φ d v → k d = some out → K v
theorem iopD_sound {op : BinOp} {kd : IntKind} {m n : Int} (e : iopD op kd m n k = some out) (hk : On ads φ k out K) : iop false op kd m n K := by
  cases op <;> simp only [iopD] at e <;> simp only [iop, arith]
  case add => have e := wrp_spec e; rw [iadd_eq] at e; exact hk _ _ RD.ofI e
  case sub => have e := wrp_spec e; rw [isub_eq] at e; exact hk _ _ RD.ofI e
  case mul => have e := wrp_spec e; rw [imul_eq] at e; exact hk _ _ RD.ofI e
  case quo =>
    obtain ⟨h1, e⟩ := must_spec e
    have e := wrp_spec e
    rw [iquo_eq] at e
    rw [ieq_eq, bnot_eq] at h1
    exact ⟨by simpa using h1, hk _ _ RD.ofI e⟩
  case rem =>
    obtain ⟨h1, e⟩ := must_spec e
    have e := asI_spec e
    rw [irem_eq] at e
    rw [ieq_eq, bnot_eq] at h1
    exact ⟨by simpa using h1, hk _ _ RD.ofI e⟩
  case and => exact hk _ _ RD.ofI (asI_spec e)
  case or => exact hk _ _ RD.ofI (asI_spec e)
  case xor => exact hk _ _ RD.ofI (asI_spec e)
  case andNot => exact hk _ _ RD.ofI (asI_spec e)
  case eql => have e := frcB_spec e; rw [ieq_eq] at e; exact hk _ _ RD.ofB e
  case neq => have e := frcB_spec e; rw [bnot_eq, ieq_eq] at e; exact hk _ _ RD.ofB e
  case lss => have e := frcB_spec e; rw [ilt_eq] at e; exact hk _ _ RD.ofB e
  case leq => have e := frcB_spec e; rw [ile_eq] at e; exact hk _ _ RD.ofB e
  case gtr => have e := frcB_spec e; rw [ilt_eq] at e; exact hk _ _ RD.ofB e
  case geq => have e := frcB_spec e; rw [ile_eq] at e; exact hk _ _ RD.ofB e
  all_goals cases e
theorem shopD_sound {op : BinOp} {kd : IntKind} {m n : Int} (e : shopD op kd m n k = some out) (hk : On ads φ k out K) : shop false op kd m n K := by
  cases op <;> simp only [shopD] at e <;> simp only [shop, arith]
  case shl =>
    obtain ⟨h1, e⟩ := must_spec e
    obtain ⟨h2, e⟩ := must_spec e
    rw [ile_eq] at h1 h2
    have e := wrp_spec e
    rw [imul_eq, ip2_eq] at e
    exact ⟨⟨of_decide_eq_true h1, of_decide_eq_true h2⟩, hk _ _ RD.ofI e⟩
  case shr =>
    obtain ⟨h1, e⟩ := must_spec e
    obtain ⟨h2, e⟩ := must_spec e
    rw [ile_eq] at h1 h2
    have e := asI_spec e
    rw [idiv_eq, ip2_eq] at e
    exact ⟨⟨of_decide_eq_true h1, of_decide_eq_true h2⟩, hk _ _ RD.ofI e⟩
  all_goals cases e
theorem leni_eq (l : List Int) : leni l = l.length := by
  induction l with
  | nil => rfl
  | cons v l ih => show Nat.succ (leni l) = _; rw [ih]; rfl
theorem leqI_eq : ∀ (l m : List Int), leqI l m = decide (l = m)
  | [], [] => rfl
  | [], _ :: _ => rfl
  | _ :: _, [] => rfl
  | a :: l, b :: m => by
    show Bool.rec (motive := fun _ => Bool) false (leqI l m) (ieq a b) = _
    rw [leqI_eq l m, ieq_eq]
    by_cases hab : a = b
    · subst hab; rw [decide_eq_true rfl]; simp
    · rw [decide_eq_false hab]; simp [hab]
theorem intsK_spec {kd : IntKind} : ∀ {l : List AV} {vs : List Value} {K : List Int → Option β}, RL ads φ l vs → intsK kd l K = some out → ∃ xs : List Int, vs = xs.map (Value.int kd) ∧ K xs = some out
  | [], vs, K, hl, e => ⟨[], hl, e⟩
  | v :: r, _, K, ⟨w, wr, rfl, h2, h3⟩, e => by
    have e1 : isI kd v (fun n => intsK kd r fun r => K (n :: r)) = some out := e
    obtain ⟨n, rfl, rfl, e1⟩ := isI_spec h2 e1
    obtain ⟨xs, rfl, e1⟩ := intsK_spec h3 e1
    exact ⟨n :: xs, rfl, e1⟩
theorem binD_sound {op : BinOp} (ha : RD ads φ a va) (hb : RD ads φ b vb) (e : binD P op t a b k = some out) (hk : On ads φ k out K) : binv P false op t va vb K := by
  unfold binD at e
  split at e
  · rename_i kd hu
    obtain ⟨x, rfl, hx, e⟩ := onV_spec ha e
    obtain ⟨y, rfl, hy, e⟩ := onV_spec hb e
    obtain ⟨m, rfl, rfl, e⟩ := isI_spec hx e
    split at e
    · obtain ⟨k', n, rfl, rfl, e⟩ := isJ_spec hy e; exact shopD_sound e hk
    · obtain ⟨k', n, rfl, rfl, e⟩ := isJ_spec hy e; exact shopD_sound e hk
    · rename_i op' n1 n2
      obtain ⟨n, rfl, rfl, e⟩ := isI_spec hy e
      have h1 := iopD_sound e hk
      unfold binv
      cases op' <;> first | exact (n1 rfl).elim | exact (n2 rfl).elim | (simp only [keq_self]; exact h1)
  · rename_i hu
    obtain ⟨x, rfl, hx, e⟩ := onV_spec ha e
    obtain ⟨y, rfl, hy, e⟩ := onV_spec hb e
    obtain ⟨m, rfl, rfl, e⟩ := isB_spec hx e
    obtain ⟨n, rfl, rfl, e⟩ := isB_spec hy e
    unfold binv
    simp only [hu]
    split at e
    · have e := frcB_spec e; rw [beqb_eq] at e; exact hk _ _ RD.ofB e
    · have e := frcB_spec e; rw [bnot_eq, beqb_eq] at e; exact hk _ _ RD.ofB e
    · cases e
  · rename_i hu
    obtain ⟨x, rfl, hx, e⟩ := onV_spec ha e
    obtain ⟨y, rfl, hy, e⟩ := onV_spec hb e
    obtain ⟨m, rfl, rfl, b1, e⟩ := isG_spec hx e
    obtain ⟨n, rfl, rfl, b2, e⟩ := isG_spec hy e
    unfold binv
    split at e
    · obtain ⟨h1, e⟩ := must_spec e
      rw [appI_eq] at e
      have h1 := Nat.le_of_ble_eq_true h1
      rw [leni_eq, leni_eq] at h1
      refine ⟨by rw [strOf_size, strOf_size]; exact Int.ofNat_le.2 h1, ?_⟩
      rw [strOf_app]
      exact hk _ _ (RD.ofV (RV.g (bytesOk_app b1 b2))) e
    · have e := frcB_spec e
      rw [leqI_eq] at e
      dsimp only
      rw [strOf_eq b1 b2]; exact hk _ _ RD.ofB e
    · have e := frcB_spec e
      rw [bnot_eq, leqI_eq] at e
      dsimp only
      rw [strOf_eq b1 b2]; exact hk _ _ RD.ofB e
    · cases e
  · rename_i el hu
    obtain ⟨x, rfl, hx, e⟩ := onV_spec ha e
    obtain ⟨y, rfl, hy, e⟩ := onV_spec hb e
    obtain ⟨m, pm, rfl, rfl, hm, e⟩ := isP_spec hx e
    obtain ⟨n, pn, rfl, rfl, hn, e⟩ := isP_spec hy e
    obtain ⟨h1, e⟩ := must_spec e
    have h2 := isNil_eq hn
    rw [h1] at h2
    cases pn with
    | some _ => cases h2
    | none =>
      have h3 := isNil_eq hm
      unfold binv
      simp only [hu]
      split at e
      · have e := frcB_spec e; rw [← h3] at e; exact hk _ _ RD.ofB e
      · have e := frcB_spec e; rw [bnot_eq, ← h3] at e; exact hk _ _ RD.ofB e
      · cases e
  · rename_i el hu
    obtain ⟨x, rfl, hx, e⟩ := onV_spec ha e
    obtain ⟨y, rfl, hy, e⟩ := onV_spec hb e
    obtain ⟨m, pm, l1, c1, rfl, rfl, hm, e⟩ := isS_spec hx e
    obtain ⟨n, pn, l2, c2, rfl, rfl, hn, e⟩ := isS_spec hy e
    obtain ⟨h1, e⟩ := must_spec e
    have h2 := isNilS_eq hn
    rw [h1] at h2
    cases pn with
    | some _ => cases h2
    | none =>
      have h3 := isNilS_eq hm
      unfold binv
      simp only [hu]
      split at e
      · have e := frcB_spec e; rw [← h3] at e; exact hk _ _ RD.ofB e
      · have e := frcB_spec e; rw [bnot_eq, ← h3] at e; exact hk _ _ RD.ofB e
      · cases e
  · rename_i n el hu
    obtain ⟨la, wa, rfl, rfl, hla, e⟩ := onL_spec ha e
    obtain ⟨lb, wb, rfl, rfl, hlb, e⟩ := onL_spec hb e
    split at e
    · rename_i kd he hg
      split at e
      · rename_i hs hi
        obtain ⟨xs, rfl, e⟩ := intsK_spec hla e
        obtain ⟨ys, rfl, e⟩ := intsK_spec hlb e
        obtain ⟨h1, e⟩ := must_spec e
        obtain ⟨h2, e⟩ := must_spec e
        have h1 := beq_true h1
        have h2 := beq_true h2
        rw [leni_eq] at h1 h2
        have fin : ∀ {F : Bool → Prop}, F (decide (xs = ys)) → arrEq P t ((xs.map (Value.int kd)).toArray) ((ys.map (Value.int kd)).toArray) F := by
          intro F hF
          unfold arrEq
          simp only [hu, he, hg, hs, hi]
          exact ⟨xs, ys, by simp, by simp, ⟨h1, h2⟩, hF⟩
        unfold binv
        split at e
        · have e := frcB_spec e; rw [leqI_eq] at e; exact fin (hk _ _ RD.ofB e)
        · have e := frcB_spec e; rw [bnot_eq, leqI_eq] at e; exact fin (F := fun c => K (.bool (!c))) (hk _ _ RD.ofB e)
        · cases e
      · cases e
    · cases e
  · cases e
theorem unD_sound {op : UnOp} (ha : RD ads φ a va) (e : unD P op t a k = some out) (hk : On ads φ k out K) : unv false op va K := by
  unfold unD at e
  obtain ⟨x, rfl, hx, e⟩ := onV_spec ha e
  split at e
  · obtain ⟨m, rfl, rfl, e⟩ := isB_spec hx e
    have e := frcB_spec e; rw [bnot_eq] at e; exact hk _ _ RD.ofB e
  · split at e
    · obtain ⟨m, rfl, rfl, e⟩ := isI_spec hx e
      have e := wrp_spec e; rw [isub_eq] at e; exact hk _ _ RD.ofI e
    · cases e
  · split at e
    · obtain ⟨m, rfl, rfl, e⟩ := isI_spec hx e
      exact hk _ _ RD.ofI (asI_spec e)
    · cases e
  · cases e
theorem oneD_on {ty : TypeDesc} {c : Option Value} (hv : RV ads φ v w) (hc : c = some w) (e : oneD ty v k = some out) (hk : On ads φ k out K) : one ty c K :=
  oneD_sound hv hc e fun d hd e => hk d w hd.d e
theorem ldD_sound {oc : Nat} (hr : HR W ads φ H h) (hl : φ p = some l) (ho : oc = l.δ + o) (e : ldD P t H p o k = some out) (hk : On ads φ k out K) : ldv P t h l.b oc K := by
  unfold ldD at e
  unfold ldv
  split at e
  · rename_i fs hu
    split at e
    · rename_i hi
      obtain ⟨L, ws, h1, h2, e⟩ := rdR_spec hr hl e
      simp only [hu, hi]
      exact ⟨ws, h2 oc ho, hk _ _ (RD.ofL h1) e⟩
    · cases e
  · rename_i n el hu
    split at e
    · rename_i hi
      obtain ⟨L, ws, h1, h2, e⟩ := rdR_spec hr hl e
      simp only [hu, hi]
      exact ⟨ws, h2 oc ho, hk _ _ (RD.ofL h1) e⟩
    · cases e
  · rename_i ty hns hna hu
    obtain ⟨v, w, h1, h2, e⟩ := rdK_spec hr hl e
    have := oneD_on h1 (h2 oc ho) e hk
    simp only [hu]
    cases ty <;> first | exact (hns _ rfl).elim | exact (hna _ _ rfl).elim | exact this
  · cases e
theorem aggD_sound {L : List AV} {ws : List Value} {off : Nat} (hL : RL ads φ L ws) (e : aggD P t L off k = some out) (hk : On ads φ k out K) : aggv P t (.agg ws.toArray) off K := by
  unfold aggD at e
  unfold aggv
  split at e
  · rename_i fs hu
    split at e
    · rename_i hi
      simp only [hu, hi]
      rw [ltake_eq, ldrop_eq] at e
      exact hk _ _ (RD.ofL ((hL.drop (n := off)).take (n := sz P t))) e
    · cases e
  · rename_i n el hu
    split at e
    · rename_i hi
      simp only [hu, hi]
      rw [ltake_eq, ldrop_eq] at e
      exact hk _ _ (RD.ofL ((hL.drop (n := off)).take (n := sz P t))) e
    · cases e
  · rename_i ty hns hna hu
    obtain ⟨v, h1, e⟩ := lgetK_spec e
    obtain ⟨w, h2, h3⟩ := hL.at h1
    have := oneD_on h3 (c := (ws.toArray).toList[off]?) (by simpa using h2) e hk
    simp only [hu]
    cases ty <;> first | exact (hns _ rfl).elim | exact (hna _ _ rfl).elim | exact this
  · cases e
theorem offD_spec {f : Nat} {kk : Nat → TypeId → Option β} (e : offD P t f kk = some out) : ∃ fs fd, P.underlying t = some (.struct fs) ∧ fs[f]? = some fd ∧ hasInfo P fd.type = true ∧ sz P fd.type ≠ 0 ∧ kk fd.offset fd.type = some out := by
  unfold offD at e
  split at e
  · rename_i fs hu
    split at e
    · rename_i fd hf
      split at e
      · rename_i n hi hs
        exact ⟨fs, fd, hu, hf, hi, by rw [hs]; omega, e⟩
      · cases e
    · cases e
  · cases e
theorem offD_sound {f : Nat} {kk : Nat → TypeId → Option β} {KK : Nat → TypeId → Prop} (e : offD P t f kk = some out) (hk : ∀ o ty, kk o ty = some out → KK o ty) : fieldOff P t f KK := by
  obtain ⟨fs, fd, h1, h2, h3, h4, h5⟩ := offD_spec e
  exact fieldOff_iff.2 ⟨fs, fd, h1, h2, h3, h4, hk _ _ h5⟩
theorem nad_eq (o k : Nat) : nad o k = o + k := by cases k <;> rfl
theorem mulx_eq : ∀ z n : Nat, mulx z n = mulc z n
  | 0, _ => rfl
  | 1, _ => rfl
  | _ + 2, _ => rfl
theorem mulx_mul : ∀ z n : Nat, mulx z n = n * z
  | 0, _ => rfl
  | 1, n => (Nat.mul_one n).symm
  | _ + 2, _ => rfl
theorem lowD_spec {lo : Option DV} {lov : Option Value} {kk : Nat → Option β} (hl : (lo = none ∧ lov = none) ∨ ∃ d w, lo = some d ∧ lov = some w ∧ RD ads φ d w) (e : lowD lo kk = some out) :
    ∃ m : Nat, kk m = some out ∧ ∀ F : Int → Prop, F m → lowv lov F := by
  rcases hl with ⟨rfl, rfl⟩ | ⟨d, w, rfl, rfl, hd⟩
  · exact ⟨0, e, fun F hF => hF⟩
  · obtain ⟨x, rfl, hx, e⟩ := onV_spec hd e
    obtain ⟨kd, n, rfl, rfl, e⟩ := isJ_spec hx e
    obtain ⟨m, rfl, e1⟩ := natK_spec e
    exact ⟨m, e1, fun F hF => hF⟩
theorem sliceD_sound {lo hi : Option DV} {lov hiv : Option Value} (ha : RD ads φ a va) (hl : (lo = none ∧ lov = none) ∨ ∃ d w, lo = some d ∧ lov = some w ∧ RD ads φ d w)
    (hh : (hi = none ∧ hiv = none) ∨ ∃ d w, hi = some d ∧ hiv = some w ∧ RD ads φ d w) (e : sliceD P t a lo hi k = some out) (hk : On ads φ k out K) : slicev P t va lov hiv K := by
  unfold sliceD at e
  unfold slicev
  split at e
  · rename_i el hu
    split at e
    · rename_i hi'
      obtain ⟨x, rfl, hx, e⟩ := onV_spec ha e
      obtain ⟨s, pa, len, cap, rfl, rfl, hs, e⟩ := isS_spec hx e
      obtain ⟨l, e, hF⟩ := lowD_spec hl e
      simp only [hu, hi']
      refine hF _ ?_
      rcases hh with ⟨rfl, rfl⟩ | ⟨d, w, rfl, rfl, hd⟩
      · simp only [hiD] at e
        have e := lenA_spec hs e
        obtain ⟨h1, h2, s', h3, e⟩ := slA_spec (by rw [mulx_mul]; omega) hs e
        dsimp only
        refine ⟨⟨by omega, by omega⟩, ?_⟩
        rw [mulx_mul] at h3
        exact hk _ _ (RD.ofV (RV.s h3)) e
      · obtain ⟨y, rfl, hy, e⟩ := onV_spec hd e
        obtain ⟨kd, n, rfl, rfl, e⟩ := isJ_spec hy e
        obtain ⟨m, rfl, e1⟩ := natK_spec e
        obtain ⟨h1, h2, s', h3, e⟩ := slA_spec (by rw [mulx_mul]; omega) hs e1
        dsimp only
        refine ⟨⟨by omega, by omega, by omega⟩, ?_⟩
        rw [mulx_mul] at h3
        exact hk _ _ (RD.ofV (RV.s h3)) e
    · cases e
  · rename_i n el hu
    split at e
    · rename_i hi'
      obtain ⟨x, rfl, hx, e⟩ := onV_spec ha e
      obtain ⟨q, pa, rfl, rfl, hq, e⟩ := isP_spec hx e
      obtain ⟨b', o', L, rfl, h1, rfl, e⟩ := onA_spec hq e
      rcases hl with ⟨_, rfl⟩ | ⟨d, w, hl, _⟩
      · rcases hh with ⟨_, rfl⟩ | ⟨d, w, hh, _⟩
        · simp only [hu, hi']
          exact hk _ _ (RD.ofV (RV.s (RS.sl h1 rfl))) e
        · cases hh
      · cases hl
    · cases e
  · rename_i hu
    obtain ⟨x, rfl, hx, e⟩ := onV_spec ha e
    obtain ⟨g, rfl, rfl, b1, e⟩ := isG_spec hx e
    obtain ⟨l, e, hF⟩ := lowD_spec hl e
    simp only [hu]
    refine hF _ ?_
    have fin : ∀ m : Nat, (must (Nat.ble l m) (must (Nat.ble m (leni g)) (takeI (Nat.sub m l) (dropI l g) fun r => k (.v (.g r)))) = some out) → (l ≤ m ∧ m ≤ (strOf g).size) ∧ K (.string ((strOf g).extract l m)) := fun m e => by
      obtain ⟨h1, e⟩ := must_spec e
      obtain ⟨h2, e⟩ := must_spec e
      have h1 := Nat.le_of_ble_eq_true h1
      have h2 := Nat.le_of_ble_eq_true h2
      rw [leni_eq] at h2
      rw [takeI_eq, dropI_eq] at e
      rw [strOf_size, strOf_extract]
      exact ⟨⟨h1, h2⟩, hk _ _ (RD.ofV (RV.g (bytesOk_sub b1 _ _))) e⟩
    rcases hh with ⟨rfl, rfl⟩ | ⟨d, w, rfl, rfl, hd⟩
    · obtain ⟨⟨h1, h2⟩, h3⟩ := fin _ e
      rw [leni_eq, ← strOf_size] at h1 h3
      dsimp only
      exact ⟨⟨by omega, by omega⟩, h3⟩
    · obtain ⟨y, rfl, hy, e⟩ := onV_spec hd e
      obtain ⟨kd, n, rfl, rfl, e⟩ := isJ_spec hy e
      obtain ⟨m, rfl, e1⟩ := natK_spec e
      obtain ⟨⟨h1, h2⟩, h3⟩ := fin _ e1
      dsimp only
      exact ⟨⟨by omega, by omega, by omega⟩, h3⟩
  · cases e
theorem slice3D_sound {lo hi : Option DV} {mx : DV} {lov hiv : Option Value} {mv : Value} (ha : RD ads φ a va) (hl : (lo = none ∧ lov = none) ∨ ∃ d w, lo = some d ∧ lov = some w ∧ RD ads φ d w)
    (hh : (hi = none ∧ hiv = none) ∨ ∃ d w, hi = some d ∧ hiv = some w ∧ RD ads φ d w) (hm : RD ads φ mx mv) (e : slice3D P t a lo hi mx k = some out) (hk : On ads φ k out K) : slice3v P t va lov hiv mv K := by
  unfold slice3D at e
  unfold slice3v
  split at e
  · rename_i el hd0 hu
    split at e
    · rename_i hi'
      obtain ⟨x, rfl, hx, e⟩ := onV_spec ha e
      obtain ⟨s, pa, len, cap, rfl, rfl, hs, e⟩ := isS_spec hx e
      obtain ⟨l, e, hF⟩ := lowD_spec hl e
      simp only [hu, hi']
      refine hF _ ?_
      rcases hh with ⟨hh, _⟩ | ⟨d, w, hh, rfl, hd⟩
      · cases hh
      · cases hh
        obtain ⟨y, rfl, hy, e⟩ := onV_spec hd e
        obtain ⟨kd, n, rfl, rfl, e⟩ := isJ_spec hy e
        obtain ⟨m, rfl, e⟩ := natK_spec e
        obtain ⟨y2, rfl, hy2, e⟩ := onV_spec hm e
        obtain ⟨kd2, n2, rfl, rfl, e⟩ := isJ_spec hy2 e
        obtain ⟨z, rfl, e⟩ := natK_spec e
        obtain ⟨h1, h2, h3, s', h4, e⟩ := slA3_spec hs e
        dsimp only
        refine ⟨⟨by omega, by omega, by omega, by omega⟩, ?_⟩
        rw [mulx_mul] at h4
        exact hk _ _ (RD.ofV (RV.s h4)) e
    · cases e
  · cases e
theorem tupK_sound : ∀ {i : Nat} {d : DV} {vs : List Value}, RDs ads φ d vs → tupK d i k = some out → ∃ d' v, vs[i]? = some v ∧ RE ads φ d' v ∧ k d' = some out
  | 0, d, vs, hd, e => by
    obtain ⟨x, r, w, wr, rfl, rfl, h1, h2, e⟩ := onC_spec hd e
    exact ⟨x, w, rfl, h1, e⟩
  | i + 1, d, vs, hd, e => by
    obtain ⟨x, r, w, wr, rfl, rfl, h1, h2, e⟩ := onC_spec hd e
    obtain ⟨d', v, h3, h4, e⟩ := tupK_sound h2 e
    exact ⟨d', v, by simpa using h3, h4, e⟩
theorem tup_of {d : DV} {i : Nat} (hd : RD ads φ d w) (e : tupK d i k = some out) : ∃ vs : List Value, w = .tuple vs.toArray ∧ RDs ads φ d vs := by
  cases d with
  | c x r => exact hd
  | n => exact ⟨[], hd, rfl⟩
  | u => cases i <;> cases e
  | v a => cases i <;> cases e
  | a l => cases i <;> cases e
theorem imin_v {m n : Int} : imin m n = min m n := imin_eq m n
theorem bltD_sound {bt : Builtin} {ts : List TypeId} {vs : List DV} {ws : List Value} (ha : RAs ads φ vs ws) (e : bltD P bt ts vs k = some out) (hk : On ads φ k out K) : bltv P bt ts ws K := by
  unfold bltD at e
  split at e
  · rename_i t v
    obtain ⟨w, wr, rfl, hv, hn⟩ := ha
    rw [show wr = [] from hn]
    unfold bltv
    split at e
    · rename_i el hu
      obtain ⟨x, rfl, hx, e⟩ := onV_spec hv e
      obtain ⟨s, pa, len, cap, rfl, rfl, hs, e⟩ := isS_spec hx e
      simp only [hu]
      exact hk _ _ RD.ofI (lenA_spec hs e)
    · rename_i hu
      obtain ⟨x, rfl, hx, e⟩ := onV_spec hv e
      obtain ⟨s, rfl, rfl, b1, e⟩ := isG_spec hx e
      simp only [hu]
      have e := asI_spec e
      rw [leni_eq, ← strOf_size] at e
      exact hk _ _ RD.ofI e
    · rename_i n el hu
      simp only [hu]
      exact hk _ _ RD.ofI e
    · cases e
  · rename_i t v
    obtain ⟨w, wr, rfl, hv, hn⟩ := ha
    rw [show wr = [] from hn]
    unfold bltv
    split at e
    · rename_i el hu
      obtain ⟨x, rfl, hx, e⟩ := onV_spec hv e
      obtain ⟨s, pa, len, cap, rfl, rfl, hs, e⟩ := isS_spec hx e
      simp only [hu]
      exact hk _ _ RD.ofI (capA_spec hs e)
    · cases e
  · rename_i t r a b
    obtain ⟨w, wr, rfl, hv, w2, wr2, rfl, hv2, hn⟩ := ha
    rw [show wr2 = [] from hn]
    split at e
    · obtain ⟨x, rfl, hx, e⟩ := onV_spec hv e
      obtain ⟨y, rfl, hy, e⟩ := onV_spec hv2 e
      obtain ⟨m, rfl, rfl, e⟩ := isI_spec hx e
      obtain ⟨n, rfl, rfl, e⟩ := isI_spec hy e
      have e := asI_spec e
      rw [imin_eq] at e
      unfold bltv mnv
      simp only [keq_self]
      exact hk _ _ RD.ofI e
    · cases e
  · rename_i t r a b
    obtain ⟨w, wr, rfl, hv, w2, wr2, rfl, hv2, hn⟩ := ha
    rw [show wr2 = [] from hn]
    split at e
    · obtain ⟨x, rfl, hx, e⟩ := onV_spec hv e
      obtain ⟨y, rfl, hy, e⟩ := onV_spec hv2 e
      obtain ⟨m, rfl, rfl, e⟩ := isI_spec hx e
      obtain ⟨n, rfl, rfl, e⟩ := isI_spec hy e
      have e := asI_spec e
      rw [imax_eq] at e
      unfold bltv mxv
      simp only [keq_self]
      exact hk _ _ RD.ofI e
    · cases e
  · cases e
theorem ptrsK_spec : ∀ {l : List DV} {ws : List Value} {kk : List AP → Option β}, RAs ads φ l ws → ptrsK l kk = some out → ∃ ps, RPs φ ps ws ∧ kk ps = some out
  | [], ws, kk, hl, e => ⟨[], hl, e⟩
  | d :: r, _, kk, ⟨w, wr, rfl, h1, h2⟩, e => by
    obtain ⟨x, rfl, hx, e⟩ := onV_spec h1 (show onV d _ = some out from e)
    obtain ⟨q, pa, rfl, rfl, hq, e⟩ := isP_spec hx e
    obtain ⟨ps, h3, e⟩ := ptrsK_spec h2 e
    exact ⟨q :: ps, ⟨pa, wr, rfl, hq, h3⟩, e⟩
/-- Pieces of a struct. -/
def RCh (ads : List Addr) (φ : Phi) : List (List AV) → List (List Value) → Prop
  | [], c => c = []
  | l :: r, c => ∃ w wr, c = w :: wr ∧ RL ads φ l w ∧ RCh ads φ r wr
theorem RCh.split : ∀ {sizes : List Nat} {l : List AV} {ws : List Value}, RL ads φ l ws → RCh ads φ (splitD sizes l) (splitL sizes ws)
  | [], l, ws, h => rfl
  | n :: r, l, ws, h => ⟨_, _, rfl, h.take, RCh.split h.drop⟩
theorem RCh.join : ∀ {c : List (List AV)} {cw : List (List Value)}, RCh ads φ c cw → RL ads φ (joinD c) (joinL cw)
  | [], _, h => by rw [show _ = [] from h]; rfl
  | l :: r, _, ⟨w, wr, rfl, h1, h2⟩ => by
    show RL ads φ (lapp l (joinD r)) (w ++ joinL wr)
    rw [lapp_eq]; exact h1.app h2.join
theorem RCh.set : ∀ {i : Nat} {c : List (List AV)} {cw : List (List Value)} {l : List AV} {ws : List Value}, RCh ads φ c cw → RL ads φ l ws → RCh ads φ (c.set i l) (cw.set i ws)
  | i, [], _, l, ws, h, hl => by rw [show _ = [] from h]; cases i <;> rfl
  | 0, _ :: r, _, l, ws, ⟨w, wr, rfl, h1, h2⟩, hl => ⟨_, _, rfl, hl, h2⟩
  | i + 1, _ :: r, _, l, ws, ⟨w, wr, rfl, h1, h2⟩, hl => ⟨_, _, rfl, h1, RCh.set h2 hl⟩
def RPt (ads : List Addr) (φ : Phi) : List (Nat × DV) → List (Nat × Value) → Prop
  | [], c => c = []
  | (i, d) :: r, c => ∃ w wr, c = (i, w) :: wr ∧ RD ads φ d w ∧ RPt ads φ r wr
theorem okc_rv {X : Prop} (hv : RV ads φ v w) (hx : X) : okc w X := okc_intro hv.one hx
theorem partD_sound {kk : List AV → Option β} {KK : List Value → Prop} (hd : RD ads φ d w) (e : partD n d kk = some out) (hk : ∀ l ws, RL ads φ l ws → kk l = some out → KK ws) : partv n w KK := by
  cases d with
  | v a =>
    have hv : RV ads φ a w := hd
    unfold partD at e
    dsimp only at e
    split at e
    · have h1 := hk _ _ (RL.cons hv RL.nil) e
      have h2 := okc_rv hv h1
      unfold partv
      cases hv <;> exact h2
    · cases e
  | a L =>
    obtain ⟨ws, rfl, h1⟩ := hd
    obtain ⟨h2, e⟩ := must_spec (show must (Nat.beq (llen L) n) (kk L) = some out from e)
    have h2 := beq_true h2
    rw [llen_eq] at h2
    unfold partv
    exact ⟨by rw [← h2]; simpa using h1.len, by simpa using hk _ _ h1 e⟩
  | u => cases e
  | n => cases e
  | c x r => cases e
theorem putD_sound {sizes : List Nat} {kk : List (List AV) → Option β} {KK : List (List Value) → Prop} (hk : ∀ c cw, RCh ads φ c cw → kk c = some out → KK cw) :
    ∀ {ps : List (Nat × DV)} {pw : List (Nat × Value)} {c : List (List AV)} {cw : List (List Value)}, RPt ads φ ps pw → RCh ads φ c cw → putD sizes ps c kk = some out → putParts sizes pw cw KK
  | [], pw, c, cw, hp, hc, e => by rw [show pw = [] from hp]; exact hk _ _ hc e
  | (i, d) :: r, _, c, cw, ⟨w, wr, rfl, h1, h2⟩, hc, e => by
    unfold putD at e
    unfold putParts
    split at e
    · rename_i n hn
      simp only [hn]
      exact partD_sound h1 e fun l ws hl e => putD_sound hk h2 (hc.set hl) e
    · cases e
theorem buildD_sound {ps : List (Nat × DV)} {pw : List (Nat × Value)} (hp : RPt ads φ ps pw) (e : buildD P t ps k = some out) (hk : On ads φ k out K) : buildv P t pw K := by
  unfold buildD at e
  unfold buildv
  split at e
  · rename_i it fs hi hu
    split at e
    · rename_i z sizes hz hl
      split at e
      · rename_i zl hb ha
        simp only [hi, hu, hz, hl, hb]
        exact putD_sound (fun c cw hc e => hk _ _ (RD.ofL hc.join) e) hp (RCh.split (acL_rel ha)) e
      · cases e
    · cases e
  · rename_i it n el hi hu
    split at e
    · rename_i z hz hl
      split at e
      · rename_i zl hb ha
        simp only [hi, hu, hz, hl, hb]
        exact putD_sound (fun c cw hc e => hk _ _ (RD.ofL hc.join) e) hp (RCh.split (acL_rel ha)) e
      · cases e
    · cases e
  · cases e
theorem asT_spec {T : TypeId} {z : AV} {zv : Value} {kk : AV → Bool → Option β} (hz : RV ads φ z zv) (hzo : zeroOf P T = some zv) (hv : RV ads φ v w) (e : asT T z v kk = some out) :
    ∃ x t xw, RV ads φ x xw ∧ asr P T w = some (xw, t) ∧ kk x t = some out := by
  cases hv <;> first | cases e | skip
  case ni => exact ⟨z, false, zv, hz, by unfold asr; simp only [hzo], e⟩
  case er i a ha =>
    obtain ⟨h1, e⟩ := must_spec (show must (bnot (Nat.beq errT T)) (kk z false) = some out from e)
    rw [bnot_eq] at h1
    have h1 : Nat.beq errT T = false := by simpa using h1
    refine ⟨z, false, zv, hz, ?_, e⟩
    unfold asr ptE
    have h2 : Nat.beq 410 T = false := h1
    simp only [h2, hzo]
  case ifc t x xw hx =>
    have e1 : Bool.rec (motive := fun _ => Option β) (kk z false) (kk x true) (Nat.beq t T) = some out := e
    unfold asr
    cases hb : Nat.beq t T with
    | true => rw [hb] at e1; simp only [hb]; exact ⟨x, true, xw, hx, rfl, e1⟩
    | false => rw [hb] at e1; simp only [hb, hzo]; exact ⟨z, false, zv, hz, rfl, e1⟩
theorem oneD_any {ty : TypeDesc} {T : TypeId} (hu : P.underlying T = some ty) (hns : ∀ fs, ty ≠ .struct fs) (hna : ∀ n e, ty ≠ .array n e) (hv : RV ads φ v w) (e : oneD ty v k = some out) :
    ∃ d', RE ads φ d' w ∧ k d' = some out ∧ ∀ K : Value → Prop, K w → anyOf P T K := by
  unfold anyOf
  unfold oneD at e
  split at e
  · obtain ⟨n, rfl, rfl, e⟩ := isI_spec hv e; exact ⟨_, RE.ofV hv, e, fun K hK => by simp only [hu]; exact ⟨n, hK⟩⟩
  · obtain ⟨n, rfl, rfl, e⟩ := isB_spec hv e; exact ⟨_, RE.ofV hv, e, fun K hK => by simp only [hu]; exact ⟨n, hK⟩⟩
  · obtain ⟨n, a, rfl, rfl, _, e⟩ := isP_spec hv e; exact ⟨_, RE.ofV hv, e, fun K hK => by simp only [hu]; exact ⟨a, hK⟩⟩
  · obtain ⟨s, a, l, m, rfl, rfl, _, e⟩ := isS_spec hv e; exact ⟨_, RE.ofV hv, e, fun K hK => by simp only [hu]; exact ⟨a, l, m, hK⟩⟩
  · obtain ⟨n, rfl, rfl, _, e⟩ := isG_spec hv e; exact ⟨_, RE.ofV hv, e, fun K hK => by simp only [hu]; exact ⟨_, hK⟩⟩
  · rename_i n1 n2 n3 n4 n5
    refine ⟨_, RE.ofV hv, e, fun K hK => ?_⟩
    simp only [hu]
    cases ty <;> first | exact (n1 _ rfl).elim | exact (n2 rfl).elim | exact (n3 _ rfl).elim | exact (n4 _ rfl).elim | exact (n5 rfl).elim | exact (hns _ rfl).elim | exact (hna _ _ rfl).elim | exact ⟨w, hK⟩
theorem asD_sound {T : TypeId} {ok : Bool} (ha : RD ads φ a va) (e : asD P T ok a k = some out) (hk : On ads φ k out K) : asv P T ok va K := by
  unfold asD at e
  split at e
  · cases e
  · cases e
  · cases e
  · rename_i ty z nif hns hna hu hz
    split at e
    · rename_i za hza
      obtain ⟨x, rfl, hx, e⟩ := onV_spec ha e
      obtain ⟨y, t, yw, h1, h2, e⟩ := asT_spec (acst_rel hza) hz hx e
      unfold asv
      split
      · rename_i ms hu'; rw [hu] at hu'; exact (nif ms (Option.some.inj hu')).elim
      · rename_i d nif2 hu'
        rw [hu] at hu'; cases hu'
        have key : ∀ {kk : DV → Option β}, oneD ty y kk = some out → ∃ d', RE ads φ d' yw ∧ kk d' = some out ∧ ∀ K : Value → Prop, K yw → anyOf P T K := fun e => oneD_any hu hns hna h1 e
        cases ok with
        | true =>
          obtain ⟨d', h3, e, h4⟩ := key e
          exact h4 _ ⟨t, h2, hk _ _ (show RD ads φ (.c d' (.c (.v (.b t)) .n)) _ from ⟨[yw, .bool t], rfl, yw, _, rfl, h3, _, _, rfl, RV.b t, rfl⟩) e⟩
        | false =>
          obtain ⟨h5, e1⟩ := must_spec e
          obtain ⟨d', h3, e2, h4⟩ := key e1
          subst h5
          exact h4 _ ⟨h2, hk _ _ h3.d e2⟩
      · rename_i hu'; rw [hu] at hu'; cases hu'
    · cases e
  · cases e
end
end Go.Ab
