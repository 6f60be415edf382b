/- The abstract machine: what each act gives of the real memory. -/
import Derived.Test.YtgkpnfnkaplebaaGreatDoorAb
set_option linter.unusedVariables false
set_option linter.unusedSimpArgs false
namespace Go.Ab
open Go.Vc Go.Proofs.YtgkpnfnkaplebaaGreatDoor
section
variable {W : Wd} {ads : List Addr} {φ φ' : Phi} {H H' : AH} {h h' : Heap} {β : Type} {out : β} {p : P4} {o n : Nat} {l : Loc} {v : AV}
theorem wr_ok {fz : Nat × Nat} {oc sz es : Nat} (h : fz = (0, 0) ∨ es ≠ 0 ∧ sz ≤ fz.1) (ho : oc < sz) : ¬ (fz.1 ≤ oc ∧ oc < fz.2) := by
  rcases h with rfl | h
  · show ¬ (0 ≤ oc ∧ oc < 0); omega
  · omega
theorem wrs_ok {fz : Nat × Nat} {oc sz es n : Nat} (h : fz = (0, 0) ∨ es ≠ 0 ∧ sz ≤ fz.1) (ho : oc + n ≤ sz) : n = 0 ∨ fz.2 ≤ oc ∨ oc + n ≤ fz.1 ∨ fz.2 ≤ fz.1 := by
  rcases h with rfl | h
  · exact .inr (.inl (Nat.zero_le _))
  · exact .inr (.inr (.inl (by omega)))
theorem br_t {c : Bool} {X Y : Option β} (q : c = true) (e : br c X Y = some out) : X = some out := by subst q; exact e
theorem br_f {c : Bool} {X Y : Option β} (q : c = false) (e : br c X Y = some out) : Y = some out := by subst q; exact e
theorem must_spec {c : Bool} {K : Option β} (e : must c K = some out) : c = true ∧ K = some out := by
  cases c
  · cases e
  · exact ⟨rfl, e⟩
theorem kqR_spec {a b : IntKind} (h : kqR a b = true) : a = b := by cases a <;> cases b <;> first | rfl | cases h
theorem br_spec {c : Bool} {X : Option β} (e : br c X none = some out) : c = true ∧ X = some out := by
  cases c
  · cases e
  · exact ⟨rfl, e⟩
theorem isNil_eq {p : AP} {a : Option Addr} (h : RP φ p a) : isNilAddr a = isNilA p := by
  cases p with
  | nil => rw [show a = none from h]; rfl
  | «at» p o => obtain ⟨l, _, rfl⟩ := h; rfl
  | gl g => rw [show a = _ from h]; rfl
theorem onA_spec {p : AP} {a : Option Addr} {k : P4 → Nat → Option β} (hp : RP φ p a) (e : onA p k = some out) : ∃ b o l, p = .at b o ∧ φ b = some l ∧ a = some ⟨l.b, l.δ + o, none⟩ ∧ k b o = some out := by
  cases p with
  | nil => cases e
  | «at» p o => obtain ⟨l, h1, h2⟩ := hp; exact ⟨p, o, l, rfl, h1, h2, e⟩
  | gl g => cases e
theorem blkK_spec {k : T4 AV → Nat → Nat → Option β} (e : blkK H p k = some out) : ∃ t n es, T4.get .dead p H.m = .c t n es ∧ k t n es = some out := by
  obtain ⟨m, nx⟩ := H
  unfold blkK at e
  dsimp only at e
  show ∃ t n es, T4.get .dead p m = .c t n es ∧ _
  cases hb : T4.get .dead p m with
  | dead => rw [hb] at e; cases e
  | m l c => rw [hb] at e; cases e
  | it q f z => rw [hb] at e; cases e
  | c t n es => rw [hb] at e; exact ⟨t, n, es, rfl, e⟩
theorem cell_of_blk {cs : Array Value} {T : TypeId} {fz : Nat × Nat} {b j : Nat} {w : Value} (hb : h[b]? = some (.cells cs T fz)) (hc : cs[j]? = some w) : cell h b j = some w := by
  unfold cell; rw [hb]; exact hc
theorem frcV_spec {K : AV → Option β} {w : Value} (hv : RV ads φ v w) (e : frcV v K = some out) : K v = some out := by
  cases hv <;> exact e
theorem rdK_spec {k : AV → Option β} (hr : HR W ads φ H h) (hl : φ p = some l) (e : rdK H p o k = some out) : ∃ v w, RV ads φ v w ∧ (∀ oc, oc = l.δ + o → cell h l.b oc = some w) ∧ k v = some out := by
  obtain ⟨t, n, es, hb, e⟩ := blkK_spec e
  obtain ⟨h1, e⟩ := must_spec e
  obtain ⟨l', cs, T, h2, h3, h4, h5, h6, h7⟩ := hr.blk p t n es hb
  rw [hl] at h2; cases h2
  obtain ⟨w, h8, h9⟩ := h7 (pth o) (by have := Nat.le_of_ble_eq_true h1; rw [pth_num]; omega)
  exact ⟨_, w, h9, fun oc ho => cell_of_blk h3 (by rw [ho]; rw [pth_num] at h8; exact h8), frcV_spec h9 e⟩
theorem isI_spec {k : IntKind} {K : Int → Option β} {w : Value} (hv : RV ads φ v w) (e : isI k v K = some out) : ∃ n, v = .i k n ∧ w = .int k n ∧ K n = some out := by
  cases hv <;> first | cases e | skip
  rename_i k' n
  obtain ⟨h1, e1⟩ := must_spec (show must (kqR k' k) (K n) = some out from e)
  have h2 := kqR_spec h1
  subst h2
  exact ⟨_, rfl, rfl, e1⟩
theorem isB_spec {K : Bool → Option β} {w : Value} (hv : RV ads φ v w) (e : isB v K = some out) : ∃ n, v = .b n ∧ w = .bool n ∧ K n = some out := by
  cases hv <;> first | exact ⟨_, rfl, rfl, e⟩ | cases e
theorem isP_spec {K : AP → Option β} {w : Value} (hv : RV ads φ v w) (e : isP v K = some out) : ∃ n a, v = .p n ∧ w = .pointer a ∧ RP φ n a ∧ K n = some out := by
  cases hv <;> first | exact ⟨_, _, rfl, rfl, by assumption, e⟩ | cases e
theorem isS_spec {K : AS → Option β} {w : Value} (hv : RV ads φ v w) (e : isS v K = some out) : ∃ s a l c, v = .s s ∧ w = .slice a l c ∧ RS φ s a l c ∧ K s = some out := by
  cases hv <;> first | exact ⟨_, _, _, _, rfl, rfl, by assumption, e⟩ | cases e
theorem isG_spec {K : List Int → Option β} {w : Value} (hv : RV ads φ v w) (e : isG v K = some out) : ∃ n, v = .g n ∧ w = .string (strOf n) ∧ bytesOk n ∧ K n = some out := by
  cases hv <;> first | exact ⟨_, rfl, rfl, by assumption, e⟩ | cases e
theorem isF_spec {K : Nat → List AP → Option β} {w : Value} (hv : RV ads φ v w) (e : isF v K = some out) : ∃ f L vs, v = .fn f L ∧ w = .func (.func f) #[] vs.toArray ∧ RPs φ L vs ∧ K f L = some out := by
  cases hv <;> first | exact ⟨_, _, _, rfl, rfl, by assumption, e⟩ | cases e
theorem fnK_spec {K : Nat → List AP → List AP → Option β} {w : Value} (hv : RV ads φ v w) (e : fnK v K = some out) :
    ∃ f A L us vs, w = .func (.func f) us.toArray vs.toArray ∧ RPs φ A us ∧ RPs φ L vs ∧ K f A L = some out := by
  cases hv <;> first | cases e | skip
  case fn f l vs h => exact ⟨f, [], l, [], vs, rfl, rfl, h, e⟩
  case bm f l vs h => exact ⟨f, l, [], vs, [], rfl, h, rfl, e⟩
theorem isM_spec {K : TypeId → AV → Option β} {w : Value} (hv : RV ads φ v w) (e : isM v K = some out) : ∃ t y w', v = .ifc t y ∧ w = .iface t w' ∧ RV ads φ y w' ∧ K t y = some out := by
  cases hv <;> first | exact ⟨_, _, _, rfl, rfl, by assumption, e⟩ | cases e
theorem isMp_spec {K : AP → Option β} {w : Value} (hv : RV ads φ v w) (e : isMp v K = some out) : ∃ a m, v = .mp a ∧ w = .map m ∧ RM φ a m ∧ K a = some out := by
  cases hv <;> first | exact ⟨_, _, rfl, rfl, by assumption, e⟩ | cases e
theorem RMe.len : ∀ {l : List ME} {es : List MapEntry}, RMe ads φ l es → es.length = l.length
  | [], _, h => by rw [show _ = [] from h]; rfl
  | .mk _ _ _ :: _, _, ⟨w, er, h1, h2, h3⟩ => by rw [h1, List.length_cons, List.length_cons, h3.len]
theorem lenM_eq (l : List ME) : lenM l = l.length := by
  induction l with
  | nil => rfl
  | cons v l ih => show Nat.succ (lenM l) = _; rw [ih]; rfl
theorem mesK_spec {a : AP} {m : Option Nat} {K : List ME → Nat → Option β} (hr : HR W ads φ H h) (ha : RM φ a m) (e : mesK H a K = some out) :
    ∃ l c es, RMe ads φ l es ∧ mobj h m = some (es, c) ∧ K l c = some out ∧ ∀ p o, a = .at p o → T4.get .dead p H.m = .m l c := by
  cases a with
  | nil => rw [show m = none from ha]; exact ⟨[], 0, [], rfl, rfl, e, fun p o hx => by cases hx⟩
  | «at» p o =>
    obtain ⟨L, h1, rfl⟩ := ha
    obtain ⟨mm, nx⟩ := H
    unfold mesK at e
    dsimp only at e
    cases hb : T4.get .dead p mm with
    | dead => rw [hb] at e; cases e
    | c t n es => rw [hb] at e; cases e
    | it q f z => rw [hb] at e; cases e
    | m l c =>
      rw [hb] at e
      obtain ⟨L', es', h2, h3, _, h4⟩ := hr.mm.mb p l c hb
      rw [h1] at h2; cases h2
      refine ⟨l, c, es', h4, by simp only [mobj, h3], e, fun p' o' hx => by cases hx; exact hb⟩
  | gl g => cases e
theorem itK_spec {K : AP → Nat → Nat → Option β} (e : itK H p K = some out) : ∃ q f z, T4.get .dead p H.m = .it q f z ∧ K q f z = some out := by
  obtain ⟨m, nx⟩ := H
  unfold itK at e
  dsimp only at e
  show ∃ q f z, T4.get .dead p m = .it q f z ∧ _
  cases hb : T4.get .dead p m with
  | dead => rw [hb] at e; cases e
  | m l c => rw [hb] at e; cases e
  | it q f z => rw [hb] at e; exact ⟨q, f, z, rfl, e⟩
  | c t n es => rw [hb] at e; cases e
section
variable {d : DV} {w : Value}
theorem onV_spec {K : AV → Option β} (hd : RD ads φ d w) (e : onV d K = some out) : ∃ v, d = .v v ∧ RV ads φ v w ∧ K v = some out := by
  cases d <;> first | cases e | exact ⟨_, rfl, hd, e⟩
theorem onL_spec {K : List AV → Option β} (hd : RD ads φ d w) (e : onL d K = some out) : ∃ l ws, d = .a l ∧ w = .agg ws.toArray ∧ RL ads φ l ws ∧ K l = some out := by
  cases d <;> first | cases e | skip
  obtain ⟨ws, h1, h2⟩ := hd
  exact ⟨_, ws, rfl, h1, h2, e⟩
theorem onC_spec {K : DV → DV → Option β} {vs : List Value} (hd : RDs ads φ d vs) (e : onC d K = some out) : ∃ x r w wr, d = .c x r ∧ vs = w :: wr ∧ RE ads φ x w ∧ RDs ads φ r wr ∧ K x r = some out := by
  cases d <;> first | cases e | skip
  obtain ⟨w, wr, h1, h2, h3⟩ := hd
  exact ⟨_, _, w, wr, rfl, h1, h2, h3, e⟩
theorem onN_spec {K : Option β} {vs : List Value} (hd : RDs ads φ d vs) (e : onN d K = some out) : d = .n ∧ vs = [] ∧ K = some out := by
  cases d <;> first | exact ⟨rfl, hd, e⟩ | cases e
end
theorem isNilS_eq {s : AS} {a : Option Addr} {m c : Nat} (h : RS φ s a m c) : isNilAddr a = isNilS s := by
  cases s with
  | nil => obtain ⟨rfl, _⟩ := h; rfl
  | sl p o n z => obtain ⟨L, _, rfl, _⟩ := h; rfl
  | su p o x n y => obtain ⟨L, _, rfl, _⟩ := h; rfl
  | se p o x n z =>
    obtain ⟨L, _, _, rfl, _⟩ := h
    unfold slcAddr
    split <;> rfl
theorem lenA_spec {s : AS} {a : Option Addr} {m c : Nat} {k : Nat → Option β} (hs : RS φ s a m c) (e : lenA s k = some out) : k m = some out := by
  cases s with
  | nil => obtain ⟨_, rfl, _⟩ := hs; exact e
  | sl p o n z => obtain ⟨_, _, _, rfl, _⟩ := hs; exact e
  | su p o x n y => obtain ⟨_, _, _, rfl, _⟩ := hs; exact e
  | se p o x n z => obtain ⟨_, _, _, _, rfl, _⟩ := hs; exact e
theorem capA_spec {s : AS} {a : Option Addr} {m c : Nat} {k : Nat → Option β} (hs : RS φ s a m c) (e : capA s k = some out) : k c = some out := by
  cases s with
  | nil => obtain ⟨_, _, rfl⟩ := hs; exact e
  | sl p o n z => obtain ⟨_, _, _, _, rfl⟩ := hs; exact e
  | su p o x n y => cases e
  | se p o x n z => cases e
theorem rowT_spec {t : T4 AV} {m : Nat} {cs : Array Value} {T : TypeId} {fz : Nat × Nat} (h3 : h[l.b]? = some (.cells cs T fz)) (h7 : ∀ q : P4, q.num < m → ∃ v, cs[l.δ + q.num]? = some v ∧ RV ads φ (T4.get .x q t) v) :
    ∀ {n o : Nat} {q : P4} {k : List AV → Option β}, q.num = o → o + n ≤ m → rowT t n q k = some out → ∃ L ws, RL ads φ L ws ∧ (∀ oc, oc = l.δ + o → row h l.b oc n = some ws) ∧ k L = some out
  | 0, o, q, k, _, _, e => ⟨[], [], rfl, fun _ _ => rfl, e⟩
  | n + 1, o, q, k, hq, hm, e => by
    obtain ⟨w, h8, h9⟩ := h7 q (by omega)
    have e1 := frcV_spec h9 (show frcV (T4.get .x q t) (fun v => q.succK fun q' => rowT t n q' fun l => k (v :: l)) = some out from e)
    rw [P4.succK_eq] at e1
    obtain ⟨L, ws, h2, h4, e⟩ := rowT_spec h3 h7 (n := n) (o := o + 1) (by rw [P4.num_succ, hq]) (by omega) e1
    refine ⟨_, w :: ws, RL.cons h9 h2, fun oc ho => ?_, e⟩
    have hc : cell h l.b oc = some w := cell_of_blk h3 (by rw [ho, ← hq]; exact h8)
    simp only [row, hc, h4 (oc + 1) (by omega)]
theorem rdR_spec {k : List AV → Option β} (hr : HR W ads φ H h) (hl : φ p = some l) (e : rdR H p o n k = some out) : ∃ L ws, RL ads φ L ws ∧ (∀ oc, oc = l.δ + o → row h l.b oc n = some ws) ∧ k L = some out := by
  obtain ⟨t, m, es, hb, e⟩ := blkK_spec e
  obtain ⟨h1, e⟩ := must_spec e
  obtain ⟨l', cs, T, h2, h3, h4, h5, h6, h7⟩ := hr.blk p t m es hb
  rw [hl] at h2; cases h2
  exact rowT_spec h3 h7 (pth_num o) (Nat.le_of_ble_eq_true h1) e
/-- A block's cells are turned; the rest stays. -/
theorem HR.turn {t t' : T4 AV} {n es : Nat} {cs cs' : Array Value} {T : TypeId} {fz : Nat × Nat} (hr : HR W ads φ H h) (hb : T4.get .dead p H.m = .c t n es) (hl : φ p = some l) (hcs : h[l.b]? = some (.cells cs T fz))
    (hsz : cs'.size = cs.size) (hc : ∀ q : P4, q.num < n → ∃ v, cs'[l.δ + q.num]? = some v ∧ RV ads φ (T4.get .x q t') v) (hh : h'[l.b]? = some (.cells cs' T fz)) (hk : ∀ b, b ≠ l.b → h'[b]? = h[b]?) :
    HR W ads φ (.mk (T4.set .dead p (.c t' n es) H.m) H.nx) h' := by
  obtain ⟨l', cs0, T0, h2, h3, h4, h5, h6, h7⟩ := hr.blk p t n es hb
  rw [hl] at h2; cases h2
  rw [hcs] at h3
  obtain ⟨T0, F0⟩ := T0
  have h3' : cs = cs0 ∧ T = T0 ∧ fz = F0 := by cases h3; exact ⟨rfl, rfl, rfl⟩
  obtain ⟨rfl, rfl, rfl⟩ := h3'
  refine ⟨fun b x hx => ?_, fun q t2 n2 es2 hg => ?_, fun p1 q1 t1 n1 es1 t2 n2 es2 l1 l2 hne g1 g2 k1 k2 => ?_, hr.dom, hr.mm.turn ⟨fun _ _ hx => Blk.noConfusion hx, fun _ _ _ hx => Blk.noConfusion hx⟩ fun b o ho hc => ?_⟩
  · rw [hk b (by rintro rfl; rw [h4] at hx; cases hx)]; exact hr.w b x hx
  · by_cases hq : q = p
    · subst hq
      have hg' : T4.get .dead q (T4.set .dead q (.c t' n es) H.m) = .c t2 n2 es2 := hg
      rw [T4.get_set_same] at hg'
      cases hg'
      exact ⟨l, cs', (T, fz), hl, hh, h4, by omega, ⟨fun hz => by have := h6.1 hz; omega, by rw [hsz]; exact h6.2⟩, hc⟩
    · have hg' : T4.get .dead q (T4.set .dead p (.c t' n es) H.m) = .c t2 n2 es2 := hg
      rw [T4.get_set_ne _ _ _ _ _ hq] at hg'
      obtain ⟨l2, cs2, T2, k2, k3, k4, k5, k6, k7⟩ := hr.blk q t2 n2 es2 hg'
      exact ⟨l2, cs2, T2, k2, by rw [hk l2.b (hr.inj q p _ _ _ _ _ _ _ _ hq hg' hb k2 hl)]; exact k3, k4, k5, k6, k7⟩
  · have G : ∀ q t2 n2 es2, T4.get .dead q (T4.set .dead p (.c t' n es) H.m) = .c t2 n2 es2 → ∃ t3 n3 es3, T4.get .dead q H.m = .c t3 n3 es3 := by
      intro q t2 n2 es2 hg
      by_cases hq : q = p
      · subst hq; exact ⟨_, _, _, hb⟩
      · rw [T4.get_set_ne _ _ _ _ _ hq] at hg; exact ⟨_, _, _, hg⟩
    obtain ⟨_, _, _, g1'⟩ := G p1 _ _ _ g1
    obtain ⟨_, _, _, g2'⟩ := G q1 _ _ _ g2
    exact hr.inj p1 q1 _ _ _ _ _ _ l1 l2 hne g1' g2' k1 k2
  · rw [hk b (by rintro rfl; rw [hcs] at ho; cases ho; cases hc)]; exact ho
theorem setc_at {b j : Nat} {cs : Array Value} {T : TypeId} {fz : Nat × Nat} {w : Value} (hb : h[b]? = some (.cells cs T fz)) : (setc h b j w)[b]? = some (.cells (cs.setIfInBounds j w) T fz) := by
  unfold setc
  rw [Array.getElem?_modify, if_pos rfl, hb]; rfl
theorem setc_ne {b c j : Nat} {w : Value} (hc : c ≠ b) : (setc h b j w)[c]? = h[c]? := by
  unfold setc
  rw [Array.getElem?_modify, if_neg (Ne.symm hc)]
theorem wrK_spec {k : AH → Option β} {w : Value} (hr : HR W ads φ H h) (hl : φ p = some l) (hv : RV ads φ v w) (e : wrK H p o v k = some out) :
    ∃ H', k H' = some out ∧ ∀ oc, oc = l.δ + o → wr h l.b oc ∧ ∀ h1, h1 = setc h l.b oc w → HR W ads φ H' h1 := by
  obtain ⟨m, nx⟩ := H
  unfold wrK at e
  dsimp only at e
  cases hb : T4.get .dead p m with
  | dead => rw [hb] at e; cases e
  | m l c => rw [hb] at e; cases e
  | it q f z => rw [hb] at e; cases e
  | c t n es =>
    rw [hb] at e
    dsimp only at e
    obtain ⟨h1, e⟩ := must_spec e
    obtain ⟨q, hpq, hq⟩ : ∃ q, pth o = q ∧ q.num = o := ⟨_, rfl, pth_num o⟩
    rw [hpq] at e
    rw [T4.setK_eq, T4.setK_eq] at e
    have hb' : T4.get .dead p (AH.mk m nx).m = .c t n es := hb
    obtain ⟨l', cs, T, h2, h3, h4, h5, h6, h7⟩ := hr.blk p t n es hb'
    rw [hl] at h2; cases h2
    have ho := Nat.le_of_ble_eq_true h1
    refine ⟨_, e, fun oc hoc => ⟨⟨cs, T.1, T.2.1, T.2.2, h3, by omega, wr_ok h6.2 (by omega)⟩, fun h1 hh1 => ?_⟩⟩
    subst hh1
    refine hr.turn (cs' := cs.setIfInBounds oc w) hb' hl h3 (by simp) (fun q' hq' => ?_) (setc_at h3) (fun b hb2 => setc_ne hb2)
    by_cases hqq : q' = q
    · subst hqq
      exact ⟨w, by rw [Array.getElem?_setIfInBounds, if_pos (by omega), if_pos (by omega)], by rw [T4.get_set_same]; exact hv⟩
    · obtain ⟨w', k1, k2⟩ := h7 q' hq'
      refine ⟨w', ?_, by rw [T4.get_set_ne _ _ _ _ _ hqq]; exact k2⟩
      rw [Array.getElem?_setIfInBounds, if_neg]
      · exact k1
      · intro hx
        exact hqq (P4.num_inj (by omega))
theorem setr_at {b : Nat} {T : TypeId} {fz : Nat × Nat} : ∀ {ws : List Value} {h : Heap} {j : Nat} {cs : Array Value}, h[b]? = some (.cells cs T fz) → j + ws.length ≤ cs.size → ∃ cs', (setr h b j ws)[b]? = some (.cells cs' T fz) ∧ cs'.size = cs.size ∧
    ∀ i, cs'[i]? = if j ≤ i ∧ i < j + ws.length then ws[i - j]? else cs[i]?
  | [], h, j, cs, hb, _ => ⟨cs, hb, rfl, fun i => by rw [if_neg (by simp)]⟩
  | w :: ws, h, j, cs, hb, hj => by
    simp only [List.length_cons] at hj
    obtain ⟨cs', h1, h2, h3⟩ := setr_at (ws := ws) (h := setc h b j w) (j := j + 1) (setc_at hb) (by simp; omega)
    refine ⟨cs', h1, by rw [h2]; simp, fun i => ?_⟩
    rw [h3 i]
    by_cases hi : i = j
    · subst hi
      rw [if_neg (by omega), if_pos (by simp), Array.getElem?_setIfInBounds, if_pos rfl, if_pos (by omega)]
      simp
    · by_cases hi2 : j + 1 ≤ i ∧ i < j + 1 + ws.length
      · rw [if_pos hi2, if_pos (by simp; omega), show i - j = (i - (j + 1)) + 1 by omega]; simp
      · rw [if_neg hi2, if_neg (by simp; omega), Array.getElem?_setIfInBounds, if_neg (fun hx => hi hx.symm)]
theorem setr_ne {b c : Nat} (hc : c ≠ b) : ∀ {ws : List Value} {h : Heap} {j : Nat}, (setr h b j ws)[c]? = h[c]?
  | [], h, j => rfl
  | w :: ws, h, j => by
    show (setr (setc h b j w) b (j + 1) ws)[c]? = _
    rw [setr_ne hc, setc_ne hc]
theorem llen_eq (L : List AV) : llen L = L.length := by
  induction L with
  | nil => rfl
  | cons v L ih => show Nat.succ (llen L) = _; rw [ih]; rfl
theorem wrT_spec : ∀ {L : List AV} {o : Nat} {q : P4} {t : T4 AV} {k : T4 AV → Option β}, q.num = o → wrT L q t k = some out → ∃ t', k t' = some out ∧ ∀ r : P4, T4.get .x r t' = if o ≤ r.num ∧ r.num < o + L.length then (L[r.num - o]?).getD .x else T4.get .x r t
  | [], o, q, t, k, _, e => ⟨t, e, fun r => by rw [if_neg (by simp)]⟩
  | v :: L, o, q, t, k, hq, e => by
    have e1 : T4.setK .x q v t (fun t' => q.succK fun q' => wrT L q' t' k) = some out := e
    rw [T4.setK_eq, P4.succK_eq] at e1
    obtain ⟨t', e, h3⟩ := wrT_spec (L := L) (o := o + 1) (by rw [P4.num_succ, hq]) e1
    refine ⟨t', e, fun r => ?_⟩
    rw [h3 r]
    by_cases hi : r = q
    · subst hi
      rw [if_neg (by omega), if_pos (by simp; omega), T4.get_set_same, show r.num - o = 0 by omega]
      rfl
    · have hne : r.num ≠ o := fun hx => hi (P4.num_inj (by omega))
      by_cases hi2 : o + 1 ≤ r.num ∧ r.num < o + 1 + L.length
      · rw [if_pos hi2, if_pos (by simp; omega), show r.num - o = (r.num - (o + 1)) + 1 by omega]; simp
      · rw [if_neg hi2, if_neg (by simp; omega), T4.get_set_ne _ _ _ _ _ hi]
theorem wrL_spec {k : AH → Option β} {L : List AV} {ws : List Value} (hr : HR W ads φ H h) (hl : φ p = some l) (hv : RL ads φ L ws) (e : wrL H p o L k = some out) :
    ∃ H', k H' = some out ∧ ∀ oc, oc = l.δ + o → wrs h l.b oc ws.length ∧ (∀ u ∈ ws, u.oneCell' = true) ∧ ∀ h1, h1 = setr h l.b oc ws → HR W ads φ H' h1 := by
  obtain ⟨m, nx⟩ := H
  unfold wrL at e
  dsimp only at e
  cases hb : T4.get .dead p m with
  | dead => rw [hb] at e; cases e
  | m l c => rw [hb] at e; cases e
  | it q f z => rw [hb] at e; cases e
  | c t n es =>
    rw [hb] at e
    dsimp only at e
    obtain ⟨h1, e⟩ := must_spec e
    obtain ⟨t', e, h8⟩ := wrT_spec (pth_num o) e
    rw [T4.setK_eq] at e
    have hb' : T4.get .dead p (AH.mk m nx).m = .c t n es := hb
    obtain ⟨l', cs, T, h2, h3, h4, h5, h6, h7⟩ := hr.blk p t n es hb'
    rw [hl] at h2; cases h2
    have hlen := hv.len
    have ho : o + L.length ≤ n := by have := Nat.le_of_ble_eq_true h1; rw [llen_eq] at this; exact this
    refine ⟨_, e, fun oc hoc => ⟨⟨cs, T.1, T.2.1, T.2.2, h3, by omega, wrs_ok h6.2 (by omega)⟩, hv.one, fun h1' hh1 => ?_⟩⟩
    subst hh1
    obtain ⟨cs', g1, g2, g3⟩ := setr_at (ws := ws) (j := oc) h3 (by omega)
    refine hr.turn (cs' := cs') hb' hl h3 g2 (fun q hq => ?_) g1 (fun b hb2 => setr_ne hb2)
    rw [g3, h8 q]
    by_cases hi : o ≤ q.num ∧ q.num < o + L.length
    · rw [if_pos (by omega), if_pos hi]
      have hj : q.num - o < L.length := by omega
      obtain ⟨w, k1, k2⟩ := hv.at (n := q.num - o) (List.getElem?_eq_getElem hj)
      refine ⟨w, by rw [show l.δ + q.num - oc = q.num - o by omega]; exact k1, ?_⟩
      rw [List.getElem?_eq_getElem hj]; exact k2
    · rw [if_neg (by omega), if_neg hi]
      exact h7 q hq
end
end Go.Ab
