/- The abstract machine: what operations that act give of the real ones. -/
import Derived.Test.YtgkpnfnkaplebaaGreatDoorAb8
set_option linter.unusedVariables false
set_option linter.unusedSimpArgs false
set_option linter.constructorNameAsVariable false
namespace Go.Ab
open Go.Vc Go.Proofs.YtgkpnfnkaplebaaGreatDoor
section
variable {W : Wd} {ads : List Addr} {φ φ' : Phi} {H H' : AH} {h h' : Heap} {β : Type} {out : β} {p : P4} {o n : Nat} {l : Loc} {v : AV} {w : Value} {P : Program} {t : TypeId} {k : DV → AH → Option β} {K : Value → Heap → Prop}
/-- A block is given up. -/
theorem HR.kill {m : T4 Blk} {nx : P4} (hr : HR W ads φ (.mk m nx) h) (p : P4) : HR W ads φ (.mk (T4.set .dead p .dead m) nx) h := by
  have G : ∀ {q t n es}, T4.get .dead q (T4.set .dead p .dead m) = .c t n es → q ≠ p ∧ T4.get .dead q m = .c t n es := by
    intro q t n es hg
    by_cases hq : q = p
    · subst hq; rw [T4.get_set_same] at hg; cases hg
    · rw [T4.get_set_ne _ _ _ _ _ hq] at hg; exact ⟨hq, hg⟩
  exact ⟨hr.w, fun q t n es hg => hr.blk q t n es (G hg).2, fun p1 q1 t1 n1 es1 t2 n2 es2 l1 l2 hne g1 g2 k1 k2 => hr.inj p1 q1 t1 n1 es1 t2 n2 es2 l1 l2 hne (G g1).2 (G g2).2 k1 k2, hr.dom, hr.mm.turn ⟨fun _ _ hx => Blk.noConfusion hx, fun _ _ _ hx => Blk.noConfusion hx⟩ fun _ _ k _ => k⟩
theorem kilK_spec {kk : AH → Option β} {m : T4 Blk} {nx : P4} (e : kilK (.mk m nx) p kk = some out) : kk (.mk (T4.set .dead p .dead m) nx) = some out := by
  unfold kilK at e
  dsimp only at e
  rwa [T4.setK_eq] at e
theorem mkU_spec {z : Nat} {m : T4 Blk} {nx : P4} {L : List AV} {kk : AS → AH → Option β} (e : mkU z (.mk m nx) L n kk = some out) :
    ∃ t, kk (.su nx 0 0 n n) (.mk (T4.set .dead nx (.c t L.length z) m) nx.succ) = some out ∧ ∀ q : P4, q.num < L.length → T4.get .x q t = (L[q.num]?).getD .x := by
  unfold mkU at e
  obtain ⟨t, e, ht⟩ := wrT_spec (q := .h) (o := 0) rfl e
  unfold alB at e
  dsimp only at e
  rw [T4.setK_eq, P4.succK_eq, llen_eq] at e
  exact ⟨t, e, fun q hq => by rw [ht q, if_pos (by omega)]; simp⟩
theorem rdS_spec {s : AS} {a : Option Addr} {len cap : Nat} {kk : List AV → Option β} (hr : HR W ads φ H h) (hs : RS φ s a len cap) (e : rdS H s n kk = some out) :
    ∃ L ws, RL ads φ L ws ∧ kk L = some out ∧ src h a n ws := by
  cases s with
  | nil =>
    obtain ⟨rfl, _, _⟩ := hs
    obtain ⟨h1, e⟩ := must_spec (show must (Nat.beq n 0) (kk []) = some out from e)
    exact ⟨[], [], rfl, e, rfl⟩
  | sl p o l c =>
    obtain ⟨L, h1, rfl, _, _⟩ := hs
    obtain ⟨X, ws, h2, h3, e⟩ := rdR_spec hr h1 (show rdR H p o n kk = some out from e)
    exact ⟨X, ws, h2, e, h3 _ rfl⟩
  | su p o x l y =>
    obtain ⟨L, h1, rfl, _⟩ := hs
    obtain ⟨X, ws, h2, h3, e⟩ := rdR_spec hr h1 (show rdR H p o n kk = some out from e)
    exact ⟨X, ws, h2, e, h3 _ rfl⟩
  | se p o x l y =>
    obtain ⟨L, h1, h2, rfl, _⟩ := hs
    obtain ⟨h3, e⟩ := must_spec (show must (Nat.beq n 0) (kk []) = some out from e)
    have h3 := beq_true h3
    subst h3
    refine ⟨[], [], rfl, e, ?_⟩
    unfold slcAddr
    split
    · rfl
    · show src h (some (Addr.add ⟨L.b, L.δ + o, none⟩ y)) 0 []
      rw [add_eq]; rfl
theorem chkU_spec {m by' : Nat} {X : Option β} (e : chkU m by' X = some out) : (m * by' ≤ 140737488355328 ∧ 0 < by') ∧ X = some out := by
  obtain ⟨h1, e⟩ := must_spec e
  obtain ⟨h2, e⟩ := must_spec e
  exact ⟨⟨Nat.le_of_ble_eq_true h1, Nat.le_of_ble_eq_true h2⟩, e⟩
theorem row_len {h : Heap} {b o n : Nat} {ws : List Value} (hr : row h b o n = some ws) : ws.length = n := (row_cells hr).1
theorem src_len {a : Option Addr} {ws : List Value} {s : AS} {len cap : Nat} {kk : List AV → Option β} (hr : HR W ads φ H h) (hs : RS φ s a len cap) (e : rdS H s n kk = some out) (hw : src h a n ws) : ws.length = n := by
  cases s with
  | nil =>
    obtain ⟨rfl, _, _⟩ := hs
    obtain ⟨h1, e⟩ := must_spec (show must (Nat.beq n 0) (kk []) = some out from e)
    rw [show ws = [] from hw, beq_true h1]; rfl
  | sl p o l c => obtain ⟨L, h1, rfl, _, _⟩ := hs; exact row_len hw
  | su p o x l y => obtain ⟨L, h1, rfl, _⟩ := hs; exact row_len hw
  | se p o x l y =>
    obtain ⟨L, h1, h2, rfl, _⟩ := hs
    obtain ⟨h3, e⟩ := must_spec (show must (Nat.beq n 0) (kk []) = some out from e)
    have h3 := beq_true h3
    subst h3
    unfold slcAddr at hw
    split at hw
    · exact row_len hw
    · have hw' : src h (some (Addr.add ⟨L.b, L.δ + o, none⟩ y)) 0 ws := hw
      rw [add_eq] at hw'; exact row_len hw'
theorem two_rows {olds news zs : List Value} {z len len2 ncap : Nat} (h1 : olds.length = len * z) (h2 : news.length = len2 * z) (h3 : len + len2 ≤ ncap) (h4 : zs.length = (ncap - (len + len2)) * z) : ncap * z ≤ (olds ++ news ++ zs).length := by
  simp only [List.length_append, h1, h2, h4, ← Nat.add_mul]
  rw [show len + len2 + (ncap - (len + len2)) = ncap by omega]
  exact Nat.le_refl _
/-- A new row, with room behind it. -/
theorem grow_new {z len len2 ncap b : Nat} {m : T4 Blk} {nx : P4} {L : List AV} {olds news zs : List Value} {T : TypeId} {kk : AS → AH → Option β} {h1 : Heap} (hr : HR W ads φ (.mk m nx) h) (hL : RL ads φ L (olds ++ news)) (e : mkU z (.mk m nx) L (len + len2) kk = some out)
    (g1 : olds.length = len * z) (g2 : news.length = len2 * z) (g3 : len + len2 ≤ ncap) (g4 : zs.length = (ncap - (len + len2)) * z) (hb : b = h.size) (hh : h1 = h.push (.cells (olds ++ news ++ zs).toArray T)) :
    ∃ φ' H' s', φ.le φ' ∧ HR W ads φ' H' h1 ∧ RS φ' s' (some ⟨b, 0, none⟩) (len + len2) ncap ∧ kk s' H' = some out := by
  obtain ⟨t, e, ht⟩ := mkU_spec e
  have hlen := hL.len
  obtain ⟨φ', h2, h3, h4⟩ := hr.push (t := t) (n := L.length) (es := z) (κ := ncap) (cs := olds ++ news ++ zs) (T := T) (by simp only [List.length_append] at hlen ⊢; omega) (fun _ => two_rows g1 g2 g3 g4) (fun q hq => by
    obtain ⟨w, k1, k2⟩ := hL.at (n := q.num) (List.getElem?_eq_getElem hq)
    refine ⟨w, by rw [List.getElem?_append_left (by omega)]; exact k1, ?_⟩
    rw [ht q hq, List.getElem?_eq_getElem hq]; exact k2) hh
  exact ⟨φ', _, .su nx 0 0 (len + len2) (len + len2), h2, h4, ⟨⟨h.size, 0, ncap⟩, h3, by rw [hb], rfl, rfl, by show 0 + (len + len2) ≤ ncap; omega⟩, e⟩
/-- The elements are written behind the row, where there is room. -/
theorem grow_in {z len len2 e0 : Nat} {o : Nat} {m : T4 Blk} {nx : P4} {t0 : T4 AV} {n0 : Nat} {L : List AV} {olds news : List Value} {kk : AS → AH → Option β} {h1 : Heap} {oc : Nat} (hr : HR W ads φ (.mk m nx) h) (hl : φ p = some l) (hb : T4.get .dead p m = .c t0 n0 z) (hz : 1 ≤ z) (ho : o = e0 * z)
    (hold : row h l.b (l.δ + o) (len * z) = some olds) (hL : RL ads φ L (olds ++ news)) (e : mkU z (.mk (T4.set .dead p .dead m) nx) L (len + len2) kk = some out)
    (g2 : news.length = len2 * z) (g3 : e0 + (len + len2) ≤ l.κ) (hoc : oc = l.δ + o + len * z) :
    wrs h l.b oc news.length ∧ (h1 = setr h l.b oc news → ∃ φ' H' s', φ.le φ' ∧ HR W ads φ' H' h1 ∧ RS φ' s' (some ⟨l.b, l.δ + o, none⟩) (len + len2) (l.κ - e0) ∧ kk s' H' = some out) := by
  obtain ⟨l', cs, T, h2, h3, h4, h5, h6, h7⟩ := hr.blk p t0 n0 z hb
  rw [hl] at h2; cases h2
  have g6 := h6.2
  have h6 := h6.1 (by omega)
  have g1 := row_len hold
  have hlen := hL.len
  simp only [List.length_append] at hlen
  have hcap : l.δ + e0 * z + (l.κ - e0) * z ≤ cs.size := by
    have : e0 * z + (l.κ - e0) * z = l.κ * z := by rw [← Nat.add_mul, show e0 + (l.κ - e0) = l.κ by omega]
    omega
  have hroom : len * z + len2 * z ≤ (l.κ - e0) * z := by
    rw [← Nat.add_mul]; exact Nat.mul_le_mul_right z (by omega)
  have hend : oc + news.length ≤ cs.size := by omega
  refine ⟨⟨cs, T.1, T.2.1, T.2.2, h3, hend, wrs_ok g6 hend⟩, fun hh => ?_⟩
  subst hh
  obtain ⟨t, e, ht⟩ := mkU_spec e
  obtain ⟨cs', f1, f2, f3⟩ := setr_at (ws := news) (j := oc) h3 hend
  obtain ⟨_, hrow⟩ := row_cells hold
  obtain ⟨φ', k2, k3, k4⟩ := (hr.kill p).new (h' := setr h l.b oc news) (t := t) (n := L.length) (es := z) (κ := l.κ - e0) (b := l.b) (δ := l.δ + o) (cs := cs') (T := T.1) (fz := T.2) (fun b x hx => by
      rw [setr_ne (by rintro rfl; rw [h4] at hx; cases hx)]; exact hr.w b x hx) h4 f1 (by omega) (fun _ => by rw [f2]; omega) (fun q hq => by
      obtain ⟨w, k1, k2⟩ := hL.at (n := q.num) (List.getElem?_eq_getElem hq)
      refine ⟨w, ?_, by rw [ht q hq, List.getElem?_eq_getElem hq]; exact k2⟩
      rw [f3]
      by_cases hi : q.num < olds.length
      · rw [if_neg (by omega)]
        rw [List.getElem?_append_left hi] at k1
        have := hrow _ _ k1
        unfold cell at this
        rw [h3] at this
        exact this
      · rw [if_pos (by omega)]
        rw [List.getElem?_append_right (by omega)] at k1
        rw [show l.δ + o + q.num - oc = q.num - olds.length by omega]; exact k1) (fun p' t' n' es' l' hg hl' => by
      by_cases hq : p' = p
      · subst hq; rw [T4.get_set_same] at hg; cases hg
      · rw [T4.get_set_ne _ _ _ _ _ hq] at hg
        have hne := hr.inj p' p _ _ _ _ _ _ l' l hq hg hb hl' hl
        exact ⟨hne, setr_ne hne⟩) (fun b o hb' hc => by
      rw [setr_ne (by rintro rfl; rw [h3] at hb'; cases hb'; cases hc)]; exact hb') (g6.imp id fun hf => ⟨hf.1, by rw [f2]; exact hf.2⟩)
  exact ⟨φ', _, .su nx 0 0 (len + len2) (len + len2), k2, k4, ⟨⟨l.b, l.δ + o, l.κ - e0⟩, k3, rfl, rfl, rfl, by show 0 + (len + len2) ≤ l.κ - e0; omega⟩, e⟩
abbrev OnS (W : Wd) (ads : List Addr) (φ : Phi) (kk : AS → AH → Option β) (out : β) (K : Value → Heap → Prop) : Prop := ∀ φ' H' h' s' a' l' c', φ.le φ' → HR W ads φ' H' h' → RS φ' s' a' l' c' → kk s' H' = some out → K (.slice a' l' c') h'
theorem appR_sound {z by' : Nat} {s : AS} {a : Option Addr} {len cap len2 : Nat} {el : TypeId} {N : List AV} {news : List Value} {kk : AS → AH → Option β} (hr : HR W ads φ H h) (hs : RS φ s a len cap) (hz : 1 ≤ z) (hN : RL ads φ N news) (hnl : news.length = len2 * z) (e : appR z by' s len2 N H kk = some out) (hk : OnS W ads φ kk out K) :
    (len + len2 ≤ cap → appIn a (K (.slice none (len + len2) cap) h) fun b o =>
          wrs h b (o + len * z) news.length ∧ ∀ h1, h1 = setr h b (o + len * z) news → K (.slice (some ⟨b, o, none⟩) (len + len2) cap) h1) ∧
        (cap < len + len2 → ((len + len2) * by' ≤ 140737488355328 ∧ 0 < by') ∧ ∃ olds : List Value, src h a (len * z) olds ∧
          ∀ (ncap : Nat) (zs : List Value) b h1, len + len2 ≤ ncap → zs.length = (ncap - (len + len2)) * z → b = h.size → h1 = h.push (.cells (olds ++ news ++ zs).toArray el) →
            K (.slice (some ⟨b, 0, none⟩) (len + len2) ncap) h1) := by
  obtain ⟨m, nx⟩ := H
  unfold appR at e
  cases s with
  | nil =>
    obtain ⟨rfl, rfl, rfl⟩ := hs
    dsimp only at e
    cases hb : Nat.beq len2 0 with
    | true =>
      have e := br_t hb e
      have h0 := beq_true hb
      subst h0
      exact ⟨fun _ => hk φ _ h .nil none 0 0 (Phi.le.refl _) hr RS.nils e, fun hlt => by omega⟩
    | false =>
      have e := br_f hb e
      obtain ⟨h1, e⟩ := chkU_spec e
      have h0 := beq_false hb
      refine ⟨fun hle => by omega, fun _ => ⟨by rw [Nat.zero_add]; exact h1, [], by rw [Nat.zero_mul]; rfl, fun ncap zs b h1 q1 q2 q3 q4 => ?_⟩⟩
      obtain ⟨φ', H', s', k1, k2, k3, k4⟩ := grow_new (len := 0) (len2 := len2) (olds := []) hr hN (by rw [Nat.zero_add]; exact e) (by simp) hnl q1 q2 q3 q4
      exact hk φ' H' h1 s' _ _ _ k1 k2 k3 k4
  | sl p o n c =>
    obtain ⟨L, g1, rfl, rfl, rfl⟩ := hs
    dsimp only at e
    rw [forceN_eq] at e
    have e : br (Nat.ble (len + len2) cap) _ _ = some out := e
    cases hb : Nat.ble (len + len2) cap with
    | true =>
      have e := br_t hb e
      have hle := Nat.le_of_ble_eq_true hb
      refine ⟨fun _ => ?_, fun hlt => by omega⟩
      obtain ⟨H', e, h2⟩ := wrL_spec hr g1 hN e
      obtain ⟨h3, _, h4⟩ := h2 (L.δ + o + len * z) (by show _ = L.δ + (o + len * z); omega)
      exact ⟨h3, fun h1 hh => hk φ H' h1 (.sl p o (len + len2) cap) _ _ _ (Phi.le.refl _) (h4 h1 hh) ⟨L, g1, rfl, rfl, rfl⟩ e⟩
    | false =>
      have e := br_f hb e
      obtain ⟨h1, e⟩ := chkU_spec e
      refine ⟨fun hle => absurd hb (by rw [Nat.ble_eq_true_of_le hle]; exact Bool.noConfusion), fun _ => ⟨h1, ?_⟩⟩
      obtain ⟨O, olds, h2, h3, e⟩ := rdR_spec hr g1 e
      have h3 : row h L.b (L.δ + o) (len * z) = some olds := h3 _ rfl
      refine ⟨olds, h3, fun ncap zs b h1 q1 q2 q3 q4 => ?_⟩
      rw [lapp_eq] at e
      obtain ⟨φ', H', s', k1, k2, k3, k4⟩ := grow_new (len := len) (len2 := len2) hr (h2.app hN) e (row_len h3) hnl q1 q2 q3 q4
      exact hk φ' H' h1 s' _ _ _ k1 k2 k3 k4
  | su p o x0 n y0 =>
    obtain ⟨L, g1, rfl, rfl, rfl, g2⟩ := hs
    dsimp only at e
    rw [forceN_eq] at e
    have e : br (Nat.ble (len + len2) y0) _ _ = some out := e
    cases hb : Nat.ble (len + len2) y0 with
    | true =>
      have e := br_t hb e
      have hle := Nat.le_of_ble_eq_true hb
      refine ⟨fun _ => ?_, fun hlt => by omega⟩
      obtain ⟨H', e, h2⟩ := wrL_spec hr g1 hN e
      obtain ⟨h3, _, h4⟩ := h2 (L.δ + o + len * z) (by show _ = L.δ + (o + len * z); omega)
      exact ⟨h3, fun h1 hh => hk φ H' h1 (.su p o x0 (len + len2) y0) _ _ _ (Phi.le.refl _) (h4 h1 hh) ⟨L, g1, rfl, rfl, rfl, g2⟩ e⟩
    | false =>
    have e := br_f hb e
    obtain ⟨t0, n0, es, hb, e⟩ := blkK_spec e
    obtain ⟨h1, e⟩ := must_spec e
    obtain ⟨h2, e⟩ := must_spec e
    obtain ⟨h3, e⟩ := chkU_spec e
    have h1 := beq_true h1
    have h2 : o = x0 * z := beq_true h2
    subst h1
    obtain ⟨O, olds, h4, h5, e⟩ := rdR_spec hr g1 e
    have h5 : row h L.b (L.δ + o) (len * es) = some olds := h5 _ rfl
    have e := kilK_spec e
    rw [lapp_eq] at e
    refine ⟨fun hle => ?_, fun hlt => ⟨h3, olds, h5, fun ncap zs b h1 q1 q2 q3 q4 => ?_⟩⟩
    · show wrs h L.b (L.δ + o + len * es) news.length ∧ _
      refine ⟨(grow_in (h1 := h) hr g1 hb hz h2 h5 (h4.app hN) e hnl (by omega) rfl).1, fun h1 hh => ?_⟩
      obtain ⟨φ', H', s', k1, k2, k3, k4⟩ := (grow_in (h1 := h1) hr g1 hb hz h2 h5 (h4.app hN) e hnl (by omega) rfl).2 hh
      exact hk φ' H' h1 s' _ _ _ k1 k2 k3 k4
    · obtain ⟨φ', H', s', k1, k2, k3, k4⟩ := grow_new (len := len) (len2 := len2) (hr.kill p) (h4.app hN) e (row_len h5) hnl q1 q2 q3 q4
      exact hk φ' H' h1 s' _ _ _ k1 k2 k3 k4
  | se p o x0 n y =>
    obtain ⟨L, g1, g2, rfl, rfl, rfl⟩ := hs
    dsimp only at e
    obtain ⟨t0, n0, es, hb, e⟩ := blkK_spec e
    obtain ⟨h1, e⟩ := must_spec e
    obtain ⟨h2, e⟩ := must_spec e
    obtain ⟨h6, e⟩ := must_spec e
    have h1 := beq_true h1
    have h2 : o = x0 * z := beq_true h2
    have h6 : y = n * z := beq_true h6
    subst h1
    cases hb0 : Nat.beq len2 0 with
    | true =>
      have e := br_t hb0 e
      have h0 := beq_true hb0
      subst h0
      refine ⟨fun _ => ?_, fun hlt => by omega⟩
      have hfin := hk φ _ h (.se p o x0 n y) _ _ _ (Phi.le.refl _) hr ⟨L, g1, g2, rfl, rfl, rfl⟩ e
      obtain ⟨l', cs, T, q1, q2, q3, q4, q5, q6⟩ := hr.blk p t0 n0 es hb
      rw [g1] at q1; cases q1
      have q5 := q5.1 (by omega)
      have hnil : news = [] := List.eq_nil_of_length_eq_zero (by rw [hnl]; exact Nat.zero_mul es)
      subst hnil
      have hcap : L.δ + o + y ≤ cs.size := by
        have : (x0 + n) * es ≤ L.κ * es := Nat.mul_le_mul_right es g2
        rw [Nat.add_mul] at this
        omega
      have hsl : slcAddr (some ⟨L.b, L.δ + o, none⟩) n (L.κ - x0) y = some ⟨L.b, L.δ + o, none⟩ ∨ slcAddr (some ⟨L.b, L.δ + o, none⟩) n (L.κ - x0) y = some ⟨L.b, L.δ + o + y, none⟩ := by
        unfold slcAddr
        split
        · exact .inl rfl
        · refine .inr ?_
          show some (Addr.add ⟨L.b, L.δ + o, none⟩ y) = _
          rw [add_eq]
      rcases hsl with hsl | hsl
      · rw [hsl] at hfin ⊢
        exact ⟨⟨cs, T.1, T.2.1, T.2.2, q2, by simp; omega, .inl rfl⟩, fun h1 hh => by subst hh; exact hfin⟩
      · rw [hsl] at hfin ⊢
        exact ⟨⟨cs, T.1, T.2.1, T.2.2, q2, by simp; omega, .inl rfl⟩, fun h1 hh => by subst hh; exact hfin⟩
    | false =>
      have e := br_f hb0 e
      have h0 := beq_false hb0
      obtain ⟨h3, e⟩ := chkU_spec e
      have e := kilK_spec e
      refine ⟨fun hle => ?_, fun hlt => ⟨by rw [Nat.zero_add]; exact h3, [], ?_, fun ncap zs b h1 q1 q2 q3 q4 => ?_⟩⟩
      · have hcap : ¬ L.κ - x0 = n := by omega
        have ha : slcAddr (some ⟨L.b, L.δ + o, none⟩) n (L.κ - x0) y = some ⟨L.b, L.δ + (o + y), none⟩ := by
          unfold slcAddr
          rw [if_neg hcap]
          show some (Addr.add ⟨L.b, L.δ + o, none⟩ y) = _
          rw [add_eq, Nat.add_assoc]
        rw [ha]
        have e' : mkU es (.mk (T4.set .dead p .dead m) nx) N (0 + len2) kk = some out := by rw [Nat.zero_add]; exact e
        have ho : o + y = (x0 + n) * es := by rw [h2, h6, Nat.add_mul]
        have hrow : row h L.b (L.δ + (o + y)) (0 * es) = some [] := by rw [Nat.zero_mul]; rfl
        have hcp : L.κ - x0 - n = L.κ - (x0 + n) := by omega
        show wrs h L.b (L.δ + (o + y) + 0 * es) news.length ∧ _
        refine ⟨(grow_in (h1 := h) hr g1 hb hz ho hrow (olds := []) hN e' hnl (by omega) rfl).1, fun h1 hh => ?_⟩
        obtain ⟨φ', H', s', k1, k2, k3, k4⟩ := (grow_in (h1 := h1) hr g1 hb hz ho hrow (olds := []) hN e' hnl (by omega) rfl).2 hh
        rw [hcp]
        exact hk φ' H' h1 s' _ _ _ k1 k2 k3 k4
      · rw [Nat.zero_mul]
        unfold slcAddr
        split
        · rfl
        · show src h (some (Addr.add ⟨L.b, L.δ + o, none⟩ y)) 0 []
          rw [add_eq]; rfl
      · obtain ⟨φ', H', s', k1, k2, k3, k4⟩ := grow_new (len := 0) (len2 := len2) (olds := []) (hr.kill p) hN (by rw [Nat.zero_add]; exact e) (by simp) hnl q1 q2 q3 q4
        exact hk φ' H' h1 s' _ _ _ k1 k2 k3 k4
theorem appD_sound {z by' : Nat} {s x : AS} {a a2 : Option Addr} {len cap len2 cap2 : Nat} {el : TypeId} {kk : AS → AH → Option β} (hr : HR W ads φ H h) (hs : RS φ s a len cap) (hx : RS φ x a2 len2 cap2) (e : appD z by' s x H kk = some out) (hk : OnS W ads φ kk out K) :
    ∃ news : List Value, (src h a2 (len2 * z) news ∧ ∀ u ∈ news, u.oneCell' = true) ∧
    (len + len2 ≤ cap → appIn a (K (.slice none (len + len2) cap) h) fun b o =>
          wrs h b (o + len * z) news.length ∧ ∀ h1, h1 = setr h b (o + len * z) news → K (.slice (some ⟨b, o, none⟩) (len + len2) cap) h1) ∧
        (cap < len + len2 → ((len + len2) * by' ≤ 140737488355328 ∧ 0 < by') ∧ ∃ olds : List Value, src h a (len * z) olds ∧
          ∀ (ncap : Nat) (zs : List Value) b h1, len + len2 ≤ ncap → zs.length = (ncap - (len + len2)) * z → b = h.size → h1 = h.push (.cells (olds ++ news ++ zs).toArray el) →
            K (.slice (some ⟨b, 0, none⟩) (len + len2) ncap) h1) := by
  unfold appD at e
  obtain ⟨hz, e⟩ := must_spec e
  have hz := Nat.le_of_ble_eq_true hz
  have e := lenA_spec hx e
  have e0 := e
  obtain ⟨N, news, hN, e, hnews⟩ := rdS_spec hr hx e
  have hnl := src_len hr hx e0 hnews
  exact ⟨news, ⟨hnews, hN.one⟩, appR_sound hr hs hz hN hnl e hk⟩
theorem nmin_eq (a b : Nat) : nmin a b = min a b := by
  unfold nmin
  rw [ble_dec]
  by_cases h : a ≤ b
  · rw [decide_eq_true h]; show a = min a b; omega
  · rw [decide_eq_false h]; show b = min a b; omega
theorem elS_spec {z bt : Nat} (h : elS P t = some (z, bt)) : ∃ el, P.underlying t = some (.slice el) ∧ zok P el = true ∧ z = sz P el ∧ bt = bytesOf P el := by
  unfold elS at h
  split at h
  · rename_i el hu
    split at h
    · rename_i hz; cases h; exact ⟨el, hu, hz, rfl, rfl⟩
    · cases h
  · cases h
theorem zok_info (h : zok P t = true) : hasInfo P t = true := by
  obtain ⟨i, hi, _⟩ := zok_spec h
  simp [hasInfo, hi]
theorem elZ_spec {zl : List AV} (h : elZ P t = some zl) : ∃ el z, P.underlying t = some (.slice el) ∧ zok P el = true ∧ zeroOf P el = some z ∧ acL z.cells.toList = some zl := by
  unfold elZ at h
  split at h
  · rename_i el hu
    split at h
    · rename_i z hz1 hz2; exact ⟨el, z, hu, hz1, hz2, h⟩
    · cases h
  · cases h
theorem appM_sound {z by' : Nat} {zl : List AV} {zv : List Value} {s : AS} {a : Option Addr} {len cap n : Nat} {el : TypeId} {kk : AS → AH → Option β} (hr : HR W ads φ H h) (hs : RS φ s a len cap) (hzl : RL ads φ zl zv) (hzn : zv.length = z) (e : appM z by' zl s n H kk = some out) (hk : OnS W ads φ kk out K) :
    (n * by' ≤ 281474976710656 ∧ n ≤ 9223372036854775807) ∧
    (len + n ≤ cap → appIn a (K (.slice none (len + n) cap) h) fun b o =>
          wrs h b (o + len * z) (joinL (List.replicate n zv)).length ∧ ∀ h1, h1 = setr h b (o + len * z) (joinL (List.replicate n zv)) → K (.slice (some ⟨b, o, none⟩) (len + n) cap) h1) ∧
        (cap < len + n → ((len + n) * by' ≤ 140737488355328 ∧ 0 < by') ∧ ∃ olds : List Value, src h a (len * z) olds ∧
          ∀ (ncap : Nat) (zs : List Value) b h1, len + n ≤ ncap → zs.length = (ncap - (len + n)) * z → b = h.size → h1 = h.push (.cells (olds ++ joinL (List.replicate n zv) ++ zs).toArray el) →
            K (.slice (some ⟨b, 0, none⟩) (len + n) ncap) h1) := by
  unfold appM at e
  obtain ⟨h1, e⟩ := must_spec e
  obtain ⟨h2, e⟩ := must_spec e
  obtain ⟨h3, e⟩ := must_spec e
  refine ⟨⟨Nat.le_of_ble_eq_true h2, Nat.le_of_ble_eq_true h3⟩, appR_sound hr hs (Nat.le_of_ble_eq_true h1) (mkL_rel hzl n) ?_ e hk⟩
  rw [joinL_length, List.map_replicate, sumL_replicate, hzn]
theorem clrD_sound {T : TypeId} {zl : List AV} {s : AS} {a : Option Addr} {len cap : Nat} {kk : AH → Option β} {KK : Heap → Prop} (hT : elZ P T = some zl) (hr : HR W ads φ H h) (hs : RS φ s a len cap) (e : clrD zl s H kk = some out) (hk : ∀ H' h', HR W ads φ H' h' → kk H' = some out → KK h') : clrv P T (.slice a len cap) h KK := by
  obtain ⟨el, z, hu, hzk, hz, hac⟩ := elZ_spec hT
  unfold clrD at e
  have e := lenA_spec hs e
  unfold clrv
  simp only [hu]
  cases len with
  | zero => exact hk H h hr (br_t rfl e)
  | succ n =>
    have e := br_f (show Nat.beq (n + 1) 0 = false from rfl) e
    dsimp only
    have hzl : RL ads φ zl z.cells.toList := acL_rel hac
    have hone := hzl.one
    refine zeroOf_v hz ⟨hone, ?_⟩
    have hN := mkL_rel hzl (n + 1)
    unfold cpS at e
    unfold cpIn
    cases s with
    | nil => obtain ⟨_, h0, _⟩ := hs; cases h0
    | se p o x m y => obtain ⟨_, _, _, _, h0, _⟩ := hs; cases h0
    | sl p o m c =>
      obtain ⟨L, g1, rfl, rfl, rfl⟩ := hs
      obtain ⟨H', e, h2⟩ := wrL_spec hr g1 hN e
      obtain ⟨h3, _, h4⟩ := h2 (L.δ + o) rfl
      exact ⟨h3, fun h1 hh => hk H' h1 (h4 h1 hh) e⟩
    | su p o x m y0 =>
      obtain ⟨L, g1, rfl, rfl, rfl, _⟩ := hs
      obtain ⟨H', e, h2⟩ := wrL_spec hr g1 hN e
      obtain ⟨h3, _, h4⟩ := h2 (L.δ + o) rfl
      exact ⟨h3, fun h1 hh => hk H' h1 (h4 h1 hh) e⟩
theorem copyD_sound {T : TypeId} {z bt : Nat} {d s : AS} {a a2 : Option Addr} {len cap len2 cap2 : Nat} (hT : elS P T = some (z, bt)) (hr : HR W ads φ H h) (hd : RS φ d a len cap) (hs : RS φ s a2 len2 cap2) (e : copyD z d s H k = some out) (hk : On2 W ads φ k out K) :
    copyv P T (.slice a len cap) (.slice a2 len2 cap2) h K := by
  obtain ⟨el, hu, hz, rfl, rfl⟩ := elS_spec hT
  unfold copyD at e
  have e := lenA_spec hd e
  have e := lenA_spec hs e
  rw [forceN_eq, nmin_eq] at e
  have e0 := e
  obtain ⟨N, news, hN, e, hnews⟩ := rdS_spec hr hs e
  unfold copyv
  simp only [hu, zok_info hz]
  refine ⟨news, ⟨hnews, hN.one⟩, ?_⟩
  cases d with
  | nil =>
    obtain ⟨rfl, rfl, rfl⟩ := hd
    exact hk φ H h _ _ (Phi.le.refl _) hr RD.ofI e
  | sl p o n c =>
    obtain ⟨L, g1, rfl, _, _⟩ := hd
    obtain ⟨H', e, h2⟩ := wrL_spec hr g1 hN (show wrL H p o N _ = some out from e)
    obtain ⟨h3, _, h4⟩ := h2 (L.δ + o) rfl
    exact ⟨h3, fun h1 hh => hk φ H' h1 _ _ (Phi.le.refl _) (h4 h1 hh) RD.ofI e⟩
  | su p o x0 n y0 =>
    obtain ⟨L, g1, rfl, _⟩ := hd
    obtain ⟨H', e, h2⟩ := wrL_spec hr g1 hN (show wrL H p o N _ = some out from e)
    obtain ⟨h3, _, h4⟩ := h2 (L.δ + o) rfl
    exact ⟨h3, fun h1 hh => hk φ H' h1 _ _ (Phi.le.refl _) (h4 h1 hh) RD.ofI e⟩
  | se p o x0 n y => cases e
theorem stD_sound {b : P4} {oc : Nat} {d : DV} {kk : AH → Option β} {KK : Heap → Prop} (hr : HR W ads φ H h) (hl : φ b = some l) (ho : oc = l.δ + o) (hd : RD ads φ d w) (e : stD P t H b o d kk = some out) (hk : ∀ H' h', HR W ads φ H' h' → kk H' = some out → KK h') :
    stv P t h l.b oc w KK := by
  unfold stD at e
  unfold stv
  split at e
  · rename_i fs hu
    split at e
    · rename_i hi
      obtain ⟨L, ws, rfl, rfl, hL, e⟩ := onL_spec hd e
      obtain ⟨h1, e⟩ := must_spec e
      have h1 := beq_true h1
      rw [llen_eq] at h1
      have hlen := hL.len
      obtain ⟨H', e, h2⟩ := wrL_spec hr hl hL e
      obtain ⟨h3, h5, h4⟩ := h2 oc ho
      simp only [hu, hi]
      rw [hlen, h1] at h3
      exact ⟨⟨by simpa using hlen.trans h1, h3, by simpa using h5⟩, fun h1 hh => hk H' h1 (h4 h1 (by simpa using hh)) e⟩
    · cases e
  · rename_i n el hu
    split at e
    · rename_i hi
      obtain ⟨L, ws, rfl, rfl, hL, e⟩ := onL_spec hd e
      obtain ⟨h1, e⟩ := must_spec e
      have h1 := beq_true h1
      rw [llen_eq] at h1
      have hlen := hL.len
      obtain ⟨H', e, h2⟩ := wrL_spec hr hl hL e
      obtain ⟨h3, h5, h4⟩ := h2 oc ho
      simp only [hu, hi]
      rw [hlen, h1] at h3
      exact ⟨⟨by simpa using hlen.trans h1, h3, by simpa using h5⟩, fun h1 hh => hk H' h1 (h4 h1 (by simpa using hh)) e⟩
    · cases e
  · rename_i ty hns hna hu
    split at e
    · rename_i hi hs
      obtain ⟨x, rfl, hx, e⟩ := onV_spec hd e
      obtain ⟨H', e, h2⟩ := wrK_spec hr hl hx e
      obtain ⟨h3, h4⟩ := h2 oc ho
      have hres : okc w (wr h l.b oc ∧ ∀ h1, h1 = setc h l.b oc w → KK h1) := okc_rv hx ⟨h3, fun h1 hh => hk H' h1 (h4 h1 hh) e⟩
      simp only [hu, hi, hs]
      cases ty <;> first | exact (hns _ rfl).elim | exact (hna _ _ rfl).elim | exact hres
    · cases e
  · cases e
theorem mapP_rel : ∀ {ps : List AP} {vs : List Value}, RPs φ ps vs → RAs ads φ (mapP ps) vs
  | [], vs, h => h
  | p :: r, _, ⟨a, vr, rfl, h1, h2⟩ => ⟨_, _, rfl, RD.ofV (RV.p h1), mapP_rel h2⟩
theorem appA_rel : ∀ {a b : List DV} {va vb : List Value}, RAs ads φ a va → RAs ads φ b vb → RAs ads φ (appA a b) (va ++ vb)
  | [], b, va, vb, ha, hb => by rw [show va = [] from ha]; exact hb
  | d :: r, b, _, vb, ⟨w, wr, rfl, h1, h2⟩, hb => ⟨_, _, rfl, h1, appA_rel h2 hb⟩
theorem lookD_spec {D : List (Nat × G β)} {f : Nat} {args : List DV} (e : lookD D f args H k = some out) : ∃ x ∈ D, x.1 = f ∧ x.2 args H k = some out := by
  induction D with
  | nil => cases e
  | cons x r ih =>
    obtain ⟨g, y⟩ := x
    have e1 : br (Nat.beq g f) (y args H k) (lookD r f args H k) = some out := e
    cases hb : Nat.beq g f with
    | true => exact ⟨_, List.mem_cons_self, beq_true hb, br_t hb e1⟩
    | false =>
      obtain ⟨x, h1, h2, h3⟩ := ih (br_f hb e1)
      exact ⟨x, List.mem_cons_of_mem _ h1, h2, h3⟩
/-- The functions that may be called stand for the program's. -/
def SndA (P : Program) (ads : List Addr) (D : List (Nat × G β)) : Prop := ∀ x ∈ D, Snd P ads x.1 x.2
theorem callD_sound {D : List (Nat × G β)} {d : DV} {args : List DV} {vs : List Value} (s : Sna W ads) (hD : SndA P ads D) (hr : HR W ads φ H h) (hd : RD ads φ d w) (ha : RAs ads φ args vs) (e : callD D d args H k = some out) (hk : On2 W ads φ k out K) : callv P w vs h K := by
  unfold callD at e
  obtain ⟨x, rfl, hx, e⟩ := onV_spec hd e
  obtain ⟨f, A, L, ds, ps, rfl, hA, hL, e⟩ := fnK_spec hx e
  obtain ⟨y, h1, rfl, e2⟩ := lookD_spec e
  obtain ⟨hb, hS⟩ := hD y h1
  unfold callv
  simp only [hb]
  have := hS W s φ H h _ _ k out K hr (appA_rel (mapP_rel hA) (appA_rel ha (mapP_rel hL))) e2 hk
  simpa using this
theorem lookI_spec {D : List (Nat × G β)} {name : String} {args : List DV} {t : Nat} : ∀ {L : List TypeId}, lookI P D name L t args H k = some out → ∃ f, mth P t name = some f ∧ lookD D f args H k = some out
  | [], e => by cases e
  | T :: r, e => by
    cases hm : mth P T name with
    | none =>
      have e1 : lookI P D name r t args H k = some out := by
        have : lookI P D name (T :: r) t = lookI P D name r t := by
          show (match mth P T name with | some f => _ | none => _) = _
          rw [hm]
        rw [this] at e; exact e
      exact lookI_spec e1
    | some f =>
      have e1 : br (Nat.beq T t) (lookD D f args H k) (lookI P D name r t args H k) = some out := by
        have : lookI P D name (T :: r) t = fun args H K => br (Nat.beq T t) (lookD D f args H K) (lookI P D name r t args H K) := by
          show (match mth P T name with | some f => _ | none => _) = _
          rw [hm]
        rw [this] at e; exact e
      cases hb : Nat.beq T t with
      | true => rw [beq_true hb] at hm; exact ⟨f, hm, br_t hb e1⟩
      | false => exact lookI_spec (br_f hb e1)
theorem ivkD_sound {D : List (Nat × G β)} {d : DV} {name : String} {args : List DV} {vs : List Value} (s : Sna W ads) (hD : SndA P ads D) (hr : HR W ads φ H h) (hd : RD ads φ d w) (ha : RAs ads φ args vs)
    (e : (onV d fun x => isM x fun t y => lookI P D name invT t (.v y :: args) H k) = some out) (hk : On2 W ads φ k out K) : ivk P w name vs h K := by
  obtain ⟨x, rfl, hx, e⟩ := onV_spec hd e
  obtain ⟨t, y, w', rfl, rfl, hy, e⟩ := isM_spec hx e
  obtain ⟨f, hm, e⟩ := lookI_spec e
  obtain ⟨z, h1, rfl, e2⟩ := lookD_spec e
  obtain ⟨hb, hS⟩ := hD z h1
  exact ivk_of hm hb (hS W s φ H h _ _ k out K hr (show RAs ads φ (.v y :: args) (w' :: vs) from ⟨w', vs, rfl, RD.ofV hy, ha⟩) e2 hk)
theorem anyOf_mono {KK K' : Value → Prop} (h : anyOf P t KK) (hk : ∀ u, KK u → K' u) : anyOf P t K' := by
  unfold anyOf at h ⊢
  generalize P.underlying t = d at h ⊢
  cases d with
  | none => obtain ⟨v, h⟩ := h; exact ⟨v, hk _ h⟩
  | some d => cases d <;> first | (obtain ⟨v, h⟩ := h; exact ⟨v, hk _ h⟩) | (obtain ⟨a, b, c, h⟩ := h; exact ⟨a, b, c, hk _ h⟩)
theorem tupD_spec : ∀ {ts : List TypeId} {d : DV} {kk : DV → Option β} {vs : List Value}, RDs ads φ d vs → tupD P ts d kk = some out → ∃ d', RDs ads φ d' vs ∧ kk d' = some out ∧ ∀ K : List Value → Prop, K vs → anyOfs P ts K
  | [], d, kk, vs, hd, e => by
    obtain ⟨rfl, rfl, e⟩ := onN_spec hd e
    exact ⟨.n, rfl, e, fun K hK => hK⟩
  | t :: r, d, kk, vs, hd, e => by
    obtain ⟨x, y, w, wr, rfl, rfl, h1, h2, e⟩ := onC_spec hd e
    obtain ⟨x', h3, e, h4⟩ := castD_spec h1.d e
    obtain ⟨y', h5, e, h6⟩ := tupD_spec h2 e
    refine ⟨.c x' y', ⟨w, wr, rfl, h3, h5⟩, e, fun K hK => ?_⟩
    unfold anyOfs
    exact anyOf_mono (h4 _ (h6 _ hK)) fun u ⟨h7, h8⟩ => h7 ▸ h8
theorem typD_spec {d : DV} {kk : DV → Option β} (hd : RD ads φ d w) (e : typD P t d kk = some out) : ∃ d', RD ads φ d' w ∧ kk d' = some out ∧ ∀ K : Value → Prop, K w → typ P t w K := by
  unfold typD at e
  split at e
  · rename_i ts hu
    split at e
    · rename_i hts
      refine ⟨.u, trivial, e, fun K hK => ?_⟩
      unfold typ
      simp only [hu, hts]
      exact hK
    · rename_i t1 r hts
      cases d with
      | c x y =>
        obtain ⟨vs, rfl, hds⟩ := hd
        obtain ⟨d', h1, e, h2⟩ := tupD_spec hds e
        have h3 : ∃ x' y', d' = .c x' y' := by
          obtain ⟨w, wr, rfl, _⟩ := hds
          cases d' with
          | c x' y' => exact ⟨_, _, rfl⟩
          | n => cases (show (w :: wr : List Value) = [] from h1)
          | u => exact h1.elim
          | v a => exact h1.elim
          | a l => exact h1.elim
        obtain ⟨x', y', rfl⟩ := h3
        refine ⟨.c x' y', ⟨vs, rfl, h1⟩, e, fun K hK => ?_⟩
        unfold typ
        simp only [hu, hts]
        exact h2 _ ⟨rfl, hK⟩
      | n => cases e
      | u => cases e
      | v a => cases e
      | a l => cases e
  · rename_i hnt
    obtain ⟨d', h1, e, h2⟩ := castD_spec hd e
    refine ⟨d', h1.d, e, fun K hK => ?_⟩
    unfold typ
    split
    · rename_i ts hu; exact absurd hu (hnt _)
    · exact h2 K hK
theorem alN_spec {c : Bool} {L : List AV} {ws : List Value} {kk : P4 → AH → Option β} (hr : HR W ads φ H h) (hv : RL ads φ L ws) (e : alN c H L kk = some out) :
    ∃ p H', kk p H' = some out ∧ ∀ (T : TypeId) b h1, b = h.size → h1 = h.push (.cells ws.toArray T) → ∃ φ' l, φ.le φ' ∧ φ' p = some l ∧ l.b = b ∧ l.δ = 0 ∧ HR W ads φ' H' h1 := by
  cases c
  · exact alK_spec hr hv e
  · exact alF_spec hr hv rfl e
theorem new_sound {x : Md} {σ : Nat → DV} {τ : Env} {op : Op} {ty : TypeId} (hr : HR W ads φ H h) (hn : RN ads φ σ τ) (e : newD P σ op (fun c l mk => alN c H l fun p H' => k (mk p) H') = some out) (hk : On2 W ads φ k out K) : ef P x (ev τ) op ty h K := by
  obtain ⟨c, L, mk, cs, vb, T, h1, e, _, _, h2, h3⟩ := newD_spec (x := x) (ty := ty) hn e
  obtain ⟨p, H', e, h4⟩ := alN_spec hr h1 e
  refine h2 h K fun b hh hb he => ?_
  obtain ⟨φ', l, k1, k2, k3, k4, k5⟩ := h4 T b hh hb he
  have := hk φ' H' hh _ _ k1 k5 (h3 φ' p l k2 k4) e
  rwa [k3] at this
theorem two_list {α : Type} {l : List α} {a b : α} {f : α → Value} (h : l = [a, b]) : l.map f = [f a, f b] := by rw [h]; rfl
/-! ### Maps -/
theorem RE.of_reK {d : DV} {kk : DV → Option β} (hd : RD ads φ d w) (e : reK d kk = some out) : RE ads φ d w ∧ kk d = some out := by
  cases d <;> first | cases e | exact ⟨hd, e⟩
theorem same_i64 (k n : Int) : Instr.sameNow (.int .i64) (.int .i64 k) (.int .i64 n) = some (k == n) := rfl
theorem findK_spec {k : Int} {N : Option β} {Y : DV → Option β} : ∀ {l : List ME} {es : List MapEntry} {j : Nat}, RMe ads φ l es → findK k l N Y = some out →
    (∃ i d w, Instr.findNow (.int .i64) (.int .i64 k) es j = some (some (i, w)) ∧ RE ads φ d w ∧ Y d = some out) ∨ (Instr.findNow (.int .i64) (.int .i64 k) es j = some none ∧ N = some out)
  | [], es, j, hl, e => .inr ⟨by rw [show es = [] from hl]; rfl, e⟩
  | .mk n v b :: l, _, j, ⟨w, er, rfl, h2, h3⟩, e => by
    have e1 : br (ieq k n) (Y v) (findK k l N Y) = some out := e
    unfold Instr.findNow
    rw [same_i64]
    cases hb : ieq k n with
    | true =>
      rw [hb] at e1
      rw [ieq_eq] at hb
      rw [show (k == n) = true by simpa using hb]
      exact .inl ⟨j, v, w, rfl, h2, e1⟩
    | false =>
      rw [hb] at e1
      rw [ieq_eq] at hb
      rw [show (k == n) = false by simpa using hb]
      exact findK_spec h3 e1
theorem updK_spec {k : Int} {d : DV} {dw : Value} {c : Nat} (hd : RE ads φ d dw) : ∀ {l : List ME} {es : List MapEntry} {j : Nat} {KK : List ME → Nat → Option β}, RMe ads φ l es → updK k d c l KK = some out →
    ∃ l' c', KK l' c' = some out ∧ ((∃ i v0, Instr.findNow (.int .i64) (.int .i64 k) es j = some (some (j + i, v0)) ∧ RMe ads φ l' (es.modify i fun e => { e with key := .int .i64 k, val := dw }) ∧ c' = c) ∨
      (Instr.findNow (.int .i64) (.int .i64 k) es j = some none ∧ RMe ads φ l' (es ++ [{ key := .int .i64 k, val := dw, born := c }]) ∧ c' = c + 1))
  | [], es, j, KK, hl, e => ⟨_, _, e, .inr (by rw [show es = [] from hl]; exact ⟨rfl, ⟨dw, [], rfl, hd, rfl⟩, rfl⟩)⟩
  | .mk n v b :: l, _, j, KK, ⟨w, er, rfl, h2, h3⟩, e => by
    have e1 : br (ieq k n) (KK (.mk k d b :: l) c) (updK k d c l fun r' c' => KK (.mk n v b :: r') c') = some out := e
    unfold Instr.findNow
    rw [same_i64]
    cases hb : ieq k n with
    | true =>
      rw [hb] at e1
      rw [ieq_eq] at hb
      rw [show (k == n) = true by simpa using hb]
      exact ⟨_, _, e1, .inl ⟨0, w, rfl, ⟨dw, er, rfl, hd, h3⟩, rfl⟩⟩
    | false =>
      rw [hb] at e1
      rw [ieq_eq] at hb
      rw [show (k == n) = false by simpa using hb]
      obtain ⟨l', c', e2, h4⟩ := updK_spec hd (j := j + 1) h3 e1
      refine ⟨_, _, e2, ?_⟩
      rcases h4 with ⟨i, v0, h4, h5, h6⟩ | ⟨h4, h5, h6⟩
      · exact .inl ⟨i + 1, v0, by rw [show j + (i + 1) = j + 1 + i by omega]; exact h4, ⟨w, _, rfl, h2, h5⟩, h6⟩
      · exact .inr ⟨h4, ⟨w, _, rfl, h2, h5⟩, h6⟩
theorem delK_spec {k : Int} : ∀ {l : List ME} {es : List MapEntry} {j : Nat} {KK : List ME → Option β}, RMe ads φ l es → delK k l KK = some out →
    ∃ l', KK l' = some out ∧ ((∃ i v0, Instr.findNow (.int .i64) (.int .i64 k) es j = some (some (j + i, v0)) ∧ RMe ads φ l' (es.eraseIdx i)) ∨ (Instr.findNow (.int .i64) (.int .i64 k) es j = some none ∧ RMe ads φ l' es))
  | [], es, j, KK, hl, e => ⟨_, e, .inr (by rw [show es = [] from hl]; exact ⟨rfl, rfl⟩)⟩
  | .mk n v b :: l, _, j, KK, ⟨w, er, rfl, h2, h3⟩, e => by
    have e1 : br (ieq k n) (KK l) (delK k l fun r' => KK (.mk n v b :: r')) = some out := e
    unfold Instr.findNow
    rw [same_i64]
    cases hb : ieq k n with
    | true =>
      rw [hb] at e1
      rw [ieq_eq] at hb
      rw [show (k == n) = true by simpa using hb]
      exact ⟨_, e1, .inl ⟨0, w, rfl, h3⟩⟩
    | false =>
      rw [hb] at e1
      rw [ieq_eq] at hb
      rw [show (k == n) = false by simpa using hb]
      obtain ⟨l', e2, h4⟩ := delK_spec (j := j + 1) h3 e1
      refine ⟨_, e2, ?_⟩
      rcases h4 with ⟨i, v0, h4, h5⟩ | ⟨h4, h5⟩
      · exact .inl ⟨i + 1, v0, by rw [show j + (i + 1) = j + 1 + i by omega]; exact h4, ⟨w, _, rfl, h2, h5⟩⟩
      · exact .inr ⟨h4, ⟨w, _, rfl, h2, h5⟩⟩
/-- A map turns. -/
theorem HR.mset {l l' : List ME} {c c' : Nat} {L : Loc} {es' : List MapEntry} (hr : HR W ads φ H h) (hb : T4.get .dead p H.m = .m l c) (hl : φ p = some L) (hl' : RMe ads φ l' es') (hh : h' = h.setIfInBounds L.b (.map es'.toArray c')) :
    HR W ads φ (.mk (T4.set .dead p (.m l' c') H.m) H.nx) h' := by
  obtain ⟨L', es, h2, h3, h4, h5⟩ := hr.mm.mb p l c hb
  rw [hl] at h2; cases h2
  have hat : h'[L.b]? = some (.map es'.toArray c') := by
    subst hh; rw [Array.getElem?_setIfInBounds, if_pos rfl, if_pos (Array.getElem?_eq_some_iff.1 h3).1]
  have hne : ∀ b, b ≠ L.b → h'[b]? = h[b]? := fun b hb => by subst hh; rw [Array.getElem?_setIfInBounds, if_neg (Ne.symm hb)]
  have G : ∀ {q : P4} {b : Blk}, q ≠ p → T4.get .dead q (T4.set .dead p (.m l' c') H.m) = b → T4.get .dead q H.m = b := fun hq hg => by rwa [T4.get_set_ne _ _ _ _ _ hq] at hg
  have S : T4.get .dead p (T4.set .dead p (.m l' c') H.m) = .m l' c' := T4.get_set_same _ _ _ _
  have B : ∀ {q : P4} {t n es}, T4.get .dead q (T4.set .dead p (.m l' c') H.m) = .c t n es → T4.get .dead q H.m = .c t n es := fun {q t n es} hg => by
    by_cases hq : q = p
    · subst hq; rw [S] at hg; cases hg
    · exact G hq hg
  have M : ∀ {q : P4} {e k}, T4.get .dead q (T4.set .dead p (.m l' c') H.m) = .m e k → ∃ e' k', T4.get .dead q H.m = .m e' k' := fun {q e k} hg => by
    by_cases hq : q = p
    · subst hq; exact ⟨_, _, hb⟩
    · exact ⟨_, _, G hq hg⟩
  refine ⟨fun b x hx => ?_, fun q t n es hg => ?_, fun p1 q1 t1 n1 es1 t2 n2 es2 l1 l2 hn g1 g2 k1 k2 => hr.inj p1 q1 _ _ _ _ _ _ l1 l2 hn (B g1) (B g2) k1 k2, hr.dom, ⟨fun q e k hg => ?_, fun q r f z hg => ?_, fun p1 q1 e1 k1 e2 k2 l1 l2 hn g1 g2 f1 f2 => ?_⟩⟩
  · rw [hne b (by rintro rfl; rw [h4] at hx; cases hx)]; exact hr.w b x hx
  · obtain ⟨l2, cs, T, k2, k3, k4⟩ := hr.blk q t n es (B hg)
    exact ⟨l2, cs, T, k2, by rw [hne l2.b (fun hx => by rw [hx, h3] at k3; cases k3)]; exact k3, k4⟩
  · by_cases hq : q = p
    · subst hq
      have hg' : T4.get .dead q (T4.set .dead q (.m l' c') H.m) = .m e k := hg
      rw [S] at hg'
      cases hg'
      exact ⟨L, es', hl, hat, h4, hl'⟩
    · have hg' := G hq hg
      obtain ⟨l2, e2, k2, k3, k4⟩ := hr.mm.mb q e k hg'
      exact ⟨l2, e2, k2, by rw [hne l2.b (hr.mm.mj q p _ _ _ _ _ _ hq hg' hb k2 hl)]; exact k3, k4⟩
  · have hq : q ≠ p := by
      rintro rfl
      have hg' : T4.get .dead q (T4.set .dead q (.m l' c') H.m) = .it r f z := hg
      rw [S] at hg'; cases hg'
    obtain ⟨l2, m2, k2, k3, k4⟩ := hr.mm.ib q r f z (G hq hg)
    exact ⟨l2, m2, k2, by rw [hne l2.b (fun hx => by rw [hx, h3] at k3; cases k3)]; exact k3, k4⟩
  · obtain ⟨_, _, g1'⟩ := M g1
    obtain ⟨_, _, g2'⟩ := M g2
    exact hr.mm.mj p1 q1 _ _ _ _ l1 l2 hn g1' g2' f1 f2
theorem wrM_spec {l' : List ME} {c' : Nat} {kk : AH → Option β} (e : wrM H p l' c' kk = some out) : kk (.mk (T4.set .dead p (.m l' c') H.m) H.nx) = some out := by
  obtain ⟨m, nx⟩ := H
  unfold wrM at e
  dsimp only at e
  rwa [T4.setK_eq] at e
theorem alO_spec {m : T4 Blk} {nx : P4} {b : Blk} {kk : P4 → AH → Option β} (e : alO (.mk m nx) b kk = some out) : kk nx (.mk (T4.set .dead nx b m) nx.succ) = some out := by
  unfold alO at e
  dsimp only at e
  rwa [T4.setK_eq, P4.succK_eq] at e
/-- A new block that is no cells. -/
def RO (φ : Phi) (b : Blk) (o : Obj) : Prop := (b = .m [] 0 ∧ o = .map #[] 0) ∨ ∃ q f z r, b = .it q f z ∧ o = .mapIter r f #[] z ∧ RM φ q r ∧ f ≤ z
theorem HR.newO {m : T4 Blk} {nx : P4} {b : Blk} {o : Obj} (hr : HR W ads φ (.mk m nx) h) (hb : RO φ b o) (hh : h' = h.push o) :
    ∃ φ', φ.le φ' ∧ φ' nx = some ⟨h.size, 0, 0⟩ ∧ HR W ads φ' (.mk (T4.set .dead nx b m) nx.succ) h' := by
  classical
  have hnx : φ nx = none := by
    cases hx : φ nx with
    | none => rfl
    | some l => exact absurd (hr.dom nx l hx) (Nat.lt_irrefl _)
  have hle : φ.le (fun p => if p = nx then some ⟨h.size, 0, 0⟩ else φ p) := fun p l hp => by
    show (if p = nx then _ else φ p) = _
    rw [if_neg (by rintro rfl; rw [hnx] at hp; cases hp)]; exact hp
  have hkeep : ∀ (b : Nat) (x : Obj), h[b]? = some x → h'[b]? = some x := fun b x hx => by
    subst hh; rw [Array.getElem?_push, if_neg (by have := (Array.getElem?_eq_some_iff.1 hx).1; omega)]; exact hx
  have hat : h'[h.size]? = some o := by subst hh; simp
  have hW : W h.size = none := hr.none_of
  have S : T4.get .dead nx (T4.set .dead nx b m) = b := T4.get_set_same _ _ _ _
  have G : ∀ {q : P4} {x : Blk}, q ≠ nx → T4.get .dead q (T4.set .dead nx b m) = x → T4.get .dead q m = x := fun hq hg => by rwa [T4.get_set_ne _ _ _ _ _ hq] at hg
  have N : ∀ {q : P4}, q ≠ nx → (if q = nx then some (⟨h.size, 0, 0⟩ : Loc) else φ q) = φ q := fun hq => if_neg hq
  have B : ∀ {q : P4} {t n es}, T4.get .dead q (T4.set .dead nx b m) = .c t n es → q ≠ nx ∧ T4.get .dead q m = .c t n es := fun {q t n es} hg => by
    by_cases hq : q = nx
    · subst hq; rw [S] at hg; rcases hb with ⟨rfl, _⟩ | ⟨_, _, _, _, rfl, _⟩ <;> cases hg
    · exact ⟨hq, G hq hg⟩
  have lt : ∀ {q : P4} {e k} {l : Loc}, T4.get .dead q m = .m e k → φ q = some l → l.b < h.size := fun hg hl => by
    obtain ⟨l', _, k1, k2, _⟩ := hr.mm.mb _ _ _ hg
    rw [hl] at k1; cases k1
    exact (Array.getElem?_eq_some_iff.1 k2).1
  refine ⟨_, hle, if_pos rfl, ⟨fun b x hx => hkeep _ _ (hr.w b x hx), fun q t n es hg => ?_, fun p1 q1 t1 n1 es1 t2 n2 es2 l1 l2 hn g1 g2 k1 k2 => ?_, fun p l hp => ?_, ⟨fun q e k hg => ?_, fun q r f z hg => ?_, fun p1 q1 e1 k1 e2 k2 l1 l2 hn g1 g2 f1 f2 => ?_⟩⟩⟩
  · obtain ⟨hq, hg⟩ := B hg
    obtain ⟨l2, cs, T, k2, k3, k4, k5, k6, k7⟩ := hr.blk q t n es hg
    refine ⟨l2, cs, T, hle _ _ k2, hkeep _ _ k3, k4, k5, k6, fun q' hq' => ?_⟩
    obtain ⟨v, f1, f2⟩ := k7 q' hq'
    exact ⟨v, f1, f2.mono hle⟩
  · obtain ⟨a1, g1⟩ := B g1
    obtain ⟨a2, g2⟩ := B g2
    exact hr.inj p1 q1 _ _ _ _ _ _ l1 l2 hn g1 g2 ((N a1).symm.trans k1) ((N a2).symm.trans k2)
  · show p.num < nx.succ.num
    rw [P4.num_succ]
    replace hp : (if p = nx then some (⟨h.size, 0, 0⟩ : Loc) else φ p) = some l := hp
    by_cases hq : p = nx
    · subst hq; omega
    · rw [if_neg hq] at hp
      have : p.num < nx.num := hr.dom p l hp
      omega
  · by_cases hq : q = nx
    · subst hq
      have hg' : T4.get .dead q (T4.set .dead q b m) = .m e k := hg
      rw [S] at hg'
      rcases hb with ⟨rfl, rfl⟩ | ⟨_, _, _, _, rfl, _⟩
      · cases hg'; exact ⟨⟨h.size, 0, 0⟩, [], if_pos rfl, hat, hW, rfl⟩
      · cases hg'
    · obtain ⟨l2, e2, k2, k3, k4, k5⟩ := hr.mm.mb q e k (G hq hg)
      exact ⟨l2, e2, hle _ _ k2, hkeep _ _ k3, k4, k5.mono hle⟩
  · by_cases hq : q = nx
    · subst hq
      have hg' : T4.get .dead q (T4.set .dead q b m) = .it r f z := hg
      rw [S] at hg'
      rcases hb with ⟨rfl, rfl⟩ | ⟨q0, f0, z0, r0, rfl, rfl, h1, h2⟩
      · cases hg'
      · cases hg'; exact ⟨⟨h.size, 0, 0⟩, r0, if_pos rfl, hat, hW, rfl, h2, h1.mono hle⟩
    · obtain ⟨l2, m2, k2, k3, k4, k5, k6, k7⟩ := hr.mm.ib q r f z (G hq hg)
      exact ⟨l2, m2, hle _ _ k2, hkeep _ _ k3, k4, k5, k6, k7.mono hle⟩
  · replace f1 : (if p1 = nx then some (⟨h.size, 0, 0⟩ : Loc) else φ p1) = some l1 := f1
    replace f2 : (if q1 = nx then some (⟨h.size, 0, 0⟩ : Loc) else φ q1) = some l2 := f2
    by_cases a1 : p1 = nx
    · have a2 : q1 ≠ nx := fun hx => hn (by rw [a1, hx])
      rw [if_pos a1] at f1; rw [if_neg a2] at f2
      cases f1
      have := lt (G a2 g2) f2
      show h.size ≠ l2.b
      omega
    · rw [if_neg a1] at f1
      by_cases a2 : q1 = nx
      · rw [if_pos a2] at f2
        cases f2
        have := lt (G a1 g1) f1
        show l1.b ≠ h.size
        omega
      · rw [if_neg a2] at f2
        exact hr.mm.mj p1 q1 _ _ _ _ l1 l2 hn (G a1 g1) (G a2 g2) f1 f2
theorem mupA_sound {a : AP} {r : Option Nat} {n : Int} {d : DV} {dw : Value} {kk : AH → Option β} {KK : Heap → Prop} (hr : HR W ads φ H h) (ha : RM φ a r) (hd : RE ads φ d dw) (e : mupA H a n d kk = some out) (hk : ∀ H' h', HR W ads φ H' h' → kk H' = some out → KK h') :
    ∃ (b : Nat) (es : List MapEntry) (c : Nat) (f : Option (Nat × Value)), r = some b ∧ mobj h (some b) = some (es, c) ∧ Instr.findNow (.int .i64) (.int .i64 n) es 0 = some f ∧ ∀ h1, h1 = h.setIfInBounds b (.map (mups es c (.int .i64 n) dw f).1.toArray (mups es c (.int .i64 n) dw f).2) → KK h1 := by
  cases a with
  | nil => cases e
  | gl g => cases e
  | «at» p o =>
    have e : mesK H (.at p o) (fun l c => updK n d c l fun l' c' => wrM H p l' c' kk) = some out := e
    obtain ⟨l, c, es, h1, h2, e, h3⟩ := mesK_spec hr ha e
    obtain ⟨L, h4, rfl⟩ := ha
    obtain ⟨l', c', e0, h5⟩ := updK_spec hd (j := 0) h1 e
    clear e
    have e := wrM_spec e0
    rcases h5 with ⟨i, v0, h5, h6, rfl⟩ | ⟨h5, h6, rfl⟩
    · refine ⟨_, es, _, _, rfl, h2, h5, fun h1' hh => hk _ h1' (hr.mset (h3 p o rfl) h4 h6 (hh.trans ?_)) e⟩
      simp only [mups, Nat.zero_add]
    · exact ⟨_, es, _, _, rfl, h2, h5, fun h1' hh => hk _ h1' (hr.mset (h3 p o rfl) h4 h6 (hh.trans rfl)) e⟩
theorem mdlA_sound {a : AP} {r : Option Nat} {n : Int} {kk : AH → Option β} {KK : Heap → Prop} (hr : HR W ads φ H h) (ha : RM φ a r) (e : mdlA H a n kk = some out) (hk : ∀ H' h', HR W ads φ H' h' → kk H' = some out → KK h') :
    (r = none ∧ KK h) ∨ ∃ (b : Nat) (es : List MapEntry) (c : Nat) (f : Option (Nat × Value)), r = some b ∧ mobj h (some b) = some (es, c) ∧ Instr.findNow (.int .i64) (.int .i64 n) es 0 = some f ∧ ∀ h1, h1 = h.setIfInBounds b (.map (mdels es f).toArray c) → KK h1 := by
  cases a with
  | nil => exact .inl ⟨ha, hk _ _ hr e⟩
  | gl g => cases e
  | «at» p o =>
    have e : mesK H (.at p o) (fun l c => delK n l fun l' => wrM H p l' c kk) = some out := e
    obtain ⟨l, c, es, h1, h2, e, h3⟩ := mesK_spec hr ha e
    obtain ⟨L, h4, rfl⟩ := ha
    obtain ⟨l', e, h5⟩ := delK_spec (j := 0) h1 e
    have e := wrM_spec e
    refine .inr ?_
    rcases h5 with ⟨i, v0, h5, h6⟩ | ⟨h5, h6⟩
    · refine ⟨_, es, _, _, rfl, h2, h5, fun h1' hh => hk _ h1' (hr.mset (h3 p o rfl) h4 h6 (hh.trans ?_)) e⟩
      simp only [mdels, Nat.zero_add]
    · exact ⟨_, es, _, _, rfl, h2, h5, fun h1' hh => hk _ h1' (hr.mset (h3 p o rfl) h4 h6 (hh.trans rfl)) e⟩
theorem allU8_spec : ∀ {l : List Int}, allU8 l = true → ∀ x ∈ l, 0 ≤ x ∧ x < 256
  | [], _, x, hx => by cases hx
  | .ofNat m :: l, e, x, hx => by
    obtain ⟨h1, h2⟩ := band_eq (show band (Nat.ble m 255) (allU8 l) = true from e)
    have h1 := Nat.le_of_ble_eq_true h1
    rcases List.mem_cons.1 hx with rfl | hx
    · have : Int.ofNat m = (m : Int) := rfl
      omega
    · exact allU8_spec h2 x hx
  | .negSucc m :: l, e, x, hx => by cases e
theorem byteA_rel : ∀ l : List Int, RL ads φ (byteA l) (l.map (Value.int .u8))
  | [] => rfl
  | n :: l => RL.cons (.i .u8 n) (byteA_rel l)
theorem byteA_len : ∀ l : List Int, (byteA l).length = l.length
  | [] => rfl
  | n :: l => by show (byteA l).length + 1 = _; rw [byteA_len l]; rfl
/-- The acting operations. -/
theorem efD_sound {D : List (Nat × G β)} {σ : Nat → DV} {τ : Env} {op : Op} {ty : TypeId} (s : Sna W ads) (hD : SndA P ads D) (hr : HR W ads φ H h) (hn : RN ads φ σ τ) (e : efD P D σ op ty H k = some out) (hk : On2 W ads φ k out K) : ef P ⟨false, false⟩ (ev τ) op ty h K := by
  unfold efD at e
  split at e
  · rename_i t a v
    obtain ⟨x, hx0, hx, e⟩ := onV_spec (dev_rel hn a) e
    obtain ⟨q, pa, rfl, hv, hq, e⟩ := isP_spec hx e
    obtain ⟨b, o, L, rfl, h1, rfl, e⟩ := onA_spec hq e
    unfold ef
    simp only [hv]
    show stv P t h L.b (L.δ + o) (ev τ v) fun h1 => K undef h1
    exact stD_sound hr h1 rfl (dev_rel hn v) e fun H' h' hr' e => hk φ H' h' .n undef (Phi.le.refl _) hr' rfl e
  · rename_i f args ts
    unfold ef
    dsimp only
    refine callD_sound s hD hr (dev_rel hn f) (map_args hn args.toList) e fun φ' H' h' d v hl hr' hd e => ?_
    obtain ⟨d', h1, e, h2⟩ := typD_spec hd e
    exact h2 _ (hk φ' H' h' d' v hl hr' h1 e)
  · rename_i r name args ts
    unfold ef
    dsimp only
    refine ivkD_sound s hD hr (dev_rel hn r) (map_args hn args.toList) e fun φ' H' h' d v hl hr' hd e => ?_
    obtain ⟨d', h1, e, h2⟩ := typD_spec hd e
    exact h2 _ (hk φ' H' h' d' v hl hr' h1 e)
  · rename_i args ts
    split at e
    · rename_i sd yd T T2 ha ht
      have hm := map_args (ads := ads) (φ := φ) hn args.toList
      rw [ha] at hm
      obtain ⟨w1, wr, hw, hv1, w2, wr2, rfl, hv2, hnil⟩ := hm
      rw [show wr2 = [] from hnil] at hw
      split at e
      · rename_i z bt e2 hT hu2
        obtain ⟨el, hu, hz, rfl, rfl⟩ := elS_spec hT
        obtain ⟨x, rfl, hx, e⟩ := onV_spec hv1 e
        obtain ⟨s1, a1, l1, c1, rfl, rfl, hs1, e⟩ := isS_spec hx e
        obtain ⟨y, rfl, hy, e⟩ := onV_spec hv2 e
        obtain ⟨s2, a2, l2, c2, rfl, rfl, hs2, e⟩ := isS_spec hy e
        unfold ef
        simp only [hw, ht, hu2]
        unfold appv
        simp only [hu, hz]
        exact appD_sound hr hs1 hs2 e fun φ' H' h' s' a' l' c' hl hr' hs' e => hk φ' H' h' _ _ hl hr' (RD.ofV (RV.s hs')) e
      · rename_i z bt k2 hT hu2
        split at e
        · rename_i zl hZ
          obtain ⟨el, hu, hz, rfl, rfl⟩ := elS_spec hT
          obtain ⟨el', z0, hu', _, hz0, hac⟩ := elZ_spec hZ
          rw [hu] at hu'; cases hu'
          obtain ⟨x, rfl, hx, e⟩ := onV_spec hv1 e
          obtain ⟨s1, a1, l1, c1, rfl, rfl, hs1, e⟩ := isS_spec hx e
          obtain ⟨y, rfl, hy, e⟩ := onV_spec hv2 e
          obtain ⟨n, rfl, rfl, e⟩ := isI_spec hy e
          obtain ⟨m, rfl, e⟩ := natK_spec e
          have hzl : RL ads φ zl z0.cells.toList := acL_rel hac
          have hlen : z0.cells.toList.length = sz P el := by
            obtain ⟨i, hi, z', hz', hs⟩ := zok_spec hz
            have : z' = z0 := by
              unfold zeroOf at hz0
              simp only [hi] at hz0
              rw [hz'] at hz0; cases hz0; rfl
            rw [← this, Array.length_toList, hs]; simp [sz, hi]
          obtain ⟨h1, h2⟩ := appM_sound (el := el) (K := K) hr hs1 hzl hlen e fun φ' H' h' s' a' l' c' hl hr' hs' e => hk φ' H' h' _ _ hl hr' (RD.ofV (RV.s hs')) e
          unfold ef
          simp only [hw, ht, hu2]
          unfold apmv
          simp only [hu, hz]
          refine ⟨⟨by omega, by simpa using h1.1, by simpa using h1.2⟩, zeroOf_v hz0 ⟨hzl.one, ?_⟩⟩
          simpa using h2
        · cases e
      · cases e
    · cases e
  · rename_i args ts
    split at e
    · rename_i sd T ha ht
      split at e
      · rename_i zl hZ
        have hm := map_args (ads := ads) (φ := φ) hn args.toList
        rw [ha] at hm
        obtain ⟨w1, wr, hw, hv1, hnil⟩ := hm
        rw [show wr = [] from hnil] at hw
        obtain ⟨x, rfl, hx, e⟩ := onV_spec hv1 e
        obtain ⟨s1, a1, l1, c1, rfl, rfl, hs1, e⟩ := isS_spec hx e
        unfold ef
        simp only [hw, ht]
        exact clrD_sound hZ hr hs1 e fun H' h' hr' e => hk φ H' h' .n undef (Phi.le.refl _) hr' rfl e
      · cases e
    · cases e
  · rename_i args ts
    split at e
    · rename_i dd sd T T2 ha ht
      split at e
      · rename_i z bt hT
        have hm := map_args (ads := ads) (φ := φ) hn args.toList
        rw [ha] at hm
        obtain ⟨w1, wr, hw, hv1, w2, wr2, rfl, hv2, hnil⟩ := hm
        rw [show wr2 = [] from hnil] at hw
        obtain ⟨x, rfl, hx, e⟩ := onV_spec hv1 e
        obtain ⟨s1, a1, l1, c1, rfl, rfl, hs1, e⟩ := isS_spec hx e
        obtain ⟨y, rfl, hy, e⟩ := onV_spec hv2 e
        obtain ⟨s2, a2, l2, c2, rfl, rfl, hs2, e⟩ := isS_spec hy e
        unfold ef
        simp only [hw, ht]
        exact copyD_sound hT hr hs1 hs2 e hk
      · cases e
    · cases e
  · rename_i s' d a
    split at e
    · rename_i el hs hd
      split at e
      · rename_i he
        obtain ⟨x, hx0, hx, e⟩ := onV_spec (dev_rel hn a) e
        obtain ⟨l, rfl, hv, hb, e⟩ := isG_spec hx e
        unfold ef
        dsimp only
        unfold cvv
        simp only [hs, hd, hv, he]
        intro ncap zs b h1 h2 h3 h4 h5
        obtain ⟨m, nx⟩ := H
        obtain ⟨t, e, ht⟩ := mkU_spec e
        rw [strOf_size] at h2 h3
        rw [bytesV_strOf hb] at h5
        obtain ⟨φ', k1, k2, k3⟩ := hr.pushF (t := t) (n := (byteA l).length) (es := 1) (κ := ncap) (cs := l.map (Value.int .u8) ++ zs) (T := el) (fz := (ncap, ncap + 1)) (by rw [byteA_len]; simp) (fun _ => by simp [h3]; omega) (fun q hq => by
          obtain ⟨w, j1, j2⟩ := (byteA_rel (ads := ads) (φ := φ) l).at (n := q.num) (List.getElem?_eq_getElem hq)
          refine ⟨w, by rw [List.getElem?_append_left (by simpa [byteA_len] using hq)]; exact j1, ?_⟩
          rw [ht q hq, List.getElem?_eq_getElem hq]; exact j2) h5 (.inr ⟨by decide, by simp [h3]; omega⟩)
        rw [strOf_size, ← leni_eq]
        refine hk φ' _ h1 _ _ k1 k3 (RD.ofV (RV.s (s := .su nx 0 0 (leni l) (leni l)) ⟨_, k2, by rw [h4], rfl, rfl, ?_⟩)) e
        show 0 + leni l ≤ ncap
        rw [leni_eq]; omega
      · cases e
    · rename_i el hs hd
      split at e
      · rename_i he
        obtain ⟨x, hx0, hx, e⟩ := onV_spec (dev_rel hn a) e
        obtain ⟨sl, ad, len, cap, rfl, hv, hsl, e⟩ := isS_spec hx e
        have e := lenA_spec hsl e
        obtain ⟨L, ws, h1, e, h2⟩ := rdS_spec hr hsl e
        obtain ⟨xs, rfl, e⟩ := intsK_spec h1 e
        obtain ⟨h3, e⟩ := must_spec e
        have hb : bytesOk xs := allU8_spec h3
        unfold ef
        dsimp only
        unfold cvv
        simp only [hs, hd, hv, he]
        refine ⟨xs.map fun n => UInt8.ofNat n.toNat, by rw [bytesV_of hb]; exact h2, ?_⟩
        exact hk φ H h _ _ (Phi.le.refl _) hr (RD.ofV (RV.g hb)) e
      · cases e
    · cases e
  · rename_i t r
    have fin : alO H (.m [] 0) (fun p H' => k (.v (.mp (.at p 0))) H') = some out → ∀ b h1, b = h.size → h1 = h.push (.map #[] 0) → K (.map (some b)) h1 := by
      intro e b h1 hb hh
      obtain ⟨m, nx⟩ := H
      have e := alO_spec e
      obtain ⟨φ', k1, k2, k3⟩ := hr.newO (.inl ⟨rfl, rfl⟩) hh
      exact hk φ' _ h1 _ _ k1 k3 (RD.ofV (RV.mp (a := .at nx 0) ⟨_, k2, by rw [hb]⟩)) e
    split at e
    · exact fin e
    · rename_i r
      obtain ⟨x, hx0, hx, e⟩ := onV_spec (dev_rel hn r) e
      obtain ⟨kd, n, rfl, hv, e⟩ := isJ_spec hx e
      split at e
      · rename_i k1 e1 hu
        unfold ef
        simp only [hv, hu]
        exact fin e
      · cases e
  · rename_i t a i ok
    split at e
    · rename_i key elem hu
      split at e
      · rename_i z hkey hz
        obtain ⟨x, hx0, hx, e⟩ := onV_spec (dev_rel hn a) e
        obtain ⟨ma, r, rfl, hva, hm, e⟩ := isMp_spec hx e
        obtain ⟨y, hy0, hy, e⟩ := onV_spec (dev_rel hn i) e
        obtain ⟨n, rfl, hvi, e⟩ := isI_spec hy e
        obtain ⟨l, c, es, h1, h2, e, _⟩ := mesK_spec hr hm e
        unfold ef
        dsimp only
        unfold lkv
        simp only [hu]
        have hkey' : ∃ (d : DV) (w : Value) (tb : Bool), RD ads φ d w ∧ lkr P t (ev τ a) (ev τ i) h = some (w, tb) ∧ (castD P elem d fun d' => match (generalizing := false) ok with | true => k (.c d' (.c (.v (.b tb)) .n)) H | false => k d' H) = some out := by
          rcases findK_spec (j := 0) h1 e with ⟨i', d, w, h3, h4, e⟩ | ⟨h3, e⟩
          · refine ⟨d, w, true, h4.d, ?_, e⟩
            simp only [lkr, hu, hva, hvi, hkey, h2, h3]
          · refine ⟨_, z, false, dcst_rel z, ?_, e⟩
            simp only [lkr, hu, hva, hvi, hkey, h2, h3, hz]
        obtain ⟨d, w, tb, hd, hl, e⟩ := hkey'
        obtain ⟨d', h3, e, h4⟩ := castD_spec hd e
        have := h4 (fun v => ∃ b : Bool, lkr P t (ev τ a) (ev τ i) h = some (v, b) ∧ match (generalizing := false) ok with | true => K (.tuple #[v, .bool b]) h | false => K v h) (by
          refine ⟨tb, hl, ?_⟩
          cases ok with
          | true => exact hk φ H h (.c d' (.c (.v (.b tb)) .n)) (.tuple #[w, .bool tb]) (Phi.le.refl _) hr (⟨[w, .bool tb], rfl, w, [.bool tb], rfl, h3, .bool tb, [], rfl, RV.b tb, rfl⟩ : RD ads φ (.c d' (.c (.v (.b tb)) .n)) (.tuple #[w, .bool tb])) e
          | false => exact hk φ H h _ _ (Phi.le.refl _) hr h3.d e)
        refine anyOf_mono this fun u hu => ?_
        obtain ⟨rfl, hu⟩ := hu
        exact hu
      · cases e
    · cases e
  · rename_i t m k' v
    split at e
    · rename_i key elem hu
      split at e
      · rename_i hkey
        obtain ⟨x, hx0, hx, e⟩ := onV_spec (dev_rel hn m) e
        obtain ⟨ma, r, rfl, hva, hm, e⟩ := isMp_spec hx e
        obtain ⟨y, hy0, hy, e⟩ := onV_spec (dev_rel hn k') e
        obtain ⟨n, rfl, hvi, e⟩ := isI_spec hy e
        obtain ⟨hd, e⟩ := RE.of_reK (dev_rel hn v) e
        obtain ⟨b, es, c, f, rfl, h1, h2, h3⟩ := mupA_sound (KK := fun h1 => K undef h1) hr hm hd e fun H' h' hr' e => hk φ H' h' .n undef (Phi.le.refl _) hr' rfl e
        unfold ef
        dsimp only
        unfold mupv
        simp only [hu, hkey, hva, hvi]
        exact ⟨es, c, f, h1, h2, h3⟩
      · cases e
    · cases e
  · rename_i args ts
    split at e
    · rename_i md kd t tr ha ht
      split at e
      · rename_i key elem hu
        split at e
        · rename_i hkey
          have hm := map_args (ads := ads) (φ := φ) hn args.toList
          rw [ha] at hm
          obtain ⟨w1, wr, hw, hv1, w2, wr2, rfl, hv2, hnil⟩ := hm
          rw [show wr2 = [] from hnil] at hw
          obtain ⟨x, rfl, hx, e⟩ := onV_spec hv1 e
          obtain ⟨ma, r, rfl, rfl, hm, e⟩ := isMp_spec hx e
          obtain ⟨y, rfl, hy, e⟩ := onV_spec hv2 e
          obtain ⟨n, rfl, rfl, e⟩ := isI_spec hy e
          have := mdlA_sound (KK := fun h1 => K (.tuple #[]) h1) hr hm e fun H' h' hr' e => hk φ H' h' .n (.tuple #[]) (Phi.le.refl _) hr' rfl e
          unfold ef
          simp only [hw, ht]
          unfold mdelv
          rcases this with ⟨rfl, h1⟩ | ⟨b, es, c, f, rfl, h1, h2, h3⟩
          · simp only [hu, hkey]; exact h1
          · simp only [hu, hkey]; exact ⟨es, c, f, h1, h2, h3⟩
        · cases e
      · cases e
    · cases e
  · rename_i t a
    split at e
    · rename_i key elem hu
      obtain ⟨x, hx0, hx, e⟩ := onV_spec (dev_rel hn a) e
      obtain ⟨ma, r, rfl, hva, hm, e⟩ := isMp_spec hx e
      obtain ⟨l, c, es, h1, h2, e, _⟩ := mesK_spec hr hm e
      obtain ⟨m, nx⟩ := H
      have e := alO_spec e
      unfold ef
      dsimp only
      unfold rngv
      simp only [hu, hva]
      refine ⟨es, c, h2, fun b h1' hb hh => ?_⟩
      obtain ⟨φ', k1, k2, k3⟩ := hr.newO (.inr ⟨ma, c, c, r, rfl, rfl, hm, Nat.le_refl _⟩) hh
      exact hk φ' _ h1' _ _ k1 k3 (RD.ofV (RV.p (p := .at nx 0) ⟨_, k2, by rw [hb]⟩)) e
    · cases e
  · rename_i a str
    split at e
    · obtain ⟨x, hx0, hx, e⟩ := onV_spec (dev_rel hn a) e
      obtain ⟨q, pa, rfl, hv, hq, e⟩ := isP_spec hx e
      obtain ⟨b, o, L, rfl, h1, rfl, e⟩ := onA_spec hq e
      obtain ⟨h2, e⟩ := must_spec e
      have h2 := beq_true h2
      subst h2
      obtain ⟨q, f, z, h3, e⟩ := itK_spec e
      obtain ⟨L', r, k1, k2, k3, k4, k5, k6⟩ := hr.mm.ib b q f z h3
      rw [h1] at k1; cases k1
      obtain ⟨l, c, es, h4, h5, e, _⟩ := mesK_spec hr k6 e
      obtain ⟨h6, e⟩ := must_spec e
      have h6 := beq_true h6
      rw [lenM_eq, ← h4.len] at h6
      have hes : es = [] := List.eq_nil_of_length_eq_zero h6
      subst hes
      unfold ef
      simp only [hv]
      show (L.δ + 0 = 0 ∧ nxv L.b h _ _)
      refine ⟨by omega, r, f, #[], z, [], c, k2, h5, (fun _ hx => by cases hx), k5, fun _ => ?_, (fun _ hx => by cases hx)⟩
      exact hk φ H h (.c (.v (.b false)) .n) (.tuple #[.bool false]) (Phi.le.refl _) hr (⟨[.bool false], rfl, .bool false, [], rfl, RV.b false, rfl⟩ : RD ads φ (.c (.v (.b false)) .n) (.tuple #[.bool false])) e
    · cases e
  · exact new_sound hr hn e hk
end
end Go.Ab
