/- What comes out of a queue: of each flow its first ones, in their order; nothing only where nothing is left. -/
import Derived.Test.YtpcilleldanfmaaDoorFqCalm
set_option linter.unusedVariables false
set_option linter.unusedSimpArgs false
namespace Go.Proofs.YtpcilleldanfmaaDoor
section
variable {q : Qu} {f g : Fl} {k d j : Int} {p : Pk} {r l : List Pk} {tg iv now : Int}
/-- Each packet lies in its bucket; each flow that has some has its turn. -/
structure Well (q : Qu) : Prop where
  ok : QOk q
  busy : ∀ k, 0 ≤ k → k < 16 → (q.flow k).l ≠ [] → k ∈ q.fresh ++ q.elder
  wp : ∀ k, 0 ≤ k → k < 16 → ∀ p ∈ (q.flow k).l, bucketZ p.flow q.seed = k
def inB (s k : Int) (l : List Pk) : List Pk := l.filter fun p => decide (bucketZ p.flow s = k)
theorem inB_app (s k : Int) (a b : List Pk) : inB s k (a ++ b) = inB s k a ++ inB s k b := List.filter_append ..
theorem inB_all {s : Int} {l : List Pk} (h : ∀ p ∈ l, bucketZ p.flow s = k) : inB s k l = l := List.filter_eq_self.2 fun p hp => by simp [h p hp]
theorem inB_none {s : Int} {l : List Pk} (h : ∀ p ∈ l, bucketZ p.flow s = j) (hne : j ≠ k) : inB s k l = [] := List.filter_eq_nil_iff.2 fun p hp => by simp [h p hp, hne]
/-- What a step makes of the flows: what went out of one, the others as they were. -/
theorem Well.part (w : Well q) (k0 : 0 ≤ k) (k1 : k < 16) {out : List Pk} {q' : Qu} (hk : (q.flow k).l = out ++ (q'.flow k).l) (hj : ∀ j, 0 ≤ j → j < 16 → j ≠ k → (q'.flow j).l = (q.flow j).l) :
    ∀ j, 0 ≤ j → j < 16 → (q.flow j).l = inB q.seed j out ++ (q'.flow j).l := by
  intro j j0 j1
  have ho : ∀ p ∈ out, bucketZ p.flow q.seed = k := fun p hp => w.wp k k0 k1 p (by rw [hk]; simp [hp])
  by_cases h : j = k
  · subst h; rw [inB_all ho]; exact hk
  · rw [inB_none ho (Ne.symm h), hj j j0 j1 h]; rfl
structure Law (now : Int) (q : Qu) (d : List Pk) (ρ : Qu × List Pk × Option Pk) : Prop where
  w : Well ρ.1
  seed : ρ.1.seed = q.seed
  tg : ρ.1.tg = q.tg
  iv : ρ.1.iv = q.iv
  out : ∃ dd, ρ.2.1 = d ++ dd ∧ (∀ j, 0 ≤ j → j < 16 → (q.flow j).l = inB q.seed j (dd ++ ρ.2.2.toList) ++ (ρ.1.flow j).l) ∧ ∀ p ∈ dd ++ ρ.2.2.toList, 0 ≤ bucketZ p.flow q.seed ∧ bucketZ p.flow q.seed < 16 ∧ p ∈ (q.flow (bucketZ p.flow q.seed)).l
  none : ρ.2.2 = none → ∀ j, 0 ≤ j → j < 16 → (ρ.1.flow j).l = []
theorem Well.setPull (w : Well q) (k0 : 0 ≤ k) (k1 : k < 16) (n0 : 0 ≤ now) (n1 : now ≤ 1125899906842624) : QOk (q.setF k (pullF q.tg q.iv now (q.flow k))) := by
  have hfo := (w.ok.flow k0 k1).2
  exact w.ok.setF k0 k1 (pullF_ok (tg := q.tg) (iv := q.iv) hfo (w.ok.fcnt k0 k1) n0 n1) (by simp [pullF])
theorem popT_seed : q.popT.seed = q.seed := by unfold Qu.popT; split <;> rfl
theorem popT_tg : q.popT.tg = q.tg := by unfold Qu.popT; split <;> rfl
theorem popT_iv : q.popT.iv = q.iv := by unfold Qu.popT; split <;> rfl
theorem mem_popT (ht : q.turn = some k) (hj : j ∈ q.fresh ++ q.elder) (hne : j ≠ k) : j ∈ q.popT.fresh ++ q.popT.elder := by
  unfold Qu.turn at ht
  unfold Qu.popT
  split at ht
  · rename_i k' r e; cases ht; rw [if_neg (by rw [e]; simp)]
    show j ∈ q.fresh.tail ++ q.elder
    rw [e] at hj ⊢; simp at hj ⊢
    rcases hj with h | h | h
    · exact absurd h hne
    · exact .inl h
    · exact .inr h
  · rename_i e; rw [if_pos e]
    show j ∈ q.fresh ++ q.elder.tail
    cases he : q.elder with
    | nil => simp [he] at ht
    | cons x r =>
      simp [he] at ht; subst ht
      rw [e, he] at hj; rw [e]; simp at hj ⊢
      rcases hj with h | h
      · exact absurd h hne
      · exact h
theorem takeN_law (n0 : 0 ≤ now) (n1 : now ≤ 1125899906842624) : ∀ (n : Nat) (q : Qu) (d : List Pk), q.meas < n → Well q → Law now q d (takeN now n q d)
  | 0, q, d, hm, _ => by omega
  | n + 1, q, d, hm, w => by
    have hq := w.ok
    cases ht : q.turn with
    | none =>
      have he : q.fresh = [] ∧ q.elder = [] := by
        unfold Qu.turn at ht
        split at ht
        · cases ht
        · rename_i e; exact ⟨e, List.head?_eq_none_iff.1 ht⟩
      rw [takeN_none ht]
      have hz : ∀ j, 0 ≤ j → j < 16 → (q.flow j).l = [] := fun j j0 j1 => Classical.byContradiction fun hc => by
        have := w.busy j j0 j1 hc
        rw [he.1, he.2] at this; cases this
      exact ⟨w, rfl, rfl, rfl, ⟨[], by simp, fun j j0 j1 => rfl, fun p hp => by simp at hp⟩, fun _ => hz⟩
    | some k =>
      obtain ⟨k0, k1⟩ := hq.b k (turn_mem ht)
      have hfo := (hq.flow k0 k1).2
      have hfc := hq.fcnt k0 k1
      by_cases hd : (q.flow k).deficit ≤ 0
      · rw [takeN_turn ht hd]
        have hd0 := hfo.d0
        have hok1 := hq.setF k0 k1 (setD_ok hfo (d := (q.flow k).deficit + 300) (by omega) (by omega)) (by simp)
        have hok2 := (hok1.popT).addE (popT_not hok1 (k := k) ht) k0 k1
        have hfl : ∀ j, 0 ≤ j → j < 16 → ((((q.setF k ((q.flow k).setD ((q.flow k).deficit + 300))).popT).addE k).flow j).l = (q.flow j).l := fun j j0 j1 => by
          show (((q.setF k _).popT).flow j).l = _
          rw [popT_flow]
          by_cases h : j = k
          · subst h; rw [flow_setF hq k0 k1]; rfl
          · rw [flow_setF_ne k0 j0 h]
        have hsd : (((q.setF k ((q.flow k).setD ((q.flow k).deficit + 300))).popT).addE k).seed = q.seed := popT_seed
        have w2 : Well (((q.setF k ((q.flow k).setD ((q.flow k).deficit + 300))).popT).addE k) := by
          refine ⟨hok2, fun j j0 j1 hl => ?_, fun j j0 j1 p hp => ?_⟩
          · rw [hfl j j0 j1] at hl
            have := w.busy j j0 j1 hl
            show j ∈ ((q.setF k _).popT).fresh ++ (((q.setF k _).popT).elder ++ [k])
            by_cases h : j = k
            · subst h; simp
            · have := mem_popT (q := q.setF k ((q.flow k).setD ((q.flow k).deficit + 300))) ht this h
              rw [← List.append_assoc]; exact List.mem_append_left _ this
          · rw [hfl j j0 j1] at hp; rw [hsd]; exact w.wp j j0 j1 p hp
        obtain ⟨a, b, b1, b2, ⟨dd, c1, c2, c3⟩, e⟩ := takeN_law n0 n1 n _ d (by have := meas_turn hq ht hd; omega) w2
        refine ⟨a, b.trans hsd, b1.trans popT_tg, b2.trans popT_iv, ⟨dd, c1, fun j j0 j1 => ?_, fun p hp => ?_⟩, e⟩
        · rw [← hfl j j0 j1, c2 j j0 j1, hsd]
        · have := c3 p hp; rw [hsd] at this
          exact ⟨this.1, this.2.1, by rw [← hfl _ this.1 this.2.1]; exact this.2.2⟩
      · have hok2 := w.setPull k0 k1 n0 n1
        have hsp : (q.flow k).l = dropF q.tg q.iv now (q.flow k) ++ (pullF q.tg q.iv now (q.flow k)).l := (List.take_append_drop _ _).symm
        have hne : ∀ (g : Fl) j, 0 ≤ j → j < 16 → j ≠ k → (q.setF k g).flow j = q.flow j := fun g j j0 j1 h => flow_setF_ne k0 j0 h
        have hisd := isF_drop (tg := q.tg) (iv := q.iv) hfo hfc n0 n1
        cases his : isF q.tg q.iv now (q.flow k) with
        | true =>
          obtain ⟨p, r, hp⟩ := hisd.1 his
          rw [takeN_some ht hd his hp]
          rw [hp] at hsp
          have hok3 : QOk (q.setF k (((pullF q.tg q.iv now (q.flow k)).setL r).setD ((q.flow k).deficit - p.body.length))) := by
            have hpo := pullF_ok (tg := q.tg) (iv := q.iv) hfo hfc n0 n1
            have hpb := (hpo.p p (by rw [hp]; simp)).2.2
            have hd1 := hfo.d1
            refine hq.setF k0 k1 ⟨hpo.c, fun x hx => hpo.p x (by rw [hp]; simp at hx; simp [hx]), ?_, ?_⟩ ?_
            · simp; omega
            · simp; omega
            · rw [hsp]; simp; omega
          refine ⟨⟨hok3, fun j j0 j1 hl => ?_, fun j j0 j1 x hx => ?_⟩, rfl, rfl, rfl, ⟨_, rfl, ?_, ?_⟩, fun h => by cases h⟩
          · show j ∈ q.fresh ++ q.elder
            by_cases h : j = k
            · subst h; exact turn_mem ht
            · rw [hne _ j j0 j1 h] at hl; exact w.busy j j0 j1 hl
          · show bucketZ x.flow q.seed = j
            by_cases h : j = k
            · subst h; rw [flow_setF hq k0 k1] at hx
              exact w.wp j j0 j1 x (by rw [hsp]; simp at hx; simp [hx])
            · rw [hne _ j j0 j1 h] at hx; exact w.wp j j0 j1 x hx
          · refine w.part k0 k1 ?_ fun j j0 j1 h => by rw [hne _ j j0 j1 h]
            rw [flow_setF hq k0 k1, hsp]; simp
          · intro x hx
            have hm : x ∈ (q.flow k).l := by rw [hsp]; simp at hx; simp; rcases hx with h | h; exact .inl h; exact .inr (.inl h)
            have hb := w.wp k k0 k1 x hm
            rw [hb]; exact ⟨k0, k1, hm⟩
        | false =>
          have hnil : (pullF q.tg q.iv now (q.flow k)).l = [] := by
            cases hl : (pullF q.tg q.iv now (q.flow k)).l with
            | nil => rfl
            | cons p r => rw [hisd.2 ⟨p, r, hl⟩] at his; cases his
          rw [hnil, List.append_nil] at hsp
          have hgd : (pullF q.tg q.iv now (q.flow k)).deficit = (q.flow k).deficit := rfl
          have hmv := meas_empty hq ht hd hgd
          have rest : ∀ q2 : Qu, QOk q2 → q2.seed = q.seed → q2.tg = q.tg → q2.iv = q.iv → (∀ j, q2.flow j = (q.setF k (pullF q.tg q.iv now (q.flow k))).flow j) → (∀ j, j ∈ q.popT.fresh ++ q.popT.elder → j ∈ q2.fresh ++ q2.elder) → q2.meas < n →
              Law now q d (takeN now n q2 (d ++ dropF q.tg q.iv now (q.flow k))) := by
            intro q2 h1 h2 ht2 hi2 h3 h4 h5
            have w2 : Well q2 := by
              refine ⟨h1, fun j j0 j1 hl => ?_, fun j j0 j1 p hp => ?_⟩
              · rw [h3] at hl
                by_cases h : j = k
                · subst h; rw [flow_setF hq k0 k1] at hl; exact absurd hnil hl
                · rw [hne _ j j0 j1 h] at hl
                  exact h4 j (mem_popT ht (w.busy j j0 j1 hl) h)
              · rw [h3] at hp
                rw [h2]
                by_cases h : j = k
                · subst h; rw [flow_setF hq k0 k1, hnil] at hp; cases hp
                · rw [hne _ j j0 j1 h] at hp; exact w.wp j j0 j1 p hp
            obtain ⟨a, b, b1, b2, ⟨dd, c1, c2, c3⟩, e⟩ := takeN_law n0 n1 n q2 (d ++ dropF q.tg q.iv now (q.flow k)) h5 w2
            refine ⟨a, b.trans h2, b1.trans ht2, b2.trans hi2, ⟨dropF q.tg q.iv now (q.flow k) ++ dd, by rw [c1, List.append_assoc], fun j j0 j1 => ?_, fun p hp => ?_⟩, e⟩
            · rw [List.append_assoc, inB_app, List.append_assoc, ← h2, ← c2 j j0 j1, h3, h2]
              refine w.part k0 k1 ?_ (fun j j0 j1 h => by rw [hne _ j j0 j1 h]) j j0 j1
              rw [flow_setF hq k0 k1, hnil, List.append_nil]; exact hsp
            · rw [List.append_assoc] at hp
              rcases List.mem_append.1 hp with hp | hp
              · have hm : p ∈ (q.flow k).l := by rw [hsp]; exact hp
                have hb := w.wp k k0 k1 p hm
                rw [hb]; exact ⟨k0, k1, hm⟩
              · have := c3 p hp
                rw [h2, h3] at this
                refine ⟨this.1, this.2.1, ?_⟩
                by_cases h : bucketZ p.flow q.seed = k
                · rw [h, flow_setF hq k0 k1, hnil] at this; cases this.2.2
                · rw [hne _ _ this.1 this.2.1 h] at this; exact this.2.2
          by_cases hm2 : q.fresh ≠ [] ∧ q.elder ≠ []
          · rw [takeN_move ht hd his hm2]
            refine rest _ ((hok2.popT).addE (popT_not hok2 (k := k) ht) k0 k1) popT_seed popT_tg popT_iv (fun j => by show ((q.setF k _).popT).flow j = _; rw [popT_flow]) (fun j hj => ?_) (by have := hmv.2 hm2.1; omega)
            show j ∈ ((q.setF k _).popT).fresh ++ (((q.setF k _).popT).elder ++ [k])
            rw [setF_popT, ← List.append_assoc]; exact List.mem_append_left _ hj
          · rw [takeN_gone ht hd his hm2]
            refine rest _ hok2.popT popT_seed popT_tg popT_iv (fun j => popT_flow j) (fun j hj => ?_) (by have := hmv.1; omega)
            rw [setF_popT]; exact hj
theorem take_law (n0 : 0 ≤ now) (n1 : now ≤ 1125899906842624) (w : Well q) : Law now q [] (q.take now) := takeN_law n0 n1 _ q [] (Nat.lt_succ_self _) w
theorem well0 (seed tg iv : Int) : Well (qu0 seed tg iv) := by
  have hz : ∀ k : Int, ((qu0 seed tg iv).flow k).l = [] := fun k => by
    unfold Qu.flow qu0
    simp only [List.getElem?_replicate]
    split <;> rfl
  exact ⟨qok0 _ _ _, fun k _ _ h => absurd (hz k) h, fun k _ _ p hp => by rw [hz] at hp; cases hp⟩
/-- A put: its flow is the longer by it. -/
theorem Well.put (w : Well q) (h0 : 0 ≤ p.at_) (h1 : p.at_ ≤ 1125899906842624) (hl : p.body.length ≤ 1048576) (hc : q.cnt < 1048576) :
    Well (q.put p) ∧ ((q.put p).flow (bucketZ p.flow q.seed)).l = (q.flow (bucketZ p.flow q.seed)).l ++ [p] ∧ ∀ j, 0 ≤ j → j ≠ bucketZ p.flow q.seed → (q.put p).flow j = q.flow j := by
  obtain ⟨k0, k1⟩ := bucketZ_bd p.flow q.seed
  have hok := (w.ok.put h0 h1 hl hc).1
  have hs := put_seed q p
  have fk : ((q.put p).flow (bucketZ p.flow q.seed)).l = (q.flow (bucketZ p.flow q.seed)).l ++ [p] := by
    by_cases h : bucketZ p.flow q.seed ∈ q.fresh ∨ bucketZ p.flow q.seed ∈ q.elder
    · rw [put_in h, flow_setF w.ok k0 k1]; rfl
    · rw [put_out h]; show ((q.setF _ _).flow _).l = _; rw [flow_setF w.ok k0 k1]; rfl
  have fj : ∀ j, 0 ≤ j → j ≠ bucketZ p.flow q.seed → (q.put p).flow j = q.flow j := fun j j0 hj => by
    by_cases h : bucketZ p.flow q.seed ∈ q.fresh ∨ bucketZ p.flow q.seed ∈ q.elder
    · rw [put_in h, flow_setF_ne k0 j0 hj]
    · rw [put_out h]; show (q.setF _ _).flow j = _; rw [flow_setF_ne k0 j0 hj]
  have lk : bucketZ p.flow q.seed ∈ (q.put p).fresh ++ (q.put p).elder ∧ ∀ j, j ∈ q.fresh ++ q.elder → j ∈ (q.put p).fresh ++ (q.put p).elder := by
    by_cases h : bucketZ p.flow q.seed ∈ q.fresh ∨ bucketZ p.flow q.seed ∈ q.elder
    · rw [put_in h]; exact ⟨by show _ ∈ q.fresh ++ q.elder; simpa using h, fun j hj => hj⟩
    · rw [put_out h]
      refine ⟨?_, fun j hj => ?_⟩
      · show _ ∈ (q.fresh ++ [_]) ++ q.elder; simp
      · show j ∈ (q.fresh ++ [_]) ++ q.elder
        simp at hj ⊢
        rcases hj with h | h
        · exact .inl h
        · exact .inr (.inr h)
  refine ⟨⟨hok, fun j j0 j1 hl => ?_, fun j j0 j1 x hx => ?_⟩, fk, fj⟩
  · by_cases h : j = bucketZ p.flow q.seed
    · rw [h]; exact lk.1
    · rw [fj j j0 h] at hl; exact lk.2 j (w.busy j j0 j1 hl)
  · rw [hs]
    by_cases h : j = bucketZ p.flow q.seed
    · subst h; rw [fk] at hx
      rcases List.mem_append.1 hx with hx | hx
      · exact w.wp _ j0 j1 x hx
      · simp at hx; subst hx; rfl
    · rw [fj j j0 h] at hx; exact w.wp j j0 j1 x hx
/-- How many there are, flow by flow. -/
def sumN (f : Nat → Nat) : Nat → Nat
  | 0 => 0
  | n + 1 => sumN f n + f n
theorem sumN_add (f g : Nat → Nat) : ∀ n, sumN (fun j => f j + g j) n = sumN f n + sumN g n
  | 0 => rfl
  | n + 1 => by simp only [sumN, sumN_add f g n]; omega
theorem sumN_congr {f g : Nat → Nat} : ∀ {n}, (∀ j, j < n → f j = g j) → sumN f n = sumN g n
  | 0, _ => rfl
  | n + 1, h => by simp only [sumN]; rw [sumN_congr fun j hj => h j (by omega), h n (by omega)]
theorem cnt_sumN {l : List Fl} : ∀ n, cntL (l.take n) = sumN (fun j => ((l[j]?).getD fl0).l.length) n
  | 0 => rfl
  | n + 1 => by
    simp only [sumN]
    rw [← cnt_sumN n, List.take_add_one, cntL_app]
    cases l[n]? <;> simp [cntL, fl0]
theorem cnt_sum (hq : QOk q) : q.cnt = sumN (fun j => (q.flow (j : Int)).l.length) 16 := by
  have := cnt_sumN (l := q.fl) 16
  rw [List.take_of_length_le (by rw [hq.len]; omega)] at this
  exact this
theorem one_of (n : Nat) (h : n < 16) : sumN (fun j => if n = j then 1 else 0) 16 = 1 := by
  have : ∀ n, n < 16 → sumN (fun j => if n = j then 1 else 0) 16 = 1 := by decide
  exact this n h
theorem inB_sum {s : Int} : ∀ {l : List Pk}, (∀ p ∈ l, 0 ≤ bucketZ p.flow s ∧ bucketZ p.flow s < 16) → sumN (fun j => (inB s (j : Int) l).length) 16 = l.length
  | [], _ => rfl
  | p :: r, h => by
    have ih := inB_sum (l := r) fun x hx => h x (by simp [hx])
    obtain ⟨h0, h1⟩ := h p (by simp)
    have e : sumN (fun j => (inB s (j : Int) (p :: r)).length) 16 = sumN (fun j => (if (bucketZ p.flow s).toNat = j then 1 else 0) + (inB s (j : Int) r).length) 16 := by
      apply sumN_congr
      intro j hj
      unfold inB
      rw [List.filter_cons]
      by_cases hb : bucketZ p.flow s = (j : Int)
      · rw [if_pos (by simpa using hb), if_pos (by omega)]; simp; omega
      · rw [if_neg (by simpa using hb), if_neg (by omega)]; simp
    rw [e, sumN_add, ih, one_of _ (by omega)]
    simp; omega
theorem Law.cnt {ρ : Qu × List Pk × Option Pk} (hq : QOk q) (hl : Law now q [] ρ) : q.cnt = (ρ.2.1 ++ ρ.2.2.toList).length + ρ.1.cnt := by
  obtain ⟨dd, e, h1, h2⟩ := hl.out
  rw [List.nil_append] at e
  rw [cnt_sum hq, cnt_sum hl.w.ok, e, ← inB_sum (s := q.seed) (fun p hp => ⟨(h2 p hp).1, (h2 p hp).2.1⟩), ← sumN_add]
  apply sumN_congr
  intro j hj
  rw [h1 (j : Int) (by omega) (by omega), List.length_append]
theorem allL_mem (hq : QOk q) : p ∈ allL q.fl ↔ ∃ k, 0 ≤ k ∧ k < 16 ∧ p ∈ (q.flow k).l := by
  constructor
  · intro h
    unfold allL at h
    obtain ⟨l, hl, hp⟩ := List.mem_flatten.1 h
    obtain ⟨f, hf, rfl⟩ := List.mem_map.1 hl
    obtain ⟨j, hj⟩ := List.mem_iff_getElem?.1 hf
    have hjl := (List.getElem?_eq_some_iff.1 hj).1
    rw [hq.len] at hjl
    refine ⟨(j : Int), by omega, by omega, ?_⟩
    have := flow_at hq hjl
    rw [hj] at this; cases this; exact hp
  · rintro ⟨k, k0, k1, h⟩
    unfold allL
    exact List.mem_flatten.2 ⟨_, List.mem_map.2 ⟨_, List.mem_of_getElem? (hq.flow k0 k1).1, rfl⟩, h⟩
/-- What is left, and what came out, was there. -/
theorem Law.sub {ρ : Qu × List Pk × Option Pk} (hq : QOk q) (hl : Law now q [] ρ) : (∀ p ∈ allL ρ.1.fl, p ∈ allL q.fl) ∧ ∀ p ∈ ρ.2.1 ++ ρ.2.2.toList, p ∈ allL q.fl := by
  obtain ⟨dd, e, h1, h2⟩ := hl.out
  rw [List.nil_append] at e
  refine ⟨fun p hp => ?_, fun p hp => ?_⟩
  · obtain ⟨k, k0, k1, h⟩ := (allL_mem hl.w.ok).1 hp
    exact (allL_mem hq).2 ⟨k, k0, k1, by rw [h1 k k0 k1]; simp [h]⟩
  · rw [e] at hp
    have := h2 p hp
    exact (allL_mem hq).2 ⟨_, this.1, this.2.1, this.2.2⟩
/-- A calm queue drops nothing. -/
theorem takeN_calm : ∀ (n : Nat) {q : Qu} {d : List Pk}, q.meas < n → Calm q → (takeN 0 n q d).2.1 = d ∧ Calm (takeN 0 n q d).1
  | 0, q, d, hm, _ => by omega
  | n + 1, q, d, hm, hc => by
    have hq := hc.ok
    cases ht : q.turn with
    | none => rw [takeN_none ht]; exact ⟨rfl, hc⟩
    | some k =>
      obtain ⟨k0, k1⟩ := hq.b k (turn_mem ht)
      by_cases hd : (q.flow k).deficit ≤ 0
      · obtain ⟨h1, h2⟩ := hc.over ht hd
        rw [takeC_over ht hd]
        exact takeN_calm n (by omega) h1
      · obtain ⟨h1, h2, h3⟩ := pullF_calm (iv := q.iv) (hc.flow k0 k1) hc.tg
        cases hl : (q.flow k).l with
        | cons p r =>
          rw [takeC_took hc ht (by omega) hl]
          exact ⟨rfl, hc.took k0 k1 (by omega) hl⟩
        | nil =>
          have his : isF q.tg q.iv 0 (q.flow k) = false := by rw [h3, hl]; simp
          have hmv := meas_empty (g := q.flow k) hq ht hd rfl
          have hc2 : Calm (q.setF k (q.flow k)) := hc.setF k0 k1 (hc.flow k0 k1) (hq.flow k0 k1).2 (Nat.le_refl _)
          by_cases hm2 : q.fresh ≠ [] ∧ q.elder ≠ []
          · rw [takeN_move ht hd his hm2, h1, h2, List.append_nil]
            exact takeN_calm n (by have := hmv.2 hm2.1; omega) (hc2.lists ((hc2.ok.popT).addE (popT_not hc2.ok (k := k) ht) k0 k1) (by unfold Qu.addE Qu.popT; split <;> rfl) (by unfold Qu.addE Qu.popT; split <;> rfl))
          · rw [takeN_gone ht hd his hm2, h1, h2, List.append_nil]
            exact takeN_calm n (by have := hmv.1; omega) (hc2.lists hc2.ok.popT (by unfold Qu.popT; split <;> rfl) (by unfold Qu.popT; split <;> rfl))
theorem Calm.take (hc : Calm q) (w : Well q) (hn : 0 < q.cnt) : ∃ q' p, q.take 0 = (q', [], some p) ∧ Calm q' ∧ Well q' ∧ q'.cnt + 1 = q.cnt ∧ p ∈ allL q.fl ∧ ∀ x ∈ allL q'.fl, x ∈ allL q.fl := by
  have h1 := take_law (now := 0) (by decide) (by decide) w
  obtain ⟨h2, h3⟩ := takeN_calm (q.meas + 1) (d := []) (Nat.lt_succ_self _) hc
  have h4 := h1.cnt w.ok
  obtain ⟨h5, h6⟩ := h1.sub w.ok
  have h7 := h1.none
  have h8 := h1.w
  unfold Qu.take at *
  generalize takeN 0 (q.meas + 1) q [] = ρ at *
  obtain ⟨q', d, r⟩ := ρ
  dsimp only at *
  subst h2
  cases r with
  | none =>
    have : q'.cnt = 0 := by
      rw [cnt_sum h8.ok]
      have : sumN (fun j => (q'.flow (j : Int)).l.length) 16 = sumN (fun _ => 0) 16 := sumN_congr fun j hj => by rw [h7 rfl (j : Int) (by omega) (by omega)]; rfl
      rw [this]; decide
    simp at h4; omega
  | some p => exact ⟨q', p, rfl, h3, h8, by simp at h4; omega, h6 p (by simp), h5⟩
end
end Go.Proofs.YtpcilleldanfmaaDoor
