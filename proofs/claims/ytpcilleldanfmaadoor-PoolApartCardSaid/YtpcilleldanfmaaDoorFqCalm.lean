/- A queue from which nothing is dropped (a great target, all at time 0), as plain mathematics. -/
import Derived.Test.YtpcilleldanfmaaDoorFqPlain
set_option linter.unusedVariables false
set_option linter.unusedSimpArgs false
namespace Go.Proofs.YtpcilleldanfmaaDoor
open Go.Vc
theorem joinL_one (n : Nat) (v : Value) : joinL (List.replicate n [v]) = List.replicate n v := by
  induction n with
  | zero => rfl
  | succ n ih => simp [List.replicate_succ, joinL, ih]
/-- Bytes that are made: none of them other than 0. -/
theorem made_bytes {W : Wd} {h : Heap} {G : List Grp} {b n : Nat} {T : TypeId} (m : Me W h ([(b, joinL (List.replicate n [(.int .u8 (0 : Int))]), T)] :: G)) : ∃ W', W.le W' ∧ Me W' h G ∧ Bts W' (.slice (some ⟨b, 0, none⟩) n n) (List.replicate n 0) := by
  have e : joinL (List.replicate n [(.int .u8 (0 : Int))]) = ints .u8 (List.replicate n 0) := by rw [joinL_one]; simp [ints]
  rw [e] at m
  obtain ⟨W', hle, hE, m'⟩ := m.give
  exact ⟨W', hle, m', (Ow.fresh0 (T := T) (l := n) (sz := 1) (vs := ints .u8 (List.replicate n 0)) (by simp [ints])).bts (by simp) hE⟩
section
variable {q : Qu} {f g : Fl} {k d : Int} {p : Pk} {r l : List Pk} {tg iv now : Int}
/-- A packet at time 0, of so many bytes. -/
def pkZ (id flow : Int) (n : Nat) : Pk := ⟨id, flow, 0, 0, List.replicate n 0⟩
theorem pkZ_len (id flow : Int) (n : Nat) : (pkZ id flow n).body.length = n := List.length_replicate
theorem pkZ_v {W : Wd} {b n : Nat} (id flow : Int) (hb : Bts W (.slice (some ⟨b, 0, none⟩) n n) (List.replicate n 0)) : PkV W (pkZ id flow n) [.int .i64 id, .int .u32 flow, .int .i64 0, .int .i64 0, .slice (some ⟨b, 0, none⟩) n n] :=
  ⟨some ⟨b, 0, none⟩, n, by rw [pkZ_len]; rfl, by rw [pkZ_len]; exact hb⟩
structure FCalm (f : Fl) : Prop where
  c : f.c = cs0
  at_ : ∀ p ∈ f.l, p.at_ = 0
theorem runP_calm (hf : FCalm f) (ht : clampI tg = 1073741824) : (runP tg iv 0 f).1.rest = cs0 ∧ (runP tg iv 0 f).1.pos = 0 ∧ (runP tg iv 0 f).2 = decide (f.l ≠ []) := by
  unfold runP
  rw [ht, hf.c]
  cases hl : f.l with
  | nil => simp [runZ, lookZ, itemsP, cs0, CSt.rest]
  | cons p r =>
    have h0 := hf.at_ p (by rw [hl]; simp)
    simp [runZ, lookZ, itemsP, cs0, CSt.rest, h0]
theorem pullF_calm (hf : FCalm f) (ht : clampI tg = 1073741824) : pullF tg iv 0 f = f ∧ dropF tg iv 0 f = [] ∧ isF tg iv 0 f = decide (f.l ≠ []) := by
  obtain ⟨h1, h2, h3⟩ := runP_calm (iv := iv) hf ht
  refine ⟨?_, ?_, h3⟩
  · unfold pullF
    rw [h1, h2]
    obtain ⟨l, d, c⟩ := f
    have : c = cs0 := hf.c
    subst this
    rfl
  · unfold dropF; rw [h2]; rfl
structure Calm (q : Qu) : Prop where
  ok : QOk q
  tg : clampI q.tg = 1073741824
  f : ∀ f ∈ q.fl, FCalm f
theorem Calm.flow (hq : Calm q) (k0 : 0 ≤ k) (k1 : k < 16) : FCalm (q.flow k) := hq.f _ (List.mem_of_getElem? (hq.ok.flow k0 k1).1)
theorem Calm.setF (hq : Calm q) (k0 : 0 ≤ k) (k1 : k < 16) (hg : FCalm g) (ho : FOk g) (hl : g.l.length ≤ (q.flow k).l.length) : Calm (q.setF k g) :=
  ⟨hq.ok.setF k0 k1 ho hl, hq.tg, fun f hf => by
    rcases List.mem_or_eq_of_mem_set hf with hf | rfl
    · exact hq.f f hf
    · exact hg⟩
theorem Calm.lists {q' : Qu} (hq : Calm q) (ho : QOk q') (hfl : q'.fl = q.fl) (ht : q'.tg = q.tg) : Calm q' := ⟨ho, by rw [ht]; exact hq.tg, by rw [hfl]; exact hq.f⟩
theorem calm0 (seed iv : Int) : Calm (qu0 seed 1073741824 iv) := ⟨qok0 _ _ _, by show clampI 1073741824 = _; decide, fun f hf => by simp [qu0] at hf; subst hf; exact ⟨rfl, by simp [fl0]⟩⟩
/-- A turn is over: the flow's deficit grows, it goes to the end of the elder ones. -/
def Qu.over (q : Qu) (k : Int) : Qu := ((q.setF k ((q.flow k).setD ((q.flow k).deficit + 300))).popT).addE k
/-- The first of a flow is taken. -/
def Qu.took (q : Qu) (k : Int) (p : Pk) (r : List Pk) : Qu := q.setF k (((q.flow k).setL r).setD ((q.flow k).deficit - p.body.length))
theorem Calm.over (hq : Calm q) (ht : q.turn = some k) (hd : (q.flow k).deficit ≤ 0) : Calm (q.over k) ∧ (q.over k).meas < q.meas := by
  obtain ⟨k0, k1⟩ := hq.ok.b k (turn_mem ht)
  have hfo := (hq.ok.flow k0 k1).2
  have hfc := hq.flow k0 k1
  have hd0 := hfo.d0
  have h1 := hq.setF k0 k1 (g := (q.flow k).setD ((q.flow k).deficit + 300)) ⟨hfc.c, hfc.at_⟩ (setD_ok hfo (by omega) (by omega)) (by simp)
  refine ⟨?_, meas_turn hq.ok ht hd⟩
  exact h1.lists ((h1.ok.popT).addE (popT_not h1.ok (k := k) ht) k0 k1) (by unfold Qu.over Qu.addE Qu.popT; split <;> rfl) (by unfold Qu.over Qu.addE Qu.popT; split <;> rfl)
theorem Calm.took (hq : Calm q) (k0 : 0 ≤ k) (k1 : k < 16) (hd : 0 < (q.flow k).deficit) (hp : (q.flow k).l = p :: r) : Calm (q.took k p r) := by
  have hfo := (hq.ok.flow k0 k1).2
  have hfc := hq.flow k0 k1
  have h1 := hfo.p p (by rw [hp]; simp)
  have hd1 := hfo.d1
  refine hq.setF k0 k1 ⟨hfc.c, fun x hx => hfc.at_ x (by rw [hp]; simp at hx; simp [hx])⟩ ⟨hfo.c, fun x hx => hfo.p x (by rw [hp]; simp at hx; simp [hx]), ?_, ?_⟩ (by rw [hp]; simp)
  · simp; omega
  · simp; omega
theorem takeC_over {n : Nat} {d : List Pk} (ht : q.turn = some k) (hd : (q.flow k).deficit ≤ 0) : takeN 0 (n + 1) q d = takeN 0 n (q.over k) d := takeN_turn ht hd
theorem takeC_took {n : Nat} {d : List Pk} (hq : Calm q) (ht : q.turn = some k) (hd : 0 < (q.flow k).deficit) (hp : (q.flow k).l = p :: r) : takeN 0 (n + 1) q d = (q.took k p r, d, some p) := by
  obtain ⟨k0, k1⟩ := hq.ok.b k (turn_mem ht)
  obtain ⟨h1, h2, h3⟩ := pullF_calm (iv := q.iv) (hq.flow k0 k1) hq.tg
  rw [takeN_some ht (by omega) (by rw [h3, hp]; simp) (by rw [h1]; exact hp), h1, h2, List.append_nil]
  rfl
theorem over_flow (hq : Calm q) (k0 : 0 ≤ k) (k1 : k < 16) : (q.over k).flow k = (q.flow k).setD ((q.flow k).deficit + 300) := by
  show ((q.setF k _).popT).flow k = _
  rw [popT_flow, flow_setF hq.ok k0 k1]
theorem over_flow_ne {j : Int} (k0 : 0 ≤ k) (j0 : 0 ≤ j) (h : j ≠ k) : (q.over k).flow j = q.flow j := by
  show ((q.setF k _).popT).flow j = _
  rw [popT_flow, flow_setF_ne k0 j0 h]
theorem over_fresh : (q.over k).fresh = q.fresh.tail := by
  unfold Qu.over Qu.addE
  show ((q.setF k _).popT).fresh = _
  unfold Qu.popT
  split
  · rename_i h; rw [setF_fresh] at h; show q.fresh = _; rw [h]; rfl
  · rfl
theorem over_elder : (q.over k).elder = (if q.fresh = [] then q.elder.tail else q.elder) ++ [k] := by
  unfold Qu.over Qu.addE
  show ((q.setF k _).popT).elder ++ [k] = _
  unfold Qu.popT
  rw [setF_fresh]
  split <;> rfl
theorem put_seed (q : Qu) (p : Pk) : (q.put p).seed = q.seed := by unfold Qu.put; dsimp only; split <;> rfl
theorem put_tg (q : Qu) (p : Pk) : (q.put p).tg = q.tg := by unfold Qu.put; dsimp only; split <;> rfl
theorem put_in (h : bucketZ p.flow q.seed ∈ q.fresh ∨ bucketZ p.flow q.seed ∈ q.elder) : q.put p = q.setF (bucketZ p.flow q.seed) ((q.flow (bucketZ p.flow q.seed)).setL ((q.flow (bucketZ p.flow q.seed)).l ++ [p])) := if_pos h
theorem put_out (h : ¬ (bucketZ p.flow q.seed ∈ q.fresh ∨ bucketZ p.flow q.seed ∈ q.elder)) : q.put p = (q.setF (bucketZ p.flow q.seed) (((q.flow (bucketZ p.flow q.seed)).setL ((q.flow (bucketZ p.flow q.seed)).l ++ [p])).setD 300)).addF (bucketZ p.flow q.seed) := if_neg h
/-- What a put keeps. -/
theorem QOk.put (hq : QOk q) (h0 : 0 ≤ p.at_) (h1 : p.at_ ≤ 1125899906842624) (hl : p.body.length ≤ 1048576) (hc : q.cnt < 1048576) : QOk (q.put p) ∧ (q.put p).cnt = q.cnt + 1 := by
  obtain ⟨k0, k1⟩ := bucketZ_bd p.flow q.seed
  by_cases h : bucketZ p.flow q.seed ∈ q.fresh ∨ bucketZ p.flow q.seed ∈ q.elder
  · rw [put_in h]
    generalize bucketZ p.flow q.seed = k at *
    have hfo := (hq.flow k0 k1).2
    have c3 := cntL_set (g := (q.flow k).setL ((q.flow k).l ++ [p])) (hq.flow k0 k1).1
    simp only [setL_l, List.length_append, List.length_singleton] at c3
    have e : (q.setF k ((q.flow k).setL ((q.flow k).l ++ [p]))).cnt = q.cnt + 1 := by
      show cntL (q.fl.set k.toNat _) = cntL q.fl + 1
      omega
    refine ⟨⟨by simp [Qu.setF, hq.len], fun f hf => ?_, hq.nd, hq.b, by omega⟩, e⟩
    rcases List.mem_or_eq_of_mem_set hf with hf | rfl
    · exact hq.f f hf
    · exact ⟨hfo.c, fun x hx => by
        simp at hx
        rcases hx with hx | rfl
        · exact hfo.p x hx
        · exact ⟨h0, h1, hl⟩, hfo.d0, hfo.d1⟩
  · rw [put_out h]
    generalize bucketZ p.flow q.seed = k at *
    have hfo := (hq.flow k0 k1).2
    have c3 := cntL_set (g := ((q.flow k).setL ((q.flow k).l ++ [p])).setD 300) (hq.flow k0 k1).1
    simp only [setL_l, setD_l, List.length_append, List.length_singleton] at c3
    have e : ((q.setF k (((q.flow k).setL ((q.flow k).l ++ [p])).setD 300)).addF k).cnt = q.cnt + 1 := by
      show cntL (q.fl.set k.toNat _) = cntL q.fl + 1
      omega
    refine ⟨⟨by simp [Qu.setF, Qu.addF, hq.len], fun f hf => ?_, ?_, ?_, by omega⟩, e⟩
    · rcases List.mem_or_eq_of_mem_set hf with hf | rfl
      · exact hq.f f hf
      · exact ⟨hfo.c, fun x hx => by
          simp at hx
          rcases hx with hx | rfl
          · exact hfo.p x hx
          · exact ⟨h0, h1, hl⟩, by simp, by simp⟩
    · show ((q.fresh ++ [k]) ++ q.elder).Nodup
      refine (List.perm_append_comm.nodup_iff).1 ?_
      rw [← List.append_assoc]
      refine List.nodup_append.2 ⟨(List.perm_append_comm.nodup_iff).1 hq.nd, by simp, fun a ha b hb => ?_⟩
      simp at hb; subst hb
      rintro rfl
      simp at ha
      exact h (ha.elim .inr .inl)
    · intro j hj
      have hj : j ∈ (q.fresh ++ [k]) ++ q.elder := hj
      simp at hj
      rcases hj with hj | rfl | hj
      · exact hq.b j (by simp [hj])
      · exact ⟨k0, k1⟩
      · exact hq.b j (by simp [hj])
theorem Calm.put (hq : Calm q) (h0 : p.at_ = 0) (hl : p.body.length ≤ 1048576) (hc : q.cnt < 1048576) : Calm (q.put p) := by
  obtain ⟨k0, k1⟩ := bucketZ_bd p.flow q.seed
  refine ⟨(hq.ok.put (by omega) (by omega) hl hc).1, by rw [put_tg]; exact hq.tg, fun f hf => ?_⟩
  have hfc := hq.flow k0 k1
  have key : FCalm ((q.flow (bucketZ p.flow q.seed)).setL ((q.flow (bucketZ p.flow q.seed)).l ++ [p])) := ⟨hfc.c, fun x hx => by
    simp at hx
    rcases hx with hx | rfl
    · exact hfc.at_ x hx
    · exact h0⟩
  unfold Qu.put at hf
  dsimp only at hf
  split at hf
  · rcases List.mem_or_eq_of_mem_set hf with hf | rfl
    · exact hq.f f hf
    · exact key
  · rcases List.mem_or_eq_of_mem_set hf with hf | rfl
    · exact hq.f f hf
    · exact ⟨key.c, key.at_⟩
end
end Go.Proofs.YtpcilleldanfmaaDoor
