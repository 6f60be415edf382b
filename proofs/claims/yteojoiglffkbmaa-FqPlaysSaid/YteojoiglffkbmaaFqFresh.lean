/- The walk of FqFresh: a flow that is new goes ahead of elder ones. -/
import Derived.Test.YteojoiglffkbmaaFqCalm
import Derived.Test.YteojoiglffkbmaaFq3
import Derived.Test.YteojoiglffkbmaaNum
import Derived.Test.YteojoiglffkbmaaGenFqLaws
set_option linter.unusedVariables false
set_option linter.unusedSimpArgs false
namespace Go.Proofs.Yteojoiglffkbmaa
open Go.Vc
/-- A queue of one flow, that of bucket 0. -/
structure One (q : Qu) (l : List Pk) (d : Int) (e : Bool) : Prop where
  c : Calm q
  fr : q.fresh = if e then [] else [0]
  el : q.elder = if e then [0] else []
  fl : q.flow 0 = ⟨l, d, cs0⟩
  rest : ∀ j, 0 < j → j < 16 → (q.flow j).l = []
section
variable {q : Qu} {l r : List Pk} {d : Int} {e : Bool} {p : Pk} {kt : Int} {pt : Pk}
theorem One.turn (o : One q l d e) : q.turn = some 0 := by
  unfold Qu.turn
  rw [o.fr, o.el]
  cases e <;> rfl
theorem One.over (o : One q l d e) (hd : d ≤ 0) : One (q.over 0) l (d + 300) true ∧ (q.over 0).meas < q.meas := by
  have hd' : (q.flow 0).deficit ≤ 0 := by rw [o.fl]; exact hd
  obtain ⟨h1, h2⟩ := o.c.over o.turn hd'
  refine ⟨⟨h1, ?_, ?_, ?_, fun j j0 j1 => ?_⟩, h2⟩
  · rw [over_fresh, o.fr]; cases e <;> rfl
  · rw [over_elder, o.fr, o.el]; cases e <;> rfl
  · rw [over_flow o.c (by decide) (by decide), o.fl]; rfl
  · rw [over_flow_ne (by decide) (by omega) (by omega)]; exact o.rest j j0 j1
theorem One.took (o : One q (p :: r) d e) (hd : 0 < d) : One (q.took 0 p r) r (d - p.body.length) e := by
  have h1 := o.c.took (k := 0) (p := p) (r := r) (by decide) (by decide) (by rw [o.fl]; exact hd) (by rw [o.fl])
  refine ⟨h1, o.fr, o.el, ?_, fun j j0 j1 => ?_⟩
  · unfold Qu.took; rw [flow_setF o.c.ok (by decide) (by decide), o.fl]; rfl
  · unfold Qu.took; rw [flow_setF_ne (by decide) (by omega) (by omega)]; exact o.rest j j0 j1
theorem One.take : ∀ (n : Nat) {q : Qu} {d : Int} {e : Bool}, q.meas < n → One q (p :: r) d e → ∃ q' d' e', takeN 0 n q [] = (q', [], some p) ∧ One q' r d' e' ∧ q'.seed = q.seed ∧ d' ≤ 300 - p.body.length
  | 0, q, d, e, hm, _ => by omega
  | n + 1, q, d, e, hm, o => by
    by_cases hd : d ≤ 0
    · obtain ⟨o1, h1⟩ := o.over hd
      obtain ⟨q', d', e', h2, h3, h4, h5⟩ := One.take n (by omega) o1
      exact ⟨q', d', e', by rw [takeC_over o.turn (by rw [o.fl]; exact hd)]; exact h2, h3, h4.trans (by unfold Qu.over Qu.addE Qu.popT; split <;> rfl), h5⟩
    · have hfo := (o.c.ok.flow (k := 0) (by decide) (by decide)).2.d1
      rw [o.fl] at hfo
      exact ⟨_, _, _, takeC_took o.c o.turn (by rw [o.fl]; exact Int.not_le.1 hd) (by rw [o.fl]), o.took (by omega), rfl, by dsimp only at hfo; omega⟩
/-- Of a flow that is new the first comes next. -/
structure Two (q : Qu) (kt : Int) (pt : Pk) : Prop where
  c : Calm q
  k0 : 0 < kt
  k1 : kt < 16
  fl : q.flow kt = ⟨[pt], 300, cs0⟩
  fr : q.fresh = [kt] ∨ q.fresh = [0, kt] ∧ (q.flow 0).deficit ≤ 0
theorem Two.take {n : Nat} (t : Two q kt pt) (hm : q.meas < n) : ∃ q', takeN 0 n q [] = (q', [], some pt) ∧ QOk q' := by
  obtain ⟨n, rfl⟩ : ∃ k, n = k + 1 := ⟨n - 1, by omega⟩
  have fin : ∀ {n : Nat} {q : Qu}, Calm q → q.turn = some kt → q.flow kt = ⟨[pt], 300, cs0⟩ → ∃ q', takeN 0 (n + 1) q [] = (q', [], some pt) ∧ QOk q' := fun hc ht hf =>
    ⟨_, takeC_took hc ht (by rw [hf]; show (0 : Int) < 300; decide) (by rw [hf]), (hc.took (Int.le_of_lt t.k0) t.k1 (by rw [hf]; show (0 : Int) < 300; decide) (by rw [hf])).ok⟩
  rcases t.fr with h | ⟨h, hd⟩
  · exact fin t.c (by unfold Qu.turn; rw [h]) t.fl
  · have ht : q.turn = some 0 := by unfold Qu.turn; rw [h]
    obtain ⟨h1, h2⟩ := t.c.over ht hd
    rw [takeC_over ht hd]
    obtain ⟨n, rfl⟩ : ∃ k, n = k + 1 := ⟨n - 1, by omega⟩
    exact fin h1 (by unfold Qu.turn; rw [over_fresh, h]; rfl) (by rw [over_flow_ne (by decide) (Int.le_of_lt t.k0) (by have := t.k0; omega)]; exact t.fl)
theorem One.thin (o : One q l d e) (hs : q.seed = 0) (hb : bucketZ pt.flow 0 = kt) (k0 : 0 < kt) (k1 : kt < 16) (ha : pt.at_ = 0) (hl : pt.body.length ≤ 1048576) (hc : q.cnt < 1048576) :
    Calm (q.put pt) ∧ (q.put pt).flow kt = ⟨[pt], 300, cs0⟩ ∧ (q.put pt).fresh = (if e then [] else [0]) ++ [kt] ∧ (q.put pt).flow 0 = ⟨l, d, cs0⟩ := by
  have hno : ¬ (bucketZ pt.flow q.seed ∈ q.fresh ∨ bucketZ pt.flow q.seed ∈ q.elder) := by
    rw [hs, hb, o.fr, o.el]
    cases e <;> simp <;> omega
  have hcf := o.c.flow (k := kt) (by omega) k1
  refine ⟨o.c.put ha hl hc, ?_, ?_, ?_⟩
  · rw [put_out hno, hs, hb]
    show (q.setF kt _).flow kt = _
    rw [flow_setF o.c.ok (by omega) k1, o.rest kt k0 k1]
    have : (q.flow kt).c = cs0 := hcf.c
    simp only [Fl.setL, Fl.setD, this]; rfl
  · rw [put_out hno, hs, hb]
    show q.fresh ++ [kt] = _
    rw [o.fr]
  · rw [put_out hno, hs, hb]
    show (q.setF kt _).flow 0 = _
    rw [flow_setF_ne (by omega) (by decide) (by omega)]; exact o.fl
theorem b00 : bucketZ 0 0 = 0 := by decide +kernel
theorem b10 : bucketZ 1 0 = 7 := by decide +kernel
theorem One.put (o : One q l 300 false) (hs : q.seed = 0) (hf : p.flow = 0) (ha : p.at_ = 0) (hl : p.body.length ≤ 1048576) (hc : q.cnt < 1048576) : One (q.put p) (l ++ [p]) 300 false := by
  have hin : bucketZ p.flow q.seed ∈ q.fresh ∨ bucketZ p.flow q.seed ∈ q.elder := by rw [hs, hf, b00, o.fr]; simp
  have hb : bucketZ p.flow q.seed = 0 := by rw [hs, hf, b00]
  refine ⟨o.c.put ha hl hc, ?_, ?_, ?_, fun j j0 j1 => ?_⟩
  · rw [put_in hin]; exact o.fr
  · rw [put_in hin]; exact o.el
  · rw [put_in hin, hb, flow_setF o.c.ok (by decide) (by decide), o.fl]; rfl
  · rw [put_in hin, hb, flow_setF_ne (by decide) (by omega) (by omega)]; exact o.rest j j0 j1
theorem one0 (iv : Int) (hf : p.flow = 0) (ha : p.at_ = 0) (hl : p.body.length ≤ 1048576) : One ((qu0 0 1073741824 iv).put p) [p] 300 false := by
  have hno : ¬ (bucketZ p.flow 0 ∈ (qu0 0 1073741824 iv).fresh ∨ bucketZ p.flow 0 ∈ (qu0 0 1073741824 iv).elder) := by simp [qu0]
  have hb : bucketZ p.flow (qu0 0 1073741824 iv).seed = 0 := by show bucketZ p.flow 0 = 0; rw [hf, b00]
  have e := put_out (q := qu0 0 1073741824 iv) (p := p) hno
  rw [hb] at e
  refine ⟨(calm0 _ _).put ha hl (by show cntL (List.replicate 16 fl0) < _; decide), ?_, ?_, ?_, fun j j0 j1 => ?_⟩
  · rw [e]; rfl
  · rw [e]; rfl
  · rw [e]; rfl
  · rw [e]
    show (((qu0 0 1073741824 iv).setF 0 _).flow j).l = []
    rw [flow_setF_ne (by decide) (by omega) (by omega)]
    unfold Qu.flow qu0
    simp only [List.getElem?_replicate]
    split <;> rfl
end
theorem first13_c (h : Heap) : Runs Try.prog 9 #[] h fun v h' => v = .bool true ∧ Kept h h' := by
  refine vc_muezzinlaw13_first _ _ ((new_c (Me.start h) 1 5 100).mono ?_)
  rintro _ h1 ⟨b, L, rfl, hv, m⟩
  refine ⟨_, rfl, bcase_false rfl ((take_c m hv (qok0 _ _ _) (by decide) (by decide)).mono ?_)⟩
  have e : (qu0 1 5 100).take 0 = (qu0 1 5 100, [], none) := rfl
  rw [e]
  rintro _ h2 ⟨a, c, vs, E, L', cs, rfl, hcv, o, hs, hv, m⟩
  obtain ⟨pa, pc, rfl, hbt⟩ := hcv
  refine ⟨_, _, _, _, _, rfl, ?_⟩
  (intro bN hN1 eN1 eN2; replace m := m.push eN2 eN1; clear eN1 eN2)
  refine ⟨⟨rfl, m.wrsb 0 rfl rfl, by simp [Value.oneCell']⟩, ?_⟩
  intro h4 e3
  replace m := (m.setr 0 rfl e3).drop1.drop1
  refine bcase_true rfl (dcase_pos rfl ?_)
  refine (put_c m hv (qok0 _ _ _) (p := ⟨4, 0, 0, 0, []⟩) (cs := [.int .i64 4, .int .u32 0, .int .i64 0, .int .i64 0, .slice none 0 0]) ⟨none, 0, rfl, Bts.nil⟩ (by decide) (by decide)).mono ?_
  rintro _ h5 ⟨rfl, W', L2, hle, hv2, m2⟩
  refine ⟨_, rfl, (refbucket_c _ _ _).ret ⟨_, rfl, dcase_pos rfl ((len_c m2 hv2).ret ⟨_, rfl, ?_, m2.kept hle⟩)⟩⟩
  have := (qok0 1 5 100).put (p := ⟨4, 0, 0, 0, []⟩) (by decide) (by decide) (by decide) (by decide)
  rw [this.2]; rfl
def pkA (n : Nat) : Pk := pkZ ((n : Int) + 1) 0 700
theorem pkA_len (n : Nat) : (pkA n).body.length = 700 := pkZ_len _ _ _
def pksA (n : Nat) : List Pk := (List.range n).map pkA
theorem pksA_succ (n : Nat) : pksA (n + 1) = pksA n ++ [pkA n] := by simp [pksA, List.range_succ]
theorem pksA_len (n : Nat) : (pksA n).length = n := by simp [pksA]
theorem pksA_get {n i : Nat} (h : i < n) : (pksA n)[i]? = some (pkA i) := by simp [pksA, h]
theorem pksA_drop {n i : Nat} (h : i < n) : (pksA n).drop i = pkA i :: (pksA n).drop (i + 1) := by
  have h1 := pksA_get h
  rw [List.drop_eq_getElem_cons (List.getElem?_eq_some_iff.1 h1).1, (List.getElem?_eq_some_iff.1 h1).2]
theorem one_cnt {q : Qu} {l : List Pk} {d : Int} {e : Bool} (o : One q l d e) : q.cnt ≤ l.length := by
  have hl := o.c.ok.len
  have h0 := flow_at o.c.ok (show 0 < 16 by decide)
  unfold Qu.cnt
  match hfl : q.fl with
  | [] => rw [hfl] at hl; cases hl
  | f :: r =>
    rw [hfl] at h0 hl
    have hf : f = q.flow 0 := by simpa using h0
    have hr : ∀ x ∈ r, x.l = [] := fun x hx => by
      obtain ⟨j, hj⟩ := List.mem_iff_getElem?.1 hx
      have hjl := (List.getElem?_eq_some_iff.1 hj).1
      have h1 := flow_at o.c.ok (j := j + 1) (by simp at hl; omega)
      rw [hfl] at h1
      simp [hj] at h1
      have := o.rest ((j : Int) + 1) (by omega) (by simp at hl; omega)
      rw [h1]; exact this
    have hz : ∀ (r : List Fl), (∀ x ∈ r, x.l = []) → cntL r = 0 := fun r => by
      induction r with
      | nil => intro _; rfl
      | cons x r ih => intro h; simp only [cntL]; rw [h x (by simp), ih fun y hy => h y (by simp [hy])]; rfl
    simp only [cntL]
    rw [hf, o.fl, hz r hr]
    exact Nat.le_refl _
theorem fqFresh_r (n takes : Int) (h : Heap) : Runs Try.prog 4 #[.int .i64 n, .int .i64 takes] h fun v h' => v = .bool true ∧ Kept h h' := by
  refine vc_muezzinlaw13_FqFresh _ _ _ _ ((first13_c _).mono ?_)
  rintro _ h1 ⟨rfl, k1⟩
  refine ⟨_, rfl, bcase_false rfl ((number_c _ _ _ (by decide) (by decide)).ret ⟨_, rfl, by simp only [fits]; omega, (number_c _ _ _ (by omega) (by omega)).ret ⟨_, rfl, ?_⟩⟩)⟩
  obtain ⟨N, hN⟩ : ∃ N : Nat, n % 30 + 4 = N := ⟨(n % 30 + 4).toNat, by omega⟩
  have hN1 : N ≤ 33 := by omega
  have hN0 : 4 ≤ N := by omega
  rw [hN]
  obtain ⟨t, ht⟩ : ∃ t : Nat, takes % (N : Int) = t := ⟨(takes % (N : Int)).toNat, by have := Int.emod_nonneg takes (show (N : Int) ≠ 0 by omega); omega⟩
  have htN : t < N := by have := Int.emod_lt_of_pos takes (show 0 < (N : Int) by omega); omega
  rw [ht]
  clear hN ht
  refine (new_c ((Me.start h).on k1) 0 1073741824 1073741824).mono ?_
  rintro _ h4 ⟨b, L, rfl, hv, m⟩
  refine ⟨_, rfl, bcase_false rfl ?_⟩
  refine ⟨fun x h' => x = 1 ∧ h' = h4, ?_, fun _ => ?_⟩
  · refine ⟨fun x f h' => h' = h4 ∧ (x = 0 ∧ f = 1 ∨ x = 1 ∧ f = 2), fun _ f _ => (3 - f).toNat, ⟨rfl, .inl ⟨rfl, rfl⟩⟩, fun _ => ?_⟩
    rintro x f _ ⟨rfl, hx⟩
    refine dcase_pos (by omega) ?_
    rcases hx with ⟨rfl, rfl⟩ | ⟨rfl, rfl⟩
    · refine dcase_pos rfl ((refbucket_c _ _ _).ret ⟨_, rfl, (refbucket_c _ _ _).ret ⟨_, rfl, ?_⟩⟩)
      rw [b00, b10]
      exact bcase_true rfl ⟨by simp only [fits]; decide, ⟨rfl, .inr ⟨rfl, rfl⟩⟩, by dsimp only; decide⟩
    · exact dcase_neg (by decide) ⟨rfl, rfl⟩
  rintro _ _ ⟨rfl, rfl⟩
  -- the packets
  refine ⟨fun x h' => ∃ (i : Nat) (W1 : Wd) (L : Grp) (q : Qu), x = i ∧ i ≤ N ∧ (Wd.of h).le W1 ∧ Me W1 h' [L] ∧ QuV W1 b q L ∧ QOk q ∧ q.seed = 0 ∧ q.cnt ≤ i ∧ (i = 0 ∧ q = qu0 0 1073741824 1073741824 ∨ 0 < i ∧ One q (pksA i) 300 false), fun x _ => ((N : Int) - x).toNat,
    ⟨0, _, L, _, rfl, by omega, Wd.le.refl _, m, hv, qok0 _ _ _, rfl, by show cntL (List.replicate 16 fl0) ≤ 0; decide, .inl ⟨rfl, rfl⟩⟩, fun _ => ?_⟩
  clear m hv k1 L
  rintro _ h8 ⟨i, W1, L, q, rfl, hi, hle, m, hv, hq, hsd, hcn, hst⟩
  refine dcase_intro (fun q1 => ?_) fun q1 => ?_
  · refine ⟨by simp only [fits]; omega, by decide, ?_⟩
    (intro bN hN1 eN1 eN2; replace m := m.push eN2 eN1; clear eN1 eN2)
    obtain ⟨W2, hle2, m2, hbt⟩ := made_bytes m
    have hcl : (pkA i).body.length ≤ 1048576 := by rw [pkA_len]; decide
    refine (put_c m2 (hv.le hle2) hq (p := pkA i) (pkZ_v _ _ hbt) hcl (by omega)).mono ?_
    rintro _ h10 ⟨rfl, W3, L3, hle3, hv3, m3⟩
    obtain ⟨hok, hcc⟩ := hq.put (p := pkA i) (Int.le_refl 0) (show (0 : Int) ≤ 1125899906842624 by decide) hcl (by omega)
    refine ⟨_, rfl, by simp only [fits]; omega, ⟨i + 1, W3, L3, _, by omega, by omega, (hle.trans hle2).trans hle3, m3, hv3, hok, by rw [put_seed]; exact hsd, by omega, .inr ⟨by omega, ?_⟩⟩, by dsimp only; omega⟩
    rcases hst with ⟨rfl, rfl⟩ | ⟨_, o⟩
    · exact one0 _ rfl rfl hcl
    · rw [pksA_succ]; exact o.put hsd rfl rfl hcl (by omega)
  · have hiN : i = N := by omega
    subst hiN
    obtain ⟨_, o⟩ : 0 < i ∧ One q (pksA i) 300 false := by
      rcases hst with ⟨h, _⟩ | h
      · omega
      · exact h
    -- what is taken
    refine ⟨fun x h' => ∃ (j : Nat) (W1 : Wd) (L : Grp) (q : Qu) (d : Int) (e : Bool), x = j ∧ j ≤ t ∧ (Wd.of h).le W1 ∧ Me W1 h' [L] ∧ QuV W1 b q L ∧ q.seed = 0 ∧ One q ((pksA i).drop j) d e ∧ (j = 0 ∧ d = 300 ∧ e = false ∨ 0 < j ∧ d ≤ 0), fun x _ => ((t : Int) - x).toNat,
      ⟨0, W1, L, q, 300, false, rfl, by omega, hle, m, hv, hsd, o, .inl ⟨rfl, rfl, rfl⟩⟩, fun _ => ?_⟩
    clear m hv hq hsd hcn hst o hle q L W1 q1
    rintro _ h11 ⟨j, W1, L, q, d, e, rfl, hj, hle, m, hv, hsd, o, hst⟩
    refine dcase_intro (fun q1 => ?_) fun q1 => ?_
    · rw [pksA_drop (by omega)] at o
      obtain ⟨q', d', e', h2, h3, h4, h5⟩ := One.take (q.meas + 1) (by omega) o
      have htk : q.take 0 = (q', [], some (pkA j)) := h2
      refine (take_c m hv o.c.ok (by decide) (by decide)).mono ?_
      rw [htk]
      rintro _ h12 ⟨a, c, vs, E, L', cs, rfl, hcv, od, hs, hv, m⟩
      obtain ⟨pa, pc, rfl, hbt⟩ := hcv
      refine ⟨_, _, _, _, _, rfl, ?_⟩
      (intro bN hN1 eN1 eN2; replace m := m.push eN2 eN1; clear eN1 eN2)
      refine ⟨⟨rfl, m.wrsb 0 rfl rfl, by simp [Value.oneCell']⟩, ?_⟩
      intro h14 e3
      replace m := m.setr 0 rfl e3
      refine bcase_false rfl ⟨_, m.cell 0 rfl rfl, by simp only [fits]; omega, ?_⟩
      have e9 : (some (pkA j)).getD pk0 = pkA j := rfl
      rw [e9]
      have e8 : (pkA j).id = (j : Int) + 1 := rfl
      refine bcase_false (by rw [e8]; simp) ⟨by simp only [fits]; omega, ⟨j + 1, W1, L', q', d', e', by omega, by omega, hle, m.drop1.drop1, hv, by rw [h4]; exact hsd, h3, .inr ⟨by omega, ?_⟩⟩, by dsimp only; omega⟩
      have := pkA_len j
      omega
    · have hjt : j = t := by omega
      subst hjt
      -- the thin one
      refine ⟨by decide, ?_⟩
      (intro bN hN1 eN1 eN2; replace m := m.push eN2 eN1; clear eN1 eN2)
      obtain ⟨W2, hle2, m2, hbt⟩ := made_bytes m
      obtain ⟨pt, hpt⟩ : ∃ pt : Pk, pt = pkZ 1000 1 50 := ⟨_, rfl⟩
      have hcl : pt.body.length ≤ 1048576 := by rw [hpt, pkZ_len]; decide
      have hcn : q.cnt < 1048576 := by have := one_cnt o; have := pksA_len i; simp at *; omega
      obtain ⟨c1, c2, c3, c4⟩ := o.thin (pt := pt) (kt := 7) hsd (by rw [hpt]; exact b10) (by decide) (by decide) (by rw [hpt]; rfl) hcl hcn
      have hpv := pkZ_v 1000 1 hbt
      rw [← hpt] at hpv
      refine (put_c m2 (hv.le hle2) o.c.ok hpv hcl hcn).mono ?_
      rintro _ h16 ⟨rfl, W3, L3, hle3, hv3, m3⟩
      refine ⟨_, rfl, ?_⟩
      obtain ⟨q2, a, htk1, hok2, hcase⟩ : ∃ q2 a, (q.put pt).take 0 = (q2, [], some a) ∧ QOk q2 ∧ (a = pt ∨ j = 0 ∧ a.id ≠ 1000 ∧ ∃ q3, q2.take 0 = (q3, [], some pt)) := by
        rcases hst with ⟨rfl, rfl, rfl⟩ | ⟨_, hd⟩
        · rw [pksA_drop (by omega)] at c4
          have ht : (q.put pt).turn = some 0 := by unfold Qu.turn; rw [c3]; rfl
          have hd : 0 < ((q.put pt).flow 0).deficit := by rw [c4]; show (0 : Int) < 300; decide
          have hl : ((q.put pt).flow 0).l = pkA 0 :: (pksA i).drop (0 + 1) := by rw [c4]
          have htk := c1.took (k := 0) (by decide) (by decide) hd hl
          refine ⟨_, pkA 0, takeC_took c1 ht hd hl, htk.ok, .inr ⟨rfl, by show (0 : Nat) + 1 ≠ (1000 : Int); decide, ?_⟩⟩
          have h2 : Two ((q.put pt).took 0 (pkA 0) ((pksA i).drop (0 + 1))) 7 pt := by
            refine ⟨htk, by decide, by decide, ?_, .inr ⟨c3, ?_⟩⟩
            · unfold Qu.took; rw [flow_setF_ne (by decide) (by decide) (by decide)]; exact c2
            · unfold Qu.took; rw [flow_setF c1.ok (by decide) (by decide), c4]
              show (300 : Int) - (pkA 0).body.length ≤ 0
              rw [pkA_len]; decide
          obtain ⟨q3, h3, _⟩ := h2.take (n := Qu.meas _ + 1) (Nat.lt_succ_self _)
          exact ⟨q3, h3⟩
        · have h2 : Two (q.put pt) 7 pt := by
            refine ⟨c1, by decide, by decide, c2, ?_⟩
            rw [c3, c4]
            cases e
            · exact .inr ⟨rfl, hd⟩
            · exact .inl rfl
          obtain ⟨q3, h3, h4⟩ := h2.take (n := Qu.meas _ + 1) (Nat.lt_succ_self _)
          exact ⟨q3, pt, h3, h4, .inl rfl⟩
      refine (take_c m3 hv3 c1.ok (by decide) (by decide)).mono ?_
      rw [htk1]
      rintro _ h18 ⟨sa, sc, vs, E, L4, cs, rfl, hcv, od, hs, hv4, m4⟩
      obtain ⟨pa, pc, rfl, hbta⟩ := hcv
      refine ⟨_, _, _, _, _, rfl, ?_⟩
      intro b4 h19 e1 e2
      replace m4 := m4.push e2 e1
      clear e1 e2
      refine ⟨⟨rfl, m4.wrsb 0 rfl rfl, by simp [Value.oneCell']⟩, ?_⟩
      intro h20 e3
      replace m4 := m4.setr 0 rfl e3
      clear e3
      replace m4 := (m4.free 1 rfl).focus 1 rfl
      refine (take_c m4 hv4 hok2 (by decide) (by decide)).mono ?_
      rintro _ h21 ⟨sb, sd, vs2, E2, L5, cs2, rfl, hcv, od2, hs2, hv5, m5⟩
      obtain ⟨pb, pd, rfl, hbtb⟩ := hcv
      refine ⟨_, _, _, _, _, rfl, ?_⟩
      intro b5 h22 e1 e2
      replace m5 := m5.push e2 e1
      clear e1 e2
      refine ⟨⟨rfl, m5.wrsb 0 rfl rfl, by simp [Value.oneCell']⟩, ?_⟩
      intro h23 e3
      replace m5 := m5.setr 0 rfl e3
      clear e3
      have kk : Kept h h23 := m5.kept ((hle.trans hle2).trans hle3)
      refine ⟨_, m5.cell 3 rfl rfl, ?_⟩
      have ea : (some a).getD pk0 = a := rfl
      rw [ea]
      rcases hcase with rfl | ⟨rfl, hne, q3, htk2⟩
      · refine dcase_pos (by rw [hpt]; rfl) (seg1 (bcase_true rfl ⟨rfl, rfl⟩) (bcase_true rfl ⟨rfl, kk⟩))
      · refine dcase_neg hne (dcase_pos rfl (bcase_true (by rw [htk2]; rfl) ⟨_, m5.cell 0 rfl rfl, seg1 (bcase_true rfl ⟨rfl, rfl⟩) (bcase_true rfl ⟨?_, kk⟩)⟩))
        rw [htk2, hpt]
        rfl
theorem walk_FqFresh (a0 a1 : Int) (_ : (Lit.int .i64 a0).wf = true) (_ : (Lit.int .i64 a1).wf = true) (w : World) :
    Calls Try.prog 4 #[.int .i64 a0, .int .i64 a1] w fun e w' => e = .returned (.bool true) ∧ Go.RowKit.Below w.heap.size w w' := calls_of_runs (fqFresh_r a0 a1 _)
end Go.Proofs.Yteojoiglffkbmaa
