/- Frames taken in a session, in numbers counted from its beginning; frames that were handed up, read. -/
import Derived.Test.YthlacliefgliiaaDoorOff
set_option linter.unusedVariables false
set_option linter.unusedSimpArgs false
namespace Go.Proofs.YthlacliefgliiaaDoor
open Go.Vc
def ins (ks : List Nat) (q : Nat) : List Nat := if q ∈ ks then ks else ks ++ [q]
theorem ins_mem {ks : List Nat} {q k : Nat} : k ∈ ins ks q ↔ k ∈ ks ∨ k = q := by
  unfold ins
  split
  · exact ⟨.inl, fun h => h.elim id (fun e => e ▸ (by assumption))⟩
  · simp
theorem ins_nodup {ks : List Nat} {q : Nat} (h : ks.Nodup) : (ins ks q).Nodup := by
  unfold ins
  split
  · exact h
  · rename_i hq
    rw [List.nodup_append]
    exact ⟨h, by simp, fun a ha b hb e => hq (by simp at hb; rw [← hb, ← e]; exact ha)⟩
theorem ins_len {ks : List Nat} {q : Nat} : (ins ks q).length ≤ ks.length + 1 := by
  unfold ins; split <;> simp
theorem cut_nodup {ks : List Nat} {p m : Nat} (h : ks.Nodup) : (cut ks p m).Nodup := List.Nodup.sublist List.filter_sublist h
theorem cut_len {ks : List Nat} {p m : Nat} : (cut ks p m).length ≤ ks.length := List.length_filter_le ..
/-- A list of numbers below a bound, each once, is no longer than the bound. -/
theorem nodup_bd : ∀ (n : Nat) {ks : List Nat}, ks.Nodup → (∀ k ∈ ks, k < n) → ks.length ≤ n
  | 0, ks, _, h => by
    cases ks with
    | nil => simp
    | cons k r => exact absurd (h k (List.mem_cons_self ..)) (by omega)
  | n + 1, ks, hn, h => by
    have h1 := nodup_bd n (ks := ks.erase n) (hn.erase n) (fun k hk => by
      have h2 := h k (List.mem_of_mem_erase hk)
      have h3 : k ≠ n := fun e => by subst e; exact (hn.mem_erase_iff.1 hk).1 rfl
      omega)
    have := List.length_erase (a := n) (l := ks)
    rw [this] at h1
    split at h1 <;> omega
section
variable {t : Nat} {S : Int} {B : Nat → List Int} {ks : List Nat} {p q d m n k z : Nat} {x : Ses}
theorem put_in (hks : x.kept = ks.map (frO t S B)) (hk : ∀ k ∈ ks, k < 2000) (hq : q < 2000) : x.put (frO t S B q) = x.wk x.start ((ins ks q).map (frO t S B)) := by
  have hf : kfind x.kept (frO t S B q).sq = if q ∈ ks then some (frO t S B q) else none := by
    rw [hks]; exact kfind_map (fun k h => Nat.lt_trans (hk k h) (by decide)) (by omega)
  unfold Ses.put ins
  rw [hf]
  by_cases hm : q ∈ ks
  · rw [if_pos hm, if_pos hm]
    simp only [Option.isSome_some, if_true]
    rw [← hks]; rfl
  · rw [if_neg hm, if_neg hm]
    simp only [Option.isSome_none, Bool.false_eq_true, if_false]
    rw [List.map_append, ← hks]; rfl
theorem run_in (hst : x.start = pos S p) (hks : x.kept = ks.map (frO t S B)) (hn : ks.Nodup) (hk : ∀ k ∈ ks, k < 2000) (hp : p ≤ 2000) :
    ∃ m, x.run = ((List.range' p m).map (frO t S B), x.wk (pos S (p + m)) ((cut ks p m).map (frO t S B))) ∧ (∀ i, i < m → p + i ∈ ks) ∧ p + m ∉ ks := by
  obtain ⟨m, h1, h2, h3⟩ := run_off (t := t) (S := S) (B := B) (ks.length + 1) hn hk hp (by omega)
  refine ⟨m, ?_, h2, h3⟩
  have e : x.run = ((runP (x.kept.length + 1) x.kept x.start).1, x.wk (runP (x.kept.length + 1) x.kept x.start).2.2 (runP (x.kept.length + 1) x.kept x.start).2.1) := rfl
  rw [e, hks, hst, List.length_map, h1]
theorem take_eq (hon : x.on = true) (hst : x.start = pos S p) (hks : x.kept = ks.map (frO t S B)) : x.take (frO t S B q) = (x.stand (pos S q)).take2 (frO t S B q) ∧ (x.stand (pos S q)).start = pos S p ∧ (x.stand (pos S q)).kept = ks.map (frO t S B) ∧ (x.stand (pos S q)).size = x.size := by
  obtain ⟨k1, k2, k3, k4, k5⟩ := stand_kept x (pos S q)
  exact ⟨by unfold Ses.take; rw [hon]; rfl, by rw [k2, hst], by rw [k1, hks], k3⟩
/-- One that is behind the window. -/
theorem take_late (hon : x.on = true) (hst : x.start = pos S p) (hks : x.kept = ks.map (frO t S B)) (h1 : q < p) (h2 : p ≤ q + 2048) : x.take (frO t S B q) = ([], x.stand (pos S q)) := by
  obtain ⟨e, k1, k2, k3⟩ := take_eq (q := q) hon hst hks
  rw [e]
  unfold Ses.take2
  rw [if_pos]
  rw [k1, show (frO t S B q).sq = pos S q from rfl, pos_distB h1 (by omega)]; omega
/-- One that is in the window. -/
theorem take_in (hon : x.on = true) (hst : x.start = pos S p) (hks : x.kept = ks.map (frO t S B)) (hn : ks.Nodup) (hk : ∀ k ∈ ks, k < 2000) (hz : x.size = z) (h1 : p ≤ q) (h2 : q < p + z) (h3 : q < 2000) (hzz : z ≤ 64) :
    ∃ m, x.take (frO t S B q) = ((List.range' p m).map (frO t S B), (x.stand (pos S q)).wk (pos S (p + m)) ((cut (ins ks q) p m).map (frO t S B))) ∧ (∀ i, i < m → p + i ∈ ins ks q) ∧ p + m ∉ ins ks q := by
  obtain ⟨e, k1, k2, k3⟩ := take_eq (q := q) hon hst hks
  have hd : distZ (x.stand (pos S q)).start (frO t S B q).sq = (q : Int) - p := by
    rw [k1, show (frO t S B q).sq = pos S q from rfl, pos_dist h1 (by omega)]
  rw [e]
  unfold Ses.take2
  rw [if_neg (by rw [hd]; omega), if_neg (by rw [hd, k3, hz]; omega), put_in k2 hk h3]
  obtain ⟨m, r1, r2, r3⟩ := run_in (x := (x.stand (pos S q)).wk (x.stand (pos S q)).start ((ins ks q).map (frO t S B))) k1 rfl (ins_nodup hn) (fun k hk' => (ins_mem.1 hk').elim (hk k) (fun e => by omega)) (by omega)
  exact ⟨m, by rw [r1]; rfl, r2, r3⟩
/-- One that is further on. -/
theorem take_far (hon : x.on = true) (hst : x.start = pos S p) (hks : x.kept = ks.map (frO t S B)) (hn : ks.Nodup) (hk : ∀ k ∈ ks, k < 2000) (hz : x.size = z) (h2 : p + z ≤ q) (h3 : q < 2000) (hz1 : 1 ≤ z) (hzz : z ≤ 64) {w : Nat} (hw : q + 1 = w + z) :
    ∃ m, x.take (frO t S B q) = ((((List.range' p (w - p)).filter fun k => decide (k ∈ ks)) ++ List.range' w m).map (frO t S B), (x.stand (pos S q)).wk (pos S (w + m)) ((cut (ins (cut ks p (w - p)) q) w m).map (frO t S B))) ∧ (∀ i, i < m → w + i ∈ ins (cut ks p (w - p)) q) ∧ w + m ∉ ins (cut ks p (w - p)) q := by
  obtain ⟨e, k1, k2, k3⟩ := take_eq (q := q) hon hst hks
  have hd : distZ (x.stand (pos S q)).start (frO t S B q).sq = (q : Int) - p := by
    rw [k1, show (frO t S B q).sq = pos S q from rfl, pos_dist (by omega) (by omega)]
  have ha : addZ (frO t S B q).sq (1 - (x.stand (pos S q)).size) = pos S w := by
    rw [k3, hz]; exact pos_add _ (by omega)
  have hu : (x.stand (pos S q)).up (pos S w) = (((List.range' p (w - p)).filter fun k => decide (k ∈ ks)).map (frO t S B), (x.stand (pos S q)).wk (pos S w) ((cut ks p (w - p)).map (frO t S B))) := by
    have hdu : (distZ (x.stand (pos S q)).start (pos S w)).toNat = w - p := by
      rw [k1, pos_dist (by omega) (by omega)]; omega
    unfold Ses.up Ses.wk
    rw [hdu, k1, k2, up_off (w - p) hn hk (by omega)]
  rw [e]
  unfold Ses.take2
  rw [if_neg (by rw [hd]; omega), if_pos (by rw [hd, k3, hz]; omega), ha, hu]
  dsimp only
  have hkc : ∀ k ∈ cut ks p (w - p), k < 2000 := fun k hk' => hk k (cut_mem.1 hk').1
  rw [put_in (x := (x.stand (pos S q)).wk (pos S w) ((cut ks p (w - p)).map (frO t S B))) rfl hkc h3]
  obtain ⟨m, r1, r2, r3⟩ := run_in (x := ((x.stand (pos S q)).wk (pos S w) ((cut ks p (w - p)).map (frO t S B))).wk ((x.stand (pos S q)).wk (pos S w) ((cut ks p (w - p)).map (frO t S B))).start ((ins (cut ks p (w - p)) q).map (frO t S B))) (p := w) rfl rfl (ins_nodup (cut_nodup hn)) (fun k hk' => (ins_mem.1 hk').elim (hkc k) (fun e => by omega)) (by omega)
  exact ⟨m, by rw [r1, List.map_append]; rfl, r2, r3⟩
end
section
variable {x : Ses} {n : Int}
theorem bitO_bd {a b : Int} (ha : 0 ≤ a ∧ a < 18446744073709551616) (hb : 0 ≤ b ∧ b < 18446744073709551616) : 0 ≤ bitO a b ∧ bitO a b < 18446744073709551616 := by
  obtain ⟨m, rfl⟩ := Int.eq_ofNat_of_zero_le ha.1
  obtain ⟨n, rfl⟩ := Int.eq_ofNat_of_zero_le hb.1
  unfold bitO
  rw [bor_u64 (by omega) (by omega)]
  have : m ||| n < 2 ^ 64 := Nat.or_lt_two_pow (by omega) (by omega)
  omega
theorem mark_ok (hf : 0 ≤ x.fr ∧ x.fr ≤ 4095) (hb : 0 ≤ x.bits ∧ x.bits < 18446744073709551616) : (0 ≤ (x.mark n).fr ∧ (x.mark n).fr ≤ 4095) ∧ 0 ≤ (x.mark n).bits ∧ (x.mark n).bits < 18446744073709551616 := by
  unfold Ses.mark
  split
  · rename_i h
    obtain ⟨p1, p2⟩ := pow2_bd (distZ_bd x.fr n).1 h
    exact ⟨hf, bitO_bd hb (by omega)⟩
  · exact ⟨hf, hb⟩
theorem move_ok (hn : 0 ≤ n ∧ n ≤ 4095) (hb : 0 ≤ x.bits ∧ x.bits < 18446744073709551616) : (0 ≤ (x.move n).fr ∧ (x.move n).fr ≤ 4095) ∧ 0 ≤ (x.move n).bits ∧ (x.move n).bits < 18446744073709551616 := by
  refine ⟨hn, ?_⟩
  show 0 ≤ (if 64 ≤ distZ x.fr n then 0 else x.bits / pow2 (distZ x.fr n)) ∧ (if 64 ≤ distZ x.fr n then 0 else x.bits / pow2 (distZ x.fr n)) < _
  split
  · decide
  · rename_i h
    obtain ⟨p1, p2⟩ := pow2_bd (distZ_bd x.fr n).1 (by omega)
    have h1 := Int.ediv_nonneg hb.1 (Int.le_of_lt p1)
    have h2 := Int.ediv_le_self (pow2 (distZ x.fr n)) hb.1
    omega
theorem stand_ok (hf : 0 ≤ x.fr ∧ x.fr ≤ 4095) (hb : 0 ≤ x.bits ∧ x.bits < 18446744073709551616) : (0 ≤ (x.stand n).fr ∧ (x.stand n).fr ≤ 4095) ∧ 0 ≤ (x.stand n).bits ∧ (x.stand n).bits < 18446744073709551616 := by
  unfold Ses.stand
  split
  · have hb2 := addZ_bd n (-63)
    obtain ⟨h1, h2⟩ := move_ok (x := x) (n := addZ n (-63)) (by omega) hb
    exact mark_ok h1 h2
  · exact mark_ok hf hb
theorem wk_ok {t : Nat} {S : Int} {B : Nat → List Int} {ks : List Nat} {p : Nat} (hok : SesOk x) (ht : t < 8) (hB : ∀ k, (B k).length ≤ 1500) (hl : ks.length ≤ 4096) : SesOk ((x.stand n).wk (pos S p) (ks.map (frO t S B))) := by
  obtain ⟨h1, h2⟩ := stand_ok (n := n) hok.f hok.b
  obtain ⟨k1, k2, k3, k4, k5⟩ := stand_kept x n
  refine ⟨pos_bd, h1, ?_, h2, ?_, ?_, ?_⟩
  · show 0 ≤ (x.stand n).last ∧ (x.stand n).last ≤ 4095; rw [k5]; exact hok.l
  · show 0 ≤ (x.stand n).size ∧ (x.stand n).size ≤ 64; rw [k3]; exact hok.z
  · intro f hf
    obtain ⟨k, hk, rfl⟩ := List.mem_map.1 hf
    exact dfm_ok (by omega) pos_bd (hB k)
  · show (ks.map (frO t S B)).length ≤ 4096; rw [List.length_map]; exact hl
theorem stand_ok' (hok : SesOk x) : SesOk (x.stand n) := by
  obtain ⟨h1, h2⟩ := stand_ok (n := n) hok.f hok.b
  obtain ⟨k1, k2, k3, k4, k5⟩ := stand_kept x n
  exact ⟨by rw [k2]; exact hok.s, h1, by rw [k5]; exact hok.l, h2, by rw [k3]; exact hok.z, by rw [k1]; exact hok.k, by rw [k1]; exact hok.n⟩
end
section
variable {W : Wd} {h : Heap} {G : List Grp} {E : Grp} {a : Option Addr} {c i j : Nat} {vs : List Value} {f : Fm}
theorem sq_ok : ∀ {out : List Fm} {vs : List Value}, Sq (FmV W) out vs → (∀ f ∈ out, FmOk f) → Sq (fun f cs => FmV W f cs ∧ FmOk f) out vs
  | [], _, hs, _ => hs
  | x :: xs, _, ⟨cs, r, e, h1, h2⟩, hk => ⟨cs, r, e, ⟨h1, hk x (List.mem_cons_self ..)⟩, sq_ok h2 fun f hf => hk f (List.mem_cons_of_mem _ hf)⟩
/-- A frame that was handed up, read. -/
theorem sq_cell {out : List Fm} (o : Ow a out.length c 24 vs E) (m : Me W h G) (hi : G[i]? = some E) (hs : Sq (FmV W) out vs) (hk : ∀ f ∈ out, FmOk f) (hj : out[j]? = some f) :
    ∃ b o', a = some ⟨b, o', none⟩ ∧ cell h b ((o' + j * 24) + 19) = some (.int .i64 f.sq) ∧ ∃ sa sc, cell h b ((o' + j * 24) + 23) = some (.slice sa f.body.length sc) ∧ Bts W (.slice sa f.body.length sc) f.body := by
  obtain ⟨cs, ⟨⟨v, rfl, hv⟩, hf⟩, hc, hl⟩ := (sq_ok hs hk).get (n := 24) (fun x cs hx => by obtain ⟨⟨v, rfl, -⟩, hx⟩ := hx; exact fmc_len hx) hj
  obtain ⟨sa, sc, rfl, h1, h2⟩ := hv
  have hsrc := o.src m i hi
  have hg : ∀ r u, (fmc f (.slice sa f.body.length sc))[r]? = some u → vs[j * 24 + r]? = some u := fun r u hu => by
    rw [← hc] at hu
    have hr : r < 24 := by
      have := (List.getElem?_eq_some_iff.1 hu).1
      rw [List.length_take] at this; omega
    rw [List.getElem?_take_of_lt hr, List.getElem?_drop] at hu
    exact hu
  obtain ⟨b, o', e1, c1⟩ := src_cell hsrc (hg 19 _ (fmc_cell hf 1 rfl))
  obtain ⟨b', o'', e2, c2⟩ := src_cell hsrc (hg 23 _ (fmc_cell hf 5 rfl))
  rw [e1] at e2
  cases e2
  exact ⟨b, o', e1, by rw [Nat.add_assoc]; exact c1, sa, sc, by rw [Nat.add_assoc]; exact c2, sa, sc, rfl, h1, h2⟩
end
end Go.Proofs.YthlacliefgliiaaDoor
