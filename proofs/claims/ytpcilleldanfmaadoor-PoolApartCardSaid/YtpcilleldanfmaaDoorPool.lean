/- The program's pool of queues: where it lies; New, Len, Bytes, Has, Put, Take, Drop, Clone. -/
import Derived.Test.YtpcilleldanfmaaDoorPoolPlain
import Derived.Test.YtpcilleldanfmaaDoorGenAll1
import Derived.Test.YtpcilleldanfmaaDoorFq3
set_option linter.unusedVariables false
set_option linter.unusedSimpArgs false
set_option maxRecDepth 8000
namespace Go.Proofs.YtpcilleldanfmaaDoor
open Go.Vc
/-- Queues, each in a group of its own. -/
structure Qs (V : Wd → Nat → Qu → Grp → Prop) (W : Wd) (qs : List Qu) (bs : List Nat) (Ls : List Grp) : Prop where
  n1 : bs.length = qs.length
  n2 : Ls.length = qs.length
  v : ∀ (k : Nat) (q : Qu), qs[k]? = some q → ∃ b L, bs[k]? = some b ∧ Ls[k]? = some L ∧ V W b q L
def prs (bs : List Nat) : List Value := bs.map fun b => .pointer (some ⟨b, 0, none⟩)
def poH (P : Po) : List Value := [.int .u32 P.seed, .int .i64 P.tg, .int .i64 P.iv, .int .i64 P.mp, .int .i64 P.mb]
def PoV (W : Wd) (b : Nat) (P : Po) (L : Grp) : Prop := ∃ (bs : List Nat) (Ls : List Grp) (T : TypeId), Qs QuV W P.q bs Ls ∧ L = Ls.flatten ++ [(b, poH P ++ prs bs, T)]
section
variable {V : Wd → Nat → Qu → Grp → Prop} {W W' : Wd} {h h' h1 : Heap} {G R : List Grp} {L L' E : Grp} {P P' : Po} {q q' : Qu} {qs qs2 : List Qu} {bs bs2 : List Nat} {Ls Ls2 : List Grp} {b b' k n i : Nat} {p : Pk} {cs : List Value} {T : TypeId} {v : Value}
theorem Qs.le (hV : ∀ b q L, V W b q L → V W' b q L) (hq : Qs V W qs bs Ls) : Qs V W' qs bs Ls :=
  ⟨hq.n1, hq.n2, fun k q hk => by obtain ⟨b, L, h1, h2, h3⟩ := hq.v k q hk; exact ⟨b, L, h1, h2, hV _ _ _ h3⟩⟩
theorem Qs.set (hq : Qs V W qs bs Ls) (hv : V W b' q' L') (k : Nat) : Qs V W (qs.set k q') (bs.set k b') (Ls.set k L') := by
  have e1 := hq.n1
  have e2 := hq.n2
  refine ⟨by simp [e1], by simp [e2], fun j q hj => ?_⟩
  have hlt := (List.getElem?_eq_some_iff.1 hj).1
  rw [List.length_set] at hlt
  rw [List.getElem?_set] at hj ⊢
  rw [List.getElem?_set]
  by_cases e : k = j
  · rw [if_pos e, if_pos (by omega)] at hj
    rw [if_pos e, if_pos (by omega), if_pos e, if_pos (by omega)]
    cases hj
    exact ⟨_, _, rfl, rfl, hv⟩
  · rw [if_neg e] at hj
    rw [if_neg e, if_neg e]
    exact hq.v j q hj
theorem Qs.nil : Qs V W [] [] [] := ⟨rfl, rfl, fun k q hk => by simp at hk⟩
theorem Qs.one (hv : V W b q L) : Qs V W [q] [b] [L] := ⟨rfl, rfl, fun k q' hk => by
  cases k with
  | zero => simp at hk; subst hk; exact ⟨_, _, rfl, rfl, hv⟩
  | succ k => simp at hk⟩
theorem Qs.app (h1 : Qs V W qs bs Ls) (h2 : Qs V W qs2 bs2 Ls2) : Qs V W (qs ++ qs2) (bs ++ bs2) (Ls ++ Ls2) := by
  have a1 := h1.n1
  have a2 := h1.n2
  refine ⟨by simp [h1.n1, h2.n1], by simp [h1.n2, h2.n2], fun k q hk => ?_⟩
  by_cases hl : k < qs.length
  · rw [List.getElem?_append_left hl] at hk
    rw [List.getElem?_append_left (by omega), List.getElem?_append_left (by omega)]
    exact h1.v k q hk
  · rw [List.getElem?_append_right (by omega)] at hk
    rw [List.getElem?_append_right (by omega), List.getElem?_append_right (by omega), a1, a2]
    exact h2.v _ q hk
theorem Qs.take (hq : Qs V W qs bs Ls) (n : Nat) : Qs V W (qs.take n) (bs.take n) (Ls.take n) := by
  refine ⟨by simp [hq.n1], by simp [hq.n2], fun k q hk => ?_⟩
  rw [List.getElem?_take] at hk ⊢
  rw [List.getElem?_take]
  by_cases e : k < n
  · rw [if_pos e] at hk ⊢
    rw [if_pos e]
    exact hq.v k q hk
  · rw [if_neg e] at hk; cases hk
theorem Qs.drop (hq : Qs V W qs bs Ls) (n : Nat) : Qs V W (qs.drop n) (bs.drop n) (Ls.drop n) := by
  refine ⟨by simp [hq.n1], by simp [hq.n2], fun k q hk => ?_⟩
  rw [List.getElem?_drop] at hk ⊢
  rw [List.getElem?_drop]
  exact hq.v _ q hk
theorem prs_get (hb : bs[k]? = some b) : (prs bs)[k]? = some (.pointer (some ⟨b, 0, none⟩)) := by simp [prs, hb]
theorem prs_len : (prs bs).length = bs.length := by simp [prs]
theorem prs_set : (prs bs).set k (.pointer (some ⟨b, 0, none⟩)) = prs (bs.set k b) := by simp [prs, List.map_set]
theorem prs_app : prs (bs ++ bs2) = prs bs ++ prs bs2 := by simp [prs]
theorem poH_get {xs : List Value} : (poH P ++ xs)[5 + k]? = xs[k]? := by
  rw [List.getElem?_append_right (by simp [poH])]
  congr 1
  simp [poH]
theorem poH_set {xs : List Value} : (poH P ++ xs).set (5 + k) v = poH P ++ xs.set k v := by
  rw [List.set_append_right _ _ (by simp [poH])]
  congr 2
  simp [poH]
theorem PoV.opn (hv : PoV W b P L) (m : Me W h (L :: R)) : ∃ (bs : List Nat) (Ls : List Grp) (T : TypeId), Qs QuV W P.q bs Ls ∧ L = Ls.flatten ++ [(b, poH P ++ prs bs, T)] ∧ Me W h (Ls.flatten :: [(b, poH P ++ prs bs, T)] :: R) := by
  obtain ⟨bs, Ls, T, hq, rfl⟩ := hv
  exact ⟨bs, Ls, T, hq, rfl, m.split⟩
theorem PoV.shut (hq : Qs QuV W P.q bs Ls) (m : Me W h (Ls.flatten :: [(b, poH P ++ prs bs, T)] :: R)) : ∃ L, PoV W b P L ∧ Me W h (L :: R) := ⟨_, ⟨bs, Ls, T, hq, rfl⟩, m.join⟩
theorem PoV.le (hl : W.le W') (hv : PoV W b P L) : PoV W' b P L := by
  obtain ⟨bs, Ls, T, hq, rfl⟩ := hv
  exact ⟨bs, Ls, T, hq.le fun _ _ _ => QuV.le hl, rfl⟩
theorem callv_of {P : Program} {g : FuncId} {first captured : Array Value} {args : List Value} {K : Value → Heap → Prop} (hb : bodied P g = true) (hr : Runs P g (first.toList ++ (args ++ captured.toList)).toArray h K) :
    callv P (.func (.func g) first captured) args h K := by
  unfold callv; simp only [hb]; exact hr
theorem callv_mono {P : Program} {f : Value} {args : List Value} {K K' : Value → Heap → Prop} (hk : ∀ r h, K r h → K' r h) : callv P f args h K → callv P f args h K' := by
  unfold callv
  split
  · split
    · exact fun hc => hc.mono hk
    · exact False.elim
  · exact False.elim
theorem poolThere_c (aid tid : Int) : Runs Tryd.prog 29 #[.int .i64 aid, .int .i64 tid] h fun v h' => v = .bool (thereZ aid tid) ∧ h' = h := by
  have no : ¬ (1 ≤ aid ∧ aid ≤ 16 ∧ 0 ≤ tid ∧ tid < 8) → Value.bool false = .bool (thereZ aid tid) := fun h => by
    have : thereZ aid tid = false := by simpa [thereZ] using h
    rw [this]
  refine vc_pool_there _ _ _ _ (dcase_intro (fun q1 => dcase_intro (fun q2 => dcase_intro (fun q3 => ⟨?_, rfl⟩) fun q => ⟨no fun h => q h.2.2.1, rfl⟩) fun q => ⟨no fun h => q h.2.1, rfl⟩) fun q => ⟨no fun h => q h.1, rfl⟩)
  have : thereZ aid tid = decide (tid < 8) := by simp [thereZ, q1, q2, q3]
  rw [this]
/-- A call for each queue, in order. -/
theorem each_c {f : Value} (J : Nat → Heap → Prop) (h0 : J 0 h) (hc : ∀ (k : Nat) (h1 : Heap), k < 128 → J k h1 → ∃ p, cell h1 b (5 + k) = some (.pointer p) ∧ callv Tryd.prog f [.pointer p] h1 fun _ h2 => J (k + 1) h2) :
    Runs Tryd.prog 34 #[.pointer (some ⟨b, 0, none⟩), f] h fun v h' => v = .tuple #[] ∧ J 128 h' := by
  refine vc_pool_Pool_each _ _ _ _ ⟨fun x h' => ∃ i : Nat, x = i ∧ i ≤ 16 ∧ J (i * 8) h', fun x _ => (16 - x).toNat, ⟨0, rfl, by omega, h0⟩, fun _ => ?_⟩
  rintro _ h1 ⟨i, rfl, hi, hj⟩
  refine dcase_intro (fun q => ?_) fun q => ?_
  · refine ⟨fun x h' => ∃ t : Nat, x = t ∧ t ≤ 8 ∧ J (i * 8 + t) h', fun x _ => (8 - x).toNat, ⟨0, rfl, by omega, hj⟩, fun _ => ?_⟩
    rintro _ h2 ⟨t, rfl, ht, hj⟩
    refine dcase_intro (fun q2 => ?_) fun q2 => ?_
    · obtain ⟨p, hp, hcv⟩ := hc (i * 8 + t) h2 (by omega) hj
      refine ⟨⟨by omega, by omega⟩, ⟨by omega, by omega⟩, p, ?_, ?_⟩
      · rw [show 5 + (i : Int).toNat * 8 + (t : Int).toNat = 5 + (i * 8 + t) by omega]; exact hp
      · refine callv_mono (fun r h3 hj3 => ?_) hcv
        exact ⟨by simp only [fits]; omega, ⟨t + 1, by omega, by omega, hj3⟩, by (try dsimp only); omega⟩
    · obtain rfl : t = 8 := by omega
      exact ⟨by simp only [fits]; omega, ⟨i + 1, by omega, by omega, by rw [show (i + 1) * 8 = i * 8 + 8 by omega]; exact hj⟩, by (try dsimp only); omega⟩
  · obtain rfl : i = 16 := by omega
    exact ⟨rfl, hj⟩
theorem Qs.cellAt {j : Nat} (hq : Qs V W P.q bs Ls) (hk : P.q[k]? = some q) (m : Me W h G) (hj : G[j]? = some [(b, poH P ++ prs bs, T)]) : ∃ bk Lk, bs[k]? = some bk ∧ Ls[k]? = some Lk ∧ V W bk q Lk ∧ cell h b (5 + k) = some (.pointer (some ⟨bk, 0, none⟩)) := by
  obtain ⟨bk, Lk, h1, h2, h3⟩ := hq.v k q hk
  exact ⟨bk, Lk, h1, h2, h3, m.cell j hj (by rw [poH_get]; exact prs_get h1)⟩
theorem poLen_c (m : Me W h (L :: R)) (hv : PoV W b P L) (hP : PoOk P) (hl : P.len ≤ 1048576) : Runs Tryd.prog 13 #[.pointer (some ⟨b, 0, none⟩)] h fun v h' => v = .int .i64 (P.len : Int) ∧ Me W h' (L :: R) := by
  (obtain ⟨bs, Ls, T, hq, rfl, mNew⟩ := hv.opn m; replace m := mNew; clear mNew)
  refine vc_pool_Pool_Len _ _ _ ?_
  (intro bN hN1 eN1 eN2; replace m := m.push eN2 eN1; clear eN1 eN2)
  (refine m.store 0 rfl (Nat.le_of_ble_eq_true rfl) ?_; clear m; intro _ m; simp only [List.set_cons_zero, List.set_cons_succ] at m)
  refine (each_c (fun k h' => Me W h' ([(bN, [.int .i64 (cntQ (P.q.take k) : Int)], 3)] :: Ls.flatten :: [(b, poH P ++ prs bs, T)] :: R)) (by simpa [cntQ] using m) ?_).mono ?_
  · clear m
    intro k h1 hk m
    obtain ⟨bk, Lk, e1, e2, hvk, hc⟩ := hq.cellAt (hP.qu hk).1 m (j := 2) rfl
    refine ⟨_, hc, callv_of (by kernel_rfl) ?_⟩
    have hm := (m.focus 1 rfl).pick k e2
    have hle := cntQ_take_le P.q (k + 1)
    have hst := cntQ_take (hP.qu hk).1
    have hlen : P.len = cntQ P.q := rfl
    refine vc_pool_Pool_Len_1 _ _ _ _ ?_
    refine ⟨_, m.cell 0 rfl rfl, (len_c hm hvk).mono ?_⟩
    rintro _ h2 ⟨rfl, rfl⟩
    refine ⟨_, rfl, m.cell 0 rfl rfl, by simp only [fits]; omega, ?_⟩
    (refine m.store 0 rfl (Nat.le_of_ble_eq_true rfl) ?_; clear m; intro _ m; simp only [List.set_cons_zero, List.set_cons_succ] at m)
    rw [hst]
    simpa using m
  · rintro _ h1 ⟨rfl, m⟩
    refine ⟨_, m.cell 0 rfl rfl, ?_, m.drop1.join⟩
    rw [List.take_of_length_le (by rw [hP.n]; omega)]
    rfl
theorem poBytes_c (m : Me W h (L :: R)) (hv : PoV W b P L) (hP : PoOk P) (hl : P.len ≤ 1048576) : Runs Tryd.prog 14 #[.pointer (some ⟨b, 0, none⟩)] h fun v h' => v = .int .i64 P.byt ∧ Me W h' (L :: R) := by
  (obtain ⟨bs, Ls, T, hq, rfl, mNew⟩ := hv.opn m; replace m := mNew; clear mNew)
  have hbl := hP.byt_le
  refine vc_pool_Pool_Bytes _ _ _ ?_
  (intro bN hN1 eN1 eN2; replace m := m.push eN2 eN1; clear eN1 eN2)
  (refine m.store 0 rfl (Nat.le_of_ble_eq_true rfl) ?_; clear m; intro _ m; simp only [List.set_cons_zero, List.set_cons_succ] at m)
  refine (each_c (fun k h' => Me W h' ([(bN, [.int .i64 (bytQ (P.q.take k))], 3)] :: Ls.flatten :: [(b, poH P ++ prs bs, T)] :: R)) (by simpa [bytQ] using m) ?_).mono ?_
  · clear m
    intro k h1 hk m
    obtain ⟨bk, Lk, e1, e2, hvk, hc⟩ := hq.cellAt (hP.qu hk).1 m (j := 2) rfl
    refine ⟨_, hc, callv_of (by kernel_rfl) ?_⟩
    have hm := (m.focus 1 rfl).pick k e2
    have hle := bytQ_take_le P.q (k + 1)
    have hnn := bytQ_nn (P.q.take (k + 1))
    have hst := bytQ_take (hP.qu hk).1
    have hlen : P.byt = bytQ P.q := rfl
    refine vc_pool_Pool_Bytes_1 _ _ _ _ ?_
    refine ⟨_, m.cell 0 rfl rfl, (bytesq_c hm hvk).mono ?_⟩
    rintro _ h2 ⟨rfl, rfl⟩
    refine ⟨_, rfl, m.cell 0 rfl rfl, by simp only [fits]; omega, ?_⟩
    (refine m.store 0 rfl (Nat.le_of_ble_eq_true rfl) ?_; clear m; intro _ m; simp only [List.set_cons_zero, List.set_cons_succ] at m)
    rw [hst]
    exact m
  · rintro _ h1 ⟨rfl, m⟩
    refine ⟨_, m.cell 0 rfl rfl, ?_, m.drop1.join⟩
    rw [List.take_of_length_le (by rw [hP.n]; omega)]
    rfl
theorem poHas_c (m : Me W h (L :: R)) (hv : PoV W b P L) (hP : PoOk P) (aid tid : Int) : Runs Tryd.prog 12 #[.pointer (some ⟨b, 0, none⟩), .int .i64 aid, .int .i64 tid] h fun v h' =>
    v = .bool (thereZ aid tid && decide (0 < (P.qu (pix aid tid)).cnt)) ∧ h' = h := by
  (obtain ⟨bs, Ls, T, hq, rfl, mNew⟩ := hv.opn m; replace m := mNew; clear mNew)
  refine vc_pool_Pool_Has _ _ _ _ _ ((poolThere_c aid tid).mono ?_)
  rintro _ h1 ⟨rfl, rfl⟩
  refine ⟨_, rfl, bcase_intro (fun ht => ?_) fun ht => ⟨by rw [ht]; rfl, rfl⟩⟩
  have hz := thereZ_iff.1 ht
  obtain ⟨bk, Lk, e1, e2, hvk, hc⟩ := hq.cellAt (hP.qu (pix_lt ht)).1 m (j := 1) rfl
  refine ⟨by simp only [fits]; omega, ⟨by omega, by omega⟩, ⟨by omega, by omega⟩, _, ?_, (len_c (m.pick _ e2) hvk).mono ?_⟩
  · rw [show 5 + (aid - 1).toNat * 8 + tid.toNat = 5 + pix aid tid by unfold pix; omega]; exact hc
  · rintro _ h2 ⟨rfl, rfl⟩
    refine ⟨_, rfl, ?_, rfl⟩
    rw [ht]
    simp
end
end Go.Proofs.YtpcilleldanfmaaDoor
