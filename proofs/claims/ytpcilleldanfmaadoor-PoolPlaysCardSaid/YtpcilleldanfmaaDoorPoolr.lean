/- The document's pool of queues: where it lies; NewPool, Len, Bytes, Has, Take. -/
import Derived.Test.YtpcilleldanfmaaDoorPool4
import Derived.Test.YtpcilleldanfmaaDoorFqr4
set_option linter.unusedVariables false
set_option linter.unusedSimpArgs false
set_option maxRecDepth 8000
namespace Go.Proofs.YtpcilleldanfmaaDoor
open Go.Vc
def padR (P : Po) : List Qu := List.replicate 8 P.new ++ P.q
def PrV (W : Wd) (b : Nat) (P : Po) (L : Grp) : Prop := ∃ (bs : List Nat) (Ls : List Grp) (T : TypeId), Qs QrV W (padR P) bs Ls ∧ L = Ls.flatten ++ [(b, poH P ++ prs bs, T)]
section
variable {V : Wd → Nat → Qu → Grp → Prop} {W W' : Wd} {h h' h1 : Heap} {G R : List Grp} {L L' E : Grp} {P P' : Po} {q q' : Qu} {qs : List Qu} {bs bs2 : List Nat} {Ls Ls2 : List Grp} {b b' bk k n i : Nat} {p : Pk} {cs : List Value} {T : TypeId} {v : Value}
theorem padR_get : (padR P)[8 + k]? = P.q[k]? := by
  unfold padR
  rw [List.getElem?_append_right (by simp)]
  simp
theorem padR_set : (padR P).set (8 + k) q = padR (P.set k q) := by
  unfold padR
  rw [List.set_append_right _ _ (by simp)]
  simp [Po.set, Po.new]
theorem padR_len (hP : PoOk P) : (padR P).length = 136 := by simp [padR, hP.n]
theorem PrV.opn (hv : PrV W b P L) (m : Me W h (L :: R)) : ∃ (bs : List Nat) (Ls : List Grp) (T : TypeId), Qs QrV W (padR P) bs Ls ∧ L = Ls.flatten ++ [(b, poH P ++ prs bs, T)] ∧ Me W h (Ls.flatten :: [(b, poH P ++ prs bs, T)] :: R) := by
  obtain ⟨bs, Ls, T, hq, rfl⟩ := hv
  exact ⟨bs, Ls, T, hq, rfl, m.split⟩
theorem PrV.shut (hq : Qs QrV W (padR P) bs Ls) (m : Me W h (Ls.flatten :: [(b, poH P ++ prs bs, T)] :: R)) : ∃ L, PrV W b P L ∧ Me W h (L :: R) := ⟨_, ⟨bs, Ls, T, hq, rfl⟩, m.join⟩
theorem PrV.le (hl : W.le W') (hv : PrV W b P L) : PrV W' b P L := by
  obtain ⟨bs, Ls, T, hq, rfl⟩ := hv
  exact ⟨bs, Ls, T, hq.le fun _ _ _ => QrV.le hl, rfl⟩
theorem PrV.mp (hv : PrV W b P L) (m : Me W h (L :: R)) : cell h b 3 = some (.int .i64 P.mp) := by
  (obtain ⟨bs, Ls, T, hq, rfl, mNew⟩ := hv.opn m; replace m := mNew; clear mNew)
  exact m.cell 1 rfl rfl
theorem PrV.mb (hv : PrV W b P L) (m : Me W h (L :: R)) : cell h b 4 = some (.int .i64 P.mb) := by
  (obtain ⟨bs, Ls, T, hq, rfl, mNew⟩ := hv.opn m; replace m := mNew; clear mNew)
  exact m.cell 1 rfl rfl
theorem Qs.cellR {j : Nat} (hq : Qs QrV W (padR P) bs Ls) (hk : P.q[k]? = some q) (m : Me W h G) (hj : G[j]? = some [(b, poH P ++ prs bs, T)]) : ∃ bk Lk, bs[8 + k]? = some bk ∧ Ls[8 + k]? = some Lk ∧ QrV W bk q Lk ∧ cell h b (5 + (8 + k)) = some (.pointer (some ⟨bk, 0, none⟩)) := by
  obtain ⟨bk, Lk, h1, h2, h3⟩ := hq.v (8 + k) q (by rw [padR_get]; exact hk)
  exact ⟨bk, Lk, h1, h2, h3, m.cell j hj (by rw [poH_get]; exact prs_get h1)⟩
theorem Qs.shutR (hq : Qs QrV W (padR P) bs Ls) (hb : bs[8 + k]? = some b') (hL : Ls[8 + k]? = some E) (hle : W.le W') (hv : QrV W' b' q' L') (m : Me W' h (L' :: (Ls.eraseIdx (8 + k)).flatten :: [(b, poH P ++ prs bs, T)] :: R)) :
    ∃ L, PrV W' b (P.set k q') L ∧ Me W' h (L :: R) := by
  have h1 := (hq.le fun _ _ _ => QrV.le hle).set hv (8 + k)
  rw [set_same hb, padR_set] at h1
  exact PrV.shut (P := P.set k q') h1 (m.unpick (8 + k) hL)
/-- One queue was looked into, all is as it was. -/
theorem Me.unlook {k : Nat} (hL : Ls[k]? = some E) (m : Me W h (E :: (Ls.eraseIdx k).flatten :: R)) : Me W h (Ls.flatten :: R) := by
  have := m.unpick k hL
  rwa [set_same hL] at this
theorem rThere_c (aid tid : Int) : Runs Tryd.prog 44 #[.int .i64 aid, .int .i64 tid] h fun v h' => v = .bool (thereZ aid tid) ∧ h' = h := by
  have no : ¬ (1 ≤ aid ∧ aid ≤ 16 ∧ 0 ≤ tid ∧ tid < 8) → Value.bool false = .bool (thereZ aid tid) := fun h => by
    have : thereZ aid tid = false := by simpa [thereZ] using h
    rw [this]
  refine vc_muezzinref8_there _ _ _ _ (dcase_intro (fun q1 => dcase_intro (fun q2 => dcase_intro (fun q3 => ⟨?_, rfl⟩) fun q => ⟨no fun h => q h.2.2.1, rfl⟩) fun q => ⟨no fun h => q h.2.1, rfl⟩) fun q => ⟨no fun h => q h.1, rfl⟩)
  have : thereZ aid tid = decide (tid < 8) := by simp [thereZ, q1, q2, q3]
  rw [this]
theorem prNew_c (m : Me W h R) (seed tg iv mp mb : Int) : Runs Tryd.prog 18 #[.int .u32 seed, .int .i64 tg, .int .i64 iv, .int .i64 mp, .int .i64 mb] h fun v h' =>
    ∃ b L, v = .pointer (some ⟨b, 0, none⟩) ∧ PrV W b (po0 seed tg iv mp mb) L ∧ Me W h' (L :: R) := by
  refine vc_muezzinref8_NewPool _ _ _ _ _ _ _ ?_
  intro b h1 e1 e2
  replace m := m.push e2 e1
  clear e1 e2
  obtain ⟨T, m⟩ : ∃ T, Me W h1 ([(b, poH (po0 seed tg iv mp mb) ++ List.replicate 136 (.pointer none), T)] :: R) := ⟨_, m⟩
  refine ⟨fun x h' => ∃ (i : Nat) (bs : List Nat) (Ls : List Grp), x = i ∧ i ≤ 17 ∧ bs.length = i * 8 ∧ Qs QrV W (List.replicate (i * 8) (po0 seed tg iv mp mb).new) bs Ls ∧ Me W h' (Ls.flatten :: [(b, poH (po0 seed tg iv mp mb) ++ (prs bs ++ List.replicate (136 - i * 8) (Value.pointer none)), T)] :: R), fun x _ => (17 - x).toNat,
    ⟨0, [], [], rfl, by omega, rfl, Qs.nil, m.nilI⟩, fun _ => ?_⟩
  clear m
  rintro _ h2 ⟨i, bs, Ls, rfl, hi, hbl, hq, m⟩
  refine dcase_intro (fun q => ?_) fun q => ?_
  · refine ⟨fun x h' => ∃ (t : Nat) (bs : List Nat) (Ls : List Grp), x = t ∧ t ≤ 8 ∧ bs.length = i * 8 + t ∧ Qs QrV W (List.replicate (i * 8 + t) (po0 seed tg iv mp mb).new) bs Ls ∧ Me W h' (Ls.flatten :: [(b, poH (po0 seed tg iv mp mb) ++ (prs bs ++ List.replicate (136 - (i * 8 + t)) (Value.pointer none)), T)] :: R), fun x _ => (8 - x).toNat,
      ⟨0, bs, Ls, rfl, by omega, hbl, hq, m⟩, fun _ => ?_⟩
    clear m hq hbl
    rintro _ h3 ⟨t, bs, Ls, rfl, ht, hbl, hq, m⟩
    refine dcase_intro (fun q2 => ?_) fun q2 => ?_
    · refine ⟨⟨by omega, by omega⟩, (newr_c m seed tg iv).mono ?_⟩
      rintro _ h4 ⟨b', L', rfl, hv', m⟩
      refine ⟨_, rfl, ⟨by omega, by omega⟩, ?_⟩
      refine m.store 2 rfl (by simp only [List.length_append, prs_len, hbl, poH, List.length_cons, List.length_nil, List.length_replicate]; omega) fun h5 m => ?_
      have ix : 5 + (i : Int).toNat * 8 + (t : Int).toNat = 5 + (i * 8 + t) := by omega
      obtain ⟨r, hr⟩ : ∃ r, 136 - (i * 8 + t) = r + 1 := ⟨136 - (i * 8 + t) - 1, by omega⟩
      rw [ix, poH_set, List.set_append_right _ _ (by rw [prs_len]; omega), prs_len, hbl, Nat.sub_self, hr, List.replicate_succ, List.set_cons_zero] at m
      simp only [List.set_cons_zero, List.set_cons_succ] at m
      refine ⟨by simp only [fits]; omega, ⟨t + 1, bs ++ [b'], Ls ++ [L'], by omega, by omega, by simp [hbl]; omega, ?_, ?_⟩, by (try dsimp only); omega⟩
      · rw [show i * 8 + (t + 1) = i * 8 + t + 1 by omega, List.replicate_succ']
        exact hq.app (Qs.one hv')
      · rw [show 136 - (i * 8 + (t + 1)) = r by omega, prs_app, List.append_assoc, show prs [b'] = [.pointer (some ⟨b', 0, none⟩)] from rfl, List.singleton_append]
        exact m.perm (by simp only [List.flatten_cons, List.flatten_append, List.flatten_nil]; exact permC fun c h0 hc => by simp only [hc, h0]; omega)
    · obtain rfl : t = 8 := by omega
      exact ⟨by simp only [fits]; omega, ⟨i + 1, bs, Ls, by omega, by omega, by omega, by rw [show (i + 1) * 8 = i * 8 + 8 by omega]; exact hq, by rw [show (i + 1) * 8 = i * 8 + 8 by omega]; exact m⟩, by (try dsimp only); omega⟩
  · obtain rfl : i = 17 := by omega
    simp only [Nat.reduceMul, Nat.sub_self, List.replicate_zero, List.append_nil] at m hq
    have e : padR (po0 seed tg iv mp mb) = List.replicate 136 (po0 seed tg iv mp mb).new := by
      unfold padR po0 Po.new
      dsimp only
      rw [List.replicate_append_replicate]
    obtain ⟨L, hv, m⟩ := PrV.shut (P := po0 seed tg iv mp mb) (by rw [e]; exact hq) m
    exact ⟨b, L, rfl, hv, m⟩
theorem prLen_c (m : Me W h (L :: R)) (hv : PrV W b P L) (hP : PoOk P) (hl : P.len ≤ 1048576) : Runs Tryd.prog 25 #[.pointer (some ⟨b, 0, none⟩)] h fun v h' => v = .int .i64 (P.len : Int) ∧ Me W h' (L :: R) := by
  (obtain ⟨bs, Ls, T, hq, rfl, mNew⟩ := hv.opn m; replace m := mNew; clear mNew)
  have hlen : P.len = cntQ P.q := rfl
  refine vc_muezzinref8_Pool_Len _ _ _ ⟨fun x a h' => ∃ i : Nat, a = i + 1 ∧ i ≤ 16 ∧ x = cntQ (P.q.take (i * 8)) ∧ Me W h' (Ls.flatten :: [(b, poH P ++ prs bs, T)] :: R), fun _ a _ => (17 - a).toNat, ⟨0, by omega, by omega, by simp [cntQ], m⟩, fun _ => ?_⟩
  clear m
  rintro _ _ h1 ⟨i, rfl, hi, rfl, m⟩
  refine dcase_intro (fun q => ?_) fun q => ?_
  · refine ⟨fun x a h' => ∃ t : Nat, a = t ∧ t ≤ 8 ∧ x = cntQ (P.q.take (i * 8 + t)) ∧ Me W h' (Ls.flatten :: [(b, poH P ++ prs bs, T)] :: R), fun _ a _ => (8 - a).toNat, ⟨0, rfl, by omega, rfl, m⟩, fun _ => ?_⟩
    clear m
    rintro _ _ h2 ⟨t, rfl, ht, rfl, m⟩
    refine dcase_intro (fun q2 => ?_) fun q2 => ?_
    · have hk : i * 8 + t < 128 := by omega
      obtain ⟨bk, Lk, e1, e2, hvk, hc⟩ := hq.cellR (hP.qu hk).1 m (j := 1) rfl
      have ix : 5 + ((i : Int) + 1).toNat * 8 + (t : Int).toNat = 5 + (8 + (i * 8 + t)) := by omega
      rw [ix]
      have hle := cntQ_take_le P.q (i * 8 + t + 1)
      have hst := cntQ_take (hP.qu hk).1
      refine ⟨⟨by omega, by omega⟩, ⟨by omega, by omega⟩, _, hc, (lenr_c (m.pick _ e2) hvk (hP.qu hk).2.ok).mono ?_⟩
      rintro _ h3 ⟨rfl, m⟩
      exact ⟨_, rfl, by simp only [fits]; omega, by simp only [fits]; omega, ⟨t + 1, by omega, by omega, by rw [show i * 8 + (t + 1) = i * 8 + t + 1 by omega]; omega, Me.unlook e2 m⟩, by (try dsimp only); omega⟩
    · obtain rfl : t = 8 := by omega
      exact ⟨by simp only [fits]; omega, ⟨i + 1, by omega, by omega, by rw [show (i + 1) * 8 = i * 8 + 8 by omega], m⟩, by (try dsimp only); omega⟩
  · obtain rfl : i = 16 := by omega
    rw [List.take_of_length_le (by rw [hP.n]; omega)]
    exact ⟨by rw [hlen], m.join⟩
theorem prBytes_c (m : Me W h (L :: R)) (hv : PrV W b P L) (hP : PoOk P) (hl : P.len ≤ 1048576) : Runs Tryd.prog 26 #[.pointer (some ⟨b, 0, none⟩)] h fun v h' => v = .int .i64 P.byt ∧ h' = h := by
  (obtain ⟨bs, Ls, T, hq, rfl, mNew⟩ := hv.opn m; replace m := mNew; clear mNew)
  have hbl := hP.byt_le
  have hlen : P.byt = bytQ P.q := rfl
  refine vc_muezzinref8_Pool_Bytes _ _ _ ⟨fun x a h' => ∃ i : Nat, a = i + 1 ∧ i ≤ 16 ∧ x = bytQ (P.q.take (i * 8)) ∧ h' = h, fun _ a _ => (17 - a).toNat, ⟨0, by omega, by omega, by simp [bytQ], rfl⟩, fun _ => ?_⟩
  rintro _ _ h1 ⟨i, rfl, hi, rfl, rfl⟩
  refine dcase_intro (fun q => ?_) fun q => ?_
  · refine ⟨fun x a h' => ∃ t : Nat, a = t ∧ t ≤ 8 ∧ x = bytQ (P.q.take (i * 8 + t)) ∧ h' = h1, fun _ a _ => (8 - a).toNat, ⟨0, rfl, by omega, rfl, rfl⟩, fun _ => ?_⟩
    rintro _ _ h2 ⟨t, rfl, ht, rfl, rfl⟩
    refine dcase_intro (fun q2 => ?_) fun q2 => ?_
    · have hk : i * 8 + t < 128 := by omega
      obtain ⟨bk, Lk, e1, e2, hvk, hc⟩ := hq.cellR (hP.qu hk).1 m (j := 1) rfl
      have ix : 5 + ((i : Int) + 1).toNat * 8 + (t : Int).toNat = 5 + (8 + (i * 8 + t)) := by omega
      rw [ix]
      have hle := bytQ_take_le P.q (i * 8 + t + 1)
      have hnn := bytQ_nn (P.q.take (i * 8 + t + 1))
      have hst := bytQ_take (hP.qu hk).1
      refine ⟨⟨by omega, by omega⟩, ⟨by omega, by omega⟩, _, hc, (bytesr_c (m.pick _ e2) hvk (hP.qu hk).2.ok).mono ?_⟩
      rintro _ h3 ⟨rfl, rfl⟩
      exact ⟨_, rfl, by simp only [fits]; omega, by simp only [fits]; omega, ⟨t + 1, by omega, by omega, by rw [show i * 8 + (t + 1) = i * 8 + t + 1 by omega]; omega, rfl⟩, by (try dsimp only); omega⟩
    · obtain rfl : t = 8 := by omega
      exact ⟨by simp only [fits]; omega, ⟨i + 1, by omega, by omega, by rw [show (i + 1) * 8 = i * 8 + 8 by omega], rfl⟩, by (try dsimp only); omega⟩
  · obtain rfl : i = 16 := by omega
    rw [List.take_of_length_le (by rw [hP.n]; omega)]
    exact ⟨by rw [hlen], rfl⟩
theorem prHas_c (m : Me W h (L :: R)) (hv : PrV W b P L) (hP : PoOk P) (aid tid : Int) : Runs Tryd.prog 27 #[.pointer (some ⟨b, 0, none⟩), .int .i64 aid, .int .i64 tid] h fun v h' =>
    v = .bool (thereZ aid tid && decide (0 < (P.qu (pix aid tid)).cnt)) ∧ Me W h' (L :: R) := by
  have m0 := m
  (obtain ⟨bs, Ls, T, hq, rfl, mNew⟩ := hv.opn m; replace m := mNew; clear mNew)
  refine vc_muezzinref8_Pool_Has _ _ _ _ _ ((rThere_c aid tid).mono ?_)
  rintro _ h1 ⟨rfl, rfl⟩
  refine ⟨_, rfl, bcase_intro (fun ht => ?_) fun ht => ⟨by rw [ht]; rfl, m0⟩⟩
  have hz := thereZ_iff.1 ht
  obtain ⟨bk, Lk, e1, e2, hvk, hc⟩ := hq.cellR (hP.qu (pix_lt ht)).1 m (j := 1) rfl
  refine ⟨⟨by omega, by omega⟩, ⟨by omega, by omega⟩, _, ?_, (lenr_c (m.pick _ e2) hvk (hP.qu (pix_lt ht)).2.ok).mono ?_⟩
  · rw [show 5 + aid.toNat * 8 + tid.toNat = 5 + (8 + pix aid tid) by unfold pix; omega]; exact hc
  · rintro _ h2 ⟨rfl, m⟩
    refine ⟨_, rfl, ?_, (Me.unlook e2 m).join⟩
    rw [ht]
    simp
theorem prTake_c {aid tid now : Int} (m : Me W h (L :: R)) (hv : PrV W b P L) (hP : PoOk P) (n0 : 0 ≤ now) (n1 : now ≤ 1125899906842624) :
    Runs Tryd.prog 22 #[.pointer (some ⟨b, 0, none⟩), .int .i64 aid, .int .i64 tid, .int .i64 now] h fun v h' => ∃ a c vs E L' cs, v = .tuple #[.agg cs.toArray, .slice a (P.takeZ aid tid now).2.1.length c, .bool (P.takeZ aid tid now).2.2.isSome] ∧
      PkV W ((P.takeZ aid tid now).2.2.getD pk0) cs ∧ Ow a (P.takeZ aid tid now).2.1.length c 5 vs E ∧ Sq (PkV W) (P.takeZ aid tid now).2.1 vs ∧ PrV W b (P.takeZ aid tid now).1 L' ∧ Me W h' (E :: L' :: R) := by
  refine vc_muezzinref8_Pool_Take _ _ _ _ _ _ ?_
  intro bx h1 e1 e2
  replace m := m.push e2 e1
  clear e1 e2
  refine (rThere_c aid tid).mono ?_
  rintro _ h2 ⟨rfl, rfl⟩
  refine ⟨_, rfl, ?_⟩
  unfold Po.takeZ
  by_cases ht : thereZ aid tid = true
  case neg =>
    have ht' : thereZ aid tid = false := by simpa using ht
    refine bcase_true (by rw [ht']; rfl) ⟨⟨rfl, m.wrsb 0 rfl rfl, by simp [Value.oneCell']⟩, ?_⟩
    intro h3 e3
    replace m := m.setr 0 rfl e3
    rw [if_neg ht]
    exact ⟨_, m.rowb 0 rfl rfl rfl, none, 0, [], [], L, _, rfl, PkV.zero, Ow.nil, rfl, hv, m.drop1.nilI⟩
  have hz := thereZ_iff.1 ht
  have hk := pix_lt ht
  rw [if_pos ht]
  refine bcase_false (by rw [ht]; rfl) ⟨⟨by omega, by omega⟩, ⟨by omega, by omega⟩, ?_⟩
  have ix : 5 + aid.toNat * 8 + tid.toNat = 5 + (8 + pix aid tid) := by unfold pix; omega
  rw [ix]
  replace m := m.focus 1 rfl
  simp only [List.eraseIdx_cons_zero, List.eraseIdx_cons_succ] at m
  (obtain ⟨bs, Ls, T, hq, rfl, mNew⟩ := hv.opn m; replace m := mNew; clear mNew)
  obtain ⟨bk, Lk, e1, e2, hvk, hc⟩ := hq.cellR (hP.qu hk).1 m (j := 1) rfl
  refine ⟨_, hc, (taker_c (m.pick _ e2) hvk (hP.qu hk).2.ok n0 n1).mono ?_⟩
  rintro _ h3 ⟨a, c, vs, E, Lk', cs, rfl, hcv, o, hs, hvk', m1⟩
  clear m
  refine ⟨_, _, _, _, _, rfl, ?_⟩
  obtain ⟨pa, pc, rfl, hbt⟩ := hcv
  refine ⟨⟨rfl, m1.wrsb 4 rfl rfl, by simp [Value.oneCell']⟩, ?_⟩
  intro h4 e3
  replace m1 := m1.setr 4 rfl e3
  refine ⟨_, m1.rowb 4 rfl rfl rfl, ?_⟩
  have m2 : Me W h4 (Lk' :: (Ls.eraseIdx (8 + pix aid tid)).flatten :: [(b, poH P ++ prs bs, T)] :: E :: R) := (m1.free 4 rfl).perm (by
    simp only [List.eraseIdx_cons_zero, List.eraseIdx_cons_succ, List.set_cons_zero, List.set_cons_succ, List.flatten_cons]
    exact permC fun c h0 hc => by simp only [hc, h0]; omega)
  obtain ⟨L2, hv2, m3⟩ := hq.shutR (R := E :: R) e1 e2 (Wd.le.refl _) hvk' m2
  exact ⟨_, _, vs, E, L2, _, rfl, ⟨pa, pc, rfl, hbt⟩, o, hs, hv2, m3.focus 1 rfl⟩
end
end Go.Proofs.YtpcilleldanfmaaDoor
