import Derived.Test.YtepodifionoigaaGreatDoorMRecv2
set_option linter.unusedVariables false
set_option linter.unusedSimpArgs false
set_option maxRecDepth 8000
namespace Go.Proofs.YtepodifionoigaaGreatDoor
open Go.Vc
def _root_.Go.Vc.Wd.upd (W : Wd) (b : Nat) (x : Obj) : Wd := fun c => if c = b then some x else W c
section
variable {W W' : Wd} {h h' : Heap} {b t j n c r : Nat} {G : List Grp} {v : Value} {f : Fm} {mv : Option Nat} {E : Grp} {x y : Obj} {es : List MapEntry} {l : List Fm} {k : Int}
theorem upd_at : W.upd b x b = some x := if_pos rfl
theorem upd_ne (hc : c ≠ b) : W.upd b x c = W c := if_neg hc
theorem upd_gr : W.gr (W.upd b x) (some b) := fun d y hd e => by rw [upd_ne (fun q => hd (by rw [q]))]; exact e
theorem upd_le (hb : W b = none) : W.le (W.upd b x) := fun d y e => by
  by_cases q : d = b
  · subst q; rw [hb] at e; cases e
  · rw [upd_ne q]; exact e
theorem me_pushO (m : Me W h G) (hh : h' = h.push x) (hb : b = h.size) : Me (W.upd b x) h' G ∧ W b = none := by
  subst hh hb
  have hn : W h.size = none := by
    cases hW : W h.size with
    | none => rfl
    | some x => exact absurd (m.lt hW) (by omega)
  refine ⟨⟨fun d y e => ?_, fun z hz => (m.has z hz).push_old, fun z hz => ?_, m.nd⟩, hn⟩
  · by_cases q : d = h.size
    · subst q; rw [upd_at] at e; cases e; simp
    · rw [upd_ne q] at e
      rw [Array.getElem?_push_lt (m.lt e), ← m.keep d y e, Array.getElem?_eq_getElem]
  · have := (m.has z hz).lt
    rw [upd_ne (by omega)]; exact m.off z hz
theorem me_updO (m : Me W h G) (hb : W b = some y) (hh : h' = h.setIfInBounds b x) : Me (W.upd b x) h' G := by
  subst hh
  have hlt := m.lt hb
  refine ⟨fun d y e => ?_, fun z hz => ?_, fun z hz => ?_, m.nd⟩
  · by_cases q : d = b
    · subst q; rw [upd_at] at e; cases e
      rw [Array.getElem?_setIfInBounds_self_of_lt hlt]
    · rw [upd_ne q] at e
      rw [Array.getElem?_setIfInBounds_ne (Ne.symm q)]; exact m.keep d y e
  · have ho := m.off z hz
    have hne : z.1 ≠ b := fun q => by rw [q, hb] at ho; cases ho
    unfold Blk
    rw [Array.getElem?_setIfInBounds_ne (Ne.symm hne)]
    exact m.has z hz
  · have ho := m.off z hz
    have hne : z.1 ≠ b := fun q => by rw [q, hb] at ho; cases ho
    rw [upd_ne hne]; exact ho
theorem mapU : Tryz.prog.underlying 51 = some (.map 3 67) := by kernel_rfl
theorem intU : Tryz.prog.underlying 3 = some (.int .i64) := by kernel_rfl
theorem qosZ : zeroOf Tryz.prog 67 = some (.agg z24.toArray) := by kernel_rfl
theorem lkr_eq {cc : Nat} {kv : Value} (hm : mobj h mv = some (es, cc)) : lkr Tryz.prog 51 (.map mv) kv h = (match Instr.findNow (.int .i64) kv es 0 with
    | some (some (_, v)) => some (v, true)
    | some none => some (.agg z24.toArray, false)
    | none => none) := by
  unfold lkr
  rw [mapU]
  dsimp only
  rw [intU, hm]
  dsimp only
  rw [qosZ]
  cases Instr.findNow (.int .i64) kv es 0 with
  | none => rfl
  | some o => cases o <;> rfl
theorem find_es : ∀ {es : List MapEntry} {l : List Fm} (i : Nat), EsV W es l → (match kfind l k with
    | none => Instr.findNow (.int .i64) (.int .i64 k) es i = some none
    | some f => ∃ j cs, Instr.findNow (.int .i64) (.int .i64 k) es i = some (some (i + j, .agg cs.toArray)) ∧ FmV W f cs ∧ EsV W (es.eraseIdx j) (kdel l k) ∧ j < es.length)
  | [], l, i, hv => by cases hv; rfl
  | e :: es, l, i, ⟨f, r, cs, e1, e2, e3, h1, h2⟩ => by
    subst e1
    have ih := find_es (es := es) (l := r) (i + 1) h2
    have hs : Instr.sameNow (.int .i64) (.int .i64 k) e.key = some (k == f.sq) := by rw [e2]; rfl
    have hf : Instr.findNow (.int .i64) (.int .i64 k) (e :: es) i = (match some (k == f.sq) with
        | some true => some (some (i, e.val))
        | some false => Instr.findNow (.int .i64) (.int .i64 k) es (i + 1)
        | none => none) := by rw [← hs]; rfl
    by_cases hq : f.sq = k
    · have q1 : (k == f.sq) = true := by simp [hq]
      have q2 : (f.sq == k) = true := by simp [hq]
      rw [show kfind (f :: r) k = some f by simp [kfind, q2]]
      rw [hf, q1]
      exact ⟨0, cs, by rw [e3]; rfl, h1, by rw [show kdel (f :: r) k = r by simp [kdel, q2]]; exact h2, by simp⟩
    · have q1 : (k == f.sq) = false := by simp; exact fun e => hq e.symm
      have q2 : (f.sq == k) = false := by simp [hq]
      have e4 : kfind (f :: r) k = kfind r k := by simp [kfind, q2]
      have e5 : kdel (f :: r) k = f :: kdel r k := by simp [kdel, q2]
      rw [e4, hf, q1]
      cases hr : kfind r k with
      | none => rw [hr] at ih; exact ih
      | some g =>
        rw [hr] at ih
        obtain ⟨j, cs', h3, h4, h5, h6⟩ := ih
        exact ⟨j + 1, cs', by rw [show i + (j + 1) = i + 1 + j by omega]; exact h3, h4, by rw [e5]; exact ⟨f, _, cs, rfl, e2, e3, h1, h5⟩, by simp; exact h6⟩
theorem z24_fm : FmV W ⟨[0, 0, 0, 0, 0, 0], [0, 0, 0, 0, 0, 0], [0, 0, 0, 0, 0, 0], 0, 0, false, false, false, []⟩ z24 := ⟨_, rfl, Bts.nil⟩
theorem kept_obj (m : Me W h G) (hk : KeptV W mv l) : ∃ es c, mobj h mv = some (es, c) ∧ EsV W es l ∧ (∀ e ∈ es, e.born < c) ∧ (es.map (·.born)).Nodup ∧ (∀ r, mv = some r → W r = some (.map es.toArray c)) := by
  unfold KeptV at hk
  split at hk
  · subst hk
    exact ⟨[], 0, rfl, rfl, by simp, by simp, by simp⟩
  · rename_i r
    obtain ⟨es, c, h1, h2, h3, h4⟩ := hk.v
    refine ⟨es, c, ?_, h2, h3, h4, fun r' e => by cases e; exact h1⟩
    unfold mobj
    dsimp only
    rw [m.keep _ _ h1]
theorem lkr_c (m : Me W h G) (hk : KeptV W mv l) (hok : ∀ f ∈ l, FmOk f) (k : Int) : ∃ cs, lkr Tryz.prog 51 (.map mv) (.int .i64 k) h = some (.agg cs.toArray, (kfind l k).isSome) ∧ cs.length = 24 ∧ (∀ u ∈ cs, u.oneCell' = true) ∧ (∀ f, kfind l k = some f → FmV W f cs) := by
  obtain ⟨es, c, h1, h2, -⟩ := kept_obj m hk
  rw [lkr_eq h1]
  have h3 := find_es (k := k) 0 h2
  cases hf : kfind l k with
  | none =>
    rw [hf] at h3
    dsimp only at h3
    rw [h3]
    exact ⟨z24, rfl, rfl, z24_fm (W := W) |>.one', fun f e => by cases e⟩
  | some f =>
    rw [hf] at h3
    obtain ⟨j, cs, h4, h5, -⟩ := h3
    rw [h4]
    refine ⟨cs, rfl, ?_, h5.one', fun g e => by cases e; exact h5⟩
    obtain ⟨v, rfl, -⟩ := h5
    exact fmc_len (hok f (List.mem_of_find?_eq_some hf))
theorem es_len : ∀ {es : List MapEntry} {l : List Fm}, EsV W es l → es.length = l.length
  | [], l, hv => by cases hv; rfl
  | e :: es, l, ⟨f, r, cs, e1, e2, e3, h1, h2⟩ => by subst e1; simp [es_len h2]
theorem mlen_c (m : Me W h G) (hk : KeptV W mv l) {K : Nat → Prop} (k : K l.length) : mlen h (.map mv) K := by
  obtain ⟨es, c, h1, h2, -⟩ := kept_obj m hk
  exact ⟨es, c, h1, by rw [es_len h2]; exact k⟩
end
end Go.Proofs.YtepodifionoigaaGreatDoor
set_option linter.unusedVariables false
set_option linter.unusedSimpArgs false
set_option maxRecDepth 8000
namespace Go.Proofs.YtepodifionoigaaGreatDoor
open Go.Vc
section
variable {W W' : Wd} {h h' : Heap} {b t j n c : Nat} {a : Option Addr} {T : TypeId} {size : Int} {css : List (List Value)} {cs us vs : List Value} {G G' : List Grp} {v : Value} {x : Ses} {f : Fm} {mv : Option Nat} {Q : Heap → Prop} {E : Grp} {tid sq : Int} {rt : Bool} {body : List Int}
def bitA (a b : Int) : Int := bits .and .u64 a b
def Ses.got (x : Ses) (n : Int) : Bool := if x.on then decide (0 ≤ n) && (decide (n < 4096) && (decide (distZ x.fr n < 64) && decide (0 < bitA (x.bits / pow2 (distZ x.fr n)) 1))) else x.came && decide (x.last = n)
theorem got_c (s : St W h b T size css t (sesC x mv) G) (m : Int) : Runs Tryz.prog 16 #[.pointer (some ⟨b, 0, none⟩), .int .i64 (t : Int), .int .i64 m] h fun v h' => v = .bool (x.got m) ∧ h' = h := by
  have ht := s.ht
  have hd := distZ_bd x.fr m
  refine vc_recv_Station_Got _ _ _ _ _ (dcase_neg (by omega) (dcase_neg (by omega) ⟨⟨by omega, by omega⟩, _, s.get0 rfl, bcase_intro (fun q => ?_) fun q => ?_⟩))
  · have hon : x.on = false := by simpa using q
    refine ⟨_, s.get 6 rfl, bcase_intro (fun q2 => ⟨_, s.get 7 rfl, ?_, rfl⟩) fun q2 => ⟨?_, rfl⟩⟩
    · simp [Ses.got, hon, q2]
    · simp [Ses.got, hon, q2]
  · have hon : x.on = true := by simpa using q
    refine ⟨_, s.get 3 rfl, (dist_c _ _ _).ret ⟨_, rfl, dcase_intro (fun q2 => dcase_intro (fun q3 => dcase_intro (fun q4 => ?_) fun q4 => ⟨?_, rfl⟩) fun q3 => ⟨?_, rfl⟩) fun q2 => ⟨?_, rfl⟩⟩⟩
    · refine ⟨_, s.get 4 rfl, ⟨hd.1, by simp only [kbits]; omega⟩, ?_, rfl⟩
      simp [Ses.got, bitA, hon, q2, q3, q4]
      rfl
    · simp [Ses.got, hon, q4]
    · simp [Ses.got, hon, q3]
    · simp [Ses.got, hon, q2]
end
end Go.Proofs.YtepodifionoigaaGreatDoor
