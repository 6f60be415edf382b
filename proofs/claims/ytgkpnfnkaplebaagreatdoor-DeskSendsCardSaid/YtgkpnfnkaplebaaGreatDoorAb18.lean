/- The abstract machine: more functions that have a text of their own: how much a pool has, a queue's fattest flow. -/
import Derived.Test.YtgkpnfnkaplebaaGreatDoorAb16
import Derived.Test.YtgkpnfnkaplebaaGreatDoorGenSpec
set_option linter.unusedVariables false
set_option linter.unusedSimpArgs false
set_option linter.constructorNameAsVariable false
set_option maxRecDepth 8000
namespace Go.Proofs.YtgkpnfnkaplebaaGreatDoor
open Go.Vc Go.Ab
noncomputable section
/-- A cell of each of these blocks, summed up. -/
def sumP (H : AH) (off : Nat) (l : List AV) : Int → (Int → Option DV) → Option DV :=
  List.rec (motive := fun _ => Int → (Int → Option DV) → Option DV) (fun a K => K a)
    (fun v _ ih a K => isP v fun p => onA p fun b o => rdK H b (Nat.add o off) fun x => isI .i64 x fun n => must (ile (.ofNat 0) n) <| must (ile n (.ofNat 1099511627776)) <| asI (iadd a n) fun a' => ih a' K) l
def gSum (off : Nat) : G DV := fun R H K => lc R fun d R => ln R <| onV d fun v => isP v fun p => onA p fun b o => rdR H b (Nat.add o 5) 128 fun l => sumP H off l (.ofNat 0) fun n => K (.v (.i .i64 n)) H
def gPoolLen.G : G DV := gSum 133
def gPoolBytes.G : G DV := gSum 134
def rdT (t : T4 AV) (n o : Nat) (k : AV → Option DV) : Option DV := must (Nat.ble (Nat.succ o) n) (frcV (T4.get .x (pth o) t) k)
def l16 : List Nat := [nat_lit 0, nat_lit 1, nat_lit 2, nat_lit 3, nat_lit 4, nat_lit 5, nat_lit 6, nat_lit 7, nat_lit 8, nat_lit 9, nat_lit 10, nat_lit 11, nat_lit 12, nat_lit 13, nat_lit 14, nat_lit 15]
def fatT (t : T4 AV) (z o : Nat) (l : List Nat) : Int → Int → (Int → Int → Option DV) → Option DV :=
  List.rec (motive := fun _ => Int → Int → (Int → Int → Option DV) → Option DV) (fun x m K => K x m)
   (fun k _ ih x m K => rdT t z (Nat.add o (Nat.add 3 (Nat.mul k 8))) fun v => isS v fun s => lenA s fun n => br (Nat.beq n 0) (ih x m K) (rdT t z (Nat.add o (Nat.add 4 (Nat.mul k 8))) fun w => isI .i64 w fun y => br (ilt m y) (ih (.ofNat k) y K) (ih x m K))) l
def gFattest.G : G DV := fun R H K => lc R fun d R => ln R <| onV d fun v => isP v fun p => onA p fun b o => blkK H b fun t z _ => fatT t z o l16 (.ofNat 0) (.negSucc 0) fun x m => asI (imax m (.ofNat 0)) fun m => K (.c (.v (.i .i64 x)) (.c (.v (.i .i64 m)) .n)) H
/-- A value without places, its numbers reckoned. -/
def nrmV (v : AV) (K : AV → Option DV) : Option DV := AV.rec (motive := fun _ => Option DV) none (fun k n => asI n fun n' => K (.i k n')) (fun t => frcB t fun t' => K (.b t')) (fun _ => none) (fun _ => none) none (fun _ => none) (fun _ _ _ => none) (fun _ _ => none) none (fun _ => none) (fun _ _ => none) (fun _ => none) (fun _ _ => none) v
def nrmL (l : List AV) : (List AV → Option DV) → Option DV := List.rec (motive := fun _ => (List AV → Option DV) → Option DV) (fun K => K []) (fun v _ ih K => nrmV v fun v' => ih fun r => K (v' :: r)) l
def nrmD (d : DV) (K : DV → Option DV) : Option DV := DV.rec (motive := fun _ => Option DV) none (fun v => nrmV v fun v' => K (.v v')) (fun l => nrmL l fun l' => K (.a l')) none (fun _ _ _ _ => none) d
def nrmR (R : List DV) : (List DV → Option DV) → Option DV := List.rec (motive := fun _ => (List DV → Option DV) → Option DV) (fun K => K []) (fun d _ ih K => nrmD d fun d' => ih fun r => K (d' :: r)) R
def scK (d : DV) (_ : AH) : Option DV := onV d fun v => nrmV v fun v' => some (.v v')
def optK (o : Option DV) (K : DV → Option DV) : Option DV := Option.rec (motive := fun _ => Option DV) none K o
/-- A function of plain values that gives one: reckoned by itself (the kernel keeps what it gives). -/
def pure1 (g : G DV) : G DV := fun R H K => nrmR R fun R' => optK (g R' (AH.mk .e .h) scK) fun d => K d H
/-- A function of nothing that says yes. -/
def yes0 : G DV := fun R H K => ln R <| K (.v (.b true)) H
end
section
variable {W : Wd} {ads : List Addr} {φ φ' : Phi} {H H' : AH} {h h' : Heap}
theorem HR.ext (hr : HR W ads φ H h) (hx : ∀ (b : Nat) (x : Obj), h[b]? = some x → h'[b]? = some x) : HR W ads φ H h' :=
  ⟨fun b x e => hx _ _ (hr.w b x e), fun p t n es hb => by
    obtain ⟨l, cs, T, h2, h3, h4⟩ := hr.blk p t n es hb
    exact ⟨l, cs, T, h2, hx _ _ h3, h4⟩, hr.inj, hr.dom, hr.mm.keep (fun _ _ k => k) (fun _ _ _ k => k) (fun _ _ _ k => k) (fun _ _ _ _ k => k) fun b o k _ => hx b o k⟩
theorem cell_ext (hx : ∀ (b : Nat) (x : Obj), h[b]? = some x → h'[b]? = some x) {b o : Nat} {v : Value} (e : cell h b o = some v) : cell h' b o = some v := by
  unfold cell at e ⊢
  split at e
  · rename_i hb; rw [hx _ _ hb]; exact e
  · cases e
theorem ge_push {X : Obj} (b : Nat) (x : Obj) (e : h[b]? = some x) : (h.push X)[b]? = some x := by
  have hlt := (Array.getElem?_eq_some_iff.1 e).1
  rw [Array.getElem?_push, if_neg (by omega)]; exact e
theorem lt_of_get {b : Nat} {x : Obj} (e : h[b]? = some x) : b < h.size := (Array.getElem?_eq_some_iff.1 e).1
theorem nrmV_spec {v : AV} {w : Value} {K : AV → Option DV} {out : DV} (hv : RV ads φ v w) (e : nrmV v K = some out) : ∃ v', K v' = some out ∧ ∀ φ', RV ads φ' v' w := by
  cases hv <;> first | (exfalso; cases e; done) | skip
  case i k n => exact ⟨.i k n, asI_spec (show asI n (fun n' => K (.i k n')) = some out from e), fun _ => .i k n⟩
  case b t => exact ⟨.b t, frcB_spec (show frcB t (fun t' => K (.b t')) = some out from e), fun _ => .b t⟩
theorem nrmL_spec {out : DV} : ∀ {l : List AV} {ws : List Value} {K : List AV → Option DV}, RL ads φ l ws → nrmL l K = some out → ∃ l', K l' = some out ∧ ∀ φ', RL ads φ' l' ws
  | [], ws, K, hl, e => ⟨[], e, fun _ => hl⟩
  | v :: l, ws, K, ⟨w, wr, h1, h2, h3⟩, e => by
    obtain ⟨v', e, h4⟩ := nrmV_spec h2 (show nrmV v (fun v' => nrmL l fun r => K (v' :: r)) = some out from e)
    obtain ⟨l', e, h5⟩ := nrmL_spec h3 e
    exact ⟨_, e, fun φ' => ⟨w, wr, h1, h4 φ', h5 φ'⟩⟩
theorem nrmD_spec {d : DV} {w : Value} {K : DV → Option DV} {out : DV} (hd : RD ads φ d w) (e : nrmD d K = some out) : ∃ d', K d' = some out ∧ ∀ φ', RD ads φ' d' w := by
  cases d with
  | u => cases e
  | v v =>
    obtain ⟨v', e, h1⟩ := nrmV_spec (show RV ads φ v w from hd) (show nrmV v (fun v' => K (.v v')) = some out from e)
    exact ⟨_, e, fun φ' => h1 φ'⟩
  | a l =>
    obtain ⟨ws, rfl, h1⟩ := hd
    obtain ⟨l', e, h2⟩ := nrmL_spec h1 e
    exact ⟨_, e, fun φ' => ⟨ws, rfl, h2 φ'⟩⟩
  | n => cases e
  | c x r => cases e
theorem nrmR_spec {out : DV} : ∀ {R : List DV} {vs : List Value} {K : List DV → Option DV}, RAs ads φ R vs → nrmR R K = some out → ∃ R', K R' = some out ∧ ∀ φ', RAs ads φ' R' vs
  | [], vs, K, hl, e => ⟨[], e, fun _ => hl⟩
  | d :: R, vs, K, ⟨w, wr, h1, h2, h3⟩, e => by
    obtain ⟨d', e, h4⟩ := nrmD_spec h2 (show nrmD d (fun d' => nrmR R fun r => K (d' :: r)) = some out from e)
    obtain ⟨R', e, h5⟩ := nrmR_spec h3 e
    exact ⟨_, e, fun φ' => ⟨w, wr, h1, h4 φ', h5 φ'⟩⟩
theorem scK_spec {d : DV} {w : Value} {H : AH} {out : DV} (hd : RD ads φ d w) (e : scK d H = some out) : ∀ φ', RD ads φ' out w := by
  obtain ⟨v, rfl, hv, e⟩ := onV_spec hd e
  obtain ⟨v', e, h1⟩ := nrmV_spec hv e
  cases e
  exact h1
theorem optK_spec {o : Option DV} {K : DV → Option DV} {out : DV} (e : optK o K = some out) : ∃ d, o = some d ∧ K d = some out := by
  cases o with
  | none => cases e
  | some d => exact ⟨d, rfl, e⟩
theorem hr_empty (h : Heap) : HR (Wd.of h) ads (fun _ => none) (AH.mk .e .h) h := by
  refine ⟨fun b x hx => hx, fun p t n es hg => ?_, fun p q t n es t' n' es' l l' hne hg => ?_, (fun p l hp => by cases hp), ⟨fun p es c hg => ?_, fun p q f z hg => ?_, fun p q es c es' c' l l' hne hg => ?_⟩⟩
  · have : T4.get Blk.dead p (.e : T4 Blk) = .c t n es := hg
    rw [T4.get_e] at this; cases this
  · have : T4.get Blk.dead p (.e : T4 Blk) = .c t n es := hg
    rw [T4.get_e] at this; cases this
  · have : T4.get Blk.dead p (.e : T4 Blk) = .m es c := hg
    rw [T4.get_e] at this; cases this
  · have : T4.get Blk.dead p (.e : T4 Blk) = .it q f z := hg
    rw [T4.get_e] at this; cases this
  · have : T4.get Blk.dead p (.e : T4 Blk) = .m es c := hg
    rw [T4.get_e] at this; cases this
theorem pure1_snd {P : Program} {f : FuncId} {g : G DV} (hS : Snd P ads f g) : Snd P ads f (pure1 g) := by
  refine ⟨hS.1, fun W s φ H h args vs K out Post hr ha e hk => ?_⟩
  obtain ⟨R', e, hR⟩ := nrmR_spec ha (show nrmR args (fun R' => optK (g R' (AH.mk .e .h) scK) fun d => K d H) = some out from e)
  obtain ⟨d, hg, e⟩ := optK_spec e
  refine hS.2 (Wd.of h) (s.le hr.w) (fun _ => none) (AH.mk .e .h) h R' vs scK d Post (hr_empty h) (hR _) hg fun φ' H' h' d' v _ hr' hd' e' => ?_
  exact hk φ H h' d v (Phi.le.refl _) (HR.ext hr hr'.w) (scK_spec hd' e' _) e
theorem yes0_snd {P : Program} {f : FuncId} {g : G DV} (hS : Snd P ads f g) (hg : g [] (AH.mk .e .h) scK = some (.v (.b true))) : Snd P ads f yes0 := by
  refine ⟨hS.1, fun W s φ H h args vs K out Post hr ha e hk => ?_⟩
  obtain ⟨rfl, e⟩ := ln_spec ha (show ln args (K (.v (.b true)) H) = some out from e)
  refine hS.2 (Wd.of h) (s.le hr.w) (fun _ => none) (AH.mk .e .h) h [] [] scK _ Post (hr_empty h) rfl hg fun φ' H' h' d' v _ hr' hd' e' => ?_
  exact hk φ H h' _ v (Phi.le.refl _) (HR.ext hr hr'.w) (scK_spec hd' e' _) e
theorem sumP_spec (hr : HR W ads φ H h) {off : Nat} {out : DV} : ∀ {l : List AV} {ws : List Value} {a : Int} {K : Int → Option DV}, RL ads φ l ws → sumP H off l a K = some out →
    ∃ ns : List Int, ns.length = ws.length ∧ K (a + ns.sum) = some out ∧ ∀ (k : Nat) (n : Int), ns[k]? = some n → (0 ≤ n ∧ n ≤ 1099511627776) ∧ ∃ b o, ws[k]? = some (.pointer (some ⟨b, o, none⟩)) ∧ cell h b (o + off) = some (.int .i64 n)
  | [], ws, a, K, hl, e => by
    rw [show ws = [] from hl]
    exact ⟨[], rfl, by rw [List.sum_nil, Int.add_zero]; exact e, fun k n hk => by simp at hk⟩
  | v :: l, ws, a, K, ⟨w, wr, h1, h2, h3⟩, e => by
    subst h1
    obtain ⟨q, pa, rfl, rfl, hq, e⟩ := isP_spec h2 (show isP v (fun p => onA p fun b o => rdK H b (Nat.add o off) fun x => isI .i64 x fun n => must (ile (.ofNat 0) n) <| must (ile n (.ofNat 1099511627776)) <| asI (iadd a n) fun a' => sumP H off l a' K) = some out from e)
    obtain ⟨b, o, L, rfl, hL, rfl, e⟩ := onA_spec hq e
    obtain ⟨x, xw, hx, hc, e⟩ := rdK_spec hr hL e
    obtain ⟨n, rfl, rfl, e⟩ := isI_spec hx e
    obtain ⟨g1, e⟩ := must_spec e
    obtain ⟨g2, e⟩ := must_spec e
    have e := asI_spec e
    rw [ile_eq, decide_eq_true_eq] at g1 g2
    rw [iadd_eq] at e
    obtain ⟨ns, h4, h5, h6⟩ := sumP_spec hr h3 e
    refine ⟨n :: ns, by simp [h4], by rw [List.sum_cons, ← Int.add_assoc]; exact h5, fun k m hk => ?_⟩
    cases k with
    | zero =>
      obtain rfl : n = m := by simpa using hk
      exact ⟨⟨g1, g2⟩, L.b, L.δ + o, rfl, hc _ (by show L.δ + o + off = L.δ + (o + off); omega)⟩
    | succ k =>
      obtain ⟨g3, b', o', g4, g5⟩ := h6 k m (by simpa using hk)
      exact ⟨g3, b', o', by simpa using g4, g5⟩
theorem sum_bd {M : Int} : ∀ {l : List Int}, (∀ x ∈ l, 0 ≤ x ∧ x ≤ M) → 0 ≤ l.sum ∧ l.sum ≤ l.length * M
  | [], _ => by simp
  | x :: l, hl => by
    have h1 := hl x (by simp)
    have h2 := sum_bd (l := l) fun y hy => hl y (by simp [hy])
    rw [List.sum_cons, List.length_cons]
    have : ((l.length + 1 : Nat) : Int) * M = l.length * M + M := by push_cast; rw [Int.add_mul]; omega
    omega
theorem callvO_of {P : Program} {g : FuncId} {first captured : Array Value} {args : List Value} {K : Value → Heap → Prop} (hb : bodied P g = true) (hr : Runs P g (first.toList ++ (args ++ captured.toList)).toArray h K) :
    callv P (.func (.func g) first captured) args h K := by
  unfold callv; simp only [hb]; exact hr
theorem callvO_mono {P : Program} {f : Value} {args : List Value} {K K' : Value → Heap → Prop} (hk : ∀ r h, K r h → K' r h) : callv P f args h K → callv P f args h K' := by
  unfold callv
  split
  · split
    · exact fun hc => hc.mono hk
    · exact False.elim
  · exact False.elim
/-- A call for each queue, in order. -/
theorem eachO_c {f : Value} {b o : Nat} (J : Nat → Heap → Prop) (h0 : J 0 h) (hc : ∀ (k : Nat) (h1 : Heap), k < 128 → J k h1 → ∃ p, cell h1 b (o + 5 + k) = some (.pointer p) ∧ callv Tryz.prog f [.pointer p] h1 fun _ h2 => J (k + 1) h2) :
    Runs Tryz.prog 317 #[.pointer (some ⟨b, o, none⟩), f] h fun v h' => v = .tuple #[] ∧ J 128 h' := by
  refine vc_pool_Pool_each _ _ _ _ ⟨fun x h' => ∃ i : Nat, x = i ∧ i ≤ 16 ∧ J (i * 8) h', fun x _ => (16 - x).toNat, ⟨0, rfl, by omega, h0⟩, fun _ => ?_⟩
  rintro _ h1 ⟨i, rfl, hi, hj⟩
  refine dcase_intro (fun q => ?_) fun q => ?_
  · refine ⟨fun x h' => ∃ t : Nat, x = t ∧ t ≤ 8 ∧ J (i * 8 + t) h', fun x _ => (8 - x).toNat, ⟨0, rfl, by omega, hj⟩, fun _ => ?_⟩
    rintro _ h2 ⟨t, rfl, ht, hj⟩
    refine dcase_intro (fun q2 => ?_) fun q2 => ?_
    · obtain ⟨p, hp, hcv⟩ := hc (i * 8 + t) h2 (by omega) hj
      refine onAddr_intro rfl ⟨⟨by omega, by omega⟩, ⟨by omega, by omega⟩, p, ?_, ?_⟩
      · rw [show o + 5 + (i : Int).toNat * 8 + (t : Int).toNat = o + 5 + (i * 8 + t) by omega]; exact hp
      · refine callvO_mono (fun r h3 hj3 => ?_) hcv
        exact ⟨by simp only [fits]; omega, ⟨t + 1, by omega, by omega, hj3⟩, by (try dsimp only); omega⟩
    · obtain rfl : t = 8 := by omega
      exact ⟨by simp only [fits]; omega, ⟨i + 1, by omega, by omega, by rw [show (i + 1) * 8 = i * 8 + 8 by omega]; exact hj⟩, by (try dsimp only); omega⟩
  · obtain rfl : i = 16 := by omega
    exact ⟨rfl, hj⟩
theorem poolLenO_c {b o : Nat} {ws : List Value} {ns : List Int} (hrow : row h b (o + 5) 128 = some ws) (hn : ns.length = ws.length) (hns : ∀ (k : Nat) (n : Int), ns[k]? = some n → (0 ≤ n ∧ n ≤ 1099511627776) ∧ ∃ b o, ws[k]? = some (.pointer (some ⟨b, o, none⟩)) ∧ cell h b (o + 133) = some (.int .i64 n)) :
    Runs Tryz.prog 265 #[.pointer (some ⟨b, o, none⟩)] h fun v h' => v = .int .i64 ns.sum ∧ ∀ (b : Nat) (x : Obj), h[b]? = some x → h'[b]? = some x := by
  have hlen : ns.length = 128 := by rw [hn]; exact (row_cells hrow).1
  have hall : ∀ x ∈ ns, 0 ≤ x ∧ x ≤ 1099511627776 := fun x hx => by
    obtain ⟨k, hk, e⟩ := List.getElem_of_mem hx
    exact (hns k x (by rw [List.getElem?_eq_getElem hk, e])).1
  have hbd : ∀ k, 0 ≤ (ns.take k).sum ∧ (ns.take k).sum ≤ 140737488355328 := fun k => by
    have := sum_bd (l := ns.take k) fun x hx => hall x (List.mem_of_mem_take hx)
    have h2 : ((ns.take k).length : Int) ≤ 128 := by rw [List.length_take]; omega
    omega
  refine vc_pool_Pool_Len _ _ _ ?_
  rintro b1 h1 rfl hh1
  have hx1 : ∀ (b : Nat) (x : Obj), h[b]? = some x → h1[b]? = some x := fun b x e => by rw [hh1]; exact ge_push b x e
  have hb1 : h1[h.size]? = some (.cells #[.int .i64 (0 : Int)] 3 (0, 0)) := by rw [hh1]; simp
  refine ⟨⟨_, _, 0, 0, hb1, by simp, by omega⟩, ?_⟩
  rintro h2 hh2
  refine (eachO_c (fun k h' => (∀ (b : Nat) (x : Obj), h[b]? = some x → h'[b]? = some x) ∧ h'[h.size]? = some (.cells #[.int .i64 (ns.take k).sum] 3 (0, 0))) ⟨fun b x e => ?_, ?_⟩ ?_).mono ?_
  · rw [hh2, Ab.setc_ne (by have := lt_of_get e; omega)]; exact hx1 b x e
  · rw [hh2, setc_at hb1]; simp
  · rintro k h3 hk ⟨hx, hb⟩
    have hnk : ns[k]? = some ns[k] := List.getElem?_eq_getElem (by omega)
    obtain ⟨hn1, bq, oq, hw, hc⟩ := hns k _ hnk
    refine ⟨_, cell_ext hx ((row_cells hrow).2 k _ hw), callvO_of (by kernel_rfl) (vc_pool_Pool_Len_1 _ _ _ _ ?_)⟩
    have hc0 : cell h3 h.size 0 = some (.int .i64 (ns.take k).sum) := cell_of_blk hb rfl
    have h5 := hbd k
    refine onAddr_intro rfl ⟨_, hc0, vc_fq_Queue_Len _ _ _ (onAddr_intro rfl ⟨_, cell_ext hx hc, ⟨_, rfl, hc0, by simp only [fits]; omega, onAddr_intro rfl ⟨⟨_, _, 0, 0, hb, by simp, by omega⟩, ?_⟩⟩⟩)⟩
    rintro h4 rfl
    refine ⟨fun b x e => ?_, ?_⟩
    · rw [Ab.setc_ne (by have := lt_of_get e; omega)]; exact hx b x e
    · rw [setc_at hb]
      have : (ns.take (k + 1)).sum = (ns.take k).sum + ns[k] := by rw [List.take_add_one, hnk, Option.toList_some, List.sum_append, List.sum_cons, List.sum_nil, Int.add_zero]
      rw [this]; simp
  · rintro _ h3 ⟨rfl, hx, hb⟩
    rw [List.take_of_length_le (by omega)] at hb
    exact ⟨_, cell_of_blk hb rfl, rfl, hx⟩
theorem gPoolLen.S : Snd Tryz.prog ads 265 gPoolLen.G := by
  refine ⟨by kernel_rfl, fun W s φ H h args vs K out Post hr ha e hk => ?_⟩
  unfold gPoolLen.G gSum at e
  obtain ⟨d, R, w1, wr, rfl, rfl, hd, ha, e⟩ := lc_spec ha e
  obtain ⟨rfl, e⟩ := ln_spec ha e
  obtain ⟨v, rfl, hv, e⟩ := onV_spec hd e
  obtain ⟨q, pa, rfl, rfl, hq, e⟩ := isP_spec hv e
  obtain ⟨b, o, L, rfl, h1, rfl, e⟩ := onA_spec hq e
  obtain ⟨l, ws, hl, hrow, e⟩ := rdR_spec hr h1 e
  obtain ⟨ns, hn, e, hns⟩ := sumP_spec hr hl e
  refine (poolLenO_c (hrow _ (by show L.δ + o + 5 = L.δ + (o + 5); omega)) hn hns).mono fun u g hu => ?_
  obtain ⟨rfl, hx⟩ := hu
  have e : K (.v (.i .i64 (0 + ns.sum))) H = some out := e
  rw [Int.zero_add] at e
  exact hk φ H _ _ _ (Phi.le.refl _) (HR.ext hr hx) (RD.ofI (n := ns.sum)) e
theorem poolBytesO_c {b o : Nat} {ws : List Value} {ns : List Int} (hrow : row h b (o + 5) 128 = some ws) (hn : ns.length = ws.length) (hns : ∀ (k : Nat) (n : Int), ns[k]? = some n → (0 ≤ n ∧ n ≤ 1099511627776) ∧ ∃ b o, ws[k]? = some (.pointer (some ⟨b, o, none⟩)) ∧ cell h b (o + 134) = some (.int .i64 n)) :
    Runs Tryz.prog 266 #[.pointer (some ⟨b, o, none⟩)] h fun v h' => v = .int .i64 ns.sum ∧ ∀ (b : Nat) (x : Obj), h[b]? = some x → h'[b]? = some x := by
  have hlen : ns.length = 128 := by rw [hn]; exact (row_cells hrow).1
  have hall : ∀ x ∈ ns, 0 ≤ x ∧ x ≤ 1099511627776 := fun x hx => by
    obtain ⟨k, hk, e⟩ := List.getElem_of_mem hx
    exact (hns k x (by rw [List.getElem?_eq_getElem hk, e])).1
  have hbd : ∀ k, 0 ≤ (ns.take k).sum ∧ (ns.take k).sum ≤ 140737488355328 := fun k => by
    have := sum_bd (l := ns.take k) fun x hx => hall x (List.mem_of_mem_take hx)
    have h2 : ((ns.take k).length : Int) ≤ 128 := by rw [List.length_take]; omega
    omega
  refine vc_pool_Pool_Bytes _ _ _ ?_
  rintro b1 h1 rfl hh1
  have hx1 : ∀ (b : Nat) (x : Obj), h[b]? = some x → h1[b]? = some x := fun b x e => by rw [hh1]; exact ge_push b x e
  have hb1 : h1[h.size]? = some (.cells #[.int .i64 (0 : Int)] 3 (0, 0)) := by rw [hh1]; simp
  refine ⟨⟨_, _, 0, 0, hb1, by simp, by omega⟩, ?_⟩
  rintro h2 hh2
  refine (eachO_c (fun k h' => (∀ (b : Nat) (x : Obj), h[b]? = some x → h'[b]? = some x) ∧ h'[h.size]? = some (.cells #[.int .i64 (ns.take k).sum] 3 (0, 0))) ⟨fun b x e => ?_, ?_⟩ ?_).mono ?_
  · rw [hh2, Ab.setc_ne (by have := lt_of_get e; omega)]; exact hx1 b x e
  · rw [hh2, setc_at hb1]; simp
  · rintro k h3 hk ⟨hx, hb⟩
    have hnk : ns[k]? = some ns[k] := List.getElem?_eq_getElem (by omega)
    obtain ⟨hn1, bq, oq, hw, hc⟩ := hns k _ hnk
    refine ⟨_, cell_ext hx ((row_cells hrow).2 k _ hw), callvO_of (by kernel_rfl) (vc_pool_Pool_Bytes_1 _ _ _ _ ?_)⟩
    have hc0 : cell h3 h.size 0 = some (.int .i64 (ns.take k).sum) := cell_of_blk hb rfl
    have h5 := hbd k
    refine onAddr_intro rfl ⟨_, hc0, vc_fq_Queue_Bytes _ _ _ (onAddr_intro rfl ⟨_, cell_ext hx hc, ⟨_, rfl, hc0, by simp only [fits]; omega, onAddr_intro rfl ⟨⟨_, _, 0, 0, hb, by simp, by omega⟩, ?_⟩⟩⟩)⟩
    rintro h4 rfl
    refine ⟨fun b x e => ?_, ?_⟩
    · rw [Ab.setc_ne (by have := lt_of_get e; omega)]; exact hx b x e
    · rw [setc_at hb]
      have : (ns.take (k + 1)).sum = (ns.take k).sum + ns[k] := by rw [List.take_add_one, hnk, Option.toList_some, List.sum_append, List.sum_cons, List.sum_nil, Int.add_zero]
      rw [this]; simp
  · rintro _ h3 ⟨rfl, hx, hb⟩
    rw [List.take_of_length_le (by omega)] at hb
    exact ⟨_, cell_of_blk hb rfl, rfl, hx⟩
theorem gPoolBytes.S : Snd Tryz.prog ads 266 gPoolBytes.G := by
  refine ⟨by kernel_rfl, fun W s φ H h args vs K out Post hr ha e hk => ?_⟩
  unfold gPoolBytes.G gSum at e
  obtain ⟨d, R, w1, wr, rfl, rfl, hd, ha, e⟩ := lc_spec ha e
  obtain ⟨rfl, e⟩ := ln_spec ha e
  obtain ⟨v, rfl, hv, e⟩ := onV_spec hd e
  obtain ⟨q, pa, rfl, rfl, hq, e⟩ := isP_spec hv e
  obtain ⟨b, o, L, rfl, h1, rfl, e⟩ := onA_spec hq e
  obtain ⟨l, ws, hl, hrow, e⟩ := rdR_spec hr h1 e
  obtain ⟨ns, hn, e, hns⟩ := sumP_spec hr hl e
  refine (poolBytesO_c (hrow _ (by show L.δ + o + 5 = L.δ + (o + 5); omega)) hn hns).mono fun u g hu => ?_
  obtain ⟨rfl, hx⟩ := hu
  have e : K (.v (.i .i64 (0 + ns.sum))) H = some out := e
  rw [Int.zero_add] at e
  exact hk φ H _ _ _ (Phi.le.refl _) (HR.ext hr hx) (RD.ofI (n := ns.sum)) e
theorem l16_drop : ∀ k, k < 16 → l16.drop k = k :: l16.drop (k + 1) := by decide
theorem rdT_spec {t : T4 AV} {z o B δ : Nat} {cs : Array Value} {T : TypeId} {fz : Nat × Nat} {k : AV → Option DV} {out : DV} (h3 : h[B]? = some (.cells cs T fz)) (h7 : ∀ q : P4, q.num < z → ∃ v, cs[δ + q.num]? = some v ∧ RV ads φ (T4.get .x q t) v) (e : rdT t z o k = some out) :
    ∃ v w, RV ads φ v w ∧ (∀ oc, oc = δ + o → cell h B oc = some w) ∧ k v = some out := by
  obtain ⟨h1, e⟩ := must_spec (show must (Nat.ble (Nat.succ o) z) (frcV (T4.get .x (pth o) t) k) = some out from e)
  have h1 := Nat.le_of_ble_eq_true h1
  obtain ⟨w, h8, h9⟩ := h7 (pth o) (by rw [pth_num]; omega)
  exact ⟨_, w, h9, fun oc ho => cell_of_blk h3 (by rw [ho]; rw [pth_num] at h8; exact h8), frcV_spec h9 e⟩
theorem fattestO_c {t : T4 AV} {z o B δ : Nat} {cs : Array Value} {T : TypeId} {fz : Nat × Nat} {KK : Int → Int → Option DV} {out : DV} (h3 : h[B]? = some (.cells cs T fz)) (h7 : ∀ q : P4, q.num < z → ∃ v, cs[δ + q.num]? = some v ∧ RV ads φ (T4.get .x q t) v) (e : fatT t z o l16 0 (-1) KK = some out) :
    Runs Tryz.prog 322 #[.pointer (some ⟨B, δ + o, none⟩)] h fun v h' => h' = h ∧ ∃ x m, v = .tuple #[.int .i64 x, .int .i64 (max m 0)] ∧ KK x m = some out := by
  refine vc_fq_Queue_Fattest _ _ _ ⟨fun x m i h' => h' = h ∧ ∃ k : Nat, i = k ∧ k ≤ 16 ∧ fatT t z o (l16.drop k) x m KK = some out, fun _ _ i _ => (16 - i).toNat, ⟨rfl, 0, rfl, by omega, e⟩, fun _ => ?_⟩
  rintro x m i h1 ⟨rfl, k, rfl, hk, e⟩
  refine dcase_intro (fun q => ?_) fun q => ?_
  · rw [l16_drop k (by omega)] at e
    have e : rdT t z (Nat.add o (Nat.add 3 (Nat.mul k 8))) (fun v => isS v fun s => lenA s fun n => br (Nat.beq n 0) (fatT t z o (l16.drop (k + 1)) x m KK) (rdT t z (Nat.add o (Nat.add 4 (Nat.mul k 8))) fun w => isI .i64 w fun y => br (ilt m y) (fatT t z o (l16.drop (k + 1)) (.ofNat k) y KK) (fatT t z o (l16.drop (k + 1)) x m KK))) = some out := e
    obtain ⟨v, w, hv, hc, e⟩ := rdT_spec h3 h7 e
    obtain ⟨s, a, ln, cp, rfl, rfl, hs, e⟩ := isS_spec hv e
    have e := lenA_spec hs e
    refine onAddr_intro rfl ⟨⟨by omega, by omega⟩, a, ln, cp, hc _ (by show _ = δ + (o + (3 + k * 8)); omega), dcase_intro (fun q2 => ?_) fun q2 => ?_⟩
    · have hb : Nat.beq ln 0 = false := by
        cases hb : Nat.beq ln 0 with
        | true => have := beq_true hb; omega
        | false => rfl
      have e := br_f hb e
      obtain ⟨v2, w2, hv2, hc2, e⟩ := rdT_spec h3 h7 e
      obtain ⟨y, rfl, rfl, e⟩ := isI_spec hv2 e
      have hcc := hc2 (δ + o + 3 + ((k : Nat) : Int).toNat * 8 + 1) (by show _ = δ + (o + (4 + k * 8)); omega)
      refine ⟨_, hcc, dcase_intro (fun q3 => ⟨_, hcc, by simp only [fits]; omega, ⟨rfl, k + 1, by omega, by omega, ?_⟩, by (try dsimp only); omega⟩) fun q3 => ⟨by simp only [fits]; omega, ⟨rfl, k + 1, by omega, by omega, ?_⟩, by (try dsimp only); omega⟩⟩
      · exact br_t (by rw [ilt_eq]; exact decide_eq_true q3) e
      · exact br_f (by rw [ilt_eq]; exact decide_eq_false q3) e
    · have hb : Nat.beq ln 0 = true := by
        cases hb : Nat.beq ln 0 with
        | true => rfl
        | false => have := beq_false hb; omega
      exact ⟨by simp only [fits]; omega, ⟨rfl, k + 1, by omega, by omega, br_t hb e⟩, by (try dsimp only); omega⟩
  · obtain rfl : k = 16 := by omega
    exact ⟨rfl, x, m, rfl, e⟩
theorem gFattest.S : Snd Tryz.prog ads 322 gFattest.G := by
  refine ⟨by kernel_rfl, fun W s φ H h args vs K out Post hr ha e hk => ?_⟩
  unfold gFattest.G at e
  obtain ⟨d, R, w1, wr, rfl, rfl, hd, ha, e⟩ := lc_spec ha e
  obtain ⟨rfl, e⟩ := ln_spec ha e
  obtain ⟨v, rfl, hv, e⟩ := onV_spec hd e
  obtain ⟨q, pa, rfl, rfl, hq, e⟩ := isP_spec hv e
  obtain ⟨b, o, L, rfl, h1, rfl, e⟩ := onA_spec hq e
  obtain ⟨t, z, es, hb, e⟩ := blkK_spec e
  obtain ⟨l', cs, T, h2, h3, h4, h5, h6, h7⟩ := hr.blk b t z es hb
  rw [h1] at h2; cases h2
  refine (fattestO_c h3 h7 e).mono fun u g hu => ?_
  obtain ⟨rfl, x, m, rfl, e⟩ := hu
  have e := asI_spec e
  rw [imax_eq] at e
  exact hk φ H _ _ _ (Phi.le.refl _) hr (show RD ads φ (.c (.v (.i .i64 x)) (.c (.v (.i .i64 (max m 0))) .n)) (.tuple #[.int .i64 x, .int .i64 (max m 0)]) from ⟨[.int .i64 x, .int .i64 (max m 0)], rfl, _, _, rfl, RE.ofV (RV.i .i64 x), _, _, rfl, RE.ofV (RV.i .i64 _), rfl⟩) e
end
end Go.Proofs.YtgkpnfnkaplebaaGreatDoor
